/- Joined for the claim ParseGood: the parser, the lexer and the trees as they are walked, made short by a program of mine. -/
import Derived.Test.YtlnbbaehihgigaaGreatDoorG03
import Derived.Laws.OwnMore
import Derived.Test.YtlnbbaehihgigaaGreatDoorG02
import Derived.Test.YtlnbbaehihgigaaGreatDoorG01
import Derived.Deep.LoopGhost
import Derived.Deep.RegionLaw
import Derived.Laws.StandIn
import Derived.Lib.Bytealg
import Derived.Deep.CutBlock
import Derived.Deep.DeepCutAuto
set_option maxHeartbeats 16000000
set_option maxRecDepth 1000000
namespace Go.Proofs.YtlnbbaehihgigaaGreatDoor
open Go.Proofs.Tryz
variable {u l r:List UInt16} {A:Option Addr} {k n c B m e v:Nat} {s:List UInt8} {x y:UInt16} {q p:UInt16→Bool} {xs:List Value} {α:Type} {f:Kd→Tks} {t:Tok}
section
variable {L:List Tok} {i j:Nat} {b:Tks}
theorem zO5 (h:t.kind=0) (w:List UInt8):isT t w=false:=by unfold isT;rw[h];simp
theorem zO6 (g:Lst L):∀(l:List Tr) (c:List Tr) (i:Nat),(∀t∈l,StK L t)→Std L i ((prs l).flatMap (·.2)++[])→(zG L (i+((prs l).flatMap (·.2)).length)).kind=0→Rn L (.program c) i (trK 1 (c++bareL l)) (i+((prs l).flatMap (·.2)).length):=by
 intro l
 induction l with
 | nil=>
  intro c i _ hs b;rw[zZ]at hs b⊢;have hi:i≤L.length - 1:=hs;have b:(zG L i).kind=0:=b;unfold Rn;rw[zV g ⟨hi,trivial⟩];unfold zD;dsimp only;rw[if_pos b,zd,List.append_nil];rfl
 | cons t l m=>
  intro c i e hs b;rw[zCm,List.append_assoc]at hs;rw[zCm,List.length_append,←Nat.add_assoc]at b;have f:Std L (i+(prT t).length) ((prs l).flatMap (·.2)++[]):=hs.right;have j:NxT (zG L (i+(prT t).length)) true:=by
   cases l with
   | nil=>
    rw[zZ]at b;have b:(zG L (i+(prT t).length)).kind=0:=b;exact⟨zO5 b _,zO5 b _,fun _=>zO5 b _⟩
   | cons u l=>
    rw[zCm,List.append_assoc]at f;exact((e u js).first _ _ f).2.1
  have k:=((e t js).run i _ hs (j.any _)).1;have d:=m (c++[bareT t]) _ (fun u o=>e u (List.mem_cons_of_mem _ o)) f b;have p:=(e t js).first i _ hs;have hi:i≤L.length - 1:=by have:=hs.mid;omega
  unfold Rn at k d⊢;rw[zV g ⟨hi,trivial⟩];unfold zD;dsimp only;rw[if_neg p.1,k];dsimp only;rw[d,zCm,zP];simp only[List.append_assoc,List.singleton_append,Prod.mk.injEq,Ps.mk.injEq,true_and,and_true,List.length_append];omega
theorem zGI {x:Nd} {l:List Tr} {t:Tr} (h:t∈l):t.size < (Tr.mk x l).size:=by
 rw[zi];have:∀l:List Tr,t∈l→t.size≤sizes l:=by
  intro l
  induction l with
  | nil=>intro h;cases h
  | cons u r b=>
   intro h;rw[zH];rcases List.mem_cons.1 h with rfl | h
   · omega
   · have:=b h;omega
 have:=this l h;omega
structure AllK (L:List Tok) (t:Tr):Prop where
 expr:zBf t.nd.kind=true→ExO L t
 tgt:zAB t.nd.kind=true→zSR L t
 prp:t.nd.kind=40→PrpK L t
 stm:zDc t.nd.kind=true→StK L t
 blk:t.nd.kind=4→zO0 L t∧∃r,prT t=[123]::r
 dcl:t.nd.kind=7→DclK L t
 cls:t.nd.kind=11→zWA L t∧bareT t=trK 11 []∧prT t=[]
theorem zSb {k:Int} (h:zCM k=true):zDc k=true:=by
 unfold zCM at h;simp only[Bool.and_eq_true]at h;exact h.1.1.1
theorem zEO:∀{l:List Tr},ShortL l→∀u∈l,ShortT u:=by
 intro l
 induction l with
 | nil=>intro _ u h;cases h
 | cons t r c=>
  intro h u b;rw[zEm]at h;rcases List.mem_cons.1 b with rfl | b
  · exact h.1
  · exact c h.2 u b
theorem zLm {k:Int} (h:zAB k=true):zBf k=true:=by
 unfold zAB at h;simp only[Bool.or_eq_true,beq_iff_eq]at h;rcases h with(rfl | rfl) | rfl<;>rfl
theorem zSc (j:Lst L):∀(n:Nat) (t:Tr),t.size≤n→goodT t=true→ShortT t→AllK L t:=by
 intro n
 induction n with
 | zero=>intro t h;have:=zBO t;omega
 | succ n Y=>
  intro t hn hg J;cases t with
  | mk x l=>
  obtain⟨m,hk,D⟩:=zCc hg;rw[zCF]at J;have G:∀u∈l,ShortT u:=zEO J.2;have C:∀u∈l,AllK L u:=fun u k=>Y u (by have:=zGI (x:=x) k;omega) (D u k) (G u k);have p:∀u∈l,zBf u.nd.kind=true→ExK L u:=fun u k O=>by
   have o:=(C u k).expr O;exact⟨D u k,G u k,O,o.all,o.first,o.pos⟩
  have hP:∀u∈l,u.nd.kind=20→PrmK u:=fun u k h=>zSS (D u k) h;have H:∀(a:Nat),zC7 (zA5 l.length a) 0 (zAb l)=true→(zA5 l.length a).length≤l.length→∃ps c,l=ps++[c]∧(∀t∈ps,PrmK t)∧zx a c.nd.kind=true∧c∈l:=by
   intro a h h1;obtain⟨ps,c,e,f,A⟩:=zV9 _ l a h1 h;exact⟨ps,c,e,fun t I=>hP t (by rw[e];exact List.mem_append_left _ I) (f t I),A,by rw[e];simp⟩
  have hB:∀u∈l,zx 8 u.nd.kind=true→u.nd.kind=4:=fun u _ h=>by unfold zx at h;simpa using h
  have R:zAB x.kind=true→zSR L (.mk x l)∧ExF L (.mk x l)∧0 < (prT (.mk x l)).length:=by
   intro I;have a0:x.kind=33∨x.kind=52∨x.kind=53:=by unfold zAB at I;simp only[Bool.or_eq_true,beq_iff_eq]at I;omega
   rcases a0 with h | h | h
   · obtain⟨o,q⟩:=zXo j hg jo jo J.1;exact⟨q h,o.first,o.pos⟩
   · obtain⟨a,rfl,h1⟩:=zOw (by rw[h]at hk;exact hk) rfl;exact zaE j h m (p a js h1)
   · obtain⟨a,c,rfl,h1,f⟩:=zXc (by rw[h]at hk;exact hk) rfl;exact zaF j h m (p a js h1) (p c js f)
  refine⟨fun O=>?_,fun I=>(R I).1,fun h=>?_,fun hs=>?_,fun h=>?_,fun h=>?_,fun h=>?_⟩
  · have a1:zBf x.kind=true:=O;have hr:=zFe a1
    by_cases a2:x.kind≤37
    · exact(zXo j hg hr.1 a2 J.1).1
    have N:x.kind=38∨x.kind=39∨x.kind=41∨x.kind=42∨x.kind=43∨x.kind=44∨x.kind=45∨x.kind=46∨x.kind=47∨x.kind=48∨x.kind=49∨x.kind=50∨x.kind=51∨zAB x.kind=true:=by
     have:x.kind=52∨x.kind=53→zAB x.kind=true:=by rintro(h | h)<;>(rw[h];rfl)
     by_cases a3:x.kind=52∨x.kind=53
     · simp[this a3]
     · omega
    rcases N with h | h | h | h | h | h | h | h | h | h | h | h | h | h
    · rw[h]at hk;have f:=zCH (zAN hk (s:=[]) (r:=3) rfl).2;exact zaG j h m fun u k=>p u k (f u k)
    · rw[h]at hk;have f:=zCH (zAN hk (s:=[]) (r:=7) rfl).2;exact zaI j h m fun u k=>(C u k).prp (by have:=f u k;unfold zx at this;simpa using this)
    · rw[h]at hk;obtain⟨h1,f⟩:=zAN hk (s:=zA5 l.length 8) (r:=0) rfl;obtain⟨ps,c,e,A,B,z⟩:=H 8 f h1;have hb:=(C c z).blk (hB c z B);subst e;exact zaJ j h m A hb.1
    · rw[h]at hk;obtain⟨h1,f⟩:=zAN hk (s:=zA5 l.length 13) (r:=0) rfl;obtain⟨ps,c,e,A,B,z⟩:=H 13 f h1;have h6:c.nd.kind=4∨zBf c.nd.kind=true:=by unfold zx at B;simpa using B
      have hc:(c.nd.kind=4∧zO0 L c∧∃r,prT c=[123]::r)∨(c.nd.kind≠4∧ExK L c):=by
       rcases h6 with h6 | h6
       · exact .inl ⟨h6,(C c z).blk h6⟩
       · exact .inr ⟨by have:=zFe h6;omega,p c z h6⟩
      subst e;exact zaK j h m A hc
    · obtain⟨a,rfl,h1⟩:=zOw (by rw[h]at hk;exact hk) rfl;exact zZ5 j h m (p a js h1)
    · obtain⟨a,rfl,h1⟩:=zOw (by rw[h]at hk;exact hk) rfl;exact zZ6 j h m h1 ((C a js).tgt h1)
    · obtain⟨a,rfl,h1⟩:=zOw (by rw[h]at hk;exact hk) rfl;have o:=(C a js).expr (zLm h1);exact zZ7 j h m h1 ((C a js).tgt h1) o.first o.pos (zGl (D a js) (G a js) j)
    · obtain⟨a,c,rfl,h1,f⟩:=zXc (by rw[h]at hk;exact hk) rfl;exact zZ9 j h m (p a js h1) (p c js f)
    · obtain⟨a,c,rfl,h1,f⟩:=zXc (by rw[h]at hk;exact hk) rfl;exact zaA j h m (p a js h1) (p c js f)
    · obtain⟨a,c,d,rfl,h1,f,A⟩:=zYj (by rw[h]at hk;exact hk) rfl;exact zaB j h m (p a js h1) (p c js f) (p d js A)
    · obtain⟨a,c,rfl,h1,f⟩:=zXc (by rw[h]at hk;exact hk) rfl;have o:=(C a js).expr (zLm h1);exact zZ8 j h m h1 ((C a js).tgt h1) o.first (zGl (D a js) (G a js) j) (p c js f)
    · rw[h]at hk;obtain⟨h1,f⟩:=zAN hk (s:=[3]) (r:=3) rfl;obtain⟨a,q,rfl,A,_,B⟩:=zAz h1 f;exact zaC j h m (p a js A) fun u k=>p u (List.mem_cons_of_mem _ k) (zCH B u k)
    · rw[h]at hk;obtain⟨h1,f⟩:=zAN hk (s:=[3]) (r:=3) rfl;obtain⟨a,q,rfl,A,_,B⟩:=zAz h1 f;exact zaD j h m (p a js A) fun u k=>p u (List.mem_cons_of_mem _ k) (zCH B u k)
    · obtain⟨h1,f,A⟩:=R h;exact⟨zMr j h1 A,f,A⟩
  · have h:x.kind=40:=h;obtain⟨a,rfl,h1⟩:=zOw (by rw[h]at hk;exact hk) rfl;exact zaH j h m (p a js h1)
  · have hs:zDc x.kind=true:=hs;have M:∀u∈l,zx 2 u.nd.kind=true→StK L u∧zCM u.nd.kind=true:=fun u k h=>⟨(C u k).stm (zSb h),h⟩;have hG:∀(y:Nd) (q:List Tr),Tr.mk y q∈l→zK y=true∧zAv y.kind q=true∧∀v∈q,AllK L v:=by
     intro y q k;obtain⟨g1,g2,U⟩:=zCc (D _ k);have S:=G _ k;rw[zCF]at S;exact⟨g1,g2,fun v hv=>Y v (by have:=zGI (x:=x) k;have:=zGI (x:=y) hv;omega) (U v hv) (zEO S.2 v hv)⟩
    have hD:∀(y:Nd) (q:List Tr),(y.kind=5∨y.kind=6)→zAv y.kind q=true→(∀v∈q,AllK L v)→∃t r,q=t::r∧∀u∈t::r,DclK L u:=by
     intro y q P a4 hv;have e:zl y.kind q.length=([5],5):=by rcases P with h | h<;>(rw[h];rfl)
     obtain⟨h1,f⟩:=zAN a4 e;obtain⟨t,r,rfl,A,_,B⟩:=zAz h1 f;refine⟨t,r,rfl,fun u k=>(hv u k).dcl ?_⟩;have z:zx 5 u.nd.kind=true:=by
      rcases List.mem_cons.1 k with rfl | k
      · exact A
      · exact zCH B u k
     unfold zx at z;simpa using z
    have V:∀u∈l,zx 9 u.nd.kind=true→zWA L u∧(zn (u.nd.kind,prT u)=[]∨zn (u.nd.kind,prT u)=inP (prT u)):=by
     intro u k h;have F:u.nd.kind=11∨zBf u.nd.kind=true:=by unfold zx at h;simpa using h
     rcases F with F | F
     · have c:=(C u k).cls F;exact⟨c.1,.inl (by rw[F];rfl)⟩
     · have c:=zXq j (p u k F);exact⟨c.1,.inr c.2⟩
    have N:x.kind=2∨x.kind=3∨x.kind=4∨(x.kind=5∨x.kind=6)∨x.kind=8∨x.kind=9∨x.kind=10∨(x.kind=12∨x.kind=13)∨x.kind=14∨x.kind=15∨x.kind=16∨x.kind=18∨x.kind=19:=by
     unfold zDc at hs;simp only[Bool.and_eq_true,decide_eq_true_eq,Bool.not_eq_true',yA]at hs;omega
    rcases N with h | h | h | h | h | h | h | h | h | h | h | h | h
    · rw[h]at hk;exact zaL j h m (zCG (zAN hk (s:=[]) (r:=0) rfl).2)
    · obtain⟨a,rfl,h1⟩:=zOw (by rw[h]at hk;exact hk) rfl;exact zaM j h m (p a js h1)
    · rw[h]at hk;have f:=zCH (zAN hk (s:=[]) (r:=1) rfl).2;exact zaN j h (zXp j h m fun u k=>(C u k).stm (f u k))
    · obtain⟨t,r,rfl,h1⟩:=hD x l h hk C;exact(zZ0 j h m h1).1
    · rw[h]at hk;rcases l with _ | ⟨a,_ | ⟨c,_ | ⟨d,q⟩⟩⟩
      · have:=(zAN hk (s:=[3,2]) (r:=0) rfl).1;simp at this
      · have:=(zAN hk (s:=[3,2]) (r:=0) rfl).1;simp at this
      · obtain⟨W,c',e,h1,f⟩:=zXc (a:=3) (b:=2) hk rfl;injection e with e1 e2;injection e2 with e2 _;subst e1 e2;obtain⟨g1,g2⟩:=M c js f;exact zZ1 j h m (p a js h1) g1 g2 (.inl rfl)
      · obtain⟨W,c',d',e,h1,f,A⟩:=zYj (a:=3) (b:=2) (c:=2) hk (by
         show([3,2,2].take (min (max (q.length+1+1+1) 2) 3),0)=_;rw[Nat.max_eq_left jo,Nat.min_eq_right jo];rfl)
        injection e with e1 e2;injection e2 with e2 e3;injection e3 with e3 e4;subst e1 e2 e3 e4;obtain⟨g1,g2⟩:=M c js f;obtain⟨U,g4⟩:=M d js A;refine zZ1 j h m (p a js h1) g1 g2 (.inr ⟨d,rfl,U,g4,?_⟩);unfold zAv at hk;rw[Bool.and_eq_true]at hk;have B:=hk.2;rw[ji,if_pos ⟨rfl,rfl⟩]at B;simpa [zR6]using B
    · obtain⟨a,c,rfl,h1,f⟩:=zXc (by rw[h]at hk;exact hk) rfl;obtain⟨g1,g2⟩:=M c js f;exact zaO j h m (p a js h1) g1 g2
    · obtain⟨a,c,d,e,rfl,h1,f,A,B⟩:=zZ4 (by rw[h]at hk;exact hk) rfl;obtain⟨g1,g2⟩:=M e js B;refine zYk j h m ?_ (V c js f).1 (V d js A).1 g1 g2;have E:(a.nd.kind=5∨a.nd.kind=6)∨zx 9 a.nd.kind=true:=by
       have T:(a.nd.kind==11 || a.nd.kind==5 || a.nd.kind==6 || zBf a.nd.kind)=true:=h1;simp only[Bool.or_eq_true,beq_iff_eq]at T;have F:a.nd.kind=11∨zBf a.nd.kind=true→zx 9 a.nd.kind=true:=fun h=>by
        show(a.nd.kind==11 || zBf a.nd.kind)=true;simpa using h
       rcases T with((g | g) | g) | g
       · exact .inr (F (.inl g))
       · exact .inl (.inl g)
       · exact .inl (.inr g)
       · exact .inr (F (.inr g))
      rcases E with E | E
      · cases a with
        | mk y q=>
         obtain⟨f1,Q,X⟩:=hG y q js;obtain⟨t,r,rfl,z⟩:=hD y q E Q X;exact zSZ j E f1 z
      · obtain⟨c1,c2⟩:=V a js E;exact zSa c1 c2
    · have e:zl x.kind l.length=([],0):=by rcases h with h | h<;>(rw[h];rfl)
      exact zWC j h m (zCG (zAN hk e).2)
    · rw[h]at hk;refine zYl j h m ?_;rcases l with _ | ⟨a,q⟩
      · exact .inl rfl
      · obtain⟨W,e,h1⟩:=zOw (a:=3) hk (by show([3].take (min (q.length+1) 1),0)=_;rw[Nat.min_eq_right jo];rfl);injection e with e1 e2;subst e1 e2;exact .inr ⟨a,rfl,p a js h1⟩
    · obtain⟨a,rfl,h1⟩:=zOw (by rw[h]at hk;exact hk) rfl;exact zYm j h m (p a js h1)
    · rw[h]at hk;obtain⟨a,c,d,rfl,h1,f,A⟩:=zYj hk rfl;have B:(c.nd.kind==17 || d.nd.kind==4)=true:=by
       unfold zAv at hk;rw[Bool.and_eq_true]at hk;have B:=hk.2;rw[if_pos rfl]at B;exact B
      simp only[Bool.or_eq_true,beq_iff_eq]at B;refine zYp j h m ((C a js).blk (hB a js h1)).1 ?_ ?_ B
      · have z:c.nd.kind=11∨c.nd.kind=17:=by unfold zx at f;simpa using f
        rcases z with z | z
        · exact .inl ⟨by omega,((C c js).cls z).2⟩
        · cases c with
          | mk y q=>
           have P:y.kind=17:=z;obtain⟨f1,Q,X⟩:=hG y q js;rw[P]at Q;obtain⟨e,rfl,h6⟩:=zOw (a:=8) Q rfl;have h7:e.nd.kind=4:=by unfold zx at h6;simpa using h6
           have hb:=(X e js).blk h7;exact .inr ⟨P,y,e,rfl,f1,hb.1,hb.2⟩
      · have z:d.nd.kind=11∨d.nd.kind=4:=by unfold zx at A;simpa using A
        rcases z with z | z
        · exact .inr ⟨by omega,((C d js).cls z).2.1⟩
        · exact .inl ⟨z,((C d js).blk z).1⟩
    · obtain⟨c,rfl,h1⟩:=zOw (by rw[h]at hk;exact hk) rfl;obtain⟨g1,g2⟩:=M c js h1;exact zYn j h m g1 g2
    · rw[h]at hk;obtain⟨h1,f⟩:=zAN hk (s:=zA5 l.length 8) (r:=0) rfl;obtain⟨ps,c,e,A,B,z⟩:=H 8 f h1;have hb:=(C c z).blk (hB c z B);subst e;exact zYo j h m A hb.1
  · have h:x.kind=4:=h;rw[h]at hk;have f:=zCH (zAN hk (s:=[]) (r:=1) rfl).2;exact⟨zXp j h m fun u k=>(C u k).stm (f u k),_,zLl h⟩
  · have h:x.kind=7:=h;rw[h]at hk;refine d_7 j h m ?_;rcases l with _ | ⟨a,q⟩
    · exact .inl rfl
    · obtain⟨W,e,h1⟩:=zOw (a:=3) hk (by show([3].take (min (q.length+1) 1),0)=_;rw[Nat.min_eq_right jo];rfl);injection e with e1 e2;subst e1 e2;exact .inr ⟨a,rfl,p a js h1⟩
  · have h:x.kind=11:=h;rw[h]at hk;obtain⟨h1,f⟩:=zAN hk (s:=[]) (r:=0) rfl;exact zaP j h m (zCG f)
theorem zO7 (e:Lst L) {t:Tr} (hg:goodT t=true) (b:ShortT t) (hk:t.nd.kind=1) (hs:Std L 0 (prT t++[])) (f:(zG L (prT t).length).kind=0):Rn L (.program []) 0 (bareT t) (prT t).length:=by
 cases t with
 | mk x l=>
  have hk:x.kind=1:=hk;obtain⟨j,c,g⟩:=zCc hg;rw[zCF]at b;rw[hk]at c;have k:=zCH (zAN c (s:=[]) (r:=1) rfl).2;have hb:bareT (.mk x l)=trK 1 (bareL l):=by rw[(zBp j (by rw[hk];decide) jo).1,hk]
  have m:prT (.mk x l)=(prs l).flatMap (·.2):=by rw[zAR];unfold zAn zj;rw[hk];rfl
  rw[m]at hs f⊢;rw[hb];have r:=zO6 e l [] 0 (fun u d=>(zSc e _ u (yAC _) (g u d) (zEO b.2 u d)).stm (k u d)) hs (by rw[Nat.zero_add];exact f);rw[List.nil_append,Nat.zero_add]at r;exact r
end
def zDF (s:List UInt8):Prop:=s∈zv∨zFv s=true∨(∃n,n≤9007199254740991∧s=zBZ n)∨(∃m,zBR false m=true∧(∀y∈m,y < 4294967296)∧s=zBZ (zEk m)++[110])∨(∃u:List UInt16,u.length≤4096∧s=zFw u)
abbrev AllP (ts:Tks):Prop:=∀s∈ts,zDF s
theorem AllP.nil:AllP []:=fun s h=>by cases h
theorem AllP.cons {r:Tks} (h:zDF s) (c:AllP r):AllP (s::r):=fun t b=>by
 rcases List.mem_cons.1 b with rfl | b
 · exact h
 · exact c t b
theorem AllP.app {a b:Tks} (h:AllP a) (d:AllP b):AllP (a++b):=fun t c=>by
 rcases List.mem_append.1 c with c | c
 · exact h t c
 · exact d t c
theorem zKe {c:Prop} [Decidable c] {a b:Tks} (h1:c→AllP a) (d:¬c→AllP b):AllP (if c then a else b):=by
 by_cases h:c
 · rw[if_pos h];exact h1 h
 · rw[if_neg h];exact d h
theorem zXr {c:Prop} [Decidable c] {a b:List UInt8} (h1:c→zDF a) (d:¬c→zDF b):zDF (if c then a else b):=by
 by_cases h:c
 · rw[if_pos h];exact h1 h
 · rw[if_neg h];exact d h
theorem sg (h:s∈zv):zDF s:=.inl h
theorem zMv:∀s∈zAF,zFv s=true:=by decide+kernel
theorem wd (h:s∈zAF):zDF s:=.inr (.inl (zMv s h))
theorem zXs:∀s∈zHK++zDO++zU8++zVU++zIF,s∈zv∨zFv s=true:=by decide+kernel
theorem zLn (h:zBi s=true):zDF s:=by
 unfold zBi at h;rw[Bool.and_eq_true]at h;exact .inr (.inl h.1)
section
variable {ks:List Kd}
theorem zSd (hk:∀k∈ks,AllP k.2):AllP (ks.flatMap (·.2)):=fun s hs=>by
 obtain⟨k,h1,b⟩:=List.mem_flatMap.1 hs;exact hk k h1 s b
theorem zEg (hk:∀k∈ks,AllP k.2) (i:Nat):AllP (kd ks i).2:=by
 unfold kd;rw[yAG]
 by_cases h:i < ks.length
 · rw[yAB h];exact hk _ (List.getElem_mem h)
 · rw[List.getElem?_eq_none jo];exact AllP.nil
theorem zJS {t:Tks} (h:AllP t):AllP (inP t):=AllP.cons (sg jd) (AllP.app h (AllP.cons (sg jd) AllP.nil))
theorem zGJ {k:Kd} (h:AllP k.2):AllP (ze k):=by
 unfold ze;split
 · exact h
 · exact zJS h
theorem zMw {k:Kd} (h:AllP k.2):AllP (zn k):=by
 unfold zn;split
 · exact fun s hs=>h s (List.dropLast_subset _ hs)
 split
 · exact AllP.nil
 · exact zJS h
theorem zSe:∀{ks:List Kd},(∀k∈ks,AllP (f k))→AllP (zGY f ks):=by
 intro ks
 induction ks with
 | nil=>intro _;exact AllP.nil
 | cons k r b=>intro h;exact AllP.cons (sg jd) (AllP.app (h k js) (b fun j c=>h j (by simp[c])))
theorem zGm {ks:List Kd} (h:∀k∈ks,AllP (f k)):AllP (zAW f ks):=by
 cases ks with
 | nil=>exact AllP.nil
 | cons k r=>exact AllP.app (h k js) (zSe fun j b=>h j (by simp[b]))
theorem zHs {ks:List Kd} (h:∀k∈ks,AllP k.2):AllP (zt ks):=AllP.cons (sg jd) (AllP.app (zGm h) (AllP.cons (sg jd) AllP.nil))
theorem zLo {ks:List Kd} (h:∀k∈ks,AllP k.2):∀k∈ks.dropLast,AllP k.2:=fun k hk=>h k (List.dropLast_subset _ hk)
theorem zJT (h:s=[]∨zDF s):AllP (zAs s):=by
 unfold zAs;split
 · exact AllP.nil
 · rename_i b
   exact AllP.cons (h.resolve_left b) AllP.nil
theorem zSf (hk:∀k∈ks,AllP k.2):AllP (zEl ks):=AllP.app (zGJ (zEg hk _)) (AllP.cons (sg jd) (AllP.app (zGm fun k h=>zGJ (hk k (List.mem_of_mem_drop h))) (AllP.cons (sg jd) AllP.nil)))
theorem zLp (hk:∀k∈ks,AllP k.2) {x:Nd} (h:x.name=[]∨zDF x.name):AllP (zFZ x ks):=AllP.cons (wd jd) (AllP.app (zJT h) (AllP.app (zHs (zLo hk)) (zEg hk _)))
theorem zO8 (hk:∀k∈ks,AllP k.2):AllP (zE3 ks):=by
 refine AllP.app (zHs (zLo hk)) (AllP.cons (sg jd) ?_);split
 · exact zEg hk _
 · exact zJS (zEg hk _)
theorem zO9 (hk:∀k∈ks,AllP k.2) (x:Nd):AllP (zBS x ks):=by
 unfold zBS;refine AllP.cons ?_ (zGm hk);split
 · exact wd jd
 · exact wd jd
theorem zWD (hk:∀k∈ks,AllP k.2) {x:Nd} (j:x.kind=7∨x.kind=18∨x.kind=20→zDF x.name) (b:x.kind=12∨x.kind=13∨x.kind=17∨x.kind=19→x.name=[]∨zDF x.name):AllP (zj x ks):=by
 have c:=fun i=>zJS (zEg hk i);have d:=zEg hk;have e:=fun i=>zMw (zEg hk i);have f:=zSd hk;have g:=zO9 hk x;unfold zj
 repeat' first
  | exact f | exact d _ | exact c _ | exact e _ | exact g | exact AllP.nil
  | exact zJT (b jo) | exact zLp hk (b jo) | exact j jo
  | exact sg jd | exact wd jd
  | (rename_i l;exact(b jo).resolve_left l)
  | with_reducible refine zKe (fun _=>?_) (fun _=>?_) | refine AllP.app ?_ ?_ | refine AllP.cons ?_ ?_ | refine zXr (fun _=>?_) (fun _=>?_)
theorem zPA (hk:∀k∈ks,AllP k.2) {x:Nd} (p:x.kind=33∨43≤x.kind→x.kind≤47∨x.kind=49∨x.kind=52→zDF x.name) (q:x.kind=41→x.name=[]∨zDF x.name)
 (b:x.kind=30→zDF (zBZ x.nn.toNat)) (c:x.kind=31→zDF (zBZ (zEk x.mag)++[110])) (d:x.kind=32∨x.kind=40→zDF (zFw x.str)):AllP (zh x ks):=by
 have e:=fun i=>zJS (zEg hk i);have f:=zEg hk;have g:=fun i=>zGJ (zEg hk i);have j:AllP (zAW ze ks):=zGm fun k h=>zGJ (hk k h);have l:AllP (zAW (·.2) ks):=zGm hk;have m:=zSf hk;have o:=zO8 hk;unfold zh
 repeat' first
  | exact j | exact l | exact m | exact o | exact f _ | exact g _ | exact e _ | exact AllP.nil
  | exact b jo | exact c jo | exact d jo | exact zLp hk (q jo) | exact p jo jo
  | exact sg jd | exact wd jd
  | with_reducible refine zKe (fun _=>?_) (fun _=>?_) | refine AllP.app ?_ ?_ | refine AllP.cons ?_ ?_
end
theorem zSg {k:Int} (h:zAe k s=true):s=[]∨zDF s:=by
 unfold zAe at h;split at h
 · exact .inr (zLn h)
 split at h
 · rw[Bool.or_eq_true]at h;exact h.imp of_decide_eq_true zLn
 split at h
 · exact .inr (.inr (.inl h))
 split at h
 · have h1:=of_decide_eq_true h;have c:s∈zHK++zDO++zU8++zVU++zIF:=by
    unfold zI4 at h1;simp only[List.mem_append];split at h1
    · simp[h1]
    split at h1
    · simp[h1]
    split at h1
    · simp[h1]
    split at h1
    · simp[h1]
    split at h1
    · simp[h1]
    · cases h1
   rcases zXs s c with b | b
   · exact .inr (.inl b)
   · exact .inr (.inr (.inl b))
 · exact .inl (of_decide_eq_true h)
theorem zPB:∀k:Int,(k=7∨k=18∨k=20∨k=33∨k=43∨k=44∨k=45∨k=46∨k=47∨k=49∨k=52)→zAe k []=false:=by
 intro k h;rcases h with rfl | rfl | rfl | rfl | rfl | rfl | rfl | rfl | rfl | rfl | rfl<;>decide+kernel
theorem zWE {x:Nd} {ks:List Kd} (b:zK x=true) (hs:Short x) (hk:∀k∈ks,AllP k.2):AllP (zAn x ks):=by
 by_cases d:x.kind=30∨x.kind=31∨x.kind=32∨x.kind=40
 · have e:zAn x ks=zh x ks:=by unfold zAn;rw[jn]
   rw[e];obtain⟨k,n,u,nk,nn,g,m,kk⟩:=x;simp only at d;unfold zK at b;simp only at b;split at b
   · cases b
   split at b
   · cases b
   split at b
   · cases b
   split at b
   · cases b
   rename_i a0 a1 a2 a3
   refine zPA hk (fun h j=>?_) (fun h=>?_) (fun h=>?_) (fun h=>?_) (fun h=>?_)
   · simp only at h j;omega
   · simp only at h;omega
   · simp only at h;subst h;simp at a1 a3 b;obtain⟨⟨⟨_,rfl⟩,c⟩,o⟩:=b;unfold zDd at c;simp at c;exact .inr (.inr (.inl ⟨nn.toNat,by omega,rfl⟩))
   · simp only at h;subst h;simp at a1 a2 b;obtain⟨⟨_,c⟩,rfl⟩:=b;exact .inr (.inr (.inr (.inl ⟨m,c,hs.limb,rfl⟩)))
   · simp only at h;have l:u.length≤4096:=by
      rcases h with rfl | rfl
      · simp at b;exact b.2
      · simp at b;exact b.2
     exact .inr (.inr (.inr (.inr ⟨u,l,rfl⟩)))
 · have hN:=zCT b jo jo jo jo;have f:=zSg hN.2.1;have c:(x.kind=7∨x.kind=18∨x.kind=20∨x.kind=33∨x.kind=43∨x.kind=44∨x.kind=45∨x.kind=46∨x.kind=47∨x.kind=49∨x.kind=52)→zDF x.name:=fun h=>by
    refine f.resolve_left fun e=>?_;have h1:=hN.2.1;rw[e,zPB _ h]at h1;cases h1
   unfold zAn;refine zKe (fun _=>zWD hk (fun h=>c jo) (fun _=>f)) (fun _=>zPA hk (fun h j=>c jo) (fun _=>f) (fun h=>absurd (.inl h) d) (fun h=>absurd (.inr (.inl h)) d) (fun h=>absurd jo d))
theorem zPC:∀(n:Nat) (t:Tr),t.size≤n→goodT t=true→ShortT t→AllP (prT t):=by
 intro n
 induction n with
 | zero=>intro t h;have:=zBO t;omega
 | succ n f=>
  intro t j hg b;cases t with
  | mk x l=>
  obtain⟨g,hk,e⟩:=zCc hg;rw[zCF]at b;rw[zAR];refine zWE g b.1 fun k c=>?_;rw[zB7]at c;obtain⟨u,d,rfl⟩:=List.mem_map.1 c;exact f u (by have:=zGI (x:=x) d;omega) (e u d) (zEO b.2 u d)
open Go.RowKit
def zBq (l:List Nat):List Value:=l.map fun n:Nat=>Value.int .u32 (n:Int)
theorem zSh (l:List Nat):(zBq l).length=l.length:=by simp[zBq]
theorem zLq {l:List Nat} {j:Nat} (h:j < l.length):(zBq l)[j]? =some (.int .u32 (l[j]:Int)):=by
 simp[zBq,yAB h]
theorem zJU (l:List Nat) (k:Nat):(zBq l).take k=zBq (l.take k):=by simp[zBq]
theorem zGK (l r:List Nat):zBq l++zBq r=zBq (l++r):=by simp[zBq]
theorem zLr {w:World} {base:Nat} {e:TypeId} {j:Nat} (h:w.ownsRow base e 1 (.slice A n c) n xs) (l:j≤n):w.ownsRow base e 1 (.slice A j c) j (xs.take j):=by
 refine⟨by rw[List.length_take,h.1];omega,?_⟩;rcases h.2 with⟨h1,d⟩ | ⟨g,cap,b,h1,hb,hg,m,f,hs,k⟩
 · left;injection h1 with h3 h4 h5;subst d;obtain rfl:j=0:=by omega
   exact⟨by rw[h3,h5],rfl⟩
 · right;injection h1 with h3 h4 h5;subst h3 h5;refine⟨g,c,b,rfl,hb,hg,by omega,f,hs,?_⟩;rw[←k,List.take_take];congr 1;omega
theorem Reads.spotV {w:World} (h:Reads w B 1 A n xs) (g:0 < n):
 ∃b off,A=some ⟨b,off,none⟩∧b < B∧∀j u,xs[j]? =some u→w.cell? ⟨b,off+j,none⟩=some u:=by
 obtain⟨d,u,e,hb,m,c⟩:=h.at_ g;have hs:d.spot=none:=by
  cases hsp:d.spot with
  | none=>rfl
  | some s=>
   exfalso;rw[Addr.add_zero]at c;simp only[World.cell?,hsp]at c;split at c
   · simp at c
   · cases c
 obtain⟨b,off,o⟩:=d;simp only at hs;subst hs;refine⟨b,off,e,hb,fun j v hv=>?_⟩;have k:j < n:=by
  have:=(List.getElem?_eq_some_iff.1 hv).1;have h1:=h.1;omega
 obtain⟨l,p,e',_,f,h1⟩:=h.at_ k;rw[e]at e';injection e' with e';subst e';rw[Addr.add_lit]at h1;rw[h1,←f,hv]
theorem zFD {xs:List Nat} {w:World} (p:xs.length=n) (q:Reads w B 1 A n (zBq xs)) (E:n≤4096) (F:n≤c) (r:c≤maxLen) (s:(zAk xs).length=m):
 Calls prog 88 #[.slice A n c] w fun e w'=>e=.returned (.slice A m c)∧w=w':=by
 have z:=zA q;have t:=zA s;have u:=zA p;unfold maxLen at r;clear q s p;go_enter func88,ntmps88;go_wp2
 go_loop [0] (fun v=>∃j:Nat,v=.slice A j c∧j≤n∧Hid (zAk (xs.take j)=zAk xs)) (fun v=>match v with | .slice _ j _=>j | _=>0)
 case atStart=>exact⟨n,rfl,yAC _,zA (by rw[←u.out,List.take_length])⟩
 case round=>
  obtain⟨j,rfl,G,o⟩:=hrel;cases j with
  | zero=>
   have f:=zA (show m=0 by
    have:=o.out;rw[List.take_zero]at this;rw[←t.out,←this];rfl)
   go_wp2;go_ret;obtain rfl:=f.out;exact⟨rfl,rfl⟩
  | succ i=>
   have C:=u.out;obtain⟨b,off,rfl,D,d⟩:=z.out.spotV jo;have hi:i < xs.length:=by omega
   have y:=d i _ (zLq hi);have g:=zA (show xs.take (i+1)=xs.take i++[xs[i]]from yAL hi);obtain⟨x,l⟩:=jx (xs[i]);rw[l]at y g;clear d l C
   by_cases k:x=0
   · have e1:((x:Int)==0)=true:=by rw[k];rfl
     have f:=zA (show zAk (xs.take i)=zAk xs by rw[←o.out,g.out,k,zMn]);clear k;go_wp2;go_round
     case rel=>exact⟨i,rfl,by omega,f⟩
     case measure=>simp
   · have e1:((x:Int)==0)=false:=yA.2 jo;have f:=zA (show m=i+1 by
      rw[←t.out,←o.out,g.out,zFd k,List.length_append,List.length_take];simp;omega)
     clear k;go_wp2;go_ret;obtain rfl:=f.out;exact⟨rfl,rfl⟩
def zPD (m:Nat) (A:Option Addr) (c:Nat):Value:=if m=0 then .slice none 0 0 else .slice A m c
theorem zLs {xs:List Nat} {w:World} (g:xs.length=n) (j:Reads w B 1 A n (zBq xs)) (hB:B≤w.heap.size) (k:n≤4096) (l:n≤c) (d:c≤maxLen) (o:(zAk xs).length=m):
 Calls prog 143 #[.slice A n c,false] w fun e w'=>e=.returned (.agg #[false,zPD m A c])∧Below w.heap.size w w':=by
 have p:=zA (j.alloc hB (.cells #[false,()] 40));have q:=zA o;have r:=zA g;clear j o g
 by_cases b:m=0
 · have f:=zA (show zPD m A c=.slice none 0 0 from if_pos b);have e1:((m:Int)==0)=true:=by rw[b];rfl
   clear b;go_enter func143,ntmps143;go_wp2_with (go_at_call 88;refine(zFD r.out p.out k l d q.out).mono ?_;rintro e w' ⟨rfl,rfl⟩);rw[f.out];exact bodyPost_ret (v:=.agg #[false,()]) (by simp[results,results143,go_sem]) rfl ⟨rfl,ja⟩
 · have f:=zA (show zPD m A c=.slice A m c from if_neg b);have e1:((m:Int)==0)=false:=yA.2 jo;clear b;go_enter func143,ntmps143;go_wp2_with (go_at_call 88;refine(zFD r.out p.out k l d q.out).mono ?_;rintro e w' ⟨rfl,rfl⟩);rw[f.out];exact bodyPost_ret (v:=.agg #[false,.slice A m c]) (by simp[results,results143,go_sem]) rfl ⟨rfl,ja⟩
theorem zPE {s:ByteArray} (h:s.data.toList=asc l) (d:∀x∈l,zM x=true):s.size=l.length∧∀i (hi:i < s.size) (b:i < l.length),s[i].toNat=l[i].toNat∧48≤s[i].toNat∧s[i].toNat≤57:=by
 have h1:s.size=l.length:=by
  have:=congrArg List.length h;simpa [asc]using this
 refine⟨h1,fun i hi b=>?_⟩;have c:s.data.toList[i]? =(asc l)[i]? :=by rw[h]
 have e:s[i]=l[i].toUInt8:=by
  have e1:s.data.toList[i]? =some s[i]:=by
   rw[yAB (by simpa using hi)];rfl
  have e2:(asc l)[i]? =some l[i].toUInt8:=by simp[asc,yAB b]
  rw[e1,e2]at c;exact Option.some.inj c
 have f:=d l[i] (List.getElem_mem b);simp only[zM,Bool.and_eq_true,decide_eq_true_eq]at f;have g:l[i].toUInt8.toNat=l[i].toNat % 256:=rfl;rw[e,g];omega
theorem zMx {s:ByteArray} (h:s.data.toList=asc l) (q:∀x∈l,zM x=true) (r:0 < l.length) (c:l[0]≠48∨l=[48]) (y:l.length≤4096) (w:World):
 Calls prog 142 #[.string s] w fun e w'=>e=.returned true∧w=w':=by
 obtain⟨hs,b⟩:=zPE h q;have o:=zA (show∀i (hi:i < s.size),48≤s[i].toNat∧s[i].toNat≤57 from fun i hi=>(b i hi jo).2);have p:s.size≤4096:=by omega
 have m:0 < s.size:=by omega
 have f:s.toList≠[]:=by
  rw[ByteArray.toList_eq,h];intro t;have:=congrArg List.length t;rw[asc,List.length_map,List.length_nil]at this;omega
 have e1:(s.toList==[])=false:=yA.2 f;have e2:s.toList.isEmpty=false:=by
  cases hh:s.toList with
  | nil=>exact absurd hh f
  | cons=>rfl
 have j:((s[0].toNat:Int) !=48)=true∨s=⟨#[48]⟩:=by
  rcases c with c | c
  · left;rw[bne_iff_ne];intro u;have:=(b 0 m r).1;exact c (UInt16.toNat_inj.1 (by show l[0].toNat=48;omega))
  · right;have v:s=⟨#[48]⟩:=by
     cases s with
     | mk d=>
      simp only at h;rw[c]at h;have:d=#[48]:=by
       apply Array.toList_inj.1;rw[h];rfl
      rw[this]
    exact v
 clear b h c f;rcases j with u | rfl
 · go_enter func142,ntmps142;go_wp2
   go_loop [6] (fun i=>∃k:Nat,k≤s.size∧i=.int .i64 k) (fun i=>s.size - (intOf i).toNat)
   case atStart=>exact⟨0,yAE _,rfl⟩
   case round=>
    obtain⟨k,hk,rfl⟩:=hrel
    by_cases g:k < s.size
    · have hb:=o.out k g;go_wp2;go_round
      case rel=>exact⟨k+1,by omega,by go_num⟩
      case measure=>simp[intOf];omega
    · go_wp2;go_ret;exact⟨rfl,rfl⟩
 · clear e1 e2 o hs p m;go_enter func142,ntmps142;go_wp2
   go_loop [6] (fun i=>∃k:Nat,k≤1∧i=.int .i64 k) (fun i=>1 - (intOf i).toNat)
   case atStart=>exact⟨0,yAE _,rfl⟩
   case round=>
    obtain⟨k,hk,rfl⟩:=hrel
    by_cases g:k=0
    · subst g;go_wp2;go_round
      case rel=>exact⟨1,by omega,rfl⟩
      case measure=>simp[intOf]
    · obtain rfl:k=1:=by omega
      go_wp2;go_ret;exact⟨rfl,rfl⟩
theorem zDG (h:zp s l=true):s.length≤l.length:=by
 unfold zp at h;rw[List.isPrefixOf_iff_prefix]at h;simpa using h.length_le
theorem zXt (c:Bool):∀(l:List UInt16) (nl b:Bool),(zDo c l nl b).1≤l.length:=by
 intro l
 induction l with
 | nil=>intro nl b;simp[zDo]
 | cons x r d=>
  intro nl b;unfold zDo;split
  · rename_i h
    have:=zDG (Bool.and_eq_true _ _▸h).2;simpa using this
  · split
    · simp
    · have:=d (nl || zAI x) (b || zIC x);simp only[zFu,List.length_cons];omega
theorem zD3 (h:2≤l.length):2≤(zAu l).1∧(zAu l).1≤l.length:=by
 have:=zXt (zp [47,42] l) (l.drop 2) false false;rw[List.length_drop]at this;simp only[zAu,zFu];omega
theorem zDH (h:(zp [47,47] l || zp [47,42] l)=true):2≤l.length:=by
 rw[Bool.or_eq_true]at h;rcases h with h | h
 · exact zDG h
 · exact zDG h
theorem zSi:∀(f:Nat) (l:List UInt16) (nl:Bool),(zDp f l nl).1≤l.length:=by
 intro f
 induction f with
 | zero=>intro l nl;simp[zDp]
 | succ f b=>
  intro l nl;cases l with
  | nil=>simp[zDp]
  | cons x r=>
   unfold zDp;split
   · have:=b r (nl || zAI x);simp only[zFu,List.length_cons];omega
   · split
     · rename_i h
       have c:=zD3 (zDH h);split
       · simp
       · have:=b ((x::r).drop (zAu (x::r)).1) (nl || (zAu (x::r)).2.1);rw[List.length_drop]at this;simp only[zFu];omega
     · simp
theorem zIY (l:List UInt16):(zAJ l).1≤l.length:=zSi _ _ _
theorem zMy:∀(f g:Nat) (l:List UInt16) (nl:Bool),l.length≤f→l.length≤g→zDp f l nl=zDp g l nl:=by
 intro f
 induction f with
 | zero=>
  intro g l nl b _;have:l=[]:=List.eq_nil_of_length_eq_zero jo;subst this;cases g<;>rfl
 | succ f c=>
  intro g l nl b hg;cases l with
  | nil=>cases g<;>rfl
  | cons x r=>
   obtain⟨g,rfl⟩:∃k,g=k+1:=⟨g - 1,by simp at hg;omega⟩;simp only[List.length_cons]at b hg;unfold zDp;rw[c g r (nl || zAI x) jo jo];split
   · rfl
   · split
     · rename_i h
       have d:=zD3 (zDH h);rw[c g ((x::r).drop (zAu (x::r)).1) _ (by rw[List.length_drop,List.length_cons];omega) (by rw[List.length_drop,List.length_cons];omega)]
     · rfl
def zDI (l:List UInt16) (nl:Bool):Nat×Bool×Nat:=zDp l.length l nl
theorem zPF (nl:Bool):zDI [] nl=(0,nl,0):=rfl
theorem zGn (h:(zHM x || zAI x)=true) (nl:Bool):zDI (x::r) nl=zFu 1 (zDI r (nl || zAI x)):=by
 unfold zDI;rw[List.length_cons,zDp,if_pos h]
theorem zFz (h:(zHM x || zAI x)=false) (b:(zp [47,47] (x::r) || zp [47,42] (x::r))=true) (nl:Bool):
 zDI (x::r) nl=if(zAu (x::r)).2.2≠0 then(0,false,(zAu (x::r)).2.2)else zFu (zAu (x::r)).1 (zDI ((x::r).drop (zAu (x::r)).1) (nl || (zAu (x::r)).2.1)):=by
 have c:=zD3 (zDH b);unfold zDI;rw[List.length_cons,zDp,if_neg (by rw[h];simp),if_pos b];rw[zMy r.length ((x::r).drop (zAu (x::r)).1).length _ _ (by rw[List.length_drop,List.length_cons];omega) (yAC _)]
theorem zFh (h:(zHM x || zAI x)=false) (b:(zp [47,47] (x::r) || zp [47,42] (x::r))=false) (nl:Bool):zDI (x::r) nl=(0,nl,0):=by
 unfold zDI;rw[List.length_cons,zDp,if_neg (by rw[h];simp),if_neg (by rw[b];simp)]
theorem zBb (p:α→Bool) (l:List α):(l.takeWhile p).length≤l.length:=(List.takeWhile_sublist p).length_le
theorem zLt (h:(zCX n l).1=0):(zCX n l).2.2=n∧n≤l.length:=by
 unfold zCX at h⊢;split
 · rename_i b
   simp only[Bool.and_eq_true,decide_eq_true_eq]at b;exact⟨rfl,b.1⟩
 · rename_i b
   rw[if_neg b]at h;cases h
theorem zFE (x:UInt16) (r:List UInt16):zEW (x::r)=if(zB3 x).isSome=true then(0,(zB3 x).getD 0,1)else zRg x r:=rfl
theorem zBC (z:Bool) (x:UInt16) (r:List UInt16):zAY z (x::r)=if zA6 x=true then zCp (x::r)else if zM x=true then zBn (x::r)else if(x.toNat==39 || x.toNat==34)=true then zA3 x r
 else if(x.toNat==46&&zBN 0 zM r)=true then bad 6 else zCL z (x::r):=rfl
theorem zFi (h:(zEW l).1=0):1≤(zEW l).2.2∧(zEW l).2.2≤l.length:=by
 cases l with
 | nil=>simp[zEW]at h
 | cons x r=>
  rw[zFE]at h⊢;have c:∀k,(more 1 (zCX k r)).1=0→1≤(more 1 (zCX k r)).2.2∧(more 1 (zCX k r)).2.2≤(x::r).length:=by
   intro k hk;unfold more at hk⊢;split
   · rename_i b
     have:=zLt b;simp only[List.length_cons];omega
   · rename_i b
     rw[if_neg b]at hk;exact absurd hk b
  split
  · simp
  · rename_i hs
    rw[if_neg hs]at h;unfold zRg at h⊢
    by_cases h1:(x.toNat==48&& !zBN 0 zM r)=true
    · rw[if_pos h1];simp
    rw[if_neg h1]at h⊢
    by_cases d:zM x=true
    · rw[if_pos d]at h;cases h
    rw[if_neg d]at h⊢
    by_cases b:(zAI x || zIC x || (x.toNat==117&&zp [123] r))=true
    · rw[if_pos b]at h;cases h
    rw[if_neg b]at h⊢
    by_cases e:x.toNat=120
    · rw[if_pos e]at h⊢;exact c 2 h
    rw[if_neg e]at h⊢
    by_cases f:x.toNat=117
    · rw[if_pos f]at h⊢;exact c 4 h
    rw[if_neg f];simp
theorem zWF (q:UInt16):∀(f:Nat) (l:List UInt16) (b:List UInt16),(zDQ q f l b).1=0→1≤(zDQ q f l b).2.2∧(zDQ q f l b).2.2≤l.length:=by
 intro f
 induction f with
 | zero=>intro l b h;simp[zDQ]at h
 | succ f d=>
  intro l b h;cases l with
  | nil=>simp[zDQ]at h
  | cons x r=>
   unfold zDQ at h⊢
   by_cases h1:zAI x=true
   · rw[if_pos h1]at h;cases h
   rw[if_neg h1]at h⊢
   by_cases e:x=q
   · rw[if_pos e];simp
   rw[if_neg e]at h⊢
   by_cases g:x.toNat=92
   · rw[if_pos g]at h⊢
     by_cases c:(zEW r).1≠0
     · rw[if_pos c]at h;exact absurd h c
     · rw[if_neg c]at h⊢;have j:=zFi (yAK.1 c);have h6:=d _ _ h;rw[List.length_drop]at h6;simp only[List.length_cons];omega
   · rw[if_neg g]at h⊢;have h6:=d _ _ h;simp only[List.length_cons];omega
theorem zFj:∀{m n:Nat},zBj l m=some n→1≤n∧n≤m∧zA7 l n≠0:=by
 intro m
 induction m with
 | zero=>intro n h;simp[zBj]at h
 | succ m b=>
  intro n h;unfold zBj at h;split at h
  · injection h with h;subst h;exact⟨by omega,by omega,by assumption⟩
  · have:=b h;exact⟨this.1,by omega,this.2.2⟩
theorem zFk (h:zA7 l n≠0):n≤l.length:=by
 unfold zA7 at h;split at h
 · rename_i b
   simp only[Bool.and_eq_true,decide_eq_true_eq]at b;exact b.1.1
 · exact absurd rfl h
theorem zFF {p:α→Bool} {x:α} {r:List α} (h:p x=true):1≤((x::r).takeWhile p).length:=by
 rw[List.takeWhile_cons_of_pos h];simp
theorem zSj {d:List UInt16} (h:(zB1 d r).1=0) (j:1≤d.length):1≤(zB1 d r).2.2∧(zB1 d r).2.2≤d.length+r.length:=by
 unfold zB1 at h⊢;split
 · rename_i h1;rw[if_pos h1]at h;cases h
 · rename_i h1
   rw[if_neg h1]at h;split
   · rename_i e
     rw[if_pos e]at h;have f:=zDG e;unfold zI1 at h⊢;split
     · rename_i b;rw[if_pos b]at h;cases h
     · rename_i b
       rw[if_neg b]at h;split
       · rename_i c;rw[if_pos c]at h;cases h
       · simp at f;show 1≤d.length+1∧d.length+1≤_;omega
   · rename_i e
     rw[if_neg e]at h;split
     · rename_i b;rw[if_pos b]at h;cases h
     · rename_i b
       rw[if_neg b]at h;split
       · rename_i c;rw[if_pos c]at h;cases h
       · rename_i c
         rw[if_neg c]at h;split
         · rename_i g;rw[if_pos g]at h;cases h
         · show 1≤d.length∧d.length≤_;omega
theorem zJV {z:Bool} (h:(zAY z l).1=0):1≤(zAY z l).2.2∧(zAY z l).2.2≤l.length:=by
 cases l with
 | nil=>cases h
 | cons x r=>
  rw[zBC]at h⊢
  by_cases h1:zA6 x=true
  · rw[if_pos h1]at h⊢;unfold zCp at h⊢;split
    · rename_i c;rw[if_pos c]at h;cases h
    · exact⟨zFF (by simp[zA2,h1]),zBb _ _⟩
  rw[if_neg h1]at h⊢
  by_cases c:zM x=true
  · rw[if_pos c]at h⊢;unfold zBn at h⊢;have:=zSj h (zFF c);have d:=zBb zM (x::r);rw[List.length_drop]at this;omega
  rw[if_neg c]at h⊢
  by_cases d:(x.toNat==39 || x.toNat==34)=true
  · rw[if_pos d]at h⊢;unfold zA3 at h⊢;split
    · rename_i b;rw[if_pos b]at h;exact absurd h b
    · rename_i b
      have:=zWF x _ _ _ (yAK.1 b);simp only[List.length_cons,zKS];omega
  rw[if_neg d]at h⊢
  by_cases b:(x.toNat==46&&zBN 0 zM r)=true
  · rw[if_pos b]at h;cases h
  rw[if_neg b]at h⊢;unfold zCL at h⊢;cases hs:zBj (x::r) 4 with
  | none=>
   rw[hs]at h;simp only at h;split at h<;>cases h
  | some n=>
   rw[hs]at h;have e:=zFj hs;have h6:=zFk e.2.2;simp only at h⊢;split
   · rename_i f;rw[if_pos f]at h;cases h
   · exact⟨e.1,h6⟩
theorem zD4 (h:(zA4 k l).1=0):1≤(zA4 k l).2.2∧(zAJ l).1+(zA4 k l).2.2≤l.length:=by
 have h1:=zJV h;have b:=zIY l;rw[List.length_drop]at h1;unfold zA4;omega
theorem zPG:∀(f g k:Nat) (l:List UInt16),l.length < f→l.length < g→zEX f k l=zEX g k l:=by
 intro f
 induction f with
 | zero=>intro g k l b _;omega
 | succ f c=>
  intro g k l b hg;obtain⟨g,rfl⟩:∃m,g=m+1:=⟨g - 1,by omega⟩;unfold zEX;split
  · rfl
  · split
    · rfl
    · split
      · rfl
      · rename_i d
        have e:=zD4 (yAK.1 d);rw[c g _ (l.drop ((zAJ l).1+(zA4 k l).2.2)) (by rw[List.length_drop];omega) (by rw[List.length_drop];omega)]
def zGo (k:Nat) (l:List UInt16):List Tok×Nat×Nat:=zEX (l.length+1) k l
theorem zJW (h:(zAJ l).2.2≠0):zGo k l=([],k+(zAJ l).1,(zAJ l).2.2):=by
 unfold zGo;rw[zEX,if_pos h]
theorem zIZ (h:(zAJ l).2.2=0) (b:l.drop (zAJ l).1=[]):zGo k l=([setAt zq (k+(zAJ l).1) (zAJ l).2.1],0,0):=by
 unfold zGo;rw[zEX,if_neg (by rw[h];simp),if_pos b]
theorem zLu (h:(zAJ l).2.2=0) (b:l.drop (zAJ l).1≠[]) (c:(zA4 k l).1≠0):zGo k l=([],k+(zAJ l).1,(zA4 k l).1):=by
 unfold zGo;rw[zEX,if_neg (by rw[h];simp),if_neg b,if_pos c]
theorem zFG (h:(zAJ l).2.2=0) (c:l.drop (zAJ l).1≠[]) (b:(zA4 k l).1=0):
 zGo k l=zFW (setAt (zA4 k l).2.1 (k+(zAJ l).1) (zAJ l).2.1) (zGo (k+(zAJ l).1+(zA4 k l).2.2) (l.drop ((zAJ l).1+(zA4 k l).2.2))):=by
 have d:=zD4 b;unfold zGo;rw[zEX,if_neg (by rw[h];simp),if_neg c,if_neg (by rw[b];simp)];rw[zPG l.length ((l.drop ((zAJ l).1+(zA4 k l).2.2)).length+1) _ _ (by rw[List.length_drop];omega) jo]
theorem zB9 (h:¬4096 < u.length):zC3 u=zGo 0 u:=by unfold zC3 zGo;rw[if_neg h]
theorem zBD (x:UInt16) (w:World):Calls prog 60 #[.int .u16 (x.toNat:Int)] w fun e w'=>e=.returned (zA6 x)∧w=w':=by
 have h1:=x.toNat_lt;go_enter func60,ntmps60;go_wp2
 all_goals go_ret
 all_goals refine⟨zJ ?_,rfl⟩
 all_goals (rw[Bool.eq_iff_iff];simp only[zA6,Bool.and_eq_true,Bool.or_eq_true,beq_iff_eq,decide_eq_true_eq,true_iff];omega)
theorem zAH (x:UInt16) (w:World):Calls prog 62 #[.int .u16 (x.toNat:Int)] w fun e w'=>e=.returned (zM x)∧w=w':=by
 have h1:=x.toNat_lt;go_enter func62,ntmps62;go_wp2
 all_goals go_ret
 all_goals refine⟨zJ ?_,rfl⟩
 all_goals (rw[Bool.eq_iff_iff];simp only[zM,Bool.and_eq_true,decide_eq_true_eq,Bool.false_eq_true,false_iff];omega)
theorem zCA (x:UInt16) (w:World):Calls prog 56 #[.int .u16 (x.toNat:Int)] w fun e w'=>e=.returned (zHM x)∧w=w':=by
 have h1:=x.toNat_lt;go_enter func56,ntmps56;go_wp2
 all_goals go_ret
 all_goals refine⟨zJ ?_,rfl⟩
 all_goals (rw[Bool.eq_iff_iff];simp[zHM];omega)
theorem zAT (x:UInt16) (w:World):Calls prog 57 #[.int .u16 (x.toNat:Int)] w fun e w'=>e=.returned (zAI x)∧w=w':=by
 have h1:=x.toNat_lt;go_enter func57,ntmps57;go_wp2
 all_goals go_ret
 all_goals refine⟨zJ ?_,rfl⟩
 all_goals (rw[Bool.eq_iff_iff];simp[zAI];omega)
theorem zBK (x:UInt16) (w:World):Calls prog 94 #[.int .u16 (x.toNat:Int)] w fun e w'=>e=.returned (zIC x)∧w=w':=by
 have h1:=x.toNat_lt;go_enter func94,ntmps94;go_wp2
 all_goals go_ret
 all_goals refine⟨zJ ?_,rfl⟩
 all_goals (rw[Bool.eq_iff_iff];simp[zIC];omega)
theorem zGp (b:Bool) (w:World):Calls prog 93 #[b] w fun e w'=>e=.returned (.int .i64 (zID b:Nat))∧w=w':=by
 cases b
 all_goals
  go_enter func93,ntmps93;go_wp2;go_ret;exact⟨rfl,rfl⟩
theorem zPH (x:UInt16) (w:World):Calls prog 96 #[.int .u16 (x.toNat:Int)] w fun e w'=>e=.returned (zA2 x)∧w=w':=by
 cases hl:zA6 x with
 | true=>
  have b:=zA (show zA2 x=true by simp[zA2,hl]);go_enter func96,ntmps96;go_wp2_with (go_at_call 60;refine(zBD _ _).mono ?_;rintro e w' ⟨rfl,rfl⟩);go_ret;exact⟨zJ b.out.symm,rfl⟩
 | false=>
  have b:=zA (show zA2 x=zM x by simp[zA2,hl]);go_enter func96,ntmps96;go_wp2_with (first | (go_at_call 60;refine(zBD _ _).mono ?_;rintro e w' ⟨rfl,rfl⟩) | (go_at_call 62;refine(zAH _ _).mono ?_;rintro e w' ⟨rfl,rfl⟩));go_ret;exact⟨zJ b.out.symm,rfl⟩
theorem zLv (x:UInt16) (w:World):Calls prog 151 #[.int .u16 (x.toNat:Int)] w fun e w'=>e=.returned (.int .u16 (zIE x:Nat))∧w=w':=by
 have h1:=x.toNat_lt;cases hd:zM x with
 | true=>
  have j:=zBB.1 hd;have b:=zA (show zIE x=x.toNat - 48 by rw[zIE,if_pos hd]);go_enter func151,ntmps151;go_wp2_with (go_at_call 62;refine(zAH _ _).mono ?_;rintro e w' ⟨rfl,rfl⟩);go_ret;exact⟨zGP (by rw[b.out];omega),rfl⟩
 | false=>
  by_cases c:97≤x.toNat∧x.toNat≤102
  · have b:=zA (show zIE x=x.toNat - 87 by rw[zIE,if_neg (by rw[hd];simp),if_pos c]);obtain⟨c,d⟩:=c;go_enter func151,ntmps151;go_wp2_with (go_at_call 62;refine(zAH _ _).mono ?_;rintro e w' ⟨rfl,rfl⟩);go_ret;exact⟨zGP (by rw[b.out];omega),rfl⟩
  · by_cases d:65≤x.toNat∧x.toNat≤70
    · have b:=zA (show zIE x=x.toNat - 55 by rw[zIE,if_neg (by rw[hd];simp),if_neg c,if_pos d]);obtain⟨d,m⟩:=d;have o:¬(97:Int)≤(x.toNat:Int):=by omega
      clear c;go_enter func151,ntmps151;go_wp2_with (go_at_call 62;refine(zAH _ _).mono ?_;rintro e w' ⟨rfl,rfl⟩);go_ret;exact⟨zGP (by rw[b.out];omega),rfl⟩
    · have b:=zA (show zIE x=16 by rw[zIE,if_neg (by rw[hd];simp),if_neg c,if_neg d]);have g:¬(97:Int)≤(x.toNat:Int)∨((97:Int)≤(x.toNat:Int)∧¬(x.toNat:Int)≤102):=by omega
      have f:¬(65:Int)≤(x.toNat:Int)∨((65:Int)≤(x.toNat:Int)∧¬(x.toNat:Int)≤70):=by omega
      clear c d;rcases g with r1 | ⟨r1,k⟩
      all_goals rcases f with r2 | ⟨r2,l⟩
      all_goals first
       | (exfalso;omega)
       | (
        go_enter func151,ntmps151;go_wp2_with (go_at_call 62;refine(zAH _ _).mono ?_;rintro e w' ⟨rfl,rfl⟩);go_ret;exact⟨zGP (by rw[b.out];rfl),rfl⟩)
theorem zMz (x:UInt16) (w:World):Calls prog 150 #[.int .u16 (x.toNat:Int)] w fun e w'=>e=.returned (zEV x)∧w=w':=by
 go_enter func150,ntmps150;go_wp2_with (go_at_call 151;refine(zLv _ _).mono ?_;rintro e w' ⟨rfl,rfl⟩);go_ret;exact⟨zJ (by unfold zEV;exact decide_eq_decide.2 jo),rfl⟩
theorem Reads.spotL {w:World} (h:Reads w B 1 A n (zAM l)) (g:0 < l.length):
 ∃b off,A=some ⟨b,off,none⟩∧b < B∧∀j (f:j < l.length),w.cell? ⟨b,off+j,none⟩=some (.int .u16 (l[j].toNat:Int)):=by
 obtain⟨d,e,hb,c⟩:=h.u16_0 g;have hs:d.spot=none:=by
  cases hsp:d.spot with
  | none=>rfl
  | some s=>
   exfalso;simp only[World.cell?,hsp]at c;split at c
   · simp at c
   · cases c
 obtain⟨b,off,m⟩:=d;simp only at hs;subst hs;refine⟨b,off,e,hb,fun j f=>?_⟩;obtain⟨k,e',_,h1⟩:=h.u16 f;rw[e]at e';injection e' with e';subst e';rw[Addr.add_lit]at h1;exact h1
theorem zD5 {j:Nat} (h:k+j < u.length):zBN j p (u.drop k)=p u[k+j]:=by
 unfold zBN;rw[List.getElem?_drop,yAB h];rfl
theorem zDW {j:Nat} (h:¬k+j < u.length):zBN j p (u.drop k)=false:=by
 unfold zBN;rw[List.getElem?_drop,List.getElem?_eq_none jo];rfl
theorem zD6 {e e':α} {w w':World} (h:e=e'∧w=w'):e=e'∧w'=w:=⟨h.1,h.2.symm⟩
theorem zHt {g j:Nat} {w:World} (o:Rd w g A n c k) (v:u.length=n) (y:Reads w B 1 A n (zAM u)) (hk:k≤n) (E:n≤4096) (F:j≤4096) {q:Bool} (p:zBN j zA6 (u.drop k)=q):
 Calls prog 65 #[.pointer (some g),j,.func (.func 60) #[] #[]] w fun e w'=>e=.returned q∧∃m,w'=w.drewN m:=by
 subst v;have C:=o.c0;have D:=o.c1
 by_cases d:k+j < u.length
 · have l:(k:Int)+(j:Int) < (u.length:Int):=by omega
   have r:=zA (show zA6 u[k+j]=q by rw[←p,zD5 d]);obtain⟨b,off,rfl,_,f⟩:=y.spotL jo;have s:=f (k+j) d;obtain⟨x,t⟩:=jx (u[k+j]);rw[t]at s r;clear f p t o;go_enter func65,ntmps65;go_wp2_with fail
   go_quiet (first | (go_at_call 60;refine Calls.quiet_of_same ((zBD _ _).mono fun _ _ h=>zD6 h)))
   go_wp2;go_ret;exact⟨zJ r,_,rfl⟩
 · have l:¬(k:Int)+(j:Int) < (u.length:Int):=by omega
   have z:decide ((k:Int)+(j:Int) < (u.length:Int))=false:=yAI l;have r:=zA (show false=q by rw[←p,zDW d]);clear d p o;go_enter func65,ntmps65;go_wp2_with fail
   go_quiet (fail)
   go_wp2;go_ret;exact⟨zJ r,_,rfl⟩
theorem zAt {g j:Nat} {w:World} (o:Rd w g A n c k) (v:u.length=n) (y:Reads w B 1 A n (zAM u)) (hk:k≤n) (E:n≤4096) (F:j≤4096) {q:Bool} (p:zBN j zM (u.drop k)=q):
 Calls prog 65 #[.pointer (some g),j,.func (.func 62) #[] #[]] w fun e w'=>e=.returned q∧∃m,w'=w.drewN m:=by
 subst v;have C:=o.c0;have D:=o.c1
 by_cases d:k+j < u.length
 · have l:(k:Int)+(j:Int) < (u.length:Int):=by omega
   have r:=zA (show zM u[k+j]=q by rw[←p,zD5 d]);obtain⟨b,off,rfl,_,f⟩:=y.spotL jo;have s:=f (k+j) d;obtain⟨x,t⟩:=jx (u[k+j]);rw[t]at s r;clear f p t o;go_enter func65,ntmps65;go_wp2_with fail
   go_quiet (first | (go_at_call 62;refine Calls.quiet_of_same ((zAH _ _).mono fun _ _ h=>zD6 h)))
   go_wp2;go_ret;exact⟨zJ r,_,rfl⟩
 · have l:¬(k:Int)+(j:Int) < (u.length:Int):=by omega
   have z:decide ((k:Int)+(j:Int) < (u.length:Int))=false:=yAI l;have r:=zA (show false=q by rw[←p,zDW d]);clear d p o;go_enter func65,ntmps65;go_wp2_with fail
   go_quiet (fail)
   go_wp2;go_ret;exact⟨zJ r,_,rfl⟩
theorem zKf {g j:Nat} {w:World} (o:Rd w g A n c k) (v:u.length=n) (y:Reads w B 1 A n (zAM u)) (hk:k≤n) (E:n≤4096) (F:j≤4096) {q:Bool} (p:zBN j zA2 (u.drop k)=q):
 Calls prog 65 #[.pointer (some g),j,.func (.func 96) #[] #[]] w fun e w'=>e=.returned q∧∃m,w'=w.drewN m:=by
 subst v;have C:=o.c0;have D:=o.c1
 by_cases d:k+j < u.length
 · have l:(k:Int)+(j:Int) < (u.length:Int):=by omega
   have r:=zA (show zA2 u[k+j]=q by rw[←p,zD5 d]);obtain⟨b,off,rfl,_,f⟩:=y.spotL jo;have s:=f (k+j) d;obtain⟨x,t⟩:=jx (u[k+j]);rw[t]at s r;clear f p t o;go_enter func65,ntmps65;go_wp2_with fail
   go_quiet (first | (go_at_call 96;refine Calls.quiet_of_same ((zPH _ _).mono fun _ _ h=>zD6 h)))
   go_wp2;go_ret;exact⟨zJ r,_,rfl⟩
 · have l:¬(k:Int)+(j:Int) < (u.length:Int):=by omega
   have z:decide ((k:Int)+(j:Int) < (u.length:Int))=false:=yAI l;have r:=zA (show false=q by rw[←p,zDW d]);clear d p o;go_enter func65,ntmps65;go_wp2_with fail
   go_quiet (fail)
   go_wp2;go_ret;exact⟨zJ r,_,rfl⟩
theorem zPI {g j:Nat} {w:World} (o:Rd w g A n c k) (v:u.length=n) (y:Reads w B 1 A n (zAM u)) (hk:k≤n) (E:n≤4096) (F:j≤4096) {q:Bool} (p:zBN j zEV (u.drop k)=q):
 Calls prog 65 #[.pointer (some g),j,.func (.func 150) #[] #[]] w fun e w'=>e=.returned q∧∃m,w'=w.drewN m:=by
 subst v;have C:=o.c0;have D:=o.c1
 by_cases d:k+j < u.length
 · have l:(k:Int)+(j:Int) < (u.length:Int):=by omega
   have r:=zA (show zEV u[k+j]=q by rw[←p,zD5 d]);obtain⟨b,off,rfl,_,f⟩:=y.spotL jo;have s:=f (k+j) d;obtain⟨x,t⟩:=jx (u[k+j]);rw[t]at s r;clear f p t o;go_enter func65,ntmps65;go_wp2_with fail
   go_quiet (first | (go_at_call 150;refine Calls.quiet_of_same ((zMz _ _).mono fun _ _ h=>zD6 h)))
   go_wp2;go_ret;exact⟨zJ r,_,rfl⟩
 · have l:¬(k:Int)+(j:Int) < (u.length:Int):=by omega
   have z:decide ((k:Int)+(j:Int) < (u.length:Int))=false:=yAI l;have r:=zA (show false=q by rw[←p,zDW d]);clear d p o;go_enter func65,ntmps65;go_wp2_with fail
   go_quiet (fail)
   go_wp2;go_ret;exact⟨zJ r,_,rfl⟩
theorem zHu:zp s l=true↔∀i (h:i < s.length),l[i]? =some s[i].toUInt16:=by
 unfold zp;rw[List.isPrefixOf_iff_prefix,List.prefix_iff_getElem?];simp
theorem zJX {i:Nat} (h:i < s.length) (b:l[i]? ≠some s[i].toUInt16):zp s l=false:=by
 cases hs:zp s l with
 | false=>rfl
 | true=>exact absurd (zHu.1 hs i h) b
theorem zAw {g:Nat} (s:ByteArray) {w:World} (D:Rd w g A n c k) (L:u.length=n) (E:Reads w B 1 A n (zAM u)) (hk:k≤n) (S:n≤4096) (hs:s.size≤4096) {q:Bool} (F:zp s.data.toList (u.drop k)=q):
 Calls prog 58 #[.pointer (some g),.string s] w fun e w'=>e=.returned q∧∃m,w'=w.drewN m:=by
 subst L;have C:=zA F;have M:=zA E;have G:=zA D;clear F E D;go_enter func58,ntmps58;go_wp2
 go_loopw [8] (fun i wr=>∃j:Nat,j≤s.size∧i=.int .i64 (j:Nat)∧(∃m,wr=w.drewN m)∧Hid (∀i (h:i < s.data.toList.length),i < j→(u.drop k)[i]? =some s.data.toList[i].toUInt16)) (fun i _=>s.size - (intOf i).toNat)
 case atStart=>exact⟨0,yAE _,rfl,⟨0,rfl⟩,fun i _ h=>absurd h jo⟩
 case round=>
  obtain⟨j,T,rfl,⟨m,p⟩,r⟩:=hrel;have Q:wr.cell? g=some (.slice A u.length c):=by rw[p];exact(G.out.drewN m).c0
  have R:wr.cell? ⟨g,1,none⟩=some (.int .i64 (k:Int)):=by rw[p];exact(G.out.drewN m).c1
  have H:Hid (Reads wr B 1 A u.length (zAM u)):=by rw[p];exact M.out.drewN m
  have y:=zA p;clear p
  by_cases I:j < s.size
  · have z:j < s.data.toList.length:=by simpa using I
    by_cases d:k+j < u.length
    · have t:¬(u.length:Int)≤(k:Int)+(j:Int):=by omega
      have N:(k:Int)+(j:Int) < (u.length:Int):=by omega
      have O:decide ((u.length:Int)≤(k:Int)+(j:Int))=false:=yAI t;obtain⟨b,off,rfl,_,f⟩:=H.out.spotL jo;have J:=f (k+j) d;have P:=u[k+j].toNat_lt;have U:=s[j].toNat_lt;obtain⟨x,l⟩:=jx (u[k+j].toNat);rw[l]at J P
      by_cases v:x=s[j].toNat
      · have e1:((x:Int) !=(s[j].toNat:Int))=false:=by rw[v];simp
        have o:=zA (show(u.drop k)[j]? =some s.data.toList[j].toUInt16 by
         rw[List.getElem?_drop,yAB d];congr 1;refine UInt16.toNat_inj.1 ?_;rw[l,v];simp;rfl)
        clear f v l d;go_wp2_with fail
        go_quiet (fail)
        go_wp2
        go_roundw
        case rel=>
         refine⟨j+1,by omega,by go_num,⟨_,by rw[y.out];exact World.drewN_drewN _ _ _⟩,?_⟩;intro i h hi
         by_cases e:i=j
         · subst e;exact o.out
         · exact r.out i h jo
        case measure=>simp[intOf];omega
      · have e1:((x:Int) !=(s[j].toNat:Int))=true:=by rw[bne_iff_ne];omega
        have o:=zA (show false=q by
         rw[←C.out,zJX z];rw[List.getElem?_drop,yAB d];intro h;injection h with h;apply v;rw[←l,h];simp;rfl)
        clear f v l d;go_wp2_with fail
        go_quiet (fail)
        go_wp2;go_ret;exact⟨zJ o,_,by rw[y.out];exact World.drewN_drewN _ _ _⟩
    · have t:(u.length:Int)≤(k:Int)+(j:Int):=by omega
      have o:=zA (show false=q by
       rw[←C.out,zJX z];rw[List.getElem?_eq_none (by rw[List.length_drop];omega)];exact fun h=>by cases h)
      clear d;go_wp2_with fail
      go_quiet (fail)
      go_wp2;go_ret;exact⟨zJ o,_,by rw[y.out];exact World.drewN_drewN _ _ _⟩
  · have o:=zA (show true=q by
     rw[←C.out,zHu.2];intro i h;exact r.out i h (by have V:i < s.size:=(by simpa using h);omega))
    go_wp2;go_ret;exact⟨zJ o,m,y⟩
section
variable {P:Program} {w0 w:World} {g:Nat} {ops:Array Oper} {o:Oper} {a:Act} {K:Act→World→Prop} {Q:Exit→Act→World→Prop} {E:Prop}
theorem zJY (f:o.guard=none) (s x:Operand) (t:TypeId)
 (p:o.op=.call {callee:=.builtin .append,args:=#[s,x],argTypes:=#[t,t]})
 (e:TypeId) (i:TypeInfo) (z:Value) (bytes:Nat) (ht:P.underlying t=some (.slice e)) (hi:P.info? e=some i) (hz:i.zero=some z)
 (hsize:i.size=1) (hby:i.bytes=bytes) (hzs:z.cells.size=1)
 (v:Value) (xs:List Value) (hs:a.eval s=v) (hm:MadeM w0 w g e v xs)
 (cs:List Value) (m c:Nat) (hx:a.eval x=.slice (some ⟨w.heap.size,0,none⟩) m c) (hl:cs.length=m) (h1:(cs.all fun u=>u.oneCell')=true)
 (hm0:0 < m) (hsz:xs.length+m≤70368744177664) (hb2:bytes≤2)
 (h:∀v' w',MadeM w0 w' g e v' (xs++cs)→w.grownBy w' v.ownBlock→K (a.put o.dst v') w'):
 if Region.wanted o (yielded ops a.tmps)=true then Oper.wp P o a (w.alloc (.cells cs.toArray e)) K Q else E:=by
 subst hl;refine step_append_lies (w.alloc (.cells cs.toArray e)) f s x t p w0.heap.size e i z 1 bytes ht hi hz hsize hby hzs jo v xs.length xs hs (hm.own.alloc _) ⟨w.heap.size,0,none⟩ _ c cs hx jo ?_ (fun u d=>List.all_eq_true.1 h1 u d) hm0 (by unfold maxLen;omega) ?_ (yAD hm.grown.size js) _ rfl ?_
 · intro j u d;rw[Addr.add_lit,World.cell?_alloc_at _ _ _ _ rfl];simpa using d
 · calc (xs.length+cs.length)*bytes≤70368744177664*2:=Nat.mul_le_mul hsz hb2
    _≤140737488355328:=by omega
 · intro gg cap w' h1 q _ _;have b:w.grownBy w' v.ownBlock:=zC (zF w _ _) q;refine h _ w' ⟨by rw[List.length_append];exact h1,⟨b.os.trans hm.grown.os,b.tape.trans hm.grown.tape,b.output.trans hm.grown.output,yAD hm.grown.size b.size,fun k hk l=>?_⟩⟩ b;rw[b.block k (yAA hk hm.grown.size) (fun e=>by have:=(hm.own.lt k e.symm).1;omega)];exact hm.grown.block k hk l
end
def AtRun (q:UInt16→Bool) (u:List UInt16) (k p:Nat) (bs:List UInt8):Prop:=∃i,p=k+i∧bs=asc ((u.drop k).take i)∧(u.drop k).takeWhile q=(u.drop k).take i++(u.drop p).takeWhile q∧bs.length=i
theorem AtRun.start (q:UInt16→Bool) (u:List UInt16) (k:Nat):AtRun q u k k []:=⟨0,rfl,rfl,by simp,rfl⟩
theorem AtRun.step {p:Nat} {b:List UInt8} (h:AtRun q u k p b) (e:p < u.length) (h1:q u[p]=true):AtRun q u k (p+1) (b++[u[p].toUInt8]):=by
 obtain⟨i,hi,hb,f,g⟩:=h;have c:i < (u.drop k).length:=by rw[List.length_drop];omega
 have j:(u.drop k)[i]=u[p]:=by rw[List.getElem_drop];congr 1;omega
 have d:(u.drop k).take (i+1)=(u.drop k).take i++[u[p]]:=by rw[yAL c,j]
 refine⟨i+1,by omega,?_,?_,by simp[g]⟩
 · rw[d,hb];simp[asc]
 · rw[f,d,yAH e,List.takeWhile_cons_of_pos h1,List.append_assoc];rfl
theorem AtRun.stop {p:Nat} {b:List UInt8} (h:AtRun q u k p b) (h1:zBN 0 q (u.drop p)=false):b=asc ((u.drop k).takeWhile q)∧p=k+((u.drop k).takeWhile q).length:=by
 obtain⟨i,hi,hb,c,g⟩:=h;have e:(u.drop p).takeWhile q=[]:=by
  cases hd:u.drop p with
  | nil=>rfl
  | cons x r=>
   rw[hd]at h1;rw[List.takeWhile_cons_of_neg];intro f;have:zBN 0 q (x::r)=q x:=rfl;rw[this,f]at h1;cases h1
 rw[e,List.append_nil]at c;have d:=congrArg List.length hb;rw[c];refine⟨hb,?_⟩;simp only[asc,List.length_map]at d;omega
theorem zLw (x:UInt16):u8v x.toUInt8=.int .u8 (IntKind.u8.wrap (x.toNat:Int)):=by
 unfold u8v;rw[IntKind.wrap_u8];congr 1
theorem zPJ {p:Nat} (h:p < u.length):zBN 0 q (u.drop p)=q u[p]:=by
 have:=zD5 (u:=u) (k:=p) (j:=0) (p:=q) jo;simpa using this
theorem zJZ {p:Nat} (h:¬p < u.length):zBN 0 q (u.drop p)=false:=zDW jo
theorem zM0 {g:Nat} {w:World} (L:Rd w g A n c k) (hn:u.length=n) (O:Reads w B 1 A n (zAM u)) (hB:B≤g) (hk:k≤n) (F:n≤4096) (P:(u.drop k).takeWhile zM=l):
 Calls prog 95 #[.pointer (some g),.func (.func 62) #[] #[]] w fun e w'=>e=.returned (asc l)∧Mv w w' g A n c (k+l.length):=by
 subst hn;obtain⟨i0,Q,R,S,T⟩:=info_parts Tryz.info_u8;have U:=zA P;have HA:=zA O;have hg:=L.lt;have V:=zA (Mv.refl L);clear P O L;go_enter func95,ntmps95;go_wp2
 go_loopg [5] (u.length - k) (fun r v wr=>∃p G,p+r=u.length∧Hid (Mv w wr g A u.length c p)∧Hid (AtRun zM u k p G)∧MadeM w wr g 5 v (u8s G))
 case atStart=>exact⟨k,[],by omega,V,AtRun.start _ _ _,MadeM.nil (World.grownBy.refl w _) _⟩
 case round=>
  obtain⟨p,G,a2,b,o,H⟩:=hrel;have q:=zA (HA.out.grown b.out.grown hB (Nat.le_of_lt hg));have a3:G.length≤p:=by obtain⟨i,hi,_,_,F⟩:=o.out;omega
  by_cases d:p < u.length
  · have a1:(p:Int) < (u.length:Int):=by omega
    cases hqx:zM u[p]with
    | true=>
     have m:=zA (show zBN 0 zM (u.drop p)=true by rw[zPJ d];exact hqx);have W:=zA (o.out.step d hqx);go_wp2_with fail;refine(zAt (j:=0) b.out.rd rfl q jo F jo m).mono ?_;rintro e1 w1 ⟨rfl,m1,f⟩;subst f;have a4:=zA (b.out.drewN m1);have a5:=b.out.rd.c0;have a6:=b.out.rd.c1;obtain⟨blk,off,rfl,_,s⟩:=q.out.spotL jo;have X:=s p d;have hx:=u[p].toNat_lt;have I:=zA H;have Y:=zA (show u8s [u[p].toUInt8]=[.int .u8 (IntKind.u8.wrap (u[p].toNat:Int))] by rw[u8s,List.map_cons,zLw];rfl);obtain⟨x,t⟩:=jx (u[p].toNat);rw[t]at X hx;rw[t]at Y;clear s t H;go_wp2_with fail;go_region_law (first | (refine zJY rfl _ _ 115 rfl 5 i0 _ 1 underlying115 Q R S T rfl _ _ rfl (I.out.go hg (zAE wr (some g) (m1+1))) [.int .u8 (IntKind.u8.wrap (x:Int))] 1 1 rfl rfl rfl jo (by rw[zFT];omega) jo ?_;intro v' w' J a0))
     all_goals have y:=zA (Rd.appended (b.out.rd.drewN (m1+1)) (I.out.go hg (zAE wr (some g) (m1+1))) hg a0)
     all_goals have a7:=y.out.c1
     all_goals have a8:=y.out.f1
     all_goals go_wp2
     all_goals go_roundg (gk - 1)
     all_goals first
      | omega
      | exact⟨p+1,_,by omega,⟨y.out.setI jo,zC J.grown (zQ w' g 1 _)⟩,W,(J.go hg (zQ w' g 1 _)).cells (by rw[←Y.out];simp[u8s])⟩
    | false=>
     have m:=zA (show zBN 0 zM (u.drop p)=false by rw[zPJ d];exact hqx);have z:=zA (o.out.stop m);go_wp2_with fail;refine(zAt (j:=0) b.out.rd rfl q jo F jo m).mono ?_;rintro e1 w1 ⟨rfl,m1,f⟩;subst f;obtain⟨A',M,rfl,_,_,C⟩:=(H.go hg (zAE wr (some g) m1)).u8;have N:=zEo (c:=M) C;go_wp2;go_ret;obtain⟨D,E⟩:=z.out;rw[U.out]at D E;exact⟨by rw[D];rfl,by rw[←E];exact b.out.drewN m1⟩
  · have m:=zA (show zBN 0 zM (u.drop p)=false from zJZ d);have z:=zA (o.out.stop m);go_wp2_with fail;refine(zAt (j:=0) b.out.rd rfl q jo F jo m).mono ?_;rintro e1 w1 ⟨rfl,m1,f⟩;subst f;obtain⟨A',M,rfl,_,_,C⟩:=(H.go hg (zAE wr (some g) m1)).u8;have N:=zEo (c:=M) C;go_wp2;go_ret;obtain⟨D,E⟩:=z.out;rw[U.out]at D E;exact⟨by rw[D];rfl,by rw[←E];exact b.out.drewN m1⟩
theorem zSk {g:Nat} {w:World} (L:Rd w g A n c k) (hn:u.length=n) (O:Reads w B 1 A n (zAM u)) (hB:B≤g) (hk:k≤n) (F:n≤4096) (P:(u.drop k).takeWhile zA2=l):
 Calls prog 95 #[.pointer (some g),.func (.func 96) #[] #[]] w fun e w'=>e=.returned (asc l)∧Mv w w' g A n c (k+l.length):=by
 subst hn;obtain⟨i0,Q,R,S,T⟩:=info_parts Tryz.info_u8;have U:=zA P;have HA:=zA O;have hg:=L.lt;have V:=zA (Mv.refl L);clear P O L;go_enter func95,ntmps95;go_wp2
 go_loopg [5] (u.length - k) (fun r v wr=>∃p G,p+r=u.length∧Hid (Mv w wr g A u.length c p)∧Hid (AtRun zA2 u k p G)∧MadeM w wr g 5 v (u8s G))
 case atStart=>exact⟨k,[],by omega,V,AtRun.start _ _ _,MadeM.nil (World.grownBy.refl w _) _⟩
 case round=>
  obtain⟨p,G,a2,b,o,H⟩:=hrel;have q:=zA (HA.out.grown b.out.grown hB (Nat.le_of_lt hg));have a3:G.length≤p:=by obtain⟨i,hi,_,_,F⟩:=o.out;omega
  by_cases d:p < u.length
  · have a1:(p:Int) < (u.length:Int):=by omega
    cases hqx:zA2 u[p]with
    | true=>
     have m:=zA (show zBN 0 zA2 (u.drop p)=true by rw[zPJ d];exact hqx);have W:=zA (o.out.step d hqx);go_wp2_with fail;refine(zKf (j:=0) b.out.rd rfl q jo F jo m).mono ?_;rintro e1 w1 ⟨rfl,m1,f⟩;subst f;have a4:=zA (b.out.drewN m1);have a5:=b.out.rd.c0;have a6:=b.out.rd.c1;obtain⟨blk,off,rfl,_,s⟩:=q.out.spotL jo;have X:=s p d;have hx:=u[p].toNat_lt;have I:=zA H;have Y:=zA (show u8s [u[p].toUInt8]=[.int .u8 (IntKind.u8.wrap (u[p].toNat:Int))] by rw[u8s,List.map_cons,zLw];rfl);obtain⟨x,t⟩:=jx (u[p].toNat);rw[t]at X hx;rw[t]at Y;clear s t H;go_wp2_with fail;go_region_law (first | (refine zJY rfl _ _ 115 rfl 5 i0 _ 1 underlying115 Q R S T rfl _ _ rfl (I.out.go hg (zAE wr (some g) (m1+1))) [.int .u8 (IntKind.u8.wrap (x:Int))] 1 1 rfl rfl rfl jo (by rw[zFT];omega) jo ?_;intro v' w' J a0))
     all_goals have y:=zA (Rd.appended (b.out.rd.drewN (m1+1)) (I.out.go hg (zAE wr (some g) (m1+1))) hg a0)
     all_goals have a7:=y.out.c1
     all_goals have a8:=y.out.f1
     all_goals go_wp2
     all_goals go_roundg (gk - 1)
     all_goals first
      | omega
      | exact⟨p+1,_,by omega,⟨y.out.setI jo,zC J.grown (zQ w' g 1 _)⟩,W,(J.go hg (zQ w' g 1 _)).cells (by rw[←Y.out];simp[u8s])⟩
    | false=>
     have m:=zA (show zBN 0 zA2 (u.drop p)=false by rw[zPJ d];exact hqx);have z:=zA (o.out.stop m);go_wp2_with fail;refine(zKf (j:=0) b.out.rd rfl q jo F jo m).mono ?_;rintro e1 w1 ⟨rfl,m1,f⟩;subst f;obtain⟨A',M,rfl,_,_,C⟩:=(H.go hg (zAE wr (some g) m1)).u8;have N:=zEo (c:=M) C;go_wp2;go_ret;obtain⟨D,E⟩:=z.out;rw[U.out]at D E;exact⟨by rw[D];rfl,by rw[←E];exact b.out.drewN m1⟩
  · have m:=zA (show zBN 0 zA2 (u.drop p)=false from zJZ d);have z:=zA (o.out.stop m);go_wp2_with fail;refine(zKf (j:=0) b.out.rd rfl q jo F jo m).mono ?_;rintro e1 w1 ⟨rfl,m1,f⟩;subst f;obtain⟨A',M,rfl,_,_,C⟩:=(H.go hg (zAE wr (some g) m1)).u8;have N:=zEo (c:=M) C;go_wp2;go_ret;obtain⟨D,E⟩:=z.out;rw[U.out]at D E;exact⟨by rw[D];rfl,by rw[←E];exact b.out.drewN m1⟩
theorem zPK (s:ByteArray) (l:List UInt8):(s.toList==l)=decide (s.data.toList=l):=by
 rw[Bool.eq_iff_iff,decide_eq_true_eq,beq_iff_eq,ByteArray.toList_eq]
theorem zLx {s:ByteArray} {l:List UInt8} (h:s.data.toList=l):s=⟨l.toArray⟩:=by
 cases s with
 | mk d=>simp only at h;subst h;simp
theorem zY {s:ByteArray} {l:List (List UInt8)} (h:s.data.toList∉l) (x:List UInt8) (b:x∈l):(s.toList==x)=false:=by
 rw[zPK];exact yAI fun e=>h (e▸b)
theorem zM1 {s:ByteArray} (h1:s.data.toList∉zAF) (b:s.data.toList∉zEG) (w:World):Calls prog 97 #[.string s] w fun e w'=>e=.returned (0:Int)∧w=w':=by
 have N:=zY h1 [98,114,101,97,107] jd;have O:=zY h1 [99,97,116,99,104] jd;have P:=zY h1 [99,111,110,115,116] jd;have Q:=zY h1 [99,111,110,116,105,110,117,101] jd;have R:=zY h1 [101,108,115,101] jd;have S:=zY h1 [102,97,108,115,101] jd;have T:=zY h1 [102,105,110,97,108,108,121] jd;have U:=zY h1 [102,111,114] jd;have V:=zY h1 [102,117,110,99,116,105,111,110] jd;have W:=zY h1 [105,102] jd;have c:=zY h1 [105,110] jd;have d:=zY h1 [108,101,116] jd;have f:=zY h1 [110,101,119] jd;have g:=zY h1 [110,117,108,108] jd;have j:=zY h1 [114,101,116,117,114,110] jd;have k:=zY h1 [116,104,105,115] jd;have l:=zY h1 [116,104,114,111,119] jd;have m:=zY h1 [116,114,117,101] jd;have o:=zY h1 [116,114,121] jd;have p:=zY h1 [116,121,112,101,111,102] jd;have q:=zY h1 [118,111,105,100] jd;have r:=zY h1 [119,104,105,108,101] jd;have X:=zY b [97,114,103,117,109,101,110,116,115] jd;have Y:=zY b [97,115,121,110,99] jd;have a0:=zY b [97,119,97,105,116] jd;have a1:=zY b [99,97,115,101] jd;have a2:=zY b [99,108,97,115,115] jd;have a3:=zY b [100,101,98,117,103,103,101,114] jd;have a4:=zY b [100,101,102,97,117,108,116] jd;have a5:=zY b [100,101,108,101,116,101] jd;have a6:=zY b [100,111] jd;have a7:=zY b [101,110,117,109] jd;have t:=zY b [101,118,97,108] jd;have u:=zY b [101,120,112,111,114,116] jd;have v:=zY b [101,120,116,101,110,100,115] jd;have y:=zY b [105,109,112,108,101,109,101,110,116,115] jd;have z:=zY b [105,109,112,111,114,116] jd;have A:=zY b [105,110,115,116,97,110,99,101,111,102] jd;have B:=zY b [105,110,116,101,114,102,97,99,101] jd;have C:=zY b [112,97,99,107,97,103,101] jd;have D:=zY b [112,114,105,118,97,116,101] jd;have E:=zY b [112,114,111,116,101,99,116,101,100] jd;have F:=zY b [112,117,98,108,105,99] jd;have G:=zY b [115,116,97,116,105,99] jd;have H:=zY b [115,117,112,101,114] jd;have I:=zY b [115,119,105,116,99,104] jd;have J:=zY b [118,97,114] jd;have L:=zY b [119,105,116,104] jd;have M:=zY b [121,105,101,108,100] jd;clear h1 b;go_enter func97,ntmps97;go_wp2;go_ret;exact⟨rfl,rfl⟩
theorem zD7 (s:ByteArray) (w:World):Calls prog 97 #[.string s] w fun e w'=>e=.returned (.int .i64 (zCW s.data.toList:Nat))∧w=w':=by
 by_cases h1:s.data.toList∈zAF
 · rw[show zCW s.data.toList=1 from if_pos h1];simp only[zAF,List.mem_cons,List.mem_nil_iff,or_false]at h1;rcases h1 with h | h | h | h | h | h | h | h | h | h | h | h | h | h | h | h | h | h | h | h | h | h
   all_goals
    rw[zLx h];clear h;go_enter func97,ntmps97;go_wp2;go_ret;exact⟨rfl,rfl⟩
 · by_cases b:s.data.toList∈zEG
   · rw[show zCW s.data.toList=2 by unfold zCW;rw[if_neg h1,if_pos b]];simp only[zEG,List.mem_cons,List.mem_nil_iff,or_false]at b;rcases b with h | h | h | h | h | h | h | h | h | h | h | h | h | h | h | h | h | h | h | h | h | h | h | h | h | h | h
     all_goals
      rw[zLx h];clear h;go_enter func97,ntmps97;go_wp2;go_ret;exact⟨rfl,rfl⟩
   · rw[show zCW s.data.toList=0 by unfold zCW;rw[if_neg h1,if_neg b]];exact zM1 h1 b w
theorem zM2 {s:ByteArray} (h1:s.data.toList∉zv) (b:s.data.toList∉zCr) (w:World):Calls prog 103 #[.string s] w fun e w'=>e=.returned (0:Int)∧w=w':=by
 have Y:=zY h1 [123] jd;have a0:=zY h1 [125] jd;have a1:=zY h1 [40] jd;have a2:=zY h1 [41] jd;have a3:=zY h1 [91] jd;have a4:=zY h1 [93] jd;have a5:=zY h1 [59] jd;have a6:=zY h1 [44] jd;have a7:=zY h1 [46] jd;have a8:=zY h1 [63] jd;have c:=zY h1 [58] jd;have d:=zY h1 [126] jd;have f:=zY h1 [60] jd;have g:=zY h1 [62] jd;have j:=zY h1 [60,61] jd;have k:=zY h1 [62,61] jd;have l:=zY h1 [61,61] jd;have m:=zY h1 [33,61] jd;have o:=zY h1 [61,61,61] jd;have p:=zY h1 [33,61,61] jd;have q:=zY h1 [43] jd;have r:=zY h1 [45] jd;have t:=zY h1 [42] jd;have u:=zY h1 [47] jd;have v:=zY h1 [37] jd;have y:=zY h1 [38] jd;have z:=zY h1 [124] jd;have A:=zY h1 [94] jd;have B:=zY h1 [33] jd;have C:=zY h1 [38,38] jd;have D:=zY h1 [124,124] jd;have E:=zY h1 [63,63] jd;have F:=zY h1 [61] jd;have G:=zY h1 [43,61] jd;have H:=zY h1 [45,61] jd;have I:=zY h1 [42,61] jd;have J:=zY h1 [47,61] jd;have L:=zY h1 [37,61] jd;have M:=zY h1 [38,61] jd;have N:=zY h1 [124,61] jd;have O:=zY h1 [94,61] jd;have P:=zY h1 [60,60,61] jd;have Q:=zY h1 [62,62,61] jd;have R:=zY h1 [62,62,62,61] jd;have S:=zY h1 [43,43] jd;have T:=zY h1 [45,45] jd;have U:=zY h1 [60,60] jd;have V:=zY h1 [62,62] jd;have W:=zY h1 [62,62,62] jd;have X:=zY h1 [61,62] jd;have a9:=zY b [46,46,46] jd;have b0:=zY b [63,46] jd;have b1:=zY b [42,42] jd;have b2:=zY b [42,42,61] jd;have b3:=zY b [38,38,61] jd;have b4:=zY b [124,124,61] jd;have b5:=zY b [63,63,61] jd;clear h1 b;go_enter func103,ntmps103;go_wp2;go_ret;exact⟨rfl,rfl⟩
theorem zPL (s:ByteArray) (w:World):Calls prog 103 #[.string s] w fun e w'=>e=.returned (.int .i64 (zCE s.data.toList:Nat))∧w=w':=by
 by_cases h1:s.data.toList∈zv
 · rw[show zCE s.data.toList=1 from if_pos h1];simp only[zv,List.mem_cons,List.mem_nil_iff,or_false]at h1;rcases h1 with h | h | h | h | h | h | h | h | h | h | h | h | h | h | h | h | h | h | h | h | h | h | h | h | h | h | h | h | h | h | h | h | h | h | h | h | h | h | h | h | h | h | h | h | h | h | h | h | h | h
   all_goals
    rw[zLx h];clear h;go_enter func103,ntmps103;go_wp2;go_ret;exact⟨rfl,rfl⟩
 · by_cases b:s.data.toList∈zCr
   · rw[show zCE s.data.toList=2 by unfold zCE;rw[if_neg h1,if_pos b]];simp only[zCr,List.mem_cons,List.mem_nil_iff,or_false]at b;rcases b with h | h | h | h | h | h | h
     all_goals
      rw[zLx h];clear h;go_enter func103,ntmps103;go_wp2;go_ret;exact⟨rfl,rfl⟩
   · rw[show zCE s.data.toList=0 by unfold zCE;rw[if_neg h1,if_neg b]];exact zM2 h1 b w
def Blk (w:World) (R:Nat) (cs:List Value):Prop:=R < w.heap.size∧∀j (h:j < cs.length),w.cell? ⟨R,j,none⟩=some cs[j]∧w.frozen? ⟨R,j,none⟩=false
def zBY:List Value:=[(0:Int),"",(),(0:Int),(0:Int),false,(),(0:Int),false]
def noV:Value:=.agg #[(0:Int),"",(),(0:Int),(0:Int),false,(),(0:Int),false]
theorem Blk.new (w:World) (cs:List Value) (T:TypeId):Blk (w.alloc (.cells cs.toArray T)) w.heap.size cs:=by
 refine⟨by simp,fun j h=>⟨?_,?_⟩⟩
 · rw[World.cell?_alloc_at _ _ _ _ rfl];simp[yAB h]
 · exact World.frozen?_alloc_at _ _ _ _ rfl
theorem Blk.grown {w w':World} {R g:Nat} {cs:List Value} (h:Blk w R cs) (hg:w.grownBy w' (some g)) (b:R≠g):Blk w' R cs:=
 ⟨yAA h.1 hg.size,fun j c=>⟨zB2 hg (h.2 j c).1 b,(zDm (p:=⟨R,j,none⟩) hg h.1 b).trans (h.2 j c).2⟩⟩
theorem Blk.below {w w':World} {R D:Nat} {cs:List Value} (h:Blk w R cs) (hb:Below D w w') (b:R < D):Blk w' R cs:=
 ⟨yAA h.1 hb.size,fun j c=>⟨(hb.cell (p:=⟨R,j,none⟩) b).trans (h.2 j c).1,(hb.frozen (p:=⟨R,j,none⟩) b).trans (h.2 j c).2⟩⟩
section
variable {w w0 w':World} {R:Nat} {cs:List Value} {v0 v1 v2 v3 v4 v5 v6 v7 v8:Value}
theorem zb (h:Blk w R cs) (b:cs.length=9):
 (((((((((w.setCell R v0).setCell ⟨R,1,none⟩ v1).setCell ⟨R,2,none⟩ v2).setCell ⟨R,3,none⟩ v3).setCell ⟨R,4,none⟩ v4).setCell ⟨R,5,none⟩ v5).setCell ⟨R,6,none⟩ v6).setCell ⟨R,7,none⟩ v7).setCell ⟨R,8,none⟩ v8).cell? R=some v0∧(((((((((w.setCell R v0).setCell ⟨R,1,none⟩ v1).setCell ⟨R,2,none⟩ v2).setCell ⟨R,3,none⟩ v3).setCell ⟨R,4,none⟩ v4).setCell ⟨R,5,none⟩ v5).setCell ⟨R,6,none⟩ v6).setCell ⟨R,7,none⟩ v7).setCell ⟨R,8,none⟩ v8).cell? ⟨R,1,none⟩=some v1∧(((((((((w.setCell R v0).setCell ⟨R,1,none⟩ v1).setCell ⟨R,2,none⟩ v2).setCell ⟨R,3,none⟩ v3).setCell ⟨R,4,none⟩ v4).setCell ⟨R,5,none⟩ v5).setCell ⟨R,6,none⟩ v6).setCell ⟨R,7,none⟩ v7).setCell ⟨R,8,none⟩ v8).cell? ⟨R,2,none⟩=some v2∧(((((((((w.setCell R v0).setCell ⟨R,1,none⟩ v1).setCell ⟨R,2,none⟩ v2).setCell ⟨R,3,none⟩ v3).setCell ⟨R,4,none⟩ v4).setCell ⟨R,5,none⟩ v5).setCell ⟨R,6,none⟩ v6).setCell ⟨R,7,none⟩ v7).setCell ⟨R,8,none⟩ v8).cell? ⟨R,3,none⟩=some v3∧(((((((((w.setCell R v0).setCell ⟨R,1,none⟩ v1).setCell ⟨R,2,none⟩ v2).setCell ⟨R,3,none⟩ v3).setCell ⟨R,4,none⟩ v4).setCell ⟨R,5,none⟩ v5).setCell ⟨R,6,none⟩ v6).setCell ⟨R,7,none⟩ v7).setCell ⟨R,8,none⟩ v8).cell? ⟨R,4,none⟩=some v4∧(((((((((w.setCell R v0).setCell ⟨R,1,none⟩ v1).setCell ⟨R,2,none⟩ v2).setCell ⟨R,3,none⟩ v3).setCell ⟨R,4,none⟩ v4).setCell ⟨R,5,none⟩ v5).setCell ⟨R,6,none⟩ v6).setCell ⟨R,7,none⟩ v7).setCell ⟨R,8,none⟩ v8).cell? ⟨R,5,none⟩=some v5∧(((((((((w.setCell R v0).setCell ⟨R,1,none⟩ v1).setCell ⟨R,2,none⟩ v2).setCell ⟨R,3,none⟩ v3).setCell ⟨R,4,none⟩ v4).setCell ⟨R,5,none⟩ v5).setCell ⟨R,6,none⟩ v6).setCell ⟨R,7,none⟩ v7).setCell ⟨R,8,none⟩ v8).cell? ⟨R,6,none⟩=some v6∧(((((((((w.setCell R v0).setCell ⟨R,1,none⟩ v1).setCell ⟨R,2,none⟩ v2).setCell ⟨R,3,none⟩ v3).setCell ⟨R,4,none⟩ v4).setCell ⟨R,5,none⟩ v5).setCell ⟨R,6,none⟩ v6).setCell ⟨R,7,none⟩ v7).setCell ⟨R,8,none⟩ v8).cell? ⟨R,7,none⟩=some v7∧(((((((((w.setCell R v0).setCell ⟨R,1,none⟩ v1).setCell ⟨R,2,none⟩ v2).setCell ⟨R,3,none⟩ v3).setCell ⟨R,4,none⟩ v4).setCell ⟨R,5,none⟩ v5).setCell ⟨R,6,none⟩ v6).setCell ⟨R,7,none⟩ v7).setCell ⟨R,8,none⟩ v8).cell? ⟨R,8,none⟩=some v8:=by
 obtain⟨c0,c⟩:=h.2 0 jo;obtain⟨c1,f1⟩:=h.2 1 jo;obtain⟨c2,d⟩:=h.2 2 jo;obtain⟨c3,e⟩:=h.2 3 jo;obtain⟨c4,f4⟩:=h.2 4 jo;obtain⟨c5,f⟩:=h.2 5 jo;obtain⟨c6,g⟩:=h.2 6 jo;obtain⟨c7,j⟩:=h.2 7 jo;obtain⟨c8,k⟩:=h.2 8 jo;refine⟨?_,?_,?_,?_,?_,?_,?_,?_,?_⟩
 all_goals go_simp
theorem zBr:w.grownBy (((((((((w.setCell R v0).setCell ⟨R,1,none⟩ v1).setCell ⟨R,2,none⟩ v2).setCell ⟨R,3,none⟩ v3).setCell ⟨R,4,none⟩ v4).setCell ⟨R,5,none⟩ v5).setCell ⟨R,6,none⟩ v6).setCell ⟨R,7,none⟩ v7).setCell ⟨R,8,none⟩ v8) (some R):=
 zC (zC (zC (zC (zC (zC (zC (zC (zQ w R 0 v0) (zQ _ R 1 v1)) (zQ _ R 2 v2)) (zQ _ R 3 v3)) (zQ _ R 4 v4)) (zQ _ R 5 v5)) (zQ _ R 6 v6)) (zQ _ R 7 v7)) (zQ _ R 8 v8)
theorem zAG {g:Nat} (h:Mv w0 w g A n c k) (d:w0.heap.size≤R) (hg:g < w0.heap.size):Mv w0 (((((((((w.setCell R v0).setCell ⟨R,1,none⟩ v1).setCell ⟨R,2,none⟩ v2).setCell ⟨R,3,none⟩ v3).setCell ⟨R,4,none⟩ v4).setCell ⟨R,5,none⟩ v5).setCell ⟨R,6,none⟩ v6).setCell ⟨R,7,none⟩ v7).setCell ⟨R,8,none⟩ v8) g A n c k:=by
 have hs:=zBr (w:=w) (R:=R) (v0:=v0) (v1:=v1) (v2:=v2) (v3:=v3) (v4:=v4) (v5:=v5) (v6:=v6) (v7:=v7) (v8:=v8);refine⟨⟨zB2 hs h.rd.c0 (show g≠R by omega),zB2 hs h.rd.c1 (show g≠R by omega),(zDm (p:=⟨g,1,none⟩) hs h.rd.lt (show g≠R by omega)).trans h.rd.f1⟩,?_⟩;exact⟨hs.os.trans h.grown.os,hs.tape.trans h.grown.tape,hs.output.trans h.grown.output,yAD h.grown.size hs.size,fun i hi b=>(hs.block i (yAA hi h.grown.size) (fun e=>by injection e with e;omega)).trans (h.grown.block i hi b)⟩
theorem zBG {base e:TypeId} {v:Value} (h:w.ownsRow base e 1 v n xs) (hb:R < base):(((((((((w.setCell R v0).setCell ⟨R,1,none⟩ v1).setCell ⟨R,2,none⟩ v2).setCell ⟨R,3,none⟩ v3).setCell ⟨R,4,none⟩ v4).setCell ⟨R,5,none⟩ v5).setCell ⟨R,6,none⟩ v6).setCell ⟨R,7,none⟩ v7).setCell ⟨R,8,none⟩ v8).ownsRow base e 1 v n xs:=zBt h zBr hb
end
def zXd (w:World) (base:Nat) (t:Tok) (v:Value):Prop:=
 ∃vs vm,v=.agg #[t.kind,t.text,vs,t.nk,t.nn,false,vm,t.pos,t.nl]∧
  w.ownsRow base 65 1 vs t.str.length (zAM t.str)∧w.ownsRow base 67 1 vm t.mag.length (t.mag.map fun n:Nat=>Value.int .u32 (n:Int))
theorem zGq {a b:Nat} {s:Tok} (h:((a,t,m):Ans)=(b,s,k)):a=b∧t=s∧m=k:=by
 simp only[Prod.mk.injEq]at h;exact h
theorem zCP {x:Nat} {s:Tok} (h:bad x=(e,s,k)):x=e∧zq=s∧0=k:=zGq h
theorem zM3 {g:Nat} {w:World} (J:Rd w g A n c k) (S:u.length=n) (L:Reads w B 1 A n (zAM u)) (hB:B≤g) (hk:k≤n) (M:n≤4096) (d:zCp (u.drop k)=(e,t,m)):
 Calls prog 61 #[.pointer (some g)] w fun T w'=>∃v,T=.returned (.tuple #[v,e])∧(e≠0→v=noV)∧(e=0→zXd w' w.heap.size t v∧Mv w w' g A n c (k+m))∧w.grownBy w' (some g):=by
 subst S;have hg:=J.lt;obtain⟨l,o⟩:=jx ((u.drop k).takeWhile zA2);have N:k+l.length≤u.length:=by
  have h1:=zBb zA2 (u.drop k);rw[o,List.length_drop]at h1;omega
 unfold zCp at d;rw[o,List.drop_drop]at d;obtain⟨b,hb⟩:=jx (zp [92] (u.drop (k+l.length)));rw[hb]at d;have U:=zA o;have V:=zA hb;have O:=zA d;have W:=zA L;have P:=zA (J.alloc (.cells zBY.toArray 80));have F:=zA (L.alloc (yAD hB (Nat.le_of_lt hg)) (.cells zBY.toArray 80));have Q:=zA (Blk.new w zBY 80);have G:=zA (zF w (.cells zBY.toArray 80) (some g));clear o hb d L J;go_enter func61,ntmps61;go_wp2_with fail;refine(zSk P rfl F hB hk M U).mono ?_;rintro e1 w1 ⟨rfl,p⟩;have r:=zA p.rd;have s:=zA (zC G p.grown);have H:=zA (W.out.grown s hB (Nat.le_of_lt hg));have I:=zA (Q.out.grown p.grown jo);clear p;go_wp2_with fail;refine(zAw ⟨#[92]⟩ r rfl H N M jd V).mono ?_;rintro e2 w2 ⟨rfl,m2,y⟩;have j:=zA (show Mv w w2 g A u.length c (k+l.length) by rw[y];exact⟨r.out.drewN m2,zC s (zAE _ _ _)⟩);have f:=zA (show Blk w2 w.heap.size zBY by rw[y];exact I.out.grown (zAE w1 (some g) m2) jo);clear y m2 r s H I P F Q G;obtain⟨c0,X⟩:=f.out.2 0 jd;obtain⟨c1,f1⟩:=f.out.2 1 jd;obtain⟨c2,Y⟩:=f.out.2 2 jd;obtain⟨c3,f3⟩:=f.out.2 3 jd;obtain⟨c4,f4⟩:=f.out.2 4 jd;obtain⟨c5,f5⟩:=f.out.2 5 jd;obtain⟨c6,f6⟩:=f.out.2 6 jd;obtain⟨c7,f7⟩:=f.out.2 7 jd;obtain⟨c8,f8⟩:=f.out.2 8 jd;cases b with
 | true=>
  have d:=O.out;rw[if_pos rfl]at d;have q:=zA d;clear d;go_wp2;obtain⟨q0,q1,q2,q3,q4,q5,q6,q7,q8⟩:=zb (v0:=(0:Int)) (v1:= "") (v2:=()) (v3:=(0:Int)) (v4:=(0:Int)) (v5:=false) (v6:=()) (v7:=(0:Int)) (v8:=false) f rfl;refine bodyPost_ret (v:=.tuple #[.agg #[(0:Int),"",(),(0:Int),(0:Int),false,(),(0:Int),false],(6:Int)]) (by simp[results,results61,go_sem,q0,q1,q2,q3,q4,q5,q6,q7,q8]) rfl ?_;obtain⟨z,D,E⟩:=zCP q;subst z;exact⟨_,rfl,fun _=>rfl,fun h=>absurd h jd,(zAG j (yAC _) hg).grown⟩
 | false=>
  have d:=O.out;rw[if_neg js]at d;have q:=zA d;clear d
  by_cases R:0 < zCW (asc l)
  · have d:=q.out;rw[if_pos R]at d;have C:=zA d;clear d;go_wp2_with (go_at_call 97;refine(zD7 _ _).mono ?_;rintro e3 w3 ⟨rfl,rfl⟩);obtain⟨q0,q1,q2,q3,q4,q5,q6,q7,q8⟩:=zb (v0:=(6:Int)) (v1:=(asc l)) (v2:=()) (v3:=(0:Int)) (v4:=(0:Int)) (v5:=false) (v6:=()) (v7:=(0:Int)) (v8:=false) f rfl;refine bodyPost_ret (v:=.tuple #[.agg #[(6:Int),(asc l),(),(0:Int),(0:Int),false,(),(0:Int),false],(0:Int)]) (by simp[results,results61,go_sem,q0,q1,q2,q3,q4,q5,q6,q7,q8]) rfl ?_;obtain⟨z,D,E⟩:=zGq C;subst z D E;exact⟨_,rfl,fun h=>absurd rfl h,fun _=>⟨⟨_,_,rfl,yAJ _ _ _ _,yAJ _ _ _ _⟩,zAG j (yAC _) hg⟩,(zAG j (yAC _) hg).grown⟩
  · have d:=q.out;rw[if_neg R]at d;have C:=zA d;clear d;go_wp2_with (go_at_call 97;refine(zD7 _ _).mono ?_;rintro e3 w3 ⟨rfl,rfl⟩);obtain⟨q0,q1,q2,q3,q4,q5,q6,q7,q8⟩:=zb (v0:=(1:Int)) (v1:=(asc l)) (v2:=()) (v3:=(0:Int)) (v4:=(0:Int)) (v5:=false) (v6:=()) (v7:=(0:Int)) (v8:=false) f rfl;refine bodyPost_ret (v:=.tuple #[.agg #[(1:Int),(asc l),(),(0:Int),(0:Int),false,(),(0:Int),false],(0:Int)]) (by simp[results,results61,go_sem,q0,q1,q2,q3,q4,q5,q6,q7,q8]) rfl ?_;obtain⟨z,D,E⟩:=zGq C;subst z D E;exact⟨_,rfl,fun h=>absurd rfl h,fun _=>⟨⟨_,_,rfl,yAJ _ _ _ _,yAJ _ _ _ _⟩,zAG j (yAC _) hg⟩,(zAG j (yAC _) hg).grown⟩
theorem zM4 (l r:List UInt16):∀v,zEa v (l++r)=zEa (zEa v l) r:=by
 induction l with
 | nil=>intro v;rfl
 | cons x l b=>intro v;exact b _
theorem zKg (l:List UInt16) (x:UInt16):zEa 0 (l++[x])=16*zEa 0 l+zIE x:=by rw[zM4];rfl
theorem zaQ {a b:Nat} (c:a < 4096) (hb:b < 16):bits .or .u16 ((16*a:Nat):Int) (b:Int)=((16*a+b:Nat):Int):=by
 have e1:(BitVec.ofInt 16 ((16*a:Nat):Int)).toNat=16*a:=by rw[BitVec.ofInt_natCast,BitVec.toNat_ofNat];omega
 have e2:(BitVec.ofInt 16 (b:Int)).toNat=b:=by rw[BitVec.ofInt_natCast,BitVec.toNat_ofNat];omega
 show IntKind.u16.wrap ((BitVec.ofInt 16 ((16*a:Nat):Int) ||| BitVec.ofInt 16 (b:Int)).toNat:Int)=_;rw[BitVec.toNat_or,e1,e2,show 16*a=2^4*a from rfl,←Nat.two_pow_add_eq_or_of_lt (by omega:b < 2^4),IntKind.wrap_u16];omega
def AtCode (u:List UInt16) (k j v:Nat):Prop:=j≤(u.drop k).length∧v=zEa 0 ((u.drop k).take j)∧((u.drop k).take j).all zEV=true∧v < 16^j
theorem AtCode.step {j:Nat} (h:AtCode u k j v) (l:k+j < u.length) (b:zEV u[k+j]=true):AtCode u k (j+1) (16*v+zIE u[k+j]):=by
 obtain⟨h1,e,f,m⟩:=h;have c:j < (u.drop k).length:=by rw[List.length_drop];omega
 have d:(u.drop k).take (j+1)=(u.drop k).take j++[u[k+j]]:=by rw[yAL c,List.getElem_drop]
 have g:zIE u[k+j] < 16:=of_decide_eq_true b;refine⟨by omega,by rw[d,zKg,e],by rw[d,List.all_append,f];simp[b],?_⟩;rw[Nat.pow_succ];omega
theorem AtCode.stepQ {j p:Nat} (h:AtCode u k j v) (e:p=k+j) (b:p < u.length) (c:zEV u[p]=true):AtCode u k (j+1) (16*v+zIE u[p]):=by
 subst e;exact h.step b c
theorem AtCode.done {j:Nat} (h:AtCode u k j v):zCX j (u.drop k)=(0,UInt16.ofNat v,j):=by
 obtain⟨h1,b,c,_⟩:=h;unfold zCX;rw[if_pos (by rw[c,decide_eq_true h1];rfl),b]
theorem AtCode.bad {j cnt:Nat} (_h:AtCode u k j v) (d:j < cnt) (b:zBN 0 zEV (u.drop (k+j))=false):zCX cnt (u.drop k)=(5,0,0):=by
 unfold zCX;rw[if_neg];intro c;simp only[Bool.and_eq_true,decide_eq_true_eq]at c;obtain⟨c1,c2⟩:=c;rw[List.length_drop]at c1;have e:k+j < u.length:=by omega
 have f:u[k+j]∈(u.drop k).take cnt:=by
  rw[List.mem_iff_getElem?];exact⟨j,by rw[List.getElem?_take,if_pos d,List.getElem?_drop,yAB e]⟩
 have g:=List.all_eq_true.1 c2 _ f;have l:=zD5 (u:=u) (k:=k+j) (j:=0) (p:=zEV) jo;rw[l]at b;simp only[Nat.add_zero]at b;rw[g]at b;cases b
theorem zJa {g cnt:Nat} {w:World} (F:Rd w g A n c k) (Y:u.length=n) (O:Reads w B 1 A n (zAM u)) (hB:B≤g) (hk:k≤n) (P:n≤4096) (a0:cnt≤4) (Q:zCX cnt (u.drop k)=(e,y,m)):
 Calls prog 130 #[.pointer (some g),cnt] w fun ev w'=>ev=.returned (.tuple #[.int .u16 (y.toNat:Int),e])∧(e=0→Mv w w' g A n c (k+m))∧w.grownBy w' (some g):=by
 subst Y;have R:=zA Q;have HA:=zA O;have hg:=F.lt;have S:=zA (Mv.refl F);clear Q O F;go_enter func130,ntmps130;go_wp2
 go_loopg [6,8] cnt (fun r v i wr=>∃j G p,j+r=cnt∧i=.int .i64 (j:Nat)∧v=.int .u16 (G:Nat)∧G < 65536∧Hid (p=k+j)∧Hid (Mv w wr g A u.length c p)∧Hid (AtCode u k j G))
 case atStart=>exact⟨0,0,k,by omega,rfl,rfl,by omega,rfl,S,yAE _,rfl,rfl,by decide⟩
 case round=>
  obtain⟨j,v,p,a1,rfl,rfl,hv,d,o,f⟩:=hrel;have z:=zA (HA.out.grown o.out.grown hB (Nat.le_of_lt hg));have C:p≤u.length:=by have:=f.out.1;have:=d.out;rw[List.length_drop]at *;omega
  by_cases T:j < cnt
  · cases hqx:zBN 0 zEV (u.drop p)with
    | true=>
     have U:p < u.length:=by
      rcases Nat.lt_or_ge p u.length with h | h
      · exact h
      · rw[zDW (u:=u) (k:=p) (j:=0) (p:=zEV) jo]at hqx;cases hqx
     have b:zEV u[p]=true:=by
      have h5:=zD5 (u:=u) (k:=p) (j:=0) (p:=zEV) jo;rw[h5]at hqx;simpa using hqx
     have D:=zA (f.out.stepQ d U b);have E:zIE u[p] < 16:=of_decide_eq_true b;have V:v < 4096:=by
      have:=f.out.2.2.2;have h2:16^j≤16^3:=Nat.pow_le_pow_right jo jo;omega
     have H:=zA hqx;clear hqx b;go_wp2_with fail;refine(zPI (j:=0) o.out.rd rfl z C P jo H).mono ?_;rintro e1 w1 ⟨rfl,m1,l⟩;have s:=zA (show Mv w w1 g A u.length c p by rw[l];exact o.out.drewN m1);have I:=zA (show Reads w1 B 1 A u.length (zAM u) by rw[l];exact z.out.drewN m1);clear l;have a2:=s.out.rd.c0;have a3:=s.out.rd.c1;have a4:=s.out.rd.f1;obtain⟨blk,off,rfl,_,t⟩:=I.out.spotL jo;have W:=t p U;have a5:(p:Int) < (u.length:Int):=by omega
     obtain⟨x,b⟩:=jx (u[p]);rw[b]at W D E;have HH:=zA (zaQ V E);clear t b;go_wp2_with fail
     go_quiet (first | (go_at_call 151;refine Calls.quiet_of_same ((zLv _ _).mono fun _ _ h=>zD6 h)))
     go_wp2
     go_roundg (gk - 1)
     case measure=>omega
     case rel=>
      refine⟨j+1,16*v+zIE x,p+1,by omega,by go_num,congrArg (Value.int .u16) (by rw[show(v:Int)*16=((16*v:Nat):Int) by omega];exact HH.out),by omega,?_,?_,D⟩
      · have:=d.out;exact zA jo
      · exact Mv.step (s.out.drewN _) jo
    | false=>
     have H:=zA hqx;have J:=zA (f.out.bad T (by rw[←d.out];exact hqx));clear hqx;go_wp2_with fail;refine(zPI (j:=0) o.out.rd rfl z C P jo H).mono ?_;rintro e1 w1 ⟨rfl,m1,l⟩;subst l;go_wp2
     go_ret2
     have q:=J.out;rw[R.out]at q;simp only[Prod.mk.injEq]at q;obtain⟨L,M,N⟩:=q;subst L M N;exact⟨rfl,fun h=>absurd h jd,(o.out.drewN m1).grown⟩
  · obtain rfl:j=cnt:=by omega
    have X:=zA f.out.done;go_wp2
    go_ret2
    have q:=X.out;rw[R.out]at q;simp only[Prod.mk.injEq]at q;obtain⟨L,M,N⟩:=q;subst L M N;refine⟨?_,fun _=>by rw[←d.out];exact o.out,o.out.grown⟩;have:(UInt16.ofNat v).toNat=v:=by simp;omega
    rw[this];rfl
theorem zHP (s:ByteArray) (c:Int) (w:World):
 (callFunc 159 #[.string s,.int .u8 c]).run prog w=.ok (.value (.int .i64 (Lib.indexByte s.data.toList c.toNat.toUInt8))) w:=by
 rw[run_callFunc_indexByte func159 (by kernel_rfl) (by kernel_rfl) (by kernel_rfl) (by kernel_rfl),Lib.run_indexByteString];rfl
theorem zGr (s:ByteArray) (c:Int) (w:World):Calls prog 149 #[.string s,.int .u8 c] w fun e w'=>e=.returned (Lib.indexByte s.data.toList c.toNat.toUInt8:Int)∧w=w':=by
 have b:=zHP s c;go_enter func149,ntmps149;go_wp2;go_ret;exact⟨rfl,rfl⟩
theorem zEh (s:ByteArray) (c:Int) (w:World) {i:Int} (hi:Lib.indexByte s.data.toList c.toNat.toUInt8=i):Calls prog 129 #[.string s,.int .u8 c] w fun e w'=>e=.returned i∧w=w':=by
 subst hi;go_enter func129,ntmps129;go_wp2_with (go_at_call 149;refine(zGr _ _ _).mono ?_;rintro e w' ⟨rfl,rfl⟩);go_ret;exact⟨rfl,rfl⟩
def zVH (x:UInt16):Int:=Lib.indexByte [110,116,114,98,118,102] (IntKind.u8.wrap (x.toNat:Int)).toNat.toUInt8
theorem zPM (h:x.toNat < 128) (hs:zB3 x=none):zVH x= -1:=by
 have e:(IntKind.u8.wrap (x.toNat:Int)).toNat=x.toNat:=by rw[IntKind.wrap_u8];omega
 unfold zVH;rw[e];have b:∀k:UInt16,k∈([110,116,114,98,118,102]:List UInt16)→x≠k:=by
  intro k hk c;subst c;revert hs;simp only[List.mem_cons,List.mem_nil_iff,or_false]at hk;rcases hk with rfl | rfl | rfl | rfl | rfl | rfl<;>decide
 have hb:∀k:UInt16,k∈([110,116,114,98,118,102]:List UInt16)→(k.toNat.toUInt8==x.toNat.toUInt8)=false:=by
  intro k hk;have h1:=b k hk;rw[yA];intro d;apply h1;refine UInt16.toNat_inj.1 ?_;have f:=congrArg UInt8.toNat d;have q:k.toNat < 128:=by
   simp only[List.mem_cons,List.mem_nil_iff,or_false]at hk;rcases hk with rfl | rfl | rfl | rfl | rfl | rfl<;>decide
  simp at f;omega
 have g:=hb 110 js;have j:=hb 116 js;have l:=hb 114 js;have m:=hb 98 js;have o:=hb 118 js;have p:=hb 102 js;have c1:((110:UInt8)==x.toNat.toUInt8)=false:=g;have c2:((116:UInt8)==x.toNat.toUInt8)=false:=j;have c3:((114:UInt8)==x.toNat.toUInt8)=false:=l;have c4:((98:UInt8)==x.toNat.toUInt8)=false:=m;have c5:((118:UInt8)==x.toNat.toUInt8)=false:=o;have c6:((102:UInt8)==x.toNat.toUInt8)=false:=p;generalize x.toNat.toUInt8=z at c1 c2 c3 c4 c5 c6⊢;simp only[Lib.indexByte,c1,c2,c3,c4,c5,c6,Bool.false_eq_true,if_false];rfl
theorem zJb (h:zB3 x=some y):(x=110∧y=10)∨(x=116∧y=9)∨(x=114∧y=13)∨(x=98∧y=8)∨(x=118∧y=11)∨(x=102∧y=12):=by
 unfold zB3 at h
 repeat' split at h
 all_goals simp_all
theorem zWG (h:k < u.length):zEW (u.drop k)=if(zB3 u[k]).isSome=true then(0,(zB3 u[k]).getD 0,1)else zRg u[k] (u.drop (k+1)):=by
 rw[yAH h];rfl
theorem zPN (p:Nat×UInt16×Nat):(more 1 p).1=p.1∧(more 1 p).2.1=p.2.1∧(p.1=0→(more 1 p).2.2=1+p.2.2):=by
 unfold more;split
 · rename_i h;exact⟨h.symm,rfl,fun _=>rfl⟩
 · rename_i h;exact⟨rfl,rfl,fun b=>absurd b h⟩
theorem zGs {a b:Nat} {d:Nat} (h:(a,x,b)=(c,y,d)):a=c∧x=y∧b=d:=by
 simp only[Prod.mk.injEq]at h;exact h
theorem zLy {w wc w3:World} {g e1 m1:Nat} {b:UInt16} (h:more 1 (e1,b,m1)=(e,y,m)) (l:e1=0→Mv wc w3 g A n c (k+1+m1)) (o:wc.grownBy w3 (some g)) (d:w.grownBy wc (some g)):
 Ending.returned (.tuple #[.int .u16 (b.toNat:Int),e1])=.returned (.tuple #[.int .u16 (y.toNat:Int),e])∧(e=0→Mv w w3 g A n c (k+m))∧w.grownBy w3 (some g):=by
 obtain⟨q1,q2,q3⟩:=zPN (e1,b,m1);rw[h]at q1 q2 q3;simp only at q1 q2 q3;subst q1 q2;refine⟨rfl,fun f=>?_,zC d o⟩;have:=q3 f;have j:=l f;rw[show k+m=k+1+m1 by omega];exact⟨j.rd,zC d j.grown⟩
theorem zGt {g:Nat} {w:World} (M:Rd w g A n c k) (hn:u.length=n) (W:Reads w B 1 A n (zAM u)) (hB:B≤g) (hk:k≤n) (t:n≤4096) (C:zEW (u.drop k)=(e,y,m)):
 Calls prog 101 #[.pointer (some g)] w fun ev w'=>ev=.returned (.tuple #[.int .u16 (y.toNat:Int),e])∧(e=0→Mv w w' g A n c (k+m))∧w.grownBy w' (some g):=by
 subst hn;have hg:=M.lt;have a4:=M.c0;have a5:=M.c1;have a6:=M.f1
 by_cases Q:k < u.length
 · rw[zWG Q]at C;have G:=zA (Mv.refl M);have HA:=zA W;obtain⟨blk,off,rfl,_,N⟩:=W.spotL jo;have Y:=N k Q;have hx:=u[k].toNat_lt;obtain⟨x,a0⟩:=jx (u[k]);rw[a0]at Y C hx;have b0:(k:Int) < (u.length:Int):=by omega
   have a7:((k:Int)==(u.length:Int))=false:=yA.2 jo;have P:=zA C;clear N a0 C W M;cases hs:zB3 x with
   | some z=>
    have C:=P.out;rw[hs]at C;simp only[Option.isSome_some,if_true,Option.getD_some,Prod.mk.injEq]at C;obtain⟨q1,q2,q3⟩:=C;have HE:=zA q1;have HY:=zA q2;have HM:=zA q3;clear q1 q2 q3 P;rcases zJb hs with⟨rfl,rfl⟩ | ⟨rfl,rfl⟩ | ⟨rfl,rfl⟩ | ⟨rfl,rfl⟩ | ⟨rfl,rfl⟩ | ⟨rfl,rfl⟩
    all_goals clear hs
    all_goals
     go_enter func101,ntmps101;go_wp2_with fail
     go_quiet (fail)
     go_wp2_with fail
     go_quiet (fail)
     go_wp2_with (go_at_call 129;refine(zEh _ _ _ (by rfl)).mono ?_;rintro e1 w1 ⟨rfl,rfl⟩)
     go_ret2
     obtain rfl:=HY.out;obtain rfl:=HE.out;exact⟨rfl,fun _=>by rw[←HM.out];exact(Mv.step (G.out.drewN _) jo).below (ja),((Mv.step (G.out.drewN _) (k':=k+1) jo).below (ja)).grown⟩
   | none=>
    have HR:=zA (show zRg x (u.drop (k+1))=(e,y,m) by have h:=P.out;rw[hs]at h;simpa using h);obtain⟨i,hi⟩:=jx (Lib.indexByte (⟨#[110,116,114,98,118,102]⟩:ByteArray).data.toList (IntKind.u8.wrap (x.toNat:Int)).toNat.toUInt8);have HI:=zA hi;have a1:x.toNat < 128→i= -1:=fun h=>by rw[←hi];exact zPM h hs
    have a2:=zA a1;clear hi a1 hs P;go_enter func101,ntmps101;go_wp2_with fail
    go_quiet (fail)
    go_wp2_with fail
    go_quiet (fail)
    go_upto_region 6 with(go_at_call 129;refine(zEh _ _ _ HI.out).mono ?_;rintro e1 w1 ⟨rfl,rfl⟩)
    go_cut [41] (fun v wx=>v=.bool false∧Hid (Mv w wx g (some ⟨blk,off,none⟩) u.length c (k+1)))
    case first=>
     by_cases a8:x.toNat < 128
     · obtain rfl:=a2.out a8;go_wp2_with fail;go_meet;exact⟨rfl,Mv.step (G.out.drewN _) jo⟩
     · have b1:¬(x.toNat:Int) < 128:=by omega
       go_wp2_with fail;go_meet;exact⟨rfl,Mv.step (G.out.drewN _) jo⟩
    case rest=>
     obtain⟨hv,o⟩:=hcut;subst hv;clear a4 a5 a6 Y a7 HI a2 G;have p:=zA (HA.out.grown o.out.grown hB (Nat.le_of_lt hg));have q:k+1≤u.length:=Q;have l:=HR.out;unfold zRg at l;obtain⟨d,hd⟩:=jx (zBN 0 zM (u.drop (k+1)));obtain⟨b,hb⟩:=jx (zp [123] (u.drop (k+1)));rw[hd,hb]at l;have L:=zA hd;have X:=zA hb;clear hd hb HR
     by_cases J:x.toNat=48
     · have a9:((x.toNat:Int)==48)=true:=by rw[J];rfl
       have O:zM x=true:=zBB.2 jo;rw[J]at l;cases d with
       | false=>
        have r:=zA (show(0,(0:UInt16),1)=(e,y,m) by simpa using l);clear l J;go_wp2_with (first | (go_at_call 65;refine(zAt (j:=0) o.out.rd rfl p.out q t jo L.out).mono ?_;rintro e2 w2 ⟨rfl,m2,f⟩;subst f) | (go_at_call 62;refine(zAH _ _).mono ?_;rintro e2 w2 ⟨rfl,rfl⟩) | (go_at_call 57;refine(zAT _ _).mono ?_;rintro e2 w2 ⟨rfl,rfl⟩) | (go_at_call 94;refine(zBK _ _).mono ?_;rintro e2 w2 ⟨rfl,rfl⟩))
        go_ret2
        obtain⟨D,E,F⟩:=zGs r;subst D E F;exact⟨rfl,fun _=>o.out.drewN _,(o.out.drewN _).grown⟩
       | true=>
        have r:=zA (show(5,(0:UInt16),0)=(e,y,m) by rw[O]at l;simpa using l);clear l J;go_wp2_with (first | (go_at_call 65;refine(zAt (j:=0) o.out.rd rfl p.out q t jo L.out).mono ?_;rintro e2 w2 ⟨rfl,m2,f⟩;subst f) | (go_at_call 62;refine(zAH _ _).mono ?_;rintro e2 w2 ⟨rfl,rfl⟩) | (go_at_call 57;refine(zAT _ _).mono ?_;rintro e2 w2 ⟨rfl,rfl⟩) | (go_at_call 94;refine(zBK _ _).mono ?_;rintro e2 w2 ⟨rfl,rfl⟩))
        go_ret2
        obtain⟨D,E,F⟩:=zGs r;subst D E F;exact⟨rfl,fun h=>absurd h jd,(o.out.drewN _).grown⟩
     have a9:((x.toNat:Int)==48)=false:=yA.2 jo;rw[show(x.toNat==48)=false from yA.2 J]at l;simp only[Bool.false_and,Bool.false_eq_true,if_false]at l;clear J;cases O:zM x with
     | true=>
      rw[O,if_pos rfl]at l;have r:=zA l;clear l;go_wp2_with (first | (go_at_call 65;refine(zAt (j:=0) o.out.rd rfl p.out q t jo L.out).mono ?_;rintro e2 w2 ⟨rfl,m2,f⟩;subst f) | (go_at_call 62;refine(zAH _ _).mono ?_;rintro e2 w2 ⟨rfl,rfl⟩) | (go_at_call 57;refine(zAT _ _).mono ?_;rintro e2 w2 ⟨rfl,rfl⟩) | (go_at_call 94;refine(zBK _ _).mono ?_;rintro e2 w2 ⟨rfl,rfl⟩))
      go_ret2
      obtain⟨D,E,F⟩:=zGs r;subst D E F;exact⟨rfl,fun h=>absurd h jd,o.out.grown⟩
     | false=>
      rw[O]at l;simp only[Bool.false_eq_true,if_false]at l;cases hln:zAI x with
      | true=>
       rw[hln]at l;have r:=zA (show(6,(0:UInt16),0)=(e,y,m) by simpa using l);clear l;go_wp2_with (first | (go_at_call 65;refine(zAt (j:=0) o.out.rd rfl p.out q t jo L.out).mono ?_;rintro e2 w2 ⟨rfl,m2,f⟩;subst f) | (go_at_call 62;refine(zAH _ _).mono ?_;rintro e2 w2 ⟨rfl,rfl⟩) | (go_at_call 57;refine(zAT _ _).mono ?_;rintro e2 w2 ⟨rfl,rfl⟩) | (go_at_call 94;refine(zBK _ _).mono ?_;rintro e2 w2 ⟨rfl,rfl⟩))
       go_ret2
       obtain⟨D,E,F⟩:=zGs r;subst D E F;exact⟨rfl,fun h=>absurd h jd,o.out.grown⟩
      | false=>
       rw[hln]at l;cases hfr:zIC x with
       | true=>
        rw[hfr]at l;have r:=zA (show(6,(0:UInt16),0)=(e,y,m) by simpa using l);clear l;go_wp2_with (first | (go_at_call 65;refine(zAt (j:=0) o.out.rd rfl p.out q t jo L.out).mono ?_;rintro e2 w2 ⟨rfl,m2,f⟩;subst f) | (go_at_call 62;refine(zAH _ _).mono ?_;rintro e2 w2 ⟨rfl,rfl⟩) | (go_at_call 57;refine(zAT _ _).mono ?_;rintro e2 w2 ⟨rfl,rfl⟩) | (go_at_call 94;refine(zBK _ _).mono ?_;rintro e2 w2 ⟨rfl,rfl⟩))
        go_ret2
        obtain⟨D,E,F⟩:=zGs r;subst D E F;exact⟨rfl,fun h=>absurd h jd,o.out.grown⟩
       | false=>
        rw[hfr]at l
        by_cases s:x.toNat=117
        · have a3:((x.toNat:Int)==117)=true:=by rw[s];rfl
          have R:((x.toNat:Int)==120)=false:=by rw[s];rfl
          rw[s]at l;clear s;cases b with
          | true=>
           have r:=zA (show(6,(0:UInt16),0)=(e,y,m) by simpa using l);clear l;go_wp2_with (first | (go_at_call 65;refine(zAt (j:=0) o.out.rd rfl p.out q t jo L.out).mono ?_;rintro e2 w2 ⟨rfl,m2,f⟩;subst f) | (go_at_call 62;refine(zAH _ _).mono ?_;rintro e2 w2 ⟨rfl,rfl⟩) | (go_at_call 57;refine(zAT _ _).mono ?_;rintro e2 w2 ⟨rfl,rfl⟩) | (go_at_call 94;refine(zBK _ _).mono ?_;rintro e2 w2 ⟨rfl,rfl⟩) | (go_at_call 58;refine(zAw ⟨#[123]⟩ o.out.rd rfl p.out q t jd X.out).mono ?_;rintro e2 w2 ⟨rfl,m2,f⟩;subst f))
           go_ret2
           obtain⟨D,E,F⟩:=zGs r;subst D E F;exact⟨rfl,fun h=>absurd h jd,(o.out.drewN _).grown⟩
          | false=>
           have S:more 1 (zCX 4 (u.drop (k+1)))=(e,y,m):=by simpa using l
           obtain⟨⟨e1,y1,m1⟩,H⟩:=jx (zCX 4 (u.drop (k+1)));rw[H]at S;have r:=zA S;have T:=zA H;clear l S H;go_wp2_with (first | (go_at_call 65;refine(zAt (j:=0) o.out.rd rfl p.out q t jo L.out).mono ?_;rintro e2 w2 ⟨rfl,m2,f⟩;subst f) | (go_at_call 62;refine(zAH _ _).mono ?_;rintro e2 w2 ⟨rfl,rfl⟩) | (go_at_call 57;refine(zAT _ _).mono ?_;rintro e2 w2 ⟨rfl,rfl⟩) | (go_at_call 94;refine(zBK _ _).mono ?_;rintro e2 w2 ⟨rfl,rfl⟩) | (go_at_call 58;refine(zAw ⟨#[123]⟩ o.out.rd rfl p.out q t jd X.out).mono ?_;rintro e2 w2 ⟨rfl,m2,f⟩;subst f) | (go_at_call 130;refine(zJa (cnt:=4) (o.out.rd.drewN _) rfl (p.out.drewN _) hB q t jo T.out).mono ?_;rintro e3 w3 ⟨rfl,U,V⟩))
           go_ret2
           exact zLy r U V (o.out.drewN _).grown
        · have a3:((x.toNat:Int)==117)=false:=yA.2 jo;rw[show(x.toNat==117)=false from yA.2 s]at l;simp only[Bool.or_self,Bool.false_and,Bool.false_eq_true,if_false]at l
          by_cases I:x.toNat=120
          · have R:((x.toNat:Int)==120)=true:=by rw[I];rfl
            rw[if_pos I]at l;obtain⟨⟨e1,y1,m1⟩,H⟩:=jx (zCX 2 (u.drop (k+1)));rw[H]at l;have r:=zA l;have T:=zA H;clear l H s I;go_wp2_with (first | (go_at_call 65;refine(zAt (j:=0) o.out.rd rfl p.out q t jo L.out).mono ?_;rintro e2 w2 ⟨rfl,m2,f⟩;subst f) | (go_at_call 62;refine(zAH _ _).mono ?_;rintro e2 w2 ⟨rfl,rfl⟩) | (go_at_call 57;refine(zAT _ _).mono ?_;rintro e2 w2 ⟨rfl,rfl⟩) | (go_at_call 94;refine(zBK _ _).mono ?_;rintro e2 w2 ⟨rfl,rfl⟩) | (go_at_call 58;refine(zAw ⟨#[123]⟩ o.out.rd rfl p.out q t jd X.out).mono ?_;rintro e2 w2 ⟨rfl,m2,f⟩;subst f) | (go_at_call 130;refine(zJa (cnt:=2) o.out.rd rfl p.out hB q t jo T.out).mono ?_;rintro e3 w3 ⟨rfl,U,V⟩))
            go_ret2
            exact zLy r U V o.out.grown
          · have R:((x.toNat:Int)==120)=false:=yA.2 jo;rw[if_neg I,if_neg s]at l;have r:=zA l;clear l s I;go_wp2_with (first | (go_at_call 65;refine(zAt (j:=0) o.out.rd rfl p.out q t jo L.out).mono ?_;rintro e2 w2 ⟨rfl,m2,f⟩;subst f) | (go_at_call 62;refine(zAH _ _).mono ?_;rintro e2 w2 ⟨rfl,rfl⟩) | (go_at_call 57;refine(zAT _ _).mono ?_;rintro e2 w2 ⟨rfl,rfl⟩) | (go_at_call 94;refine(zBK _ _).mono ?_;rintro e2 w2 ⟨rfl,rfl⟩) | (go_at_call 58;refine(zAw ⟨#[123]⟩ o.out.rd rfl p.out q t jd X.out).mono ?_;rintro e2 w2 ⟨rfl,m2,f⟩;subst f))
            go_ret2
            obtain⟨D,E,F⟩:=zGs r;subst D E F;exact⟨rfl,fun _=>o.out,o.out.grown⟩
 · obtain rfl:k=u.length:=by omega
   rw[List.drop_length]at C;have P:=zA C;have G:=zA (Mv.refl M);clear C M W;go_enter func101,ntmps101;go_wp2_with fail
   go_quiet (fail)
   go_wp2
   go_ret2
   have C:=P.out;simp only[zEW,Prod.mk.injEq]at C;obtain⟨q1,q2,q3⟩:=C;subst q1 q2 q3;exact⟨rfl,fun h=>absurd h jd,(G.out.drewN _).grown⟩
theorem zSl (q:UInt16):∀(f g:Nat) (l:List UInt16) (b:List UInt16),l.length < f→l.length < g→zDQ q f l b=zDQ q g l b:=by
 intro f
 induction f with
 | zero=>intro g l b c _;omega
 | succ f d=>
  intro g l b c hg;obtain⟨g,rfl⟩:∃m,g=m+1:=⟨g - 1,by omega⟩;cases l with
  | nil=>rfl
  | cons x r=>
   simp only[List.length_cons]at c hg;unfold zDQ;rw[d g r (b++[x]) jo jo]
   by_cases e:(zEW r).1≠0
   · simp only[e,if_true,ne_eq,not_false_eq_true]
   · have j:=zFi (yAK.1 e);rw[d g (r.drop (zEW r).2.2) (b++[(zEW r).2.1]) (by rw[List.length_drop];omega) (by rw[List.length_drop];omega)]
def zFl (q:UInt16) (l acc:List UInt16):Nat×List UInt16×Nat:=zDQ q (l.length+1) l acc
def zJc (n:Nat) (p:Nat×List UInt16×Nat):Nat×List UInt16×Nat:=(p.1,p.2.1,n+p.2.2)
theorem zSm (q:UInt16) (b:List UInt16):zFl q [] b=(5,[],0):=rfl
theorem zPO {q:UInt16} {b:List UInt16} (h:zAI x=true):zFl q (x::r) b=(5,[],0):=by
 unfold zFl;rw[zDQ,if_pos h]
theorem zSn {q:UInt16} {b:List UInt16} (h:zAI q=false):zFl q (q::r) b=(0,b,1):=by
 unfold zFl;rw[zDQ,if_neg (by rw[h];simp),if_pos rfl]
theorem zM5 {q:UInt16} {b:List UInt16} (h:zAI x=false) (c:x≠q) (d:x.toNat≠92):zFl q (x::r) b=zJc 1 (zFl q r (b++[x])):=by
 unfold zFl;rw[zDQ,if_neg (by rw[h];simp),if_neg c,if_neg d];rfl
theorem zSo {q:UInt16} {b:List UInt16} (h:zAI x=false) (c:x≠q) (d:x.toNat=92) (e:(zEW r).1≠0):zFl q (x::r) b=((zEW r).1,[],0):=by
 unfold zFl;rw[zDQ,if_neg (by rw[h];simp),if_neg c,if_pos d,if_pos e]
theorem zSp {q:UInt16} {b:List UInt16} (h:zAI x=false) (d:x≠q) (e:x.toNat=92) (c:zEW r=(0,y,n)):zFl q (x::r) b=zJc (1+n) (zFl q (r.drop n) (b++[y])):=by
 have f:=zFi (l:=r) (by rw[c]);rw[c]at f;unfold zFl;rw[zDQ,if_neg (by rw[h];simp),if_neg d,if_pos e,c,if_neg js];simp only[List.length_cons];rw[zSl q (r.length+1) ((r.drop n).length+1) _ _ (by rw[List.length_drop];omega) jo];rfl
end Go.Proofs.YtlnbbaehihgigaaGreatDoor
