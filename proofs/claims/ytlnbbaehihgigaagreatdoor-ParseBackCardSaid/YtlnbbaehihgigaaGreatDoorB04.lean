/- Joined for the claim ParseBack: the parser, the lexer and the trees as they are walked, made short by a program of mine. -/
import Derived.Test.YtlnbbaehihgigaaGreatDoorB03
import Derived.Laws.OwnMore
import Derived.Test.YtlnbbaehihgigaaGreatDoorB02
import Derived.Test.YtlnbbaehihgigaaGreatDoorB01
import Derived.Deep.LoopGhost
import Derived.Deep.RegionLaw
import Derived.Laws.StandIn
import Derived.Lib.Bytealg
import Derived.Deep.CutBlock
import Derived.Deep.DeepCutAuto
set_option maxHeartbeats 16000000
set_option maxRecDepth 1000000
namespace Go.Proofs.YtlnbbaehihgigaaGreatDoor
open Go.Proofs.Tryz
variable {u l r:List UInt16} {A:Option Addr} {k n c B m e v:Nat} {s:List UInt8} {x y:UInt16} {q p:UInt16→Bool} {xs:List Value} {α:Type} {f:Kd→Tks} {t:Tok}
section
variable {L:List Tok} {i j:Nat} {b:Tks}
theorem zOr (h:t.kind=0) (w:List UInt8):isT t w=false:=by unfold isT;rw[h];simp
theorem zOs (g:Lst L):∀(l:List Tr) (c:List Tr) (i:Nat),(∀t∈l,StK L t)→Std L i ((prs l).flatMap (·.2)++[])→(zI L (i+((prs l).flatMap (·.2)).length)).kind=0→Rn L (.program c) i (trK 1 (c++bareL l)) (i+((prs l).flatMap (·.2)).length):=by
 intro l
 induction l with
 | nil=>
  intro c i _ hs b;rw[zY]at hs b⊢;have hi:i≤L.length - 1:=hs;have b:(zI L i).kind=0:=b;unfold Rn;rw[zS g ⟨hi,trivial⟩];unfold zD;dsimp only;rw[if_pos b,za,List.append_nil];rfl
 | cons t l m=>
  intro c i e hs b;rw[zCd,List.append_assoc]at hs;rw[zCd,List.length_append,←Nat.add_assoc]at b;have f:Std L (i+(prT t).length) ((prs l).flatMap (·.2)++[]):=hs.right;have j:NxT (zI L (i+(prT t).length)) true:=by
   cases l with
   | nil=>
    rw[zY]at b;have b:(zI L (i+(prT t).length)).kind=0:=b;exact⟨zOr b _,zOr b _,fun _=>zOr b _⟩
   | cons u l=>
    rw[zCd,List.append_assoc]at f;exact((e u js).first _ _ f).2.1
  have k:=((e t js).run i _ hs (j.any _)).1;have d:=m (c++[bareT t]) _ (fun u o=>e u (List.mem_cons_of_mem _ o)) f b;have p:=(e t js).first i _ hs;have hi:i≤L.length - 1:=by have:=hs.mid;omega
  unfold Rn at k d⊢;rw[zS g ⟨hi,trivial⟩];unfold zD;dsimp only;rw[if_neg p.1,k];dsimp only;rw[d,zCd,zO];simp only[List.append_assoc,List.singleton_append,Prod.mk.injEq,Ps.mk.injEq,true_and,and_true,List.length_append];omega
theorem zF2 {x:Nd} {l:List Tr} {t:Tr} (h:t∈l):t.size < (Tr.mk x l).size:=by
 rw[zh];have:∀l:List Tr,t∈l→t.size≤sizes l:=by
  intro l
  induction l with
  | nil=>intro h;cases h
  | cons u r b=>
   intro h;rw[zG];rcases List.mem_cons.1 h with rfl | h
   · omega
   · have:=b h;omega
 have:=this l h;omega
structure AllK (L:List Tok) (t:Tr):Prop where
 expr:zBf t.nd.kind=true→ExO L t
 tgt:zAR t.nd.kind=true→zRz L t
 prp:t.nd.kind=40→PrpK L t
 stm:zEj t.nd.kind=true→StK L t
 blk:t.nd.kind=4→zOm L t∧∃r,prT t=[123]::r
 dcl:t.nd.kind=7→DclK L t
 cls:t.nd.kind=11→zVN L t∧bareT t=trK 11 []∧prT t=[]
theorem zR9 {k:Int} (h:zEP k=true):zEj k=true:=by
 unfold zEP at h;simp only[Bool.and_eq_true]at h;exact h.1.1.1
theorem zD5:∀{l:List Tr},ShortL l→∀u∈l,ShortT u:=by
 intro l
 induction l with
 | nil=>intro _ u h;cases h
 | cons t r c=>
  intro h u b;rw[zES]at h;rcases List.mem_cons.1 b with rfl | b
  · exact h.1
  · exact c h.2 u b
theorem zLQ {k:Int} (h:zAR k=true):zBf k=true:=by
 unfold zAR at h;simp only[Bool.or_eq_true,beq_iff_eq]at h;rcases h with(rfl | rfl) | rfl<;>rfl
theorem zSA (j:Lst L):∀(n:Nat) (t:Tr),t.size≤n→goodT t=true→ShortT t→AllK L t:=by
 intro n
 induction n with
 | zero=>intro t h;have:=zBG t;omega
 | succ n X=>
  intro t hn hg J;cases t with
  | mk x l=>
  obtain⟨m,hk,D⟩:=zCU hg;rw[zCA]at J;have G:∀u∈l,ShortT u:=zD5 J.2;have C:∀u∈l,AllK L u:=fun u k=>X u (by have:=zF2 (x:=x) k;omega) (D u k) (G u k);have p:∀u∈l,zBf u.nd.kind=true→ExK L u:=fun u k O=>by
   have o:=(C u k).expr O;exact⟨D u k,G u k,O,o.all,o.first,o.pos⟩
  have hP:∀u∈l,u.nd.kind=20→PrmK u:=fun u k h=>zR0 (D u k) h;have H:∀(a:Nat),zFp (zBB l.length a) 0 (zBv l)=true→(zBB l.length a).length≤l.length→∃ps c,l=ps++[c]∧(∀t∈ps,PrmK t)∧zAj a c.nd.kind=true∧c∈l:=by
   intro a h h1;obtain⟨ps,c,e,f,A⟩:=zVM _ l a h1 h;exact⟨ps,c,e,fun t I=>hP t (by rw[e];exact List.mem_append_left _ I) (f t I),A,by rw[e];simp⟩
  have hB:∀u∈l,zAj 8 u.nd.kind=true→u.nd.kind=4:=fun u _ h=>by unfold zAj at h;simpa using h
  have R:zAR x.kind=true→zRz L (.mk x l)∧ExF L (.mk x l)∧0 < (prT (.mk x l)).length:=by
   intro I;have Y:x.kind=33∨x.kind=52∨x.kind=53:=by unfold zAR at I;simp only[Bool.or_eq_true,beq_iff_eq]at I;omega
   rcases Y with h | h | h
   · obtain⟨o,q⟩:=zWp j hg jo jo J.1;exact⟨q h,o.first,o.pos⟩
   · obtain⟨a,rfl,h1⟩:=zOi (by rw[h]at hk;exact hk) rfl;exact zZA j h m (p a js h1)
   · obtain⟨a,c,rfl,h1,f⟩:=zWf (by rw[h]at hk;exact hk) rfl;exact zZB j h m (p a js h1) (p c js f)
  refine⟨fun O=>?_,fun I=>(R I).1,fun h=>?_,fun hs=>?_,fun h=>?_,fun h=>?_,fun h=>?_⟩
  · have a0:zBf x.kind=true:=O;have hr:=zFQ a0
    by_cases a1:x.kind≤37
    · exact(zWp j hg hr.1 a1 J.1).1
    have N:x.kind=38∨x.kind=39∨x.kind=41∨x.kind=42∨x.kind=43∨x.kind=44∨x.kind=45∨x.kind=46∨x.kind=47∨x.kind=48∨x.kind=49∨x.kind=50∨x.kind=51∨zAR x.kind=true:=by
     have:x.kind=52∨x.kind=53→zAR x.kind=true:=by rintro(h | h)<;>(rw[h];rfl)
     by_cases a2:x.kind=52∨x.kind=53
     · simp[this a2]
     · omega
    rcases N with h | h | h | h | h | h | h | h | h | h | h | h | h | h
    · rw[h]at hk;have f:=zCC (zAM hk (s:=[]) (r:=3) rfl).2;exact zZC j h m fun u k=>p u k (f u k)
    · rw[h]at hk;have f:=zCC (zAM hk (s:=[]) (r:=7) rfl).2;exact zZE j h m fun u k=>(C u k).prp (by have:=f u k;unfold zAj at this;simpa using this)
    · rw[h]at hk;obtain⟨h1,f⟩:=zAM hk (s:=zBB l.length 8) (r:=0) rfl;obtain⟨ps,c,e,A,B,z⟩:=H 8 f h1;have hb:=(C c z).blk (hB c z B);subst e;exact zZF j h m A hb.1
    · rw[h]at hk;obtain⟨h1,f⟩:=zAM hk (s:=zBB l.length 13) (r:=0) rfl;obtain⟨ps,c,e,A,B,z⟩:=H 13 f h1;have h6:c.nd.kind=4∨zBf c.nd.kind=true:=by unfold zAj at B;simpa using B
      have hc:(c.nd.kind=4∧zOm L c∧∃r,prT c=[123]::r)∨(c.nd.kind≠4∧ExK L c):=by
       rcases h6 with h6 | h6
       · exact .inl ⟨h6,(C c z).blk h6⟩
       · exact .inr ⟨by have:=zFQ h6;omega,p c z h6⟩
      subst e;exact zZG j h m A hc
    · obtain⟨a,rfl,h1⟩:=zOi (by rw[h]at hk;exact hk) rfl;exact zY1 j h m (p a js h1)
    · obtain⟨a,rfl,h1⟩:=zOi (by rw[h]at hk;exact hk) rfl;exact zY2 j h m h1 ((C a js).tgt h1)
    · obtain⟨a,rfl,h1⟩:=zOi (by rw[h]at hk;exact hk) rfl;have o:=(C a js).expr (zLQ h1);exact zY3 j h m h1 ((C a js).tgt h1) o.first o.pos (zGT (D a js) (G a js) j)
    · obtain⟨a,c,rfl,h1,f⟩:=zWf (by rw[h]at hk;exact hk) rfl;exact zY5 j h m (p a js h1) (p c js f)
    · obtain⟨a,c,rfl,h1,f⟩:=zWf (by rw[h]at hk;exact hk) rfl;exact zY6 j h m (p a js h1) (p c js f)
    · obtain⟨a,c,d,rfl,h1,f,A⟩:=zXf (by rw[h]at hk;exact hk) rfl;exact zY7 j h m (p a js h1) (p c js f) (p d js A)
    · obtain⟨a,c,rfl,h1,f⟩:=zWf (by rw[h]at hk;exact hk) rfl;have o:=(C a js).expr (zLQ h1);exact zY4 j h m h1 ((C a js).tgt h1) o.first (zGT (D a js) (G a js) j) (p c js f)
    · rw[h]at hk;obtain⟨h1,f⟩:=zAM hk (s:=[3]) (r:=3) rfl;obtain⟨a,q,rfl,A,_,B⟩:=zAu h1 f;exact zY8 j h m (p a js A) fun u k=>p u (List.mem_cons_of_mem _ k) (zCC B u k)
    · rw[h]at hk;obtain⟨h1,f⟩:=zAM hk (s:=[3]) (r:=3) rfl;obtain⟨a,q,rfl,A,_,B⟩:=zAu h1 f;exact zY9 j h m (p a js A) fun u k=>p u (List.mem_cons_of_mem _ k) (zCC B u k)
    · obtain⟨h1,f,A⟩:=R h;exact⟨zMY j h1 A,f,A⟩
  · have h:x.kind=40:=h;obtain⟨a,rfl,h1⟩:=zOi (by rw[h]at hk;exact hk) rfl;exact zZD j h m (p a js h1)
  · have hs:zEj x.kind=true:=hs;have M:∀u∈l,zAj 2 u.nd.kind=true→StK L u∧zEP u.nd.kind=true:=fun u k h=>⟨(C u k).stm (zR9 h),h⟩;have hG:∀(y:Nd) (q:List Tr),Tr.mk y q∈l→zN y=true∧zDG y.kind q=true∧∀v∈q,AllK L v:=by
     intro y q k;obtain⟨g1,g2,U⟩:=zCU (D _ k);have S:=G _ k;rw[zCA]at S;exact⟨g1,g2,fun v hv=>X v (by have:=zF2 (x:=x) k;have:=zF2 (x:=y) hv;omega) (U v hv) (zD5 S.2 v hv)⟩
    have hD:∀(y:Nd) (q:List Tr),(y.kind=5∨y.kind=6)→zDG y.kind q=true→(∀v∈q,AllK L v)→∃t r,q=t::r∧∀u∈t::r,DclK L u:=by
     intro y q P a3 hv;have e:zy y.kind q.length=([5],5):=by rcases P with h | h<;>(rw[h];rfl)
     obtain⟨h1,f⟩:=zAM a3 e;obtain⟨t,r,rfl,A,_,B⟩:=zAu h1 f;refine⟨t,r,rfl,fun u k=>(hv u k).dcl ?_⟩;have z:zAj 5 u.nd.kind=true:=by
      rcases List.mem_cons.1 k with rfl | k
      · exact A
      · exact zCC B u k
     unfold zAj at z;simpa using z
    have V:∀u∈l,zAj 9 u.nd.kind=true→zVN L u∧(zn (u.nd.kind,prT u)=[]∨zn (u.nd.kind,prT u)=inP (prT u)):=by
     intro u k h;have F:u.nd.kind=11∨zBf u.nd.kind=true:=by unfold zAj at h;simpa using h
     rcases F with F | F
     · have c:=(C u k).cls F;exact⟨c.1,.inl (by rw[F];rfl)⟩
     · have c:=zWr j (p u k F);exact⟨c.1,.inr c.2⟩
    have N:x.kind=2∨x.kind=3∨x.kind=4∨(x.kind=5∨x.kind=6)∨x.kind=8∨x.kind=9∨x.kind=10∨(x.kind=12∨x.kind=13)∨x.kind=14∨x.kind=15∨x.kind=16∨x.kind=18∨x.kind=19:=by
     unfold zEj at hs;simp only[Bool.and_eq_true,decide_eq_true_eq,Bool.not_eq_true',yA]at hs;omega
    rcases N with h | h | h | h | h | h | h | h | h | h | h | h | h
    · rw[h]at hk;exact zZH j h m (zCB (zAM hk (s:=[]) (r:=0) rfl).2)
    · obtain⟨a,rfl,h1⟩:=zOi (by rw[h]at hk;exact hk) rfl;exact zZI j h m (p a js h1)
    · rw[h]at hk;have f:=zCC (zAM hk (s:=[]) (r:=1) rfl).2;exact zZJ j h (zWq j h m fun u k=>(C u k).stm (f u k))
    · obtain⟨t,r,rfl,h1⟩:=hD x l h hk C;exact(zYv j h m h1).1
    · rw[h]at hk;rcases l with _ | ⟨a,_ | ⟨c,_ | ⟨d,q⟩⟩⟩
      · have:=(zAM hk (s:=[3,2]) (r:=0) rfl).1;simp at this
      · have:=(zAM hk (s:=[3,2]) (r:=0) rfl).1;simp at this
      · obtain⟨W,c',e,h1,f⟩:=zWf (a:=3) (b:=2) hk rfl;injection e with e1 e2;injection e2 with e2 _;subst e1 e2;obtain⟨g1,g2⟩:=M c js f;exact zYw j h m (p a js h1) g1 g2 (.inl rfl)
      · obtain⟨W,c',d',e,h1,f,A⟩:=zXf (a:=3) (b:=2) (c:=2) hk (by
         show([3,2,2].take (min (max (q.length+1+1+1) 2) 3),0)=_;rw[Nat.max_eq_left jo,Nat.min_eq_right jo];rfl)
        injection e with e1 e2;injection e2 with e2 e3;injection e3 with e3 e4;subst e1 e2 e3 e4;obtain⟨g1,g2⟩:=M c js f;obtain⟨U,g4⟩:=M d js A;refine zYw j h m (p a js h1) g1 g2 (.inr ⟨d,rfl,U,g4,?_⟩);unfold zDG at hk;rw[Bool.and_eq_true]at hk;have B:=hk.2;rw[ji,if_pos ⟨rfl,rfl⟩]at B;simpa [zU9]using B
    · obtain⟨a,c,rfl,h1,f⟩:=zWf (by rw[h]at hk;exact hk) rfl;obtain⟨g1,g2⟩:=M c js f;exact zZK j h m (p a js h1) g1 g2
    · obtain⟨a,c,d,e,rfl,h1,f,A,B⟩:=zY0 (by rw[h]at hk;exact hk) rfl;obtain⟨g1,g2⟩:=M e js B;refine zXg j h m ?_ (V c js f).1 (V d js A).1 g1 g2;have E:(a.nd.kind=5∨a.nd.kind=6)∨zAj 9 a.nd.kind=true:=by
       have T:(a.nd.kind==11 || a.nd.kind==5 || a.nd.kind==6 || zBf a.nd.kind)=true:=h1;simp only[Bool.or_eq_true,beq_iff_eq]at T;have F:a.nd.kind=11∨zBf a.nd.kind=true→zAj 9 a.nd.kind=true:=fun h=>by
        show(a.nd.kind==11 || zBf a.nd.kind)=true;simpa using h
       rcases T with((g | g) | g) | g
       · exact .inr (F (.inl g))
       · exact .inl (.inl g)
       · exact .inl (.inr g)
       · exact .inr (F (.inr g))
      rcases E with E | E
      · cases a with
        | mk y q=>
         obtain⟨f1,Q,f3⟩:=hG y q js;obtain⟨t,r,rfl,z⟩:=hD y q E Q f3;exact zR7 j E f1 z
      · obtain⟨c1,c2⟩:=V a js E;exact zR8 c1 c2
    · have e:zy x.kind l.length=([],0):=by rcases h with h | h<;>(rw[h];rfl)
      exact zVP j h m (zCB (zAM hk e).2)
    · rw[h]at hk;refine zXh j h m ?_;rcases l with _ | ⟨a,q⟩
      · exact .inl rfl
      · obtain⟨W,e,h1⟩:=zOi (a:=3) hk (by show([3].take (min (q.length+1) 1),0)=_;rw[Nat.min_eq_right jo];rfl);injection e with e1 e2;subst e1 e2;exact .inr ⟨a,rfl,p a js h1⟩
    · obtain⟨a,rfl,h1⟩:=zOi (by rw[h]at hk;exact hk) rfl;exact zXi j h m (p a js h1)
    · rw[h]at hk;obtain⟨a,c,d,rfl,h1,f,A⟩:=zXf hk rfl;have B:(c.nd.kind==17 || d.nd.kind==4)=true:=by
       unfold zDG at hk;rw[Bool.and_eq_true]at hk;have B:=hk.2;rw[if_pos rfl]at B;exact B
      simp only[Bool.or_eq_true,beq_iff_eq]at B;refine zXl j h m ((C a js).blk (hB a js h1)).1 ?_ ?_ B
      · have z:c.nd.kind=11∨c.nd.kind=17:=by unfold zAj at f;simpa using f
        rcases z with z | z
        · exact .inl ⟨by omega,((C c js).cls z).2⟩
        · cases c with
          | mk y q=>
           have P:y.kind=17:=z;obtain⟨f1,Q,f3⟩:=hG y q js;rw[P]at Q;obtain⟨e,rfl,h6⟩:=zOi (a:=8) Q rfl;have h7:e.nd.kind=4:=by unfold zAj at h6;simpa using h6
           have hb:=(f3 e js).blk h7;exact .inr ⟨P,y,e,rfl,f1,hb.1,hb.2⟩
      · have z:d.nd.kind=11∨d.nd.kind=4:=by unfold zAj at A;simpa using A
        rcases z with z | z
        · exact .inr ⟨by omega,((C d js).cls z).2.1⟩
        · exact .inl ⟨z,((C d js).blk z).1⟩
    · obtain⟨c,rfl,h1⟩:=zOi (by rw[h]at hk;exact hk) rfl;obtain⟨g1,g2⟩:=M c js h1;exact zXj j h m g1 g2
    · rw[h]at hk;obtain⟨h1,f⟩:=zAM hk (s:=zBB l.length 8) (r:=0) rfl;obtain⟨ps,c,e,A,B,z⟩:=H 8 f h1;have hb:=(C c z).blk (hB c z B);subst e;exact zXk j h m A hb.1
  · have h:x.kind=4:=h;rw[h]at hk;have f:=zCC (zAM hk (s:=[]) (r:=1) rfl).2;exact⟨zWq j h m fun u k=>(C u k).stm (f u k),_,zLP h⟩
  · have h:x.kind=7:=h;rw[h]at hk;refine d_7 j h m ?_;rcases l with _ | ⟨a,q⟩
    · exact .inl rfl
    · obtain⟨W,e,h1⟩:=zOi (a:=3) hk (by show([3].take (min (q.length+1) 1),0)=_;rw[Nat.min_eq_right jo];rfl);injection e with e1 e2;subst e1 e2;exact .inr ⟨a,rfl,p a js h1⟩
  · have h:x.kind=11:=h;rw[h]at hk;obtain⟨h1,f⟩:=zAM hk (s:=[]) (r:=0) rfl;exact zZL j h m (zCB f)
theorem zOt (e:Lst L) {t:Tr} (hg:goodT t=true) (b:ShortT t) (hk:t.nd.kind=1) (hs:Std L 0 (prT t++[])) (f:(zI L (prT t).length).kind=0):Rn L (.program []) 0 (bareT t) (prT t).length:=by
 cases t with
 | mk x l=>
  have hk:x.kind=1:=hk;obtain⟨j,c,g⟩:=zCU hg;rw[zCA]at b;rw[hk]at c;have k:=zCC (zAM c (s:=[]) (r:=1) rfl).2;have hb:bareT (.mk x l)=trK 1 (bareL l):=by rw[(zBh j (by rw[hk];decide) jo).1,hk]
  have m:prT (.mk x l)=(prs l).flatMap (·.2):=by rw[zAS];unfold zAk zi;rw[hk];rfl
  rw[m]at hs f⊢;rw[hb];have r:=zOs e l [] 0 (fun u d=>(zSA e _ u (yAC _) (g u d) (zD5 b.2 u d)).stm (k u d)) hs (by rw[Nat.zero_add];exact f);rw[List.nil_append,Nat.zero_add]at r;exact r
end
def zC2 (s:List UInt8):Prop:=s∈zw∨zF9 s=true∨(∃n,n≤9007199254740991∧s=zBR n)∨(∃m,zBN false m=true∧(∀y∈m,y < 4294967296)∧s=zBR (zEQ m)++[110])∨(∃u:List UInt16,u.length≤4096∧s=zFg u)
abbrev AllP (ts:Tks):Prop:=∀s∈ts,zC2 s
theorem AllP.nil:AllP []:=fun s h=>by cases h
theorem AllP.cons {r:Tks} (h:zC2 s) (c:AllP r):AllP (s::r):=fun t b=>by
 rcases List.mem_cons.1 b with rfl | b
 · exact h
 · exact c t b
theorem AllP.app {a b:Tks} (h:AllP a) (d:AllP b):AllP (a++b):=fun t c=>by
 rcases List.mem_append.1 c with c | c
 · exact h t c
 · exact d t c
theorem zKH {c:Prop} [Decidable c] {a b:Tks} (h1:c→AllP a) (d:¬c→AllP b):AllP (if c then a else b):=by
 by_cases h:c
 · rw[if_pos h];exact h1 h
 · rw[if_neg h];exact d h
theorem zWs {c:Prop} [Decidable c] {a b:List UInt8} (h1:c→zC2 a) (d:¬c→zC2 b):zC2 (if c then a else b):=by
 by_cases h:c
 · rw[if_pos h];exact h1 h
 · rw[if_neg h];exact d h
theorem sg (h:s∈zw):zC2 s:=.inl h
theorem zMc:∀s∈zAF,zF9 s=true:=by decide+kernel
theorem wd (h:s∈zAF):zC2 s:=.inr (.inl (zMc s h))
theorem zWt:∀s∈zHN++zDT++zWe++zUn++zJ1,s∈zw∨zF9 s=true:=by decide+kernel
theorem zLR (h:zBn s=true):zC2 s:=by
 unfold zBn at h;rw[Bool.and_eq_true]at h;exact .inr (.inl h.1)
section
variable {ks:List Kd}
theorem zSB (hk:∀k∈ks,AllP k.2):AllP (ks.flatMap (·.2)):=fun s hs=>by
 obtain⟨k,h1,b⟩:=List.mem_flatMap.1 hs;exact hk k h1 s b
theorem zEL (hk:∀k∈ks,AllP k.2) (i:Nat):AllP (kd ks i).2:=by
 unfold kd;rw[yAG]
 by_cases h:i < ks.length
 · rw[yAB h];exact hk _ (List.getElem_mem h)
 · rw[List.getElem?_eq_none jo];exact AllP.nil
theorem zI6 {t:Tks} (h:AllP t):AllP (inP t):=AllP.cons (sg jd) (AllP.app h (AllP.cons (sg jd) AllP.nil))
theorem zF3 {k:Kd} (h:AllP k.2):AllP (zb k):=by
 unfold zb;split
 · exact h
 · exact zI6 h
theorem zMd {k:Kd} (h:AllP k.2):AllP (zn k):=by
 unfold zn;split
 · exact fun s hs=>h s (List.dropLast_subset _ hs)
 split
 · exact AllP.nil
 · exact zI6 h
theorem zSC:∀{ks:List Kd},(∀k∈ks,AllP (f k))→AllP (zGH f ks):=by
 intro ks
 induction ks with
 | nil=>intro _;exact AllP.nil
 | cons k r b=>intro h;exact AllP.cons (sg jd) (AllP.app (h k js) (b fun j c=>h j (by simp[c])))
theorem zGU {ks:List Kd} (h:∀k∈ks,AllP (f k)):AllP (zAW f ks):=by
 cases ks with
 | nil=>exact AllP.nil
 | cons k r=>exact AllP.app (h k js) (zSC fun j b=>h j (by simp[b]))
theorem zHb {ks:List Kd} (h:∀k∈ks,AllP k.2):AllP (zu ks):=AllP.cons (sg jd) (AllP.app (zGU h) (AllP.cons (sg jd) AllP.nil))
theorem zLS {ks:List Kd} (h:∀k∈ks,AllP k.2):∀k∈ks.dropLast,AllP k.2:=fun k hk=>h k (List.dropLast_subset _ hk)
theorem zI7 (h:s=[]∨zC2 s):AllP (zAo s):=by
 unfold zAo;split
 · exact AllP.nil
 · rename_i b
   exact AllP.cons (h.resolve_left b) AllP.nil
theorem zSD (hk:∀k∈ks,AllP k.2):AllP (zER ks):=AllP.app (zF3 (zEL hk _)) (AllP.cons (sg jd) (AllP.app (zGU fun k h=>zF3 (hk k (List.mem_of_mem_drop h))) (AllP.cons (sg jd) AllP.nil)))
theorem zLT (hk:∀k∈ks,AllP k.2) {x:Nd} (h:x.name=[]∨zC2 x.name):AllP (zFL x ks):=AllP.cons (wd jd) (AllP.app (zI7 h) (AllP.app (zHb (zLS hk)) (zEL hk _)))
theorem zOu (hk:∀k∈ks,AllP k.2):AllP (zEm ks):=by
 refine AllP.app (zHb (zLS hk)) (AllP.cons (sg jd) ?_);split
 · exact zEL hk _
 · exact zI6 (zEL hk _)
theorem zOv (hk:∀k∈ks,AllP k.2) (x:Nd):AllP (zBJ x ks):=by
 unfold zBJ;refine AllP.cons ?_ (zGU hk);split
 · exact wd jd
 · exact wd jd
theorem zVQ (hk:∀k∈ks,AllP k.2) {x:Nd} (j:x.kind=7∨x.kind=18∨x.kind=20→zC2 x.name) (b:x.kind=12∨x.kind=13∨x.kind=17∨x.kind=19→x.name=[]∨zC2 x.name):AllP (zi x ks):=by
 have c:=fun i=>zI6 (zEL hk i);have d:=zEL hk;have e:=fun i=>zMd (zEL hk i);have f:=zSB hk;have g:=zOv hk x;unfold zi
 repeat' first
  | exact f | exact d _ | exact c _ | exact e _ | exact g | exact AllP.nil
  | exact zI7 (b jo) | exact zLT hk (b jo) | exact j jo
  | exact sg jd | exact wd jd
  | (rename_i l;exact(b jo).resolve_left l)
  | with_reducible refine zKH (fun _=>?_) (fun _=>?_) | refine AllP.app ?_ ?_ | refine AllP.cons ?_ ?_ | refine zWs (fun _=>?_) (fun _=>?_)
theorem zOw (hk:∀k∈ks,AllP k.2) {x:Nd} (p:x.kind=33∨43≤x.kind→x.kind≤47∨x.kind=49∨x.kind=52→zC2 x.name) (q:x.kind=41→x.name=[]∨zC2 x.name)
 (b:x.kind=30→zC2 (zBR x.nn.toNat)) (c:x.kind=31→zC2 (zBR (zEQ x.mag)++[110])) (d:x.kind=32∨x.kind=40→zC2 (zFg x.str)):AllP (zg x ks):=by
 have e:=fun i=>zI6 (zEL hk i);have f:=zEL hk;have g:=fun i=>zF3 (zEL hk i);have j:AllP (zAW zb ks):=zGU fun k h=>zF3 (hk k h);have l:AllP (zAW (·.2) ks):=zGU hk;have m:=zSD hk;have o:=zOu hk;unfold zg
 repeat' first
  | exact j | exact l | exact m | exact o | exact f _ | exact g _ | exact e _ | exact AllP.nil
  | exact b jo | exact c jo | exact d jo | exact zLT hk (q jo) | exact p jo jo
  | exact sg jd | exact wd jd
  | with_reducible refine zKH (fun _=>?_) (fun _=>?_) | refine AllP.app ?_ ?_ | refine AllP.cons ?_ ?_
end
theorem zSE {k:Int} (h:zCv k s=true):s=[]∨zC2 s:=by
 unfold zCv at h;split at h
 · exact .inr (zLR h)
 split at h
 · rw[Bool.or_eq_true]at h;exact h.imp of_decide_eq_true zLR
 split at h
 · exact .inr (.inr (.inl h))
 split at h
 · have h1:=of_decide_eq_true h;have c:s∈zHN++zDT++zWe++zUn++zJ1:=by
    unfold zNp at h1;simp only[List.mem_append];split at h1
    · simp[h1]
    split at h1
    · simp[h1]
    split at h1
    · simp[h1]
    split at h1
    · simp[h1]
    split at h1
    · simp[h1]
    · cases h1
   rcases zWt s c with b | b
   · exact .inr (.inl b)
   · exact .inr (.inr (.inl b))
 · exact .inl (of_decide_eq_true h)
theorem zOx:∀k:Int,(k=7∨k=18∨k=20∨k=33∨k=43∨k=44∨k=45∨k=46∨k=47∨k=49∨k=52)→zCv k []=false:=by
 intro k h;rcases h with rfl | rfl | rfl | rfl | rfl | rfl | rfl | rfl | rfl | rfl | rfl<;>decide+kernel
theorem zVR {x:Nd} {ks:List Kd} (b:zN x=true) (hs:Short x) (hk:∀k∈ks,AllP k.2):AllP (zAk x ks):=by
 by_cases d:x.kind=30∨x.kind=31∨x.kind=32∨x.kind=40
 · have e:zAk x ks=zg x ks:=by unfold zAk;rw[jn]
   rw[e];obtain⟨k,n,u,nk,nn,g,m,kk⟩:=x;simp only at d;unfold zN at b;simp only at b;split at b
   · cases b
   split at b
   · cases b
   split at b
   · cases b
   split at b
   · cases b
   rename_i a0 a1 a2 a3
   refine zOw hk (fun h j=>?_) (fun h=>?_) (fun h=>?_) (fun h=>?_) (fun h=>?_)
   · simp only at h j;omega
   · simp only at h;omega
   · simp only at h;subst h;simp at a1 a3 b;obtain⟨⟨⟨_,rfl⟩,c⟩,o⟩:=b;unfold zDa at c;simp at c;exact .inr (.inr (.inl ⟨nn.toNat,by omega,rfl⟩))
   · simp only at h;subst h;simp at a1 a2 b;obtain⟨⟨_,c⟩,rfl⟩:=b;exact .inr (.inr (.inr (.inl ⟨m,c,hs.limb,rfl⟩)))
   · simp only at h;have l:u.length≤4096:=by
      rcases h with rfl | rfl
      · simp at b;exact b.2
      · simp at b;exact b.2
     exact .inr (.inr (.inr (.inr ⟨u,l,rfl⟩)))
 · have hN:=zCM b jo jo jo jo;have f:=zSE hN.2.1;have c:(x.kind=7∨x.kind=18∨x.kind=20∨x.kind=33∨x.kind=43∨x.kind=44∨x.kind=45∨x.kind=46∨x.kind=47∨x.kind=49∨x.kind=52)→zC2 x.name:=fun h=>by
    refine f.resolve_left fun e=>?_;have h1:=hN.2.1;rw[e,zOx _ h]at h1;cases h1
   unfold zAk;refine zKH (fun _=>zVQ hk (fun h=>c jo) (fun _=>f)) (fun _=>zOw hk (fun h j=>c jo) (fun _=>f) (fun h=>absurd (.inl h) d) (fun h=>absurd (.inr (.inl h)) d) (fun h=>absurd jo d))
theorem zOy:∀(n:Nat) (t:Tr),t.size≤n→goodT t=true→ShortT t→AllP (prT t):=by
 intro n
 induction n with
 | zero=>intro t h;have:=zBG t;omega
 | succ n f=>
  intro t j hg b;cases t with
  | mk x l=>
  obtain⟨g,hk,e⟩:=zCU hg;rw[zCA]at b;rw[zAS];refine zVR g b.1 fun k c=>?_;rw[zB0]at c;obtain⟨u,d,rfl⟩:=List.mem_map.1 c;exact f u (by have:=zF2 (x:=x) d;omega) (e u d) (zD5 b.2 u d)
open Go.RowKit
def zBi (l:List Nat):List Value:=l.map fun n:Nat=>Value.int .u32 (n:Int)
theorem zSF (l:List Nat):(zBi l).length=l.length:=by simp[zBi]
theorem zLU {l:List Nat} {j:Nat} (h:j < l.length):(zBi l)[j]? =some (.int .u32 (l[j]:Int)):=by
 simp[zBi,yAB h]
theorem zI8 (l:List Nat) (k:Nat):(zBi l).take k=zBi (l.take k):=by simp[zBi]
theorem zF4 (l r:List Nat):zBi l++zBi r=zBi (l++r):=by simp[zBi]
theorem zLV {w:World} {base:Nat} {e:TypeId} {j:Nat} (h:w.ownsRow base e 1 (.slice A n c) n xs) (l:j≤n):w.ownsRow base e 1 (.slice A j c) j (xs.take j):=by
 refine⟨by rw[List.length_take,h.1];omega,?_⟩;rcases h.2 with⟨h1,d⟩ | ⟨g,cap,b,h1,hb,hg,m,f,hs,k⟩
 · left;injection h1 with h3 h4 h5;subst d;obtain rfl:j=0:=by omega
   exact⟨by rw[h3,h5],rfl⟩
 · right;injection h1 with h3 h4 h5;subst h3 h5;refine⟨g,c,b,rfl,hb,hg,by omega,f,hs,?_⟩;rw[←k,List.take_take];congr 1;omega
theorem Reads.spotV {w:World} (h:Reads w B 1 A n xs) (g:0 < n):
 ∃b off,A=some ⟨b,off,none⟩∧b < B∧∀j u,xs[j]? =some u→w.cell? ⟨b,off+j,none⟩=some u:=by
 obtain⟨d,u,e,hb,m,c⟩:=h.at_ g;have hs:d.spot=none:=by
  cases hsp:d.spot with
  | none=>rfl
  | some s=>
   exfalso;rw[Addr.add_zero]at c;simp only[World.cell?,hsp]at c;split at c
   · simp at c
   · cases c
 obtain⟨b,off,o⟩:=d;simp only at hs;subst hs;refine⟨b,off,e,hb,fun j v hv=>?_⟩;have k:j < n:=by
  have:=(List.getElem?_eq_some_iff.1 hv).1;have h1:=h.1;omega
 obtain⟨l,p,e',_,f,h1⟩:=h.at_ k;rw[e]at e';injection e' with e';subst e';rw[Addr.add_lit]at h1;rw[h1,←f,hv]
theorem zEx {xs:List Nat} {w:World} (p:xs.length=n) (q:Reads w B 1 A n (zBi xs)) (E:n≤4096) (F:n≤c) (r:c≤maxLen) (s:(zAh xs).length=m):
 Calls prog 88 #[.slice A n c] w fun e w'=>e=.returned (.slice A m c)∧w=w':=by
 have z:=zA q;have t:=zA s;have u:=zA p;unfold maxLen at r;clear q s p;go_enter func88,ntmps88;go_wp2
 go_loop [0] (fun v=>∃j:Nat,v=.slice A j c∧j≤n∧Hid (zAh (xs.take j)=zAh xs)) (fun v=>match v with | .slice _ j _=>j | _=>0)
 case atStart=>exact⟨n,rfl,yAC _,zA (by rw[←u.out,List.take_length])⟩
 case round=>
  obtain⟨j,rfl,G,o⟩:=hrel;cases j with
  | zero=>
   have f:=zA (show m=0 by
    have:=o.out;rw[List.take_zero]at this;rw[←t.out,←this];rfl)
   go_wp2;go_ret;obtain rfl:=f.out;exact⟨rfl,rfl⟩
  | succ i=>
   have C:=u.out;obtain⟨b,off,rfl,D,d⟩:=z.out.spotV jo;have hi:i < xs.length:=by omega
   have y:=d i _ (zLU hi);have g:=zA (show xs.take (i+1)=xs.take i++[xs[i]]from yAK hi);obtain⟨x,l⟩:=jx (xs[i]);rw[l]at y g;clear d l C
   by_cases k:x=0
   · have e1:((x:Int)==0)=true:=by rw[k];rfl
     have f:=zA (show zAh (xs.take i)=zAh xs by rw[←o.out,g.out,k,zMU]);clear k;go_wp2;go_round
     case rel=>exact⟨i,rfl,by omega,f.out⟩
     case measure=>simp
   · have e1:((x:Int)==0)=false:=yA.2 jo;have f:=zA (show m=i+1 by
      rw[←t.out,←o.out,g.out,zFP k,List.length_append,List.length_take];simp;omega)
     clear k;go_wp2;go_ret;obtain rfl:=f.out;exact⟨rfl,rfl⟩
def zOz (m:Nat) (A:Option Addr) (c:Nat):Value:=if m=0 then .slice none 0 0 else .slice A m c
theorem zLW {xs:List Nat} {w:World} (g:xs.length=n) (j:Reads w B 1 A n (zBi xs)) (hB:B≤w.heap.size) (k:n≤4096) (l:n≤c) (d:c≤maxLen) (o:(zAh xs).length=m):
 Calls prog 143 #[.slice A n c,.bool false] w fun e w'=>e=.returned (.agg #[.bool false,zOz m A c])∧Below w.heap.size w w':=by
 have p:=zA (j.alloc hB (.cells #[.bool false,.slice none 0 0] 40));have q:=zA o;have r:=zA g;clear j o g
 by_cases b:m=0
 · have f:=zA (show zOz m A c=.slice none 0 0 from if_pos b);have e1:((m:Int)==0)=true:=by rw[b];rfl
   clear b;go_enter func143,ntmps143;go_wp2_with (go_at_call 88;refine(zEx r.out p.out k l d q.out).mono ?_;rintro e w' ⟨rfl,rfl⟩);rw[f.out];exact bodyPost_ret (v:=.agg #[.bool false,.slice none 0 0]) (by simp[results,results143,go_sem]) rfl ⟨rfl,ja⟩
 · have f:=zA (show zOz m A c=.slice A m c from if_neg b);have e1:((m:Int)==0)=false:=yA.2 jo;clear b;go_enter func143,ntmps143;go_wp2_with (go_at_call 88;refine(zEx r.out p.out k l d q.out).mono ?_;rintro e w' ⟨rfl,rfl⟩);rw[f.out];exact bodyPost_ret (v:=.agg #[.bool false,.slice A m c]) (by simp[results,results143,go_sem]) rfl ⟨rfl,ja⟩
theorem zO0 {s:ByteArray} (h:s.data.toList=asc l) (d:∀x∈l,zK x=true):s.size=l.length∧∀i (hi:i < s.size) (b:i < l.length),s[i].toNat=l[i].toNat∧48≤s[i].toNat∧s[i].toNat≤57:=by
 have h1:s.size=l.length:=by
  have:=congrArg List.length h;simpa [asc]using this
 refine⟨h1,fun i hi b=>?_⟩;have c:s.data.toList[i]? =(asc l)[i]? :=by rw[h]
 have e:s[i]=l[i].toUInt8:=by
  have e1:s.data.toList[i]? =some s[i]:=by
   rw[yAB (by simpa using hi)];rfl
  have e2:(asc l)[i]? =some l[i].toUInt8:=by simp[asc,yAB b]
  rw[e1,e2]at c;exact Option.some.inj c
 have f:=d l[i] (List.getElem_mem b);simp only[zK,Bool.and_eq_true,decide_eq_true_eq]at f;have g:l[i].toUInt8.toNat=l[i].toNat % 256:=rfl;rw[e,g];omega
theorem zMe {s:ByteArray} (h:s.data.toList=asc l) (q:∀x∈l,zK x=true) (r:0 < l.length) (c:l[0]≠48∨l=[48]) (y:l.length≤4096) (w:World):
 Calls prog 142 #[.string s] w fun e w'=>e=.returned (.bool true)∧w=w':=by
 obtain⟨hs,b⟩:=zO0 h q;have o:=zA (show∀i (hi:i < s.size),48≤s[i].toNat∧s[i].toNat≤57 from fun i hi=>(b i hi jo).2);have p:s.size≤4096:=by omega
 have m:0 < s.size:=by omega
 have f:s.toList≠[]:=by
  rw[ByteArray.toList_eq,h];intro t;have:=congrArg List.length t;rw[asc,List.length_map,List.length_nil]at this;omega
 have e1:(s.toList==[])=false:=yA.2 f;have e2:s.toList.isEmpty=false:=by
  cases hh:s.toList with
  | nil=>exact absurd hh f
  | cons=>rfl
 have j:((s[0].toNat:Int) !=48)=true∨s=⟨#[48]⟩:=by
  rcases c with c | c
  · left;rw[bne_iff_ne];intro u;have:=(b 0 m r).1;exact c (UInt16.toNat_inj.1 (by show l[0].toNat=48;omega))
  · right;have v:s=⟨#[48]⟩:=by
     cases s with
     | mk d=>
      simp only at h;rw[c]at h;have:d=#[48]:=by
       apply Array.toList_inj.1;rw[h];rfl
      rw[this]
    exact v
 clear b h c f;rcases j with u | rfl
 · go_enter func142,ntmps142;go_wp2
   go_loop [6] (fun i=>∃k:Nat,k≤s.size∧i=.int .i64 k) (fun i=>s.size - (intOf i).toNat)
   case atStart=>exact⟨0,yAE _,rfl⟩
   case round=>
    obtain⟨k,hk,rfl⟩:=hrel
    by_cases g:k < s.size
    · have hb:=o.out k g;go_wp2;go_round
      case rel=>exact⟨k+1,by omega,by go_num⟩
      case measure=>simp[intOf];omega
    · go_wp2;go_ret;exact⟨rfl,rfl⟩
 · clear e1 e2 o hs p m;go_enter func142,ntmps142;go_wp2
   go_loop [6] (fun i=>∃k:Nat,k≤1∧i=.int .i64 k) (fun i=>1 - (intOf i).toNat)
   case atStart=>exact⟨0,yAE _,rfl⟩
   case round=>
    obtain⟨k,hk,rfl⟩:=hrel
    by_cases g:k=0
    · subst g;go_wp2;go_round
      case rel=>exact⟨1,by omega,rfl⟩
      case measure=>simp[intOf]
    · obtain rfl:k=1:=by omega
      go_wp2;go_ret;exact⟨rfl,rfl⟩
theorem zC3 (h:zq s l=true):s.length≤l.length:=by
 unfold zq at h;rw[List.isPrefixOf_iff_prefix]at h;simpa using h.length_le
theorem zWu (c:Bool):∀(l:List UInt16) (nl b:Bool),(zDY c l nl b).1≤l.length:=by
 intro l
 induction l with
 | nil=>intro nl b;simp[zDY]
 | cons x r d=>
  intro nl b;unfold zDY;split
  · rename_i h
    have:=zC3 (Bool.and_eq_true _ _▸h).2;simpa using this
  · split
    · simp
    · have:=d (nl || zAJ x) (b || zHu x);simp only[zFt,List.length_cons];omega
theorem zEy (h:2≤l.length):2≤(zAt l).1∧(zAt l).1≤l.length:=by
 have:=zWu (zq [47,42] l) (l.drop 2) false false;rw[List.length_drop]at this;simp only[zAt,zFt];omega
theorem zD6 (h:(zq [47,47] l || zq [47,42] l)=true):2≤l.length:=by
 rw[Bool.or_eq_true]at h;rcases h with h | h
 · exact zC3 h
 · exact zC3 h
theorem zSG:∀(f:Nat) (l:List UInt16) (nl:Bool),(zEi f l nl).1≤l.length:=by
 intro f
 induction f with
 | zero=>intro l nl;simp[zEi]
 | succ f b=>
  intro l nl;cases l with
  | nil=>simp[zEi]
  | cons x r=>
   unfold zEi;split
   · have:=b r (nl || zAJ x);simp only[zFt,List.length_cons];omega
   · split
     · rename_i h
       have c:=zEy (zD6 h);split
       · simp
       · have:=b ((x::r).drop (zAt (x::r)).1) (nl || (zAt (x::r)).2.1);rw[List.length_drop]at this;simp only[zFt];omega
     · simp
theorem zIB (l:List UInt16):(zAQ l).1≤l.length:=zSG _ _ _
theorem zMf:∀(f g:Nat) (l:List UInt16) (nl:Bool),l.length≤f→l.length≤g→zEi f l nl=zEi g l nl:=by
 intro f
 induction f with
 | zero=>
  intro g l nl b _;have:l=[]:=List.eq_nil_of_length_eq_zero jo;subst this;cases g<;>rfl
 | succ f c=>
  intro g l nl b hg;cases l with
  | nil=>cases g<;>rfl
  | cons x r=>
   obtain⟨g,rfl⟩:∃k,g=k+1:=⟨g - 1,by simp at hg;omega⟩;simp only[List.length_cons]at b hg;unfold zEi;rw[c g r (nl || zAJ x) jo jo];split
   · rfl
   · split
     · rename_i h
       have d:=zEy (zD6 h);rw[c g ((x::r).drop (zAt (x::r)).1) _ (by rw[List.length_drop,List.length_cons];omega) (by rw[List.length_drop,List.length_cons];omega)]
     · rfl
def zC4 (l:List UInt16) (nl:Bool):Nat×Bool×Nat:=zEi l.length l nl
theorem zO1 (nl:Bool):zC4 [] nl=(0,nl,0):=rfl
theorem zGV (h:(zHM x || zAJ x)=true) (nl:Bool):zC4 (x::r) nl=zFt 1 (zC4 r (nl || zAJ x)):=by
 unfold zC4;rw[List.length_cons,zEi,if_pos h]
theorem zFj (h:(zHM x || zAJ x)=false) (b:(zq [47,47] (x::r) || zq [47,42] (x::r))=true) (nl:Bool):
 zC4 (x::r) nl=if(zAt (x::r)).2.2≠0 then(0,false,(zAt (x::r)).2.2)else zFt (zAt (x::r)).1 (zC4 ((x::r).drop (zAt (x::r)).1) (nl || (zAt (x::r)).2.1)):=by
 have c:=zEy (zD6 b);unfold zC4;rw[List.length_cons,zEi,if_neg (by rw[h];simp),if_pos b];rw[zMf r.length ((x::r).drop (zAt (x::r)).1).length _ _ (by rw[List.length_drop,List.length_cons];omega) (yAC _)]
theorem zFT (h:(zHM x || zAJ x)=false) (b:(zq [47,47] (x::r) || zq [47,42] (x::r))=false) (nl:Bool):zC4 (x::r) nl=(0,nl,0):=by
 unfold zC4;rw[List.length_cons,zEi,if_neg (by rw[h];simp),if_neg (by rw[b];simp)]
theorem zBV (p:α→Bool) (l:List α):(l.takeWhile p).length≤l.length:=(List.takeWhile_sublist p).length_le
theorem zLX (h:(zCO n l).1=0):(zCO n l).2.2=n∧n≤l.length:=by
 unfold zCO at h⊢;split
 · rename_i b
   simp only[Bool.and_eq_true,decide_eq_true_eq]at b;exact⟨rfl,b.1⟩
 · rename_i b
   rw[if_neg b]at h;cases h
theorem zEz (x:UInt16) (r:List UInt16):zEE (x::r)=if(zBx x).isSome=true then(0,(zBx x).getD 0,1)else zRD x r:=rfl
theorem zA4 (z:Bool) (x:UInt16) (r:List UInt16):zAY z (x::r)=if zAz x=true then zCf (x::r)else if zK x=true then zBe (x::r)else if(x.toNat==39 || x.toNat==34)=true then zAy x r
 else if(x.toNat==46&&zBF 0 zK r)=true then bad 6 else zCG z (x::r):=rfl
theorem zFU (h:(zEE l).1=0):1≤(zEE l).2.2∧(zEE l).2.2≤l.length:=by
 cases l with
 | nil=>simp[zEE]at h
 | cons x r=>
  rw[zEz]at h⊢;have c:∀k,(more 1 (zCO k r)).1=0→1≤(more 1 (zCO k r)).2.2∧(more 1 (zCO k r)).2.2≤(x::r).length:=by
   intro k hk;unfold more at hk⊢;split
   · rename_i b
     have:=zLX b;simp only[List.length_cons];omega
   · rename_i b
     rw[if_neg b]at hk;exact absurd hk b
  split
  · simp
  · rename_i hs
    rw[if_neg hs]at h;unfold zRD at h⊢
    by_cases h1:(x.toNat==48&& !zBF 0 zK r)=true
    · rw[if_pos h1];simp
    rw[if_neg h1]at h⊢
    by_cases d:zK x=true
    · rw[if_pos d]at h;cases h
    rw[if_neg d]at h⊢
    by_cases b:(zAJ x || zHu x || (x.toNat==117&&zq [123] r))=true
    · rw[if_pos b]at h;cases h
    rw[if_neg b]at h⊢
    by_cases e:x.toNat=120
    · rw[if_pos e]at h⊢;exact c 2 h
    rw[if_neg e]at h⊢
    by_cases f:x.toNat=117
    · rw[if_pos f]at h⊢;exact c 4 h
    rw[if_neg f];simp
theorem zVS (q:UInt16):∀(f:Nat) (l:List UInt16) (b:List UInt16),(zDC q f l b).1=0→1≤(zDC q f l b).2.2∧(zDC q f l b).2.2≤l.length:=by
 intro f
 induction f with
 | zero=>intro l b h;simp[zDC]at h
 | succ f d=>
  intro l b h;cases l with
  | nil=>simp[zDC]at h
  | cons x r=>
   unfold zDC at h⊢
   by_cases h1:zAJ x=true
   · rw[if_pos h1]at h;cases h
   rw[if_neg h1]at h⊢
   by_cases e:x=q
   · rw[if_pos e];simp
   rw[if_neg e]at h⊢
   by_cases g:x.toNat=92
   · rw[if_pos g]at h⊢
     by_cases c:(zEE r).1≠0
     · rw[if_pos c]at h;exact absurd h c
     · rw[if_neg c]at h⊢;have j:=zFU (Decidable.not_not.1 c);have h6:=d _ _ h;rw[List.length_drop]at h6;simp only[List.length_cons];omega
   · rw[if_neg g]at h⊢;have h6:=d _ _ h;simp only[List.length_cons];omega
theorem zFV:∀{m n:Nat},zBa l m=some n→1≤n∧n≤m∧zA0 l n≠0:=by
 intro m
 induction m with
 | zero=>intro n h;simp[zBa]at h
 | succ m b=>
  intro n h;unfold zBa at h;split at h
  · injection h with h;subst h;exact⟨by omega,by omega,by assumption⟩
  · have:=b h;exact⟨this.1,by omega,this.2.2⟩
theorem zFW (h:zA0 l n≠0):n≤l.length:=by
 unfold zA0 at h;split at h
 · rename_i b
   simp only[Bool.and_eq_true,decide_eq_true_eq]at b;exact b.1.1
 · exact absurd rfl h
theorem zE0 {p:α→Bool} {x:α} {r:List α} (h:p x=true):1≤((x::r).takeWhile p).length:=by
 rw[List.takeWhile_cons_of_pos h];simp
theorem zSH {d:List UInt16} (h:(zBu d r).1=0) (j:1≤d.length):1≤(zBu d r).2.2∧(zBu d r).2.2≤d.length+r.length:=by
 unfold zBu at h⊢;split
 · rename_i h1;rw[if_pos h1]at h;cases h
 · rename_i h1
   rw[if_neg h1]at h;split
   · rename_i e
     rw[if_pos e]at h;have f:=zC3 e;unfold zIg at h⊢;split
     · rename_i b;rw[if_pos b]at h;cases h
     · rename_i b
       rw[if_neg b]at h;split
       · rename_i c;rw[if_pos c]at h;cases h
       · simp at f;show 1≤d.length+1∧d.length+1≤_;omega
   · rename_i e
     rw[if_neg e]at h;split
     · rename_i b;rw[if_pos b]at h;cases h
     · rename_i b
       rw[if_neg b]at h;split
       · rename_i c;rw[if_pos c]at h;cases h
       · rename_i c
         rw[if_neg c]at h;split
         · rename_i g;rw[if_pos g]at h;cases h
         · show 1≤d.length∧d.length≤_;omega
theorem zI9 {z:Bool} (h:(zAY z l).1=0):1≤(zAY z l).2.2∧(zAY z l).2.2≤l.length:=by
 cases l with
 | nil=>cases h
 | cons x r=>
  rw[zA4]at h⊢
  by_cases h1:zAz x=true
  · rw[if_pos h1]at h⊢;unfold zCf at h⊢;split
    · rename_i c;rw[if_pos c]at h;cases h
    · exact⟨zE0 (by simp[zAx,h1]),zBV _ _⟩
  rw[if_neg h1]at h⊢
  by_cases c:zK x=true
  · rw[if_pos c]at h⊢;unfold zBe at h⊢;have:=zSH h (zE0 c);have d:=zBV zK (x::r);rw[List.length_drop]at this;omega
  rw[if_neg c]at h⊢
  by_cases d:(x.toNat==39 || x.toNat==34)=true
  · rw[if_pos d]at h⊢;unfold zAy at h⊢;split
    · rename_i b;rw[if_pos b]at h;exact absurd h b
    · rename_i b
      have:=zVS x _ _ _ (Decidable.not_not.1 b);simp only[List.length_cons,zJ5];omega
  rw[if_neg d]at h⊢
  by_cases b:(x.toNat==46&&zBF 0 zK r)=true
  · rw[if_pos b]at h;cases h
  rw[if_neg b]at h⊢;unfold zCG at h⊢;cases hs:zBa (x::r) 4 with
  | none=>
   rw[hs]at h;simp only at h;split at h<;>cases h
  | some n=>
   rw[hs]at h;have e:=zFV hs;have h6:=zFW e.2.2;simp only at h⊢;split
   · rename_i f;rw[if_pos f]at h;cases h
   · exact⟨e.1,h6⟩
theorem zE1 (h:(zA6 k l).1=0):1≤(zA6 k l).2.2∧(zAQ l).1+(zA6 k l).2.2≤l.length:=by
 have h1:=zI9 h;have b:=zIB l;rw[List.length_drop]at h1;unfold zA6;omega
theorem zO2:∀(f g k:Nat) (l:List UInt16),l.length < f→l.length < g→zFD f k l=zFD g k l:=by
 intro f
 induction f with
 | zero=>intro g k l b _;omega
 | succ f c=>
  intro g k l b hg;obtain⟨g,rfl⟩:∃m,g=m+1:=⟨g - 1,by omega⟩;unfold zFD;split
  · rfl
  · split
    · rfl
    · split
      · rfl
      · rename_i d
        have e:=zE1 (Decidable.not_not.1 d);rw[c g _ (l.drop ((zAQ l).1+(zA6 k l).2.2)) (by rw[List.length_drop];omega) (by rw[List.length_drop];omega)]
def zGW (k:Nat) (l:List UInt16):List Tok×Nat×Nat:=zFD (l.length+1) k l
theorem zJA (h:(zAQ l).2.2≠0):zGW k l=([],k+(zAQ l).1,(zAQ l).2.2):=by
 unfold zGW;rw[zFD,if_pos h]
theorem zIC (h:(zAQ l).2.2=0) (b:l.drop (zAQ l).1=[]):zGW k l=([setAt zr (k+(zAQ l).1) (zAQ l).2.1],0,0):=by
 unfold zGW;rw[zFD,if_neg (by rw[h];simp),if_pos b]
theorem zLY (h:(zAQ l).2.2=0) (b:l.drop (zAQ l).1≠[]) (c:(zA6 k l).1≠0):zGW k l=([],k+(zAQ l).1,(zA6 k l).1):=by
 unfold zGW;rw[zFD,if_neg (by rw[h];simp),if_neg b,if_pos c]
theorem zE2 (h:(zAQ l).2.2=0) (c:l.drop (zAQ l).1≠[]) (b:(zA6 k l).1=0):
 zGW k l=zFo (setAt (zA6 k l).2.1 (k+(zAQ l).1) (zAQ l).2.1) (zGW (k+(zAQ l).1+(zA6 k l).2.2) (l.drop ((zAQ l).1+(zA6 k l).2.2))):=by
 have d:=zE1 b;unfold zGW;rw[zFD,if_neg (by rw[h];simp),if_neg c,if_neg (by rw[b];simp)];rw[zO2 l.length ((l.drop ((zAQ l).1+(zA6 k l).2.2)).length+1) _ _ (by rw[List.length_drop];omega) jo]
theorem zB2 (h:¬4096 < u.length):zDx u=zGW 0 u:=by unfold zDx zGW;rw[if_neg h]
theorem zA5 (x:UInt16) (w:World):Calls prog 60 #[.int .u16 (x.toNat:Int)] w fun e w'=>e=.returned (.bool (zAz x))∧w=w':=by
 have h1:=x.toNat_lt;go_enter func60,ntmps60;go_wp2
 all_goals go_ret
 all_goals refine⟨zJ ?_,rfl⟩
 all_goals (rw[Bool.eq_iff_iff];simp only[zAz,Bool.and_eq_true,Bool.or_eq_true,beq_iff_eq,decide_eq_true_eq,true_iff];omega)
theorem zAH (x:UInt16) (w:World):Calls prog 62 #[.int .u16 (x.toNat:Int)] w fun e w'=>e=.returned (.bool (zK x))∧w=w':=by
 have h1:=x.toNat_lt;go_enter func62,ntmps62;go_wp2
 all_goals go_ret
 all_goals refine⟨zJ ?_,rfl⟩
 all_goals (rw[Bool.eq_iff_iff];simp only[zK,Bool.and_eq_true,decide_eq_true_eq,Bool.false_eq_true,false_iff];omega)
theorem zB3 (x:UInt16) (w:World):Calls prog 56 #[.int .u16 (x.toNat:Int)] w fun e w'=>e=.returned (.bool (zHM x))∧w=w':=by
 have h1:=x.toNat_lt;go_enter func56,ntmps56;go_wp2
 all_goals go_ret
 all_goals refine⟨zJ ?_,rfl⟩
 all_goals (rw[Bool.eq_iff_iff];simp[zHM];omega)
theorem zAT (x:UInt16) (w:World):Calls prog 57 #[.int .u16 (x.toNat:Int)] w fun e w'=>e=.returned (.bool (zAJ x))∧w=w':=by
 have h1:=x.toNat_lt;go_enter func57,ntmps57;go_wp2
 all_goals go_ret
 all_goals refine⟨zJ ?_,rfl⟩
 all_goals (rw[Bool.eq_iff_iff];simp[zAJ];omega)
theorem zBD (x:UInt16) (w:World):Calls prog 94 #[.int .u16 (x.toNat:Int)] w fun e w'=>e=.returned (.bool (zHu x))∧w=w':=by
 have h1:=x.toNat_lt;go_enter func94,ntmps94;go_wp2
 all_goals go_ret
 all_goals refine⟨zJ ?_,rfl⟩
 all_goals (rw[Bool.eq_iff_iff];simp[zHu];omega)
theorem zGX (b:Bool) (w:World):Calls prog 93 #[.bool b] w fun e w'=>e=.returned (.int .i64 (zHv b:Nat))∧w=w':=by
 cases b
 all_goals
  go_enter func93,ntmps93;go_wp2;go_ret;exact⟨rfl,rfl⟩
theorem zO3 (x:UInt16) (w:World):Calls prog 96 #[.int .u16 (x.toNat:Int)] w fun e w'=>e=.returned (.bool (zAx x))∧w=w':=by
 cases hl:zAz x with
 | true=>
  have b:=zA (show zAx x=true by simp[zAx,hl]);go_enter func96,ntmps96;go_wp2_with (go_at_call 60;refine(zA5 _ _).mono ?_;rintro e w' ⟨rfl,rfl⟩);go_ret;exact⟨zJ b.out.symm,rfl⟩
 | false=>
  have b:=zA (show zAx x=zK x by simp[zAx,hl]);go_enter func96,ntmps96;go_wp2_with (first | (go_at_call 60;refine(zA5 _ _).mono ?_;rintro e w' ⟨rfl,rfl⟩) | (go_at_call 62;refine(zAH _ _).mono ?_;rintro e w' ⟨rfl,rfl⟩));go_ret;exact⟨zJ b.out.symm,rfl⟩
theorem zLZ (x:UInt16) (w:World):Calls prog 151 #[.int .u16 (x.toNat:Int)] w fun e w'=>e=.returned (.int .u16 (zHw x:Nat))∧w=w':=by
 have h1:=x.toNat_lt;cases hd:zK x with
 | true=>
  have j:=zA3.1 hd;have b:=zA (show zHw x=x.toNat - 48 by rw[zHw,if_pos hd]);go_enter func151,ntmps151;go_wp2_with (go_at_call 62;refine(zAH _ _).mono ?_;rintro e w' ⟨rfl,rfl⟩);go_ret;exact⟨zF7 (by rw[b.out];omega),rfl⟩
 | false=>
  by_cases c:97≤x.toNat∧x.toNat≤102
  · have b:=zA (show zHw x=x.toNat - 87 by rw[zHw,if_neg (by rw[hd];simp),if_pos c]);obtain⟨c,d⟩:=c;go_enter func151,ntmps151;go_wp2_with (go_at_call 62;refine(zAH _ _).mono ?_;rintro e w' ⟨rfl,rfl⟩);go_ret;exact⟨zF7 (by rw[b.out];omega),rfl⟩
  · by_cases d:65≤x.toNat∧x.toNat≤70
    · have b:=zA (show zHw x=x.toNat - 55 by rw[zHw,if_neg (by rw[hd];simp),if_neg c,if_pos d]);obtain⟨d,m⟩:=d;have o:¬(97:Int)≤(x.toNat:Int):=by omega
      clear c;go_enter func151,ntmps151;go_wp2_with (go_at_call 62;refine(zAH _ _).mono ?_;rintro e w' ⟨rfl,rfl⟩);go_ret;exact⟨zF7 (by rw[b.out];omega),rfl⟩
    · have b:=zA (show zHw x=16 by rw[zHw,if_neg (by rw[hd];simp),if_neg c,if_neg d]);have g:¬(97:Int)≤(x.toNat:Int)∨((97:Int)≤(x.toNat:Int)∧¬(x.toNat:Int)≤102):=by omega
      have f:¬(65:Int)≤(x.toNat:Int)∨((65:Int)≤(x.toNat:Int)∧¬(x.toNat:Int)≤70):=by omega
      clear c d;rcases g with r1 | ⟨r1,k⟩
      all_goals rcases f with r2 | ⟨r2,l⟩
      all_goals first
       | (exfalso;omega)
       | (
        go_enter func151,ntmps151;go_wp2_with (go_at_call 62;refine(zAH _ _).mono ?_;rintro e w' ⟨rfl,rfl⟩);go_ret;exact⟨zF7 (by rw[b.out];rfl),rfl⟩)
theorem zMg (x:UInt16) (w:World):Calls prog 150 #[.int .u16 (x.toNat:Int)] w fun e w'=>e=.returned (.bool (zED x))∧w=w':=by
 go_enter func150,ntmps150;go_wp2_with (go_at_call 151;refine(zLZ _ _).mono ?_;rintro e w' ⟨rfl,rfl⟩);go_ret;exact⟨zJ (by unfold zED;exact decide_eq_decide.2 jo),rfl⟩
theorem Reads.spotL {w:World} (h:Reads w B 1 A n (zAI l)) (g:0 < l.length):
 ∃b off,A=some ⟨b,off,none⟩∧b < B∧∀j (f:j < l.length),w.cell? ⟨b,off+j,none⟩=some (.int .u16 (l[j].toNat:Int)):=by
 obtain⟨d,e,hb,c⟩:=h.u16_0 g;have hs:d.spot=none:=by
  cases hsp:d.spot with
  | none=>rfl
  | some s=>
   exfalso;simp only[World.cell?,hsp]at c;split at c
   · simp at c
   · cases c
 obtain⟨b,off,m⟩:=d;simp only at hs;subst hs;refine⟨b,off,e,hb,fun j f=>?_⟩;obtain⟨k,e',_,h1⟩:=h.u16 f;rw[e]at e';injection e' with e';subst e';rw[Addr.add_lit]at h1;exact h1
theorem zDl {j:Nat} (h:k+j < u.length):zBF j p (u.drop k)=p u[k+j]:=by
 unfold zBF;rw[List.getElem?_drop,yAB h];rfl
theorem zDJ {j:Nat} (h:¬k+j < u.length):zBF j p (u.drop k)=false:=by
 unfold zBF;rw[List.getElem?_drop,List.getElem?_eq_none jo];rfl
theorem zDm {e e':α} {w w':World} (h:e=e'∧w=w'):e=e'∧w'=w:=⟨h.1,h.2.symm⟩
theorem zHc {g j:Nat} {w:World} (o:Rd w g A n c k) (v:u.length=n) (y:Reads w B 1 A n (zAI u)) (hk:k≤n) (E:n≤4096) (F:j≤4096) {q:Bool} (p:zBF j zAz (u.drop k)=q):
 Calls prog 65 #[.pointer (some ⟨g,0,none⟩),.int .i64 (j:Int),.func (.func 60) #[] #[]] w fun e w'=>e=.returned (.bool q)∧∃m,w'=w.drewN m:=by
 subst v;have C:=o.c0;have D:=o.c1
 by_cases d:k+j < u.length
 · have l:(k:Int)+(j:Int) < (u.length:Int):=by omega
   have r:=zA (show zAz u[k+j]=q by rw[←p,zDl d]);obtain⟨b,off,rfl,_,f⟩:=y.spotL jo;have s:=f (k+j) d;obtain⟨x,t⟩:=jx (u[k+j]);rw[t]at s r;clear f p t o;go_enter func65,ntmps65;go_wp2_with fail
   go_quiet (first | (go_at_call 60;refine Calls.quiet_of_same ((zA5 _ _).mono fun _ _ h=>zDm h)))
   go_wp2;go_ret;exact⟨zJ r.out,_,rfl⟩
 · have l:¬(k:Int)+(j:Int) < (u.length:Int):=by omega
   have z:decide ((k:Int)+(j:Int) < (u.length:Int))=false:=yAI l;have r:=zA (show false=q by rw[←p,zDJ d]);clear d p o;go_enter func65,ntmps65;go_wp2_with fail
   go_quiet (fail)
   go_wp2;go_ret;exact⟨zJ r.out,_,rfl⟩
theorem zAq {g j:Nat} {w:World} (o:Rd w g A n c k) (v:u.length=n) (y:Reads w B 1 A n (zAI u)) (hk:k≤n) (E:n≤4096) (F:j≤4096) {q:Bool} (p:zBF j zK (u.drop k)=q):
 Calls prog 65 #[.pointer (some ⟨g,0,none⟩),.int .i64 (j:Int),.func (.func 62) #[] #[]] w fun e w'=>e=.returned (.bool q)∧∃m,w'=w.drewN m:=by
 subst v;have C:=o.c0;have D:=o.c1
 by_cases d:k+j < u.length
 · have l:(k:Int)+(j:Int) < (u.length:Int):=by omega
   have r:=zA (show zK u[k+j]=q by rw[←p,zDl d]);obtain⟨b,off,rfl,_,f⟩:=y.spotL jo;have s:=f (k+j) d;obtain⟨x,t⟩:=jx (u[k+j]);rw[t]at s r;clear f p t o;go_enter func65,ntmps65;go_wp2_with fail
   go_quiet (first | (go_at_call 62;refine Calls.quiet_of_same ((zAH _ _).mono fun _ _ h=>zDm h)))
   go_wp2;go_ret;exact⟨zJ r.out,_,rfl⟩
 · have l:¬(k:Int)+(j:Int) < (u.length:Int):=by omega
   have z:decide ((k:Int)+(j:Int) < (u.length:Int))=false:=yAI l;have r:=zA (show false=q by rw[←p,zDJ d]);clear d p o;go_enter func65,ntmps65;go_wp2_with fail
   go_quiet (fail)
   go_wp2;go_ret;exact⟨zJ r.out,_,rfl⟩
theorem zKI {g j:Nat} {w:World} (o:Rd w g A n c k) (v:u.length=n) (y:Reads w B 1 A n (zAI u)) (hk:k≤n) (E:n≤4096) (F:j≤4096) {q:Bool} (p:zBF j zAx (u.drop k)=q):
 Calls prog 65 #[.pointer (some ⟨g,0,none⟩),.int .i64 (j:Int),.func (.func 96) #[] #[]] w fun e w'=>e=.returned (.bool q)∧∃m,w'=w.drewN m:=by
 subst v;have C:=o.c0;have D:=o.c1
 by_cases d:k+j < u.length
 · have l:(k:Int)+(j:Int) < (u.length:Int):=by omega
   have r:=zA (show zAx u[k+j]=q by rw[←p,zDl d]);obtain⟨b,off,rfl,_,f⟩:=y.spotL jo;have s:=f (k+j) d;obtain⟨x,t⟩:=jx (u[k+j]);rw[t]at s r;clear f p t o;go_enter func65,ntmps65;go_wp2_with fail
   go_quiet (first | (go_at_call 96;refine Calls.quiet_of_same ((zO3 _ _).mono fun _ _ h=>zDm h)))
   go_wp2;go_ret;exact⟨zJ r.out,_,rfl⟩
 · have l:¬(k:Int)+(j:Int) < (u.length:Int):=by omega
   have z:decide ((k:Int)+(j:Int) < (u.length:Int))=false:=yAI l;have r:=zA (show false=q by rw[←p,zDJ d]);clear d p o;go_enter func65,ntmps65;go_wp2_with fail
   go_quiet (fail)
   go_wp2;go_ret;exact⟨zJ r.out,_,rfl⟩
theorem zO4 {g j:Nat} {w:World} (o:Rd w g A n c k) (v:u.length=n) (y:Reads w B 1 A n (zAI u)) (hk:k≤n) (E:n≤4096) (F:j≤4096) {q:Bool} (p:zBF j zED (u.drop k)=q):
 Calls prog 65 #[.pointer (some ⟨g,0,none⟩),.int .i64 (j:Int),.func (.func 150) #[] #[]] w fun e w'=>e=.returned (.bool q)∧∃m,w'=w.drewN m:=by
 subst v;have C:=o.c0;have D:=o.c1
 by_cases d:k+j < u.length
 · have l:(k:Int)+(j:Int) < (u.length:Int):=by omega
   have r:=zA (show zED u[k+j]=q by rw[←p,zDl d]);obtain⟨b,off,rfl,_,f⟩:=y.spotL jo;have s:=f (k+j) d;obtain⟨x,t⟩:=jx (u[k+j]);rw[t]at s r;clear f p t o;go_enter func65,ntmps65;go_wp2_with fail
   go_quiet (first | (go_at_call 150;refine Calls.quiet_of_same ((zMg _ _).mono fun _ _ h=>zDm h)))
   go_wp2;go_ret;exact⟨zJ r.out,_,rfl⟩
 · have l:¬(k:Int)+(j:Int) < (u.length:Int):=by omega
   have z:decide ((k:Int)+(j:Int) < (u.length:Int))=false:=yAI l;have r:=zA (show false=q by rw[←p,zDJ d]);clear d p o;go_enter func65,ntmps65;go_wp2_with fail
   go_quiet (fail)
   go_wp2;go_ret;exact⟨zJ r.out,_,rfl⟩
theorem zHd:zq s l=true↔∀i (h:i < s.length),l[i]? =some s[i].toUInt16:=by
 unfold zq;rw[List.isPrefixOf_iff_prefix,List.prefix_iff_getElem?];simp
theorem zJB {i:Nat} (h:i < s.length) (b:l[i]? ≠some s[i].toUInt16):zq s l=false:=by
 cases hs:zq s l with
 | false=>rfl
 | true=>exact absurd (zHd.1 hs i h) b
theorem zAr {g:Nat} (s:ByteArray) {w:World} (D:Rd w g A n c k) (L:u.length=n) (E:Reads w B 1 A n (zAI u)) (hk:k≤n) (S:n≤4096) (hs:s.size≤4096) {q:Bool} (F:zq s.data.toList (u.drop k)=q):
 Calls prog 58 #[.pointer (some ⟨g,0,none⟩),.string s] w fun e w'=>e=.returned (.bool q)∧∃m,w'=w.drewN m:=by
 subst L;have C:=zA F;have M:=zA E;have G:=zA D;clear F E D;go_enter func58,ntmps58;go_wp2
 go_loopw [8] (fun i wr=>∃j:Nat,j≤s.size∧i=.int .i64 (j:Nat)∧(∃m,wr=w.drewN m)∧Hid (∀i (h:i < s.data.toList.length),i < j→(u.drop k)[i]? =some s.data.toList[i].toUInt16)) (fun i _=>s.size - (intOf i).toNat)
 case atStart=>exact⟨0,yAE _,rfl,⟨0,rfl⟩,fun i _ h=>absurd h jo⟩
 case round=>
  obtain⟨j,T,rfl,⟨m,p⟩,r⟩:=hrel;have Q:wr.cell? ⟨g,0,none⟩=some (.slice A u.length c):=by rw[p];exact(G.out.drewN m).c0
  have R:wr.cell? ⟨g,1,none⟩=some (.int .i64 (k:Int)):=by rw[p];exact(G.out.drewN m).c1
  have H:Hid (Reads wr B 1 A u.length (zAI u)):=by rw[p];exact M.out.drewN m
  have y:=zA p;clear p
  by_cases I:j < s.size
  · have z:j < s.data.toList.length:=by simpa using I
    by_cases d:k+j < u.length
    · have t:¬(u.length:Int)≤(k:Int)+(j:Int):=by omega
      have N:(k:Int)+(j:Int) < (u.length:Int):=by omega
      have O:decide ((u.length:Int)≤(k:Int)+(j:Int))=false:=yAI t;obtain⟨b,off,rfl,_,f⟩:=H.out.spotL jo;have J:=f (k+j) d;have P:=u[k+j].toNat_lt;have U:=s[j].toNat_lt;obtain⟨x,l⟩:=jx (u[k+j].toNat);rw[l]at J P
      by_cases v:x=s[j].toNat
      · have e1:((x:Int) !=(s[j].toNat:Int))=false:=by rw[v];simp
        have o:=zA (show(u.drop k)[j]? =some s.data.toList[j].toUInt16 by
         rw[List.getElem?_drop,yAB d];congr 1;refine UInt16.toNat_inj.1 ?_;rw[l,v];simp;rfl)
        clear f v l d;go_wp2_with fail
        go_quiet (fail)
        go_wp2
        go_roundw
        case rel=>
         refine⟨j+1,by omega,by go_num,⟨_,by rw[y.out];exact World.drewN_drewN _ _ _⟩,?_⟩;intro i h hi
         by_cases e:i=j
         · subst e;exact o.out
         · exact r.out i h jo
        case measure=>simp[intOf];omega
      · have e1:((x:Int) !=(s[j].toNat:Int))=true:=by rw[bne_iff_ne];omega
        have o:=zA (show false=q by
         rw[←C.out,zJB z];rw[List.getElem?_drop,yAB d];intro h;injection h with h;apply v;rw[←l,h];simp;rfl)
        clear f v l d;go_wp2_with fail
        go_quiet (fail)
        go_wp2;go_ret;exact⟨zJ o.out,_,by rw[y.out];exact World.drewN_drewN _ _ _⟩
    · have t:(u.length:Int)≤(k:Int)+(j:Int):=by omega
      have o:=zA (show false=q by
       rw[←C.out,zJB z];rw[List.getElem?_eq_none (by rw[List.length_drop];omega)];exact fun h=>by cases h)
      clear d;go_wp2_with fail
      go_quiet (fail)
      go_wp2;go_ret;exact⟨zJ o.out,_,by rw[y.out];exact World.drewN_drewN _ _ _⟩
  · have o:=zA (show true=q by
     rw[←C.out,zHd.2];intro i h;exact r.out i h (by have V:i < s.size:=(by simpa using h);omega))
    go_wp2;go_ret;exact⟨zJ o.out,m,y.out⟩
section
variable {P:Program} {w0 w:World} {g:Nat} {ops:Array Oper} {o:Oper} {a:Act} {K:Act→World→Prop} {Q:Exit→Act→World→Prop} {E:Prop}
theorem zJC (f:o.guard=none) (s x:Operand) (t:TypeId)
 (p:o.op=.call {callee:=.builtin .append,args:=#[s,x],argTypes:=#[t,t]})
 (e:TypeId) (i:TypeInfo) (z:Value) (bytes:Nat) (ht:P.underlying t=some (.slice e)) (hi:P.info? e=some i) (hz:i.zero=some z)
 (hsize:i.size=1) (hby:i.bytes=bytes) (hzs:z.cells.size=1)
 (v:Value) (xs:List Value) (hs:a.eval s=v) (hm:MadeM w0 w g e v xs)
 (cs:List Value) (m c:Nat) (hx:a.eval x=.slice (some ⟨w.heap.size,0,none⟩) m c) (hl:cs.length=m) (h1:(cs.all fun u=>u.oneCell')=true)
 (hm0:0 < m) (hsz:xs.length+m≤70368744177664) (hb2:bytes≤2)
 (h:∀v' w',MadeM w0 w' g e v' (xs++cs)→w.grownBy w' v.ownBlock→K (a.put o.dst v') w'):
 if Region.wanted o (yielded ops a.tmps)=true then Oper.wp P o a (w.alloc (.cells cs.toArray e)) K Q else E:=by
 subst hl;refine step_append_lies (w.alloc (.cells cs.toArray e)) f s x t p w0.heap.size e i z 1 bytes ht hi hz hsize hby hzs jo v xs.length xs hs (hm.own.alloc _) ⟨w.heap.size,0,none⟩ _ c cs hx jo ?_ (fun u d=>List.all_eq_true.1 h1 u d) hm0 (by unfold maxLen;omega) ?_ (yAD hm.grown.size js) _ rfl ?_
 · intro j u d;rw[Addr.add_lit,World.cell?_alloc_at _ _ _ _ rfl];simpa using d
 · calc (xs.length+cs.length)*bytes≤70368744177664*2:=Nat.mul_le_mul hsz hb2
    _≤140737488355328:=by omega
 · intro gg cap w' h1 q _ _;have b:w.grownBy w' v.ownBlock:=zC (zF w _ _) q;refine h _ w' ⟨by rw[List.length_append];exact h1,⟨b.os.trans hm.grown.os,b.tape.trans hm.grown.tape,b.output.trans hm.grown.output,yAD hm.grown.size b.size,fun k hk l=>?_⟩⟩ b;rw[b.block k (yAA hk hm.grown.size) (fun e=>by have:=(hm.own.lt k e.symm).1;omega)];exact hm.grown.block k hk l
end
def AtRun (q:UInt16→Bool) (u:List UInt16) (k p:Nat) (bs:List UInt8):Prop:=∃i,p=k+i∧bs=asc ((u.drop k).take i)∧(u.drop k).takeWhile q=(u.drop k).take i++(u.drop p).takeWhile q∧bs.length=i
theorem AtRun.start (q:UInt16→Bool) (u:List UInt16) (k:Nat):AtRun q u k k []:=⟨0,rfl,rfl,by simp,rfl⟩
theorem AtRun.step {p:Nat} {b:List UInt8} (h:AtRun q u k p b) (e:p < u.length) (h1:q u[p]=true):AtRun q u k (p+1) (b++[u[p].toUInt8]):=by
 obtain⟨i,hi,hb,f,g⟩:=h;have c:i < (u.drop k).length:=by rw[List.length_drop];omega
 have j:(u.drop k)[i]=u[p]:=by rw[List.getElem_drop];congr 1;omega
 have d:(u.drop k).take (i+1)=(u.drop k).take i++[u[p]]:=by rw[yAK c,j]
 refine⟨i+1,by omega,?_,?_,by simp[g]⟩
 · rw[d,hb];simp[asc]
 · rw[f,d,yAH e,List.takeWhile_cons_of_pos h1,List.append_assoc];rfl
theorem AtRun.stop {p:Nat} {b:List UInt8} (h:AtRun q u k p b) (h1:zBF 0 q (u.drop p)=false):b=asc ((u.drop k).takeWhile q)∧p=k+((u.drop k).takeWhile q).length:=by
 obtain⟨i,hi,hb,c,g⟩:=h;have e:(u.drop p).takeWhile q=[]:=by
  cases hd:u.drop p with
  | nil=>rfl
  | cons x r=>
   rw[hd]at h1;rw[List.takeWhile_cons_of_neg];intro f;have:zBF 0 q (x::r)=q x:=rfl;rw[this,f]at h1;cases h1
 rw[e,List.append_nil]at c;have d:=congrArg List.length hb;rw[c];refine⟨hb,?_⟩;simp only[asc,List.length_map]at d;omega
theorem zLa (x:UInt16):u8v x.toUInt8=.int .u8 (IntKind.u8.wrap (x.toNat:Int)):=by
 unfold u8v;rw[IntKind.wrap_u8];congr 1
theorem zO5 {p:Nat} (h:p < u.length):zBF 0 q (u.drop p)=q u[p]:=by
 have:=zDl (u:=u) (k:=p) (j:=0) (p:=q) jo;simpa using this
theorem zJD {p:Nat} (h:¬p < u.length):zBF 0 q (u.drop p)=false:=zDJ jo
theorem zMh {g:Nat} {w:World} (L:Rd w g A n c k) (hn:u.length=n) (O:Reads w B 1 A n (zAI u)) (hB:B≤g) (hk:k≤n) (F:n≤4096) (P:(u.drop k).takeWhile zK=l):
 Calls prog 95 #[.pointer (some ⟨g,0,none⟩),.func (.func 62) #[] #[]] w fun e w'=>e=.returned (.string ⟨(asc l).toArray⟩)∧Mv w w' g A n c (k+l.length):=by
 subst hn;obtain⟨i0,Q,R,S,T⟩:=info_parts Tryz.info_u8;have U:=zA P;have HA:=zA O;have hg:=L.lt;have V:=zA (Mv.refl L);clear P O L;go_enter func95,ntmps95;go_wp2
 go_loopg [5] (u.length - k) (fun r v wr=>∃p G,p+r=u.length∧Hid (Mv w wr g A u.length c p)∧Hid (AtRun zK u k p G)∧MadeM w wr g 5 v (u8s G))
 case atStart=>exact⟨k,[],by omega,V,AtRun.start _ _ _,MadeM.nil (World.grownBy.refl w _) _⟩
 case round=>
  obtain⟨p,G,a2,b,o,H⟩:=hrel;have q:=zA (HA.out.grown b.out.grown hB (Nat.le_of_lt hg));have a3:G.length≤p:=by obtain⟨i,hi,_,_,F⟩:=o.out;omega
  by_cases d:p < u.length
  · have a1:(p:Int) < (u.length:Int):=by omega
    cases hqx:zK u[p]with
    | true=>
     have m:=zA (show zBF 0 zK (u.drop p)=true by rw[zO5 d];exact hqx);have W:=zA (o.out.step d hqx);go_wp2_with fail;refine(zAq (j:=0) b.out.rd rfl q.out jo F jo m.out).mono ?_;rintro e1 w1 ⟨rfl,m1,f⟩;subst f;have a4:=zA (b.out.drewN m1);have a5:=b.out.rd.c0;have a6:=b.out.rd.c1;obtain⟨blk,off,rfl,_,s⟩:=q.out.spotL jo;have X:=s p d;have hx:=u[p].toNat_lt;have I:=zA H;have Y:=zA (show u8s [u[p].toUInt8]=[.int .u8 (IntKind.u8.wrap (u[p].toNat:Int))] by rw[u8s,List.map_cons,zLa];rfl);obtain⟨x,t⟩:=jx (u[p].toNat);rw[t]at X hx;rw[t]at Y;clear s t H;go_wp2_with fail;go_region_law (first | (refine zJC rfl _ _ 115 rfl 5 i0 _ 1 underlying115 Q R S T rfl _ _ rfl (I.out.go hg (zAE wr (some g) (m1+1))) [.int .u8 (IntKind.u8.wrap (x:Int))] 1 1 rfl rfl rfl jo (by rw[zFF];omega) jo ?_;intro v' w' J a0))
     all_goals have y:=zA (Rd.appended (b.out.rd.drewN (m1+1)) (I.out.go hg (zAE wr (some g) (m1+1))) hg a0)
     all_goals have a7:=y.out.c1
     all_goals have a8:=y.out.f1
     all_goals go_wp2
     all_goals go_roundg (gk - 1)
     all_goals first
      | omega
      | exact⟨p+1,_,by omega,⟨y.out.setI jo,zC J.grown (zQ w' g 1 _)⟩,W,(J.go hg (zQ w' g 1 _)).cells (by rw[←Y.out];simp[u8s])⟩
    | false=>
     have m:=zA (show zBF 0 zK (u.drop p)=false by rw[zO5 d];exact hqx);have z:=zA (o.out.stop m.out);go_wp2_with fail;refine(zAq (j:=0) b.out.rd rfl q.out jo F jo m.out).mono ?_;rintro e1 w1 ⟨rfl,m1,f⟩;subst f;obtain⟨A',M,rfl,_,_,C⟩:=(H.go hg (zAE wr (some g) m1)).u8;have N:=zEU (c:=M) C;go_wp2;go_ret;obtain⟨D,E⟩:=z.out;rw[U.out]at D E;exact⟨by rw[D];rfl,by rw[←E];exact b.out.drewN m1⟩
  · have m:=zA (show zBF 0 zK (u.drop p)=false from zJD d);have z:=zA (o.out.stop m.out);go_wp2_with fail;refine(zAq (j:=0) b.out.rd rfl q.out jo F jo m.out).mono ?_;rintro e1 w1 ⟨rfl,m1,f⟩;subst f;obtain⟨A',M,rfl,_,_,C⟩:=(H.go hg (zAE wr (some g) m1)).u8;have N:=zEU (c:=M) C;go_wp2;go_ret;obtain⟨D,E⟩:=z.out;rw[U.out]at D E;exact⟨by rw[D];rfl,by rw[←E];exact b.out.drewN m1⟩
theorem zSI {g:Nat} {w:World} (L:Rd w g A n c k) (hn:u.length=n) (O:Reads w B 1 A n (zAI u)) (hB:B≤g) (hk:k≤n) (F:n≤4096) (P:(u.drop k).takeWhile zAx=l):
 Calls prog 95 #[.pointer (some ⟨g,0,none⟩),.func (.func 96) #[] #[]] w fun e w'=>e=.returned (.string ⟨(asc l).toArray⟩)∧Mv w w' g A n c (k+l.length):=by
 subst hn;obtain⟨i0,Q,R,S,T⟩:=info_parts Tryz.info_u8;have U:=zA P;have HA:=zA O;have hg:=L.lt;have V:=zA (Mv.refl L);clear P O L;go_enter func95,ntmps95;go_wp2
 go_loopg [5] (u.length - k) (fun r v wr=>∃p G,p+r=u.length∧Hid (Mv w wr g A u.length c p)∧Hid (AtRun zAx u k p G)∧MadeM w wr g 5 v (u8s G))
 case atStart=>exact⟨k,[],by omega,V,AtRun.start _ _ _,MadeM.nil (World.grownBy.refl w _) _⟩
 case round=>
  obtain⟨p,G,a2,b,o,H⟩:=hrel;have q:=zA (HA.out.grown b.out.grown hB (Nat.le_of_lt hg));have a3:G.length≤p:=by obtain⟨i,hi,_,_,F⟩:=o.out;omega
  by_cases d:p < u.length
  · have a1:(p:Int) < (u.length:Int):=by omega
    cases hqx:zAx u[p]with
    | true=>
     have m:=zA (show zBF 0 zAx (u.drop p)=true by rw[zO5 d];exact hqx);have W:=zA (o.out.step d hqx);go_wp2_with fail;refine(zKI (j:=0) b.out.rd rfl q.out jo F jo m.out).mono ?_;rintro e1 w1 ⟨rfl,m1,f⟩;subst f;have a4:=zA (b.out.drewN m1);have a5:=b.out.rd.c0;have a6:=b.out.rd.c1;obtain⟨blk,off,rfl,_,s⟩:=q.out.spotL jo;have X:=s p d;have hx:=u[p].toNat_lt;have I:=zA H;have Y:=zA (show u8s [u[p].toUInt8]=[.int .u8 (IntKind.u8.wrap (u[p].toNat:Int))] by rw[u8s,List.map_cons,zLa];rfl);obtain⟨x,t⟩:=jx (u[p].toNat);rw[t]at X hx;rw[t]at Y;clear s t H;go_wp2_with fail;go_region_law (first | (refine zJC rfl _ _ 115 rfl 5 i0 _ 1 underlying115 Q R S T rfl _ _ rfl (I.out.go hg (zAE wr (some g) (m1+1))) [.int .u8 (IntKind.u8.wrap (x:Int))] 1 1 rfl rfl rfl jo (by rw[zFF];omega) jo ?_;intro v' w' J a0))
     all_goals have y:=zA (Rd.appended (b.out.rd.drewN (m1+1)) (I.out.go hg (zAE wr (some g) (m1+1))) hg a0)
     all_goals have a7:=y.out.c1
     all_goals have a8:=y.out.f1
     all_goals go_wp2
     all_goals go_roundg (gk - 1)
     all_goals first
      | omega
      | exact⟨p+1,_,by omega,⟨y.out.setI jo,zC J.grown (zQ w' g 1 _)⟩,W,(J.go hg (zQ w' g 1 _)).cells (by rw[←Y.out];simp[u8s])⟩
    | false=>
     have m:=zA (show zBF 0 zAx (u.drop p)=false by rw[zO5 d];exact hqx);have z:=zA (o.out.stop m.out);go_wp2_with fail;refine(zKI (j:=0) b.out.rd rfl q.out jo F jo m.out).mono ?_;rintro e1 w1 ⟨rfl,m1,f⟩;subst f;obtain⟨A',M,rfl,_,_,C⟩:=(H.go hg (zAE wr (some g) m1)).u8;have N:=zEU (c:=M) C;go_wp2;go_ret;obtain⟨D,E⟩:=z.out;rw[U.out]at D E;exact⟨by rw[D];rfl,by rw[←E];exact b.out.drewN m1⟩
  · have m:=zA (show zBF 0 zAx (u.drop p)=false from zJD d);have z:=zA (o.out.stop m.out);go_wp2_with fail;refine(zKI (j:=0) b.out.rd rfl q.out jo F jo m.out).mono ?_;rintro e1 w1 ⟨rfl,m1,f⟩;subst f;obtain⟨A',M,rfl,_,_,C⟩:=(H.go hg (zAE wr (some g) m1)).u8;have N:=zEU (c:=M) C;go_wp2;go_ret;obtain⟨D,E⟩:=z.out;rw[U.out]at D E;exact⟨by rw[D];rfl,by rw[←E];exact b.out.drewN m1⟩
theorem zO6 (s:ByteArray) (l:List UInt8):(s.toList==l)=decide (s.data.toList=l):=by
 rw[Bool.eq_iff_iff,decide_eq_true_eq,beq_iff_eq,ByteArray.toList_eq]
theorem zLb {s:ByteArray} {l:List UInt8} (h:s.data.toList=l):s=⟨l.toArray⟩:=by
 cases s with
 | mk d=>simp only at h;subst h;simp
theorem zW {s:ByteArray} {l:List (List UInt8)} (h:s.data.toList∉l) (x:List UInt8) (b:x∈l):(s.toList==x)=false:=by
 rw[zO6];exact yAI fun e=>h (e▸b)
theorem zMi {s:ByteArray} (h1:s.data.toList∉zAF) (b:s.data.toList∉zDw) (w:World):Calls prog 97 #[.string s] w fun e w'=>e=.returned (.int .i64 0)∧w=w':=by
 have N:=zW h1 [98,114,101,97,107] jd;have O:=zW h1 [99,97,116,99,104] jd;have P:=zW h1 [99,111,110,115,116] jd;have Q:=zW h1 [99,111,110,116,105,110,117,101] jd;have R:=zW h1 [101,108,115,101] jd;have S:=zW h1 [102,97,108,115,101] jd;have T:=zW h1 [102,105,110,97,108,108,121] jd;have U:=zW h1 [102,111,114] jd;have V:=zW h1 [102,117,110,99,116,105,111,110] jd;have W:=zW h1 [105,102] jd;have c:=zW h1 [105,110] jd;have d:=zW h1 [108,101,116] jd;have f:=zW h1 [110,101,119] jd;have g:=zW h1 [110,117,108,108] jd;have j:=zW h1 [114,101,116,117,114,110] jd;have k:=zW h1 [116,104,105,115] jd;have l:=zW h1 [116,104,114,111,119] jd;have m:=zW h1 [116,114,117,101] jd;have o:=zW h1 [116,114,121] jd;have p:=zW h1 [116,121,112,101,111,102] jd;have q:=zW h1 [118,111,105,100] jd;have r:=zW h1 [119,104,105,108,101] jd;have X:=zW b [97,114,103,117,109,101,110,116,115] jd;have Y:=zW b [97,115,121,110,99] jd;have a0:=zW b [97,119,97,105,116] jd;have a1:=zW b [99,97,115,101] jd;have a2:=zW b [99,108,97,115,115] jd;have a3:=zW b [100,101,98,117,103,103,101,114] jd;have a4:=zW b [100,101,102,97,117,108,116] jd;have a5:=zW b [100,101,108,101,116,101] jd;have a6:=zW b [100,111] jd;have a7:=zW b [101,110,117,109] jd;have t:=zW b [101,118,97,108] jd;have u:=zW b [101,120,112,111,114,116] jd;have v:=zW b [101,120,116,101,110,100,115] jd;have y:=zW b [105,109,112,108,101,109,101,110,116,115] jd;have z:=zW b [105,109,112,111,114,116] jd;have A:=zW b [105,110,115,116,97,110,99,101,111,102] jd;have B:=zW b [105,110,116,101,114,102,97,99,101] jd;have C:=zW b [112,97,99,107,97,103,101] jd;have D:=zW b [112,114,105,118,97,116,101] jd;have E:=zW b [112,114,111,116,101,99,116,101,100] jd;have F:=zW b [112,117,98,108,105,99] jd;have G:=zW b [115,116,97,116,105,99] jd;have H:=zW b [115,117,112,101,114] jd;have I:=zW b [115,119,105,116,99,104] jd;have J:=zW b [118,97,114] jd;have L:=zW b [119,105,116,104] jd;have M:=zW b [121,105,101,108,100] jd;clear h1 b;go_enter func97,ntmps97;go_wp2;go_ret;exact⟨rfl,rfl⟩
theorem zDn (s:ByteArray) (w:World):Calls prog 97 #[.string s] w fun e w'=>e=.returned (.int .i64 (zCN s.data.toList:Nat))∧w=w':=by
 by_cases h1:s.data.toList∈zAF
 · rw[show zCN s.data.toList=1 from if_pos h1];simp only[zAF,List.mem_cons,List.mem_nil_iff,or_false]at h1;rcases h1 with h | h | h | h | h | h | h | h | h | h | h | h | h | h | h | h | h | h | h | h | h | h
   all_goals
    rw[zLb h];clear h;go_enter func97,ntmps97;go_wp2;go_ret;exact⟨rfl,rfl⟩
 · by_cases b:s.data.toList∈zDw
   · rw[show zCN s.data.toList=2 by unfold zCN;rw[if_neg h1,if_pos b]];simp only[zDw,List.mem_cons,List.mem_nil_iff,or_false]at b;rcases b with h | h | h | h | h | h | h | h | h | h | h | h | h | h | h | h | h | h | h | h | h | h | h | h | h | h | h
     all_goals
      rw[zLb h];clear h;go_enter func97,ntmps97;go_wp2;go_ret;exact⟨rfl,rfl⟩
   · rw[show zCN s.data.toList=0 by unfold zCN;rw[if_neg h1,if_neg b]];exact zMi h1 b w
theorem zMj {s:ByteArray} (h1:s.data.toList∉zw) (b:s.data.toList∉zCh) (w:World):Calls prog 103 #[.string s] w fun e w'=>e=.returned (.int .i64 0)∧w=w':=by
 have Y:=zW h1 [123] jd;have a0:=zW h1 [125] jd;have a1:=zW h1 [40] jd;have a2:=zW h1 [41] jd;have a3:=zW h1 [91] jd;have a4:=zW h1 [93] jd;have a5:=zW h1 [59] jd;have a6:=zW h1 [44] jd;have a7:=zW h1 [46] jd;have a8:=zW h1 [63] jd;have c:=zW h1 [58] jd;have d:=zW h1 [126] jd;have f:=zW h1 [60] jd;have g:=zW h1 [62] jd;have j:=zW h1 [60,61] jd;have k:=zW h1 [62,61] jd;have l:=zW h1 [61,61] jd;have m:=zW h1 [33,61] jd;have o:=zW h1 [61,61,61] jd;have p:=zW h1 [33,61,61] jd;have q:=zW h1 [43] jd;have r:=zW h1 [45] jd;have t:=zW h1 [42] jd;have u:=zW h1 [47] jd;have v:=zW h1 [37] jd;have y:=zW h1 [38] jd;have z:=zW h1 [124] jd;have A:=zW h1 [94] jd;have B:=zW h1 [33] jd;have C:=zW h1 [38,38] jd;have D:=zW h1 [124,124] jd;have E:=zW h1 [63,63] jd;have F:=zW h1 [61] jd;have G:=zW h1 [43,61] jd;have H:=zW h1 [45,61] jd;have I:=zW h1 [42,61] jd;have J:=zW h1 [47,61] jd;have L:=zW h1 [37,61] jd;have M:=zW h1 [38,61] jd;have N:=zW h1 [124,61] jd;have O:=zW h1 [94,61] jd;have P:=zW h1 [60,60,61] jd;have Q:=zW h1 [62,62,61] jd;have R:=zW h1 [62,62,62,61] jd;have S:=zW h1 [43,43] jd;have T:=zW h1 [45,45] jd;have U:=zW h1 [60,60] jd;have V:=zW h1 [62,62] jd;have W:=zW h1 [62,62,62] jd;have X:=zW h1 [61,62] jd;have a9:=zW b [46,46,46] jd;have b0:=zW b [63,46] jd;have b1:=zW b [42,42] jd;have b2:=zW b [42,42,61] jd;have b3:=zW b [38,38,61] jd;have b4:=zW b [124,124,61] jd;have b5:=zW b [63,63,61] jd;clear h1 b;go_enter func103,ntmps103;go_wp2;go_ret;exact⟨rfl,rfl⟩
theorem zO7 (s:ByteArray) (w:World):Calls prog 103 #[.string s] w fun e w'=>e=.returned (.int .i64 (zB8 s.data.toList:Nat))∧w=w':=by
 by_cases h1:s.data.toList∈zw
 · rw[show zB8 s.data.toList=1 from if_pos h1];simp only[zw,List.mem_cons,List.mem_nil_iff,or_false]at h1;rcases h1 with h | h | h | h | h | h | h | h | h | h | h | h | h | h | h | h | h | h | h | h | h | h | h | h | h | h | h | h | h | h | h | h | h | h | h | h | h | h | h | h | h | h | h | h | h | h | h | h | h | h
   all_goals
    rw[zLb h];clear h;go_enter func103,ntmps103;go_wp2;go_ret;exact⟨rfl,rfl⟩
 · by_cases b:s.data.toList∈zCh
   · rw[show zB8 s.data.toList=2 by unfold zB8;rw[if_neg h1,if_pos b]];simp only[zCh,List.mem_cons,List.mem_nil_iff,or_false]at b;rcases b with h | h | h | h | h | h | h
     all_goals
      rw[zLb h];clear h;go_enter func103,ntmps103;go_wp2;go_ret;exact⟨rfl,rfl⟩
   · rw[show zB8 s.data.toList=0 by unfold zB8;rw[if_neg h1,if_neg b]];exact zMj h1 b w
def Blk (w:World) (R:Nat) (cs:List Value):Prop:=R < w.heap.size∧∀j (h:j < cs.length),w.cell? ⟨R,j,none⟩=some cs[j]∧w.frozen? ⟨R,j,none⟩=false
def zBQ:List Value:=[.int .i64 0,.string ⟨#[]⟩,.slice none 0 0,.int .i64 0,.int .i64 0,.bool false,.slice none 0 0,.int .i64 0,.bool false]
def noV:Value:=.agg #[.int .i64 0,.string ⟨#[]⟩,.slice none 0 0,.int .i64 0,.int .i64 0,.bool false,.slice none 0 0,.int .i64 0,.bool false]
theorem Blk.new (w:World) (cs:List Value) (T:TypeId):Blk (w.alloc (.cells cs.toArray T)) w.heap.size cs:=by
 refine⟨by simp,fun j h=>⟨?_,?_⟩⟩
 · rw[World.cell?_alloc_at _ _ _ _ rfl];simp[yAB h]
 · exact World.frozen?_alloc_at _ _ _ _ rfl
theorem Blk.grown {w w':World} {R g:Nat} {cs:List Value} (h:Blk w R cs) (hg:w.grownBy w' (some g)) (b:R≠g):Blk w' R cs:=
 ⟨yAA h.1 hg.size,fun j c=>⟨zBw hg (h.2 j c).1 b,(zDW (p:=⟨R,j,none⟩) hg h.1 b).trans (h.2 j c).2⟩⟩
theorem Blk.below {w w':World} {R D:Nat} {cs:List Value} (h:Blk w R cs) (hb:Below D w w') (b:R < D):Blk w' R cs:=
 ⟨yAA h.1 hb.size,fun j c=>⟨(hb.cell (p:=⟨R,j,none⟩) b).trans (h.2 j c).1,(hb.frozen (p:=⟨R,j,none⟩) b).trans (h.2 j c).2⟩⟩
section
variable {w w0 w':World} {R:Nat} {cs:List Value} {v0 v1 v2 v3 v4 v5 v6 v7 v8:Value}
theorem zZ (h:Blk w R cs) (b:cs.length=9):
 (((((((((w.setCell ⟨R,0,none⟩ v0).setCell ⟨R,1,none⟩ v1).setCell ⟨R,2,none⟩ v2).setCell ⟨R,3,none⟩ v3).setCell ⟨R,4,none⟩ v4).setCell ⟨R,5,none⟩ v5).setCell ⟨R,6,none⟩ v6).setCell ⟨R,7,none⟩ v7).setCell ⟨R,8,none⟩ v8).cell? ⟨R,0,none⟩=some v0∧(((((((((w.setCell ⟨R,0,none⟩ v0).setCell ⟨R,1,none⟩ v1).setCell ⟨R,2,none⟩ v2).setCell ⟨R,3,none⟩ v3).setCell ⟨R,4,none⟩ v4).setCell ⟨R,5,none⟩ v5).setCell ⟨R,6,none⟩ v6).setCell ⟨R,7,none⟩ v7).setCell ⟨R,8,none⟩ v8).cell? ⟨R,1,none⟩=some v1∧(((((((((w.setCell ⟨R,0,none⟩ v0).setCell ⟨R,1,none⟩ v1).setCell ⟨R,2,none⟩ v2).setCell ⟨R,3,none⟩ v3).setCell ⟨R,4,none⟩ v4).setCell ⟨R,5,none⟩ v5).setCell ⟨R,6,none⟩ v6).setCell ⟨R,7,none⟩ v7).setCell ⟨R,8,none⟩ v8).cell? ⟨R,2,none⟩=some v2∧(((((((((w.setCell ⟨R,0,none⟩ v0).setCell ⟨R,1,none⟩ v1).setCell ⟨R,2,none⟩ v2).setCell ⟨R,3,none⟩ v3).setCell ⟨R,4,none⟩ v4).setCell ⟨R,5,none⟩ v5).setCell ⟨R,6,none⟩ v6).setCell ⟨R,7,none⟩ v7).setCell ⟨R,8,none⟩ v8).cell? ⟨R,3,none⟩=some v3∧(((((((((w.setCell ⟨R,0,none⟩ v0).setCell ⟨R,1,none⟩ v1).setCell ⟨R,2,none⟩ v2).setCell ⟨R,3,none⟩ v3).setCell ⟨R,4,none⟩ v4).setCell ⟨R,5,none⟩ v5).setCell ⟨R,6,none⟩ v6).setCell ⟨R,7,none⟩ v7).setCell ⟨R,8,none⟩ v8).cell? ⟨R,4,none⟩=some v4∧(((((((((w.setCell ⟨R,0,none⟩ v0).setCell ⟨R,1,none⟩ v1).setCell ⟨R,2,none⟩ v2).setCell ⟨R,3,none⟩ v3).setCell ⟨R,4,none⟩ v4).setCell ⟨R,5,none⟩ v5).setCell ⟨R,6,none⟩ v6).setCell ⟨R,7,none⟩ v7).setCell ⟨R,8,none⟩ v8).cell? ⟨R,5,none⟩=some v5∧(((((((((w.setCell ⟨R,0,none⟩ v0).setCell ⟨R,1,none⟩ v1).setCell ⟨R,2,none⟩ v2).setCell ⟨R,3,none⟩ v3).setCell ⟨R,4,none⟩ v4).setCell ⟨R,5,none⟩ v5).setCell ⟨R,6,none⟩ v6).setCell ⟨R,7,none⟩ v7).setCell ⟨R,8,none⟩ v8).cell? ⟨R,6,none⟩=some v6∧(((((((((w.setCell ⟨R,0,none⟩ v0).setCell ⟨R,1,none⟩ v1).setCell ⟨R,2,none⟩ v2).setCell ⟨R,3,none⟩ v3).setCell ⟨R,4,none⟩ v4).setCell ⟨R,5,none⟩ v5).setCell ⟨R,6,none⟩ v6).setCell ⟨R,7,none⟩ v7).setCell ⟨R,8,none⟩ v8).cell? ⟨R,7,none⟩=some v7∧(((((((((w.setCell ⟨R,0,none⟩ v0).setCell ⟨R,1,none⟩ v1).setCell ⟨R,2,none⟩ v2).setCell ⟨R,3,none⟩ v3).setCell ⟨R,4,none⟩ v4).setCell ⟨R,5,none⟩ v5).setCell ⟨R,6,none⟩ v6).setCell ⟨R,7,none⟩ v7).setCell ⟨R,8,none⟩ v8).cell? ⟨R,8,none⟩=some v8:=by
 obtain⟨c0,c⟩:=h.2 0 jo;obtain⟨c1,f1⟩:=h.2 1 jo;obtain⟨c2,d⟩:=h.2 2 jo;obtain⟨c3,f3⟩:=h.2 3 jo;obtain⟨c4,e⟩:=h.2 4 jo;obtain⟨c5,f⟩:=h.2 5 jo;obtain⟨c6,g⟩:=h.2 6 jo;obtain⟨c7,j⟩:=h.2 7 jo;obtain⟨c8,k⟩:=h.2 8 jo;refine⟨?_,?_,?_,?_,?_,?_,?_,?_,?_⟩
 all_goals go_simp
theorem zBj:w.grownBy (((((((((w.setCell ⟨R,0,none⟩ v0).setCell ⟨R,1,none⟩ v1).setCell ⟨R,2,none⟩ v2).setCell ⟨R,3,none⟩ v3).setCell ⟨R,4,none⟩ v4).setCell ⟨R,5,none⟩ v5).setCell ⟨R,6,none⟩ v6).setCell ⟨R,7,none⟩ v7).setCell ⟨R,8,none⟩ v8) (some R):=
 zC (zC (zC (zC (zC (zC (zC (zC (zQ w R 0 v0) (zQ _ R 1 v1)) (zQ _ R 2 v2)) (zQ _ R 3 v3)) (zQ _ R 4 v4)) (zQ _ R 5 v5)) (zQ _ R 6 v6)) (zQ _ R 7 v7)) (zQ _ R 8 v8)
theorem zAG {g:Nat} (h:Mv w0 w g A n c k) (d:w0.heap.size≤R) (hg:g < w0.heap.size):Mv w0 (((((((((w.setCell ⟨R,0,none⟩ v0).setCell ⟨R,1,none⟩ v1).setCell ⟨R,2,none⟩ v2).setCell ⟨R,3,none⟩ v3).setCell ⟨R,4,none⟩ v4).setCell ⟨R,5,none⟩ v5).setCell ⟨R,6,none⟩ v6).setCell ⟨R,7,none⟩ v7).setCell ⟨R,8,none⟩ v8) g A n c k:=by
 have hs:=zBj (w:=w) (R:=R) (v0:=v0) (v1:=v1) (v2:=v2) (v3:=v3) (v4:=v4) (v5:=v5) (v6:=v6) (v7:=v7) (v8:=v8);refine⟨⟨zBw hs h.rd.c0 (show g≠R by omega),zBw hs h.rd.c1 (show g≠R by omega),(zDW (p:=⟨g,1,none⟩) hs h.rd.lt (show g≠R by omega)).trans h.rd.f1⟩,?_⟩;exact⟨hs.os.trans h.grown.os,hs.tape.trans h.grown.tape,hs.output.trans h.grown.output,yAD h.grown.size hs.size,fun i hi b=>(hs.block i (yAA hi h.grown.size) (fun e=>by injection e with e;omega)).trans (h.grown.block i hi b)⟩
theorem zA9 {base e:TypeId} {v:Value} (h:w.ownsRow base e 1 v n xs) (hb:R < base):(((((((((w.setCell ⟨R,0,none⟩ v0).setCell ⟨R,1,none⟩ v1).setCell ⟨R,2,none⟩ v2).setCell ⟨R,3,none⟩ v3).setCell ⟨R,4,none⟩ v4).setCell ⟨R,5,none⟩ v5).setCell ⟨R,6,none⟩ v6).setCell ⟨R,7,none⟩ v7).setCell ⟨R,8,none⟩ v8).ownsRow base e 1 v n xs:=zBl h zBj hb
end
def zWg (w:World) (base:Nat) (t:Tok) (v:Value):Prop:=
 ∃vs vm,v=.agg #[.int .i64 (t.kind:Int),.string ⟨t.text.toArray⟩,vs,.int .i64 t.nk,.int .i64 t.nn,.bool false,vm,.int .i64 (t.pos:Int),.bool t.nl]∧
  w.ownsRow base 65 1 vs t.str.length (zAI t.str)∧w.ownsRow base 67 1 vm t.mag.length (t.mag.map fun n:Nat=>Value.int .u32 (n:Int))
theorem zGY {a b:Nat} {s:Tok} (h:((a,t,m):Ans)=(b,s,k)):a=b∧t=s∧m=k:=by
 simp only[Prod.mk.injEq]at h;exact h
theorem zCJ {x:Nat} {s:Tok} (h:bad x=(e,s,k)):x=e∧zr=s∧0=k:=zGY h
theorem zMk {g:Nat} {w:World} (J:Rd w g A n c k) (S:u.length=n) (L:Reads w B 1 A n (zAI u)) (hB:B≤g) (hk:k≤n) (M:n≤4096) (d:zCf (u.drop k)=(e,t,m)):
 Calls prog 61 #[.pointer (some ⟨g,0,none⟩)] w fun T w'=>∃v,T=.returned (.tuple #[v,.int .i64 (e:Int)])∧(e≠0→v=noV)∧(e=0→zWg w' w.heap.size t v∧Mv w w' g A n c (k+m))∧w.grownBy w' (some g):=by
 subst S;have hg:=J.lt;obtain⟨l,o⟩:=jx ((u.drop k).takeWhile zAx);have N:k+l.length≤u.length:=by
  have h1:=zBV zAx (u.drop k);rw[o,List.length_drop]at h1;omega
 unfold zCf at d;rw[o,List.drop_drop]at d;obtain⟨b,hb⟩:=jx (zq [92] (u.drop (k+l.length)));rw[hb]at d;have U:=zA o;have V:=zA hb;have O:=zA d;have W:=zA L;have P:=zA (J.alloc (.cells zBQ.toArray 80));have F:=zA (L.alloc (yAD hB (Nat.le_of_lt hg)) (.cells zBQ.toArray 80));have Q:=zA (Blk.new w zBQ 80);have G:=zA (zF w (.cells zBQ.toArray 80) (some g));clear o hb d L J;go_enter func61,ntmps61;go_wp2_with fail;refine(zSI P.out rfl F.out hB hk M U.out).mono ?_;rintro e1 w1 ⟨rfl,p⟩;have r:=zA p.rd;have s:=zA (zC G.out p.grown);have H:=zA (W.out.grown s.out hB (Nat.le_of_lt hg));have I:=zA (Q.out.grown p.grown jo);clear p;go_wp2_with fail;refine(zAr ⟨#[92]⟩ r.out rfl H.out N M jd V.out).mono ?_;rintro e2 w2 ⟨rfl,m2,y⟩;have j:=zA (show Mv w w2 g A u.length c (k+l.length) by rw[y];exact⟨r.out.drewN m2,zC s.out (zAE _ _ _)⟩);have f:=zA (show Blk w2 w.heap.size zBQ by rw[y];exact I.out.grown (zAE w1 (some g) m2) jo);clear y m2 r s H I P F Q G;obtain⟨c0,X⟩:=f.out.2 0 jd;obtain⟨c1,f1⟩:=f.out.2 1 jd;obtain⟨c2,Y⟩:=f.out.2 2 jd;obtain⟨c3,f3⟩:=f.out.2 3 jd;obtain⟨c4,f4⟩:=f.out.2 4 jd;obtain⟨c5,f5⟩:=f.out.2 5 jd;obtain⟨c6,f6⟩:=f.out.2 6 jd;obtain⟨c7,f7⟩:=f.out.2 7 jd;obtain⟨c8,f8⟩:=f.out.2 8 jd;cases b with
 | true=>
  have d:=O.out;rw[if_pos rfl]at d;have q:=zA d;clear d;go_wp2;obtain⟨q0,q1,q2,q3,q4,q5,q6,q7,q8⟩:=zZ (v0:=.int .i64 0) (v1:=.string ⟨#[]⟩) (v2:=.slice none 0 0) (v3:=.int .i64 0) (v4:=.int .i64 0) (v5:=.bool false) (v6:=.slice none 0 0) (v7:=.int .i64 0) (v8:=.bool false) f.out rfl;refine bodyPost_ret (v:=.tuple #[.agg #[.int .i64 0,.string ⟨#[]⟩,.slice none 0 0,.int .i64 0,.int .i64 0,.bool false,.slice none 0 0,.int .i64 0,.bool false],.int .i64 6]) (by simp[results,results61,go_sem,q0,q1,q2,q3,q4,q5,q6,q7,q8]) rfl ?_;obtain⟨z,D,E⟩:=zCJ q.out;subst z;exact⟨_,rfl,fun _=>rfl,fun h=>absurd h jd,(zAG j.out (yAC _) hg).grown⟩
 | false=>
  have d:=O.out;rw[if_neg js]at d;have q:=zA d;clear d
  by_cases R:0 < zCN (asc l)
  · have d:=q.out;rw[if_pos R]at d;have C:=zA d;clear d;go_wp2_with (go_at_call 97;refine(zDn _ _).mono ?_;rintro e3 w3 ⟨rfl,rfl⟩);obtain⟨q0,q1,q2,q3,q4,q5,q6,q7,q8⟩:=zZ (v0:=.int .i64 6) (v1:=.string ⟨(asc l).toArray⟩) (v2:=.slice none 0 0) (v3:=.int .i64 0) (v4:=.int .i64 0) (v5:=.bool false) (v6:=.slice none 0 0) (v7:=.int .i64 0) (v8:=.bool false) f.out rfl;refine bodyPost_ret (v:=.tuple #[.agg #[.int .i64 6,.string ⟨(asc l).toArray⟩,.slice none 0 0,.int .i64 0,.int .i64 0,.bool false,.slice none 0 0,.int .i64 0,.bool false],.int .i64 0]) (by simp[results,results61,go_sem,q0,q1,q2,q3,q4,q5,q6,q7,q8]) rfl ?_;obtain⟨z,D,E⟩:=zGY C.out;subst z D E;exact⟨_,rfl,fun h=>absurd rfl h,fun _=>⟨⟨_,_,rfl,yAJ _ _ _ _,yAJ _ _ _ _⟩,zAG j.out (yAC _) hg⟩,(zAG j.out (yAC _) hg).grown⟩
  · have d:=q.out;rw[if_neg R]at d;have C:=zA d;clear d;go_wp2_with (go_at_call 97;refine(zDn _ _).mono ?_;rintro e3 w3 ⟨rfl,rfl⟩);obtain⟨q0,q1,q2,q3,q4,q5,q6,q7,q8⟩:=zZ (v0:=.int .i64 1) (v1:=.string ⟨(asc l).toArray⟩) (v2:=.slice none 0 0) (v3:=.int .i64 0) (v4:=.int .i64 0) (v5:=.bool false) (v6:=.slice none 0 0) (v7:=.int .i64 0) (v8:=.bool false) f.out rfl;refine bodyPost_ret (v:=.tuple #[.agg #[.int .i64 1,.string ⟨(asc l).toArray⟩,.slice none 0 0,.int .i64 0,.int .i64 0,.bool false,.slice none 0 0,.int .i64 0,.bool false],.int .i64 0]) (by simp[results,results61,go_sem,q0,q1,q2,q3,q4,q5,q6,q7,q8]) rfl ?_;obtain⟨z,D,E⟩:=zGY C.out;subst z D E;exact⟨_,rfl,fun h=>absurd rfl h,fun _=>⟨⟨_,_,rfl,yAJ _ _ _ _,yAJ _ _ _ _⟩,zAG j.out (yAC _) hg⟩,(zAG j.out (yAC _) hg).grown⟩
theorem zMl (l r:List UInt16):∀v,zEH v (l++r)=zEH (zEH v l) r:=by
 induction l with
 | nil=>intro v;rfl
 | cons x l b=>intro v;exact b _
theorem zKJ (l:List UInt16) (x:UInt16):zEH 0 (l++[x])=16*zEH 0 l+zHw x:=by rw[zMl];rfl
theorem zZM {a b:Nat} (c:a < 4096) (hb:b < 16):bits .or .u16 ((16*a:Nat):Int) (b:Int)=((16*a+b:Nat):Int):=by
 have e1:(BitVec.ofInt 16 ((16*a:Nat):Int)).toNat=16*a:=by rw[BitVec.ofInt_natCast,BitVec.toNat_ofNat];omega
 have e2:(BitVec.ofInt 16 (b:Int)).toNat=b:=by rw[BitVec.ofInt_natCast,BitVec.toNat_ofNat];omega
 show IntKind.u16.wrap ((BitVec.ofInt 16 ((16*a:Nat):Int) ||| BitVec.ofInt 16 (b:Int)).toNat:Int)=_;rw[BitVec.toNat_or,e1,e2,show 16*a=2^4*a from rfl,←Nat.two_pow_add_eq_or_of_lt (by omega:b < 2^4),IntKind.wrap_u16];omega
def AtCode (u:List UInt16) (k j v:Nat):Prop:=j≤(u.drop k).length∧v=zEH 0 ((u.drop k).take j)∧((u.drop k).take j).all zED=true∧v < 16^j
theorem AtCode.step {j:Nat} (h:AtCode u k j v) (l:k+j < u.length) (b:zED u[k+j]=true):AtCode u k (j+1) (16*v+zHw u[k+j]):=by
 obtain⟨h1,e,f,m⟩:=h;have c:j < (u.drop k).length:=by rw[List.length_drop];omega
 have d:(u.drop k).take (j+1)=(u.drop k).take j++[u[k+j]]:=by rw[yAK c,List.getElem_drop]
 have g:zHw u[k+j] < 16:=of_decide_eq_true b;refine⟨by omega,by rw[d,zKJ,e],by rw[d,List.all_append,f];simp[b],?_⟩;rw[Nat.pow_succ];omega
theorem AtCode.stepQ {j p:Nat} (h:AtCode u k j v) (e:p=k+j) (b:p < u.length) (c:zED u[p]=true):AtCode u k (j+1) (16*v+zHw u[p]):=by
 subst e;exact h.step b c
theorem AtCode.done {j:Nat} (h:AtCode u k j v):zCO j (u.drop k)=(0,UInt16.ofNat v,j):=by
 obtain⟨h1,b,c,_⟩:=h;unfold zCO;rw[if_pos (by rw[c,decide_eq_true h1];rfl),b]
theorem AtCode.bad {j cnt:Nat} (_h:AtCode u k j v) (d:j < cnt) (b:zBF 0 zED (u.drop (k+j))=false):zCO cnt (u.drop k)=(5,0,0):=by
 unfold zCO;rw[if_neg];intro c;simp only[Bool.and_eq_true,decide_eq_true_eq]at c;obtain⟨c1,c2⟩:=c;rw[List.length_drop]at c1;have e:k+j < u.length:=by omega
 have f:u[k+j]∈(u.drop k).take cnt:=by
  rw[List.mem_iff_getElem?];exact⟨j,by rw[List.getElem?_take,if_pos d,List.getElem?_drop,yAB e]⟩
 have g:=List.all_eq_true.1 c2 _ f;have l:=zDl (u:=u) (k:=k+j) (j:=0) (p:=zED) jo;rw[l]at b;simp only[Nat.add_zero]at b;rw[g]at b;cases b
theorem zJE {g cnt:Nat} {w:World} (F:Rd w g A n c k) (Y:u.length=n) (O:Reads w B 1 A n (zAI u)) (hB:B≤g) (hk:k≤n) (P:n≤4096) (a0:cnt≤4) (Q:zCO cnt (u.drop k)=(e,y,m)):
 Calls prog 130 #[.pointer (some ⟨g,0,none⟩),.int .i64 (cnt:Int)] w fun ev w'=>ev=.returned (.tuple #[.int .u16 (y.toNat:Int),.int .i64 (e:Int)])∧(e=0→Mv w w' g A n c (k+m))∧w.grownBy w' (some g):=by
 subst Y;have R:=zA Q;have HA:=zA O;have hg:=F.lt;have S:=zA (Mv.refl F);clear Q O F;go_enter func130,ntmps130;go_wp2
 go_loopg [6,8] cnt (fun r v i wr=>∃j G p,j+r=cnt∧i=.int .i64 (j:Nat)∧v=.int .u16 (G:Nat)∧G < 65536∧Hid (p=k+j)∧Hid (Mv w wr g A u.length c p)∧Hid (AtCode u k j G))
 case atStart=>exact⟨0,0,k,by omega,rfl,rfl,by omega,rfl,S,yAE _,rfl,rfl,by decide⟩
 case round=>
  obtain⟨j,v,p,a1,rfl,rfl,hv,d,o,f⟩:=hrel;have z:=zA (HA.out.grown o.out.grown hB (Nat.le_of_lt hg));have C:p≤u.length:=by have:=f.out.1;have:=d.out;rw[List.length_drop]at *;omega
  by_cases T:j < cnt
  · cases hqx:zBF 0 zED (u.drop p)with
    | true=>
     have U:p < u.length:=by
      rcases Nat.lt_or_ge p u.length with h | h
      · exact h
      · rw[zDJ (u:=u) (k:=p) (j:=0) (p:=zED) jo]at hqx;cases hqx
     have b:zED u[p]=true:=by
      have h5:=zDl (u:=u) (k:=p) (j:=0) (p:=zED) jo;rw[h5]at hqx;simpa using hqx
     have D:=zA (f.out.stepQ d.out U b);have E:zHw u[p] < 16:=of_decide_eq_true b;have V:v < 4096:=by
      have:=f.out.2.2.2;have h2:16^j≤16^3:=Nat.pow_le_pow_right jo jo;omega
     have H:=zA hqx;clear hqx b;go_wp2_with fail;refine(zO4 (j:=0) o.out.rd rfl z.out C P jo H.out).mono ?_;rintro e1 w1 ⟨rfl,m1,l⟩;have s:=zA (show Mv w w1 g A u.length c p by rw[l];exact o.out.drewN m1);have I:=zA (show Reads w1 B 1 A u.length (zAI u) by rw[l];exact z.out.drewN m1);clear l;have a2:=s.out.rd.c0;have a3:=s.out.rd.c1;have a4:=s.out.rd.f1;obtain⟨blk,off,rfl,_,t⟩:=I.out.spotL jo;have W:=t p U;have a5:(p:Int) < (u.length:Int):=by omega
     obtain⟨x,b⟩:=jx (u[p]);rw[b]at W D E;have HH:=zA (zZM V E);clear t b;go_wp2_with fail
     go_quiet (first | (go_at_call 151;refine Calls.quiet_of_same ((zLZ _ _).mono fun _ _ h=>zDm h)))
     go_wp2
     go_roundg (gk - 1)
     case measure=>omega
     case rel=>
      refine⟨j+1,16*v+zHw x,p+1,by omega,by go_num,congrArg (Value.int .u16) (by rw[show(v:Int)*16=((16*v:Nat):Int) by omega];exact HH.out),by omega,?_,?_,D.out⟩
      · have:=d.out;exact zA jo
      · exact Mv.step (s.out.drewN _) jo
    | false=>
     have H:=zA hqx;have J:=zA (f.out.bad T (by rw[←d.out];exact hqx));clear hqx;go_wp2_with fail;refine(zO4 (j:=0) o.out.rd rfl z.out C P jo H.out).mono ?_;rintro e1 w1 ⟨rfl,m1,l⟩;subst l;go_wp2
     go_ret2
     have q:=J.out;rw[R.out]at q;simp only[Prod.mk.injEq]at q;obtain⟨L,M,N⟩:=q;subst L M N;exact⟨rfl,fun h=>absurd h jd,(o.out.drewN m1).grown⟩
  · obtain rfl:j=cnt:=by omega
    have X:=zA f.out.done;go_wp2
    go_ret2
    have q:=X.out;rw[R.out]at q;simp only[Prod.mk.injEq]at q;obtain⟨L,M,N⟩:=q;subst L M N;refine⟨?_,fun _=>by rw[←d.out];exact o.out,o.out.grown⟩;have:(UInt16.ofNat v).toNat=v:=by simp;omega
    rw[this];rfl
theorem zG6 (s:ByteArray) (c:Int) (w:World):
 (callFunc 159 #[.string s,.int .u8 c]).run prog w=.ok (.value (.int .i64 (Lib.indexByte s.data.toList c.toNat.toUInt8))) w:=by
 rw[run_callFunc_indexByte func159 (by kernel_rfl) (by kernel_rfl) (by kernel_rfl) (by kernel_rfl),Lib.run_indexByteString];rfl
theorem zGZ (s:ByteArray) (c:Int) (w:World):Calls prog 149 #[.string s,.int .u8 c] w fun e w'=>e=.returned (.int .i64 (Lib.indexByte s.data.toList c.toNat.toUInt8))∧w=w':=by
 have b:=zG6 s c;go_enter func149,ntmps149;go_wp2;go_ret;exact⟨rfl,rfl⟩
theorem zEM (s:ByteArray) (c:Int) (w:World) {i:Int} (hi:Lib.indexByte s.data.toList c.toNat.toUInt8=i):Calls prog 129 #[.string s,.int .u8 c] w fun e w'=>e=.returned (.int .i64 i)∧w=w':=by
 subst hi;go_enter func129,ntmps129;go_wp2_with (go_at_call 149;refine(zGZ _ _ _).mono ?_;rintro e w' ⟨rfl,rfl⟩);go_ret;exact⟨rfl,rfl⟩
def zUb (x:UInt16):Int:=Lib.indexByte [110,116,114,98,118,102] (IntKind.u8.wrap (x.toNat:Int)).toNat.toUInt8
theorem zO8 (h:x.toNat < 128) (hs:zBx x=none):zUb x= -1:=by
 have e:(IntKind.u8.wrap (x.toNat:Int)).toNat=x.toNat:=by rw[IntKind.wrap_u8];omega
 unfold zUb;rw[e];have b:∀k:UInt16,k∈([110,116,114,98,118,102]:List UInt16)→x≠k:=by
  intro k hk c;subst c;revert hs;simp only[List.mem_cons,List.mem_nil_iff,or_false]at hk;rcases hk with rfl | rfl | rfl | rfl | rfl | rfl<;>decide
 have hb:∀k:UInt16,k∈([110,116,114,98,118,102]:List UInt16)→(k.toNat.toUInt8==x.toNat.toUInt8)=false:=by
  intro k hk;have h1:=b k hk;rw[yA];intro d;apply h1;refine UInt16.toNat_inj.1 ?_;have f:=congrArg UInt8.toNat d;have q:k.toNat < 128:=by
   simp only[List.mem_cons,List.mem_nil_iff,or_false]at hk;rcases hk with rfl | rfl | rfl | rfl | rfl | rfl<;>decide
  simp at f;omega
 have g:=hb 110 js;have j:=hb 116 js;have l:=hb 114 js;have m:=hb 98 js;have o:=hb 118 js;have p:=hb 102 js;have c1:((110:UInt8)==x.toNat.toUInt8)=false:=g;have c2:((116:UInt8)==x.toNat.toUInt8)=false:=j;have c3:((114:UInt8)==x.toNat.toUInt8)=false:=l;have c4:((98:UInt8)==x.toNat.toUInt8)=false:=m;have c5:((118:UInt8)==x.toNat.toUInt8)=false:=o;have c6:((102:UInt8)==x.toNat.toUInt8)=false:=p;generalize x.toNat.toUInt8=z at c1 c2 c3 c4 c5 c6⊢;simp only[Lib.indexByte,c1,c2,c3,c4,c5,c6,Bool.false_eq_true,if_false];rfl
theorem zJF (h:zBx x=some y):(x=110∧y=10)∨(x=116∧y=9)∨(x=114∧y=13)∨(x=98∧y=8)∨(x=118∧y=11)∨(x=102∧y=12):=by
 unfold zBx at h
 repeat' split at h
 all_goals simp_all
theorem zVT (h:k < u.length):zEE (u.drop k)=if(zBx u[k]).isSome=true then(0,(zBx u[k]).getD 0,1)else zRD u[k] (u.drop (k+1)):=by
 rw[yAH h];rfl
theorem zO9 (p:Nat×UInt16×Nat):(more 1 p).1=p.1∧(more 1 p).2.1=p.2.1∧(p.1=0→(more 1 p).2.2=1+p.2.2):=by
 unfold more;split
 · rename_i h;exact⟨h.symm,rfl,fun _=>rfl⟩
 · rename_i h;exact⟨rfl,rfl,fun b=>absurd b h⟩
theorem zGa {a b:Nat} {d:Nat} (h:(a,x,b)=(c,y,d)):a=c∧x=y∧b=d:=by
 simp only[Prod.mk.injEq]at h;exact h
theorem zLc {w wc w3:World} {g e1 m1:Nat} {b:UInt16} (h:more 1 (e1,b,m1)=(e,y,m)) (l:e1=0→Mv wc w3 g A n c (k+1+m1)) (o:wc.grownBy w3 (some g)) (d:w.grownBy wc (some g)):
 Ending.returned (.tuple #[.int .u16 (b.toNat:Int),.int .i64 (e1:Int)])=.returned (.tuple #[.int .u16 (y.toNat:Int),.int .i64 (e:Int)])∧(e=0→Mv w w3 g A n c (k+m))∧w.grownBy w3 (some g):=by
 obtain⟨q1,q2,q3⟩:=zO9 (e1,b,m1);rw[h]at q1 q2 q3;simp only at q1 q2 q3;subst q1 q2;refine⟨rfl,fun f=>?_,zC d o⟩;have:=q3 f;have j:=l f;rw[show k+m=k+1+m1 by omega];exact⟨j.rd,zC d j.grown⟩
theorem zGb {g:Nat} {w:World} (M:Rd w g A n c k) (hn:u.length=n) (W:Reads w B 1 A n (zAI u)) (hB:B≤g) (hk:k≤n) (t:n≤4096) (C:zEE (u.drop k)=(e,y,m)):
 Calls prog 101 #[.pointer (some ⟨g,0,none⟩)] w fun ev w'=>ev=.returned (.tuple #[.int .u16 (y.toNat:Int),.int .i64 (e:Int)])∧(e=0→Mv w w' g A n c (k+m))∧w.grownBy w' (some g):=by
 subst hn;have hg:=M.lt;have a4:=M.c0;have a5:=M.c1;have a6:=M.f1
 by_cases Q:k < u.length
 · rw[zVT Q]at C;have G:=zA (Mv.refl M);have HA:=zA W;obtain⟨blk,off,rfl,_,N⟩:=W.spotL jo;have Y:=N k Q;have hx:=u[k].toNat_lt;obtain⟨x,a0⟩:=jx (u[k]);rw[a0]at Y C hx;have b0:(k:Int) < (u.length:Int):=by omega
   have a7:((k:Int)==(u.length:Int))=false:=yA.2 jo;have P:=zA C;clear N a0 C W M;cases hs:zBx x with
   | some z=>
    have C:=P.out;rw[hs]at C;simp only[Option.isSome_some,if_true,Option.getD_some,Prod.mk.injEq]at C;obtain⟨q1,q2,q3⟩:=C;have HE:=zA q1;have HY:=zA q2;have HM:=zA q3;clear q1 q2 q3 P;rcases zJF hs with⟨rfl,rfl⟩ | ⟨rfl,rfl⟩ | ⟨rfl,rfl⟩ | ⟨rfl,rfl⟩ | ⟨rfl,rfl⟩ | ⟨rfl,rfl⟩
    all_goals clear hs
    all_goals
     go_enter func101,ntmps101;go_wp2_with fail
     go_quiet (fail)
     go_wp2_with fail
     go_quiet (fail)
     go_wp2_with (go_at_call 129;refine(zEM _ _ _ (by rfl)).mono ?_;rintro e1 w1 ⟨rfl,rfl⟩)
     go_ret2
     obtain rfl:=HY.out;obtain rfl:=HE.out;exact⟨rfl,fun _=>by rw[←HM.out];exact(Mv.step (G.out.drewN _) jo).below (ja),((Mv.step (G.out.drewN _) (k':=k+1) jo).below (ja)).grown⟩
   | none=>
    have HR:=zA (show zRD x (u.drop (k+1))=(e,y,m) by have h:=P.out;rw[hs]at h;simpa using h);obtain⟨i,hi⟩:=jx (Lib.indexByte (⟨#[110,116,114,98,118,102]⟩:ByteArray).data.toList (IntKind.u8.wrap (x.toNat:Int)).toNat.toUInt8);have HI:=zA hi;have a1:x.toNat < 128→i= -1:=fun h=>by rw[←hi];exact zO8 h hs
    have a2:=zA a1;clear hi a1 hs P;go_enter func101,ntmps101;go_wp2_with fail
    go_quiet (fail)
    go_wp2_with fail
    go_quiet (fail)
    go_upto_region 6 with(go_at_call 129;refine(zEM _ _ _ HI.out).mono ?_;rintro e1 w1 ⟨rfl,rfl⟩)
    go_cut [41] (fun v wx=>v=.bool false∧Hid (Mv w wx g (some ⟨blk,off,none⟩) u.length c (k+1)))
    case first=>
     by_cases a8:x.toNat < 128
     · obtain rfl:=a2.out a8;go_wp2_with fail;go_meet;exact⟨rfl,Mv.step (G.out.drewN _) jo⟩
     · have b1:¬(x.toNat:Int) < 128:=by omega
       go_wp2_with fail;go_meet;exact⟨rfl,Mv.step (G.out.drewN _) jo⟩
    case rest=>
     obtain⟨hv,o⟩:=hcut;subst hv;clear a4 a5 a6 Y a7 HI a2 G;have p:=zA (HA.out.grown o.out.grown hB (Nat.le_of_lt hg));have q:k+1≤u.length:=Q;have l:=HR.out;unfold zRD at l;obtain⟨d,hd⟩:=jx (zBF 0 zK (u.drop (k+1)));obtain⟨b,hb⟩:=jx (zq [123] (u.drop (k+1)));rw[hd,hb]at l;have L:=zA hd;have X:=zA hb;clear hd hb HR
     by_cases J:x.toNat=48
     · have a9:((x.toNat:Int)==48)=true:=by rw[J];rfl
       have O:zK x=true:=zA3.2 jo;rw[J]at l;cases d with
       | false=>
        have r:=zA (show(0,(0:UInt16),1)=(e,y,m) by simpa using l);clear l J;go_wp2_with (first | (go_at_call 65;refine(zAq (j:=0) o.out.rd rfl p.out q t jo L.out).mono ?_;rintro e2 w2 ⟨rfl,m2,f⟩;subst f) | (go_at_call 62;refine(zAH _ _).mono ?_;rintro e2 w2 ⟨rfl,rfl⟩) | (go_at_call 57;refine(zAT _ _).mono ?_;rintro e2 w2 ⟨rfl,rfl⟩) | (go_at_call 94;refine(zBD _ _).mono ?_;rintro e2 w2 ⟨rfl,rfl⟩))
        go_ret2
        obtain⟨D,E,F⟩:=zGa r.out;subst D E F;exact⟨rfl,fun _=>o.out.drewN _,(o.out.drewN _).grown⟩
       | true=>
        have r:=zA (show(5,(0:UInt16),0)=(e,y,m) by rw[O]at l;simpa using l);clear l J;go_wp2_with (first | (go_at_call 65;refine(zAq (j:=0) o.out.rd rfl p.out q t jo L.out).mono ?_;rintro e2 w2 ⟨rfl,m2,f⟩;subst f) | (go_at_call 62;refine(zAH _ _).mono ?_;rintro e2 w2 ⟨rfl,rfl⟩) | (go_at_call 57;refine(zAT _ _).mono ?_;rintro e2 w2 ⟨rfl,rfl⟩) | (go_at_call 94;refine(zBD _ _).mono ?_;rintro e2 w2 ⟨rfl,rfl⟩))
        go_ret2
        obtain⟨D,E,F⟩:=zGa r.out;subst D E F;exact⟨rfl,fun h=>absurd h jd,(o.out.drewN _).grown⟩
     have a9:((x.toNat:Int)==48)=false:=yA.2 jo;rw[show(x.toNat==48)=false from yA.2 J]at l;simp only[Bool.false_and,Bool.false_eq_true,if_false]at l;clear J;cases O:zK x with
     | true=>
      rw[O,if_pos rfl]at l;have r:=zA l;clear l;go_wp2_with (first | (go_at_call 65;refine(zAq (j:=0) o.out.rd rfl p.out q t jo L.out).mono ?_;rintro e2 w2 ⟨rfl,m2,f⟩;subst f) | (go_at_call 62;refine(zAH _ _).mono ?_;rintro e2 w2 ⟨rfl,rfl⟩) | (go_at_call 57;refine(zAT _ _).mono ?_;rintro e2 w2 ⟨rfl,rfl⟩) | (go_at_call 94;refine(zBD _ _).mono ?_;rintro e2 w2 ⟨rfl,rfl⟩))
      go_ret2
      obtain⟨D,E,F⟩:=zGa r.out;subst D E F;exact⟨rfl,fun h=>absurd h jd,o.out.grown⟩
     | false=>
      rw[O]at l;simp only[Bool.false_eq_true,if_false]at l;cases hln:zAJ x with
      | true=>
       rw[hln]at l;have r:=zA (show(6,(0:UInt16),0)=(e,y,m) by simpa using l);clear l;go_wp2_with (first | (go_at_call 65;refine(zAq (j:=0) o.out.rd rfl p.out q t jo L.out).mono ?_;rintro e2 w2 ⟨rfl,m2,f⟩;subst f) | (go_at_call 62;refine(zAH _ _).mono ?_;rintro e2 w2 ⟨rfl,rfl⟩) | (go_at_call 57;refine(zAT _ _).mono ?_;rintro e2 w2 ⟨rfl,rfl⟩) | (go_at_call 94;refine(zBD _ _).mono ?_;rintro e2 w2 ⟨rfl,rfl⟩))
       go_ret2
       obtain⟨D,E,F⟩:=zGa r.out;subst D E F;exact⟨rfl,fun h=>absurd h jd,o.out.grown⟩
      | false=>
       rw[hln]at l;cases hfr:zHu x with
       | true=>
        rw[hfr]at l;have r:=zA (show(6,(0:UInt16),0)=(e,y,m) by simpa using l);clear l;go_wp2_with (first | (go_at_call 65;refine(zAq (j:=0) o.out.rd rfl p.out q t jo L.out).mono ?_;rintro e2 w2 ⟨rfl,m2,f⟩;subst f) | (go_at_call 62;refine(zAH _ _).mono ?_;rintro e2 w2 ⟨rfl,rfl⟩) | (go_at_call 57;refine(zAT _ _).mono ?_;rintro e2 w2 ⟨rfl,rfl⟩) | (go_at_call 94;refine(zBD _ _).mono ?_;rintro e2 w2 ⟨rfl,rfl⟩))
        go_ret2
        obtain⟨D,E,F⟩:=zGa r.out;subst D E F;exact⟨rfl,fun h=>absurd h jd,o.out.grown⟩
       | false=>
        rw[hfr]at l
        by_cases s:x.toNat=117
        · have a3:((x.toNat:Int)==117)=true:=by rw[s];rfl
          have R:((x.toNat:Int)==120)=false:=by rw[s];rfl
          rw[s]at l;clear s;cases b with
          | true=>
           have r:=zA (show(6,(0:UInt16),0)=(e,y,m) by simpa using l);clear l;go_wp2_with (first | (go_at_call 65;refine(zAq (j:=0) o.out.rd rfl p.out q t jo L.out).mono ?_;rintro e2 w2 ⟨rfl,m2,f⟩;subst f) | (go_at_call 62;refine(zAH _ _).mono ?_;rintro e2 w2 ⟨rfl,rfl⟩) | (go_at_call 57;refine(zAT _ _).mono ?_;rintro e2 w2 ⟨rfl,rfl⟩) | (go_at_call 94;refine(zBD _ _).mono ?_;rintro e2 w2 ⟨rfl,rfl⟩) | (go_at_call 58;refine(zAr ⟨#[123]⟩ o.out.rd rfl p.out q t jd X.out).mono ?_;rintro e2 w2 ⟨rfl,m2,f⟩;subst f))
           go_ret2
           obtain⟨D,E,F⟩:=zGa r.out;subst D E F;exact⟨rfl,fun h=>absurd h jd,(o.out.drewN _).grown⟩
          | false=>
           have S:more 1 (zCO 4 (u.drop (k+1)))=(e,y,m):=by simpa using l
           obtain⟨⟨e1,y1,m1⟩,H⟩:=jx (zCO 4 (u.drop (k+1)));rw[H]at S;have r:=zA S;have T:=zA H;clear l S H;go_wp2_with (first | (go_at_call 65;refine(zAq (j:=0) o.out.rd rfl p.out q t jo L.out).mono ?_;rintro e2 w2 ⟨rfl,m2,f⟩;subst f) | (go_at_call 62;refine(zAH _ _).mono ?_;rintro e2 w2 ⟨rfl,rfl⟩) | (go_at_call 57;refine(zAT _ _).mono ?_;rintro e2 w2 ⟨rfl,rfl⟩) | (go_at_call 94;refine(zBD _ _).mono ?_;rintro e2 w2 ⟨rfl,rfl⟩) | (go_at_call 58;refine(zAr ⟨#[123]⟩ o.out.rd rfl p.out q t jd X.out).mono ?_;rintro e2 w2 ⟨rfl,m2,f⟩;subst f) | (go_at_call 130;refine(zJE (cnt:=4) (o.out.rd.drewN _) rfl (p.out.drewN _) hB q t jo T.out).mono ?_;rintro e3 w3 ⟨rfl,U,V⟩))
           go_ret2
           exact zLc r.out U V (o.out.drewN _).grown
        · have a3:((x.toNat:Int)==117)=false:=yA.2 jo;rw[show(x.toNat==117)=false from yA.2 s]at l;simp only[Bool.or_self,Bool.false_and,Bool.false_eq_true,if_false]at l
          by_cases I:x.toNat=120
          · have R:((x.toNat:Int)==120)=true:=by rw[I];rfl
            rw[if_pos I]at l;obtain⟨⟨e1,y1,m1⟩,H⟩:=jx (zCO 2 (u.drop (k+1)));rw[H]at l;have r:=zA l;have T:=zA H;clear l H s I;go_wp2_with (first | (go_at_call 65;refine(zAq (j:=0) o.out.rd rfl p.out q t jo L.out).mono ?_;rintro e2 w2 ⟨rfl,m2,f⟩;subst f) | (go_at_call 62;refine(zAH _ _).mono ?_;rintro e2 w2 ⟨rfl,rfl⟩) | (go_at_call 57;refine(zAT _ _).mono ?_;rintro e2 w2 ⟨rfl,rfl⟩) | (go_at_call 94;refine(zBD _ _).mono ?_;rintro e2 w2 ⟨rfl,rfl⟩) | (go_at_call 58;refine(zAr ⟨#[123]⟩ o.out.rd rfl p.out q t jd X.out).mono ?_;rintro e2 w2 ⟨rfl,m2,f⟩;subst f) | (go_at_call 130;refine(zJE (cnt:=2) o.out.rd rfl p.out hB q t jo T.out).mono ?_;rintro e3 w3 ⟨rfl,U,V⟩))
            go_ret2
            exact zLc r.out U V o.out.grown
          · have R:((x.toNat:Int)==120)=false:=yA.2 jo;rw[if_neg I,if_neg s]at l;have r:=zA l;clear l s I;go_wp2_with (first | (go_at_call 65;refine(zAq (j:=0) o.out.rd rfl p.out q t jo L.out).mono ?_;rintro e2 w2 ⟨rfl,m2,f⟩;subst f) | (go_at_call 62;refine(zAH _ _).mono ?_;rintro e2 w2 ⟨rfl,rfl⟩) | (go_at_call 57;refine(zAT _ _).mono ?_;rintro e2 w2 ⟨rfl,rfl⟩) | (go_at_call 94;refine(zBD _ _).mono ?_;rintro e2 w2 ⟨rfl,rfl⟩) | (go_at_call 58;refine(zAr ⟨#[123]⟩ o.out.rd rfl p.out q t jd X.out).mono ?_;rintro e2 w2 ⟨rfl,m2,f⟩;subst f))
            go_ret2
            obtain⟨D,E,F⟩:=zGa r.out;subst D E F;exact⟨rfl,fun _=>o.out,o.out.grown⟩
 · obtain rfl:k=u.length:=by omega
   rw[List.drop_length]at C;have P:=zA C;have G:=zA (Mv.refl M);clear C M W;go_enter func101,ntmps101;go_wp2_with fail
   go_quiet (fail)
   go_wp2
   go_ret2
   have C:=P.out;simp only[zEE,Prod.mk.injEq]at C;obtain⟨q1,q2,q3⟩:=C;subst q1 q2 q3;exact⟨rfl,fun h=>absurd h jd,(G.out.drewN _).grown⟩
theorem zSJ (q:UInt16):∀(f g:Nat) (l:List UInt16) (b:List UInt16),l.length < f→l.length < g→zDC q f l b=zDC q g l b:=by
 intro f
 induction f with
 | zero=>intro g l b c _;omega
 | succ f d=>
  intro g l b c hg;obtain⟨g,rfl⟩:∃m,g=m+1:=⟨g - 1,by omega⟩;cases l with
  | nil=>rfl
  | cons x r=>
   simp only[List.length_cons]at c hg;unfold zDC;rw[d g r (b++[x]) jo jo]
   by_cases e:(zEE r).1≠0
   · simp only[e,if_true,ne_eq,not_false_eq_true]
   · have j:=zFU (Decidable.not_not.1 e);rw[d g (r.drop (zEE r).2.2) (b++[(zEE r).2.1]) (by rw[List.length_drop];omega) (by rw[List.length_drop];omega)]
def zFX (q:UInt16) (l acc:List UInt16):Nat×List UInt16×Nat:=zDC q (l.length+1) l acc
def zJG (n:Nat) (p:Nat×List UInt16×Nat):Nat×List UInt16×Nat:=(p.1,p.2.1,n+p.2.2)
theorem zSK (q:UInt16) (b:List UInt16):zFX q [] b=(5,[],0):=rfl
theorem zPA {q:UInt16} {b:List UInt16} (h:zAJ x=true):zFX q (x::r) b=(5,[],0):=by
 unfold zFX;rw[zDC,if_pos h]
theorem zSL {q:UInt16} {b:List UInt16} (h:zAJ q=false):zFX q (q::r) b=(0,b,1):=by
 unfold zFX;rw[zDC,if_neg (by rw[h];simp),if_pos rfl]
theorem zMm {q:UInt16} {b:List UInt16} (h:zAJ x=false) (c:x≠q) (d:x.toNat≠92):zFX q (x::r) b=zJG 1 (zFX q r (b++[x])):=by
 unfold zFX;rw[zDC,if_neg (by rw[h];simp),if_neg c,if_neg d];rfl
theorem zSM {q:UInt16} {b:List UInt16} (h:zAJ x=false) (c:x≠q) (d:x.toNat=92) (e:(zEE r).1≠0):zFX q (x::r) b=((zEE r).1,[],0):=by
 unfold zFX;rw[zDC,if_neg (by rw[h];simp),if_neg c,if_pos d,if_pos e]
theorem zSN {q:UInt16} {b:List UInt16} (h:zAJ x=false) (d:x≠q) (e:x.toNat=92) (c:zEE r=(0,y,n)):zFX q (x::r) b=zJG (1+n) (zFX q (r.drop n) (b++[y])):=by
 have f:=zFU (l:=r) (by rw[c]);rw[c]at f;unfold zFX;rw[zDC,if_neg (by rw[h];simp),if_neg d,if_pos e,c,if_neg js];simp only[List.length_cons];rw[zSJ q (r.length+1) ((r.drop n).length+1) _ _ (by rw[List.length_drop];omega) jo];rfl
end Go.Proofs.YtlnbbaehihgigaaGreatDoor
