/- Joined for the claim EarlySame: the parser, the lexer and the trees as they are walked, made short by a program of mine. -/
import Derived.Test.YtjlfhidpmdgloaaGreatDoorH12
import Derived.Test.YtjlfhidpmdgloaaGreatDoorH11
import Derived.Test.YtjlfhidpmdgloaaGreatDoorH10
import Derived.Deep.RegionLaw
import Derived.Test.YtjlfhidpmdgloaaGreatDoorH04
import Derived.Test.YtjlfhidpmdgloaaGreatDoorH01
import Derived.Test.YtjlfhidpmdgloaaGreatDoorH02
import Derived.Deep.CutBlock
import Derived.Deep.DeepCutAuto
import Derived.Laws.BitsAllLaws
import Derived.Deep.LoopGhost
set_option maxHeartbeats 16000000
set_option maxRecDepth 1000000
namespace Go.Proofs.YtjlfhidpmdgloaaGreatDoor
open Go.Proofs.Tryz
variable {ck k p k0 B:Nat} {Ak Al:jQ} {t a0:Tr} {f:Kd→Tks} {ms cs:List Nat} {nm:jE} {e:Ending} {r:List Tr}
section
variable {L:List Tok} {i j:Nat} {b:Tks}
theorem zRj {t:Tok} (h:t.kind=0) (w:jE):isT t w=false:=by unfold isT;rw[h];simp
theorem zRk (g:Lst L):∀(l:List Tr) (c:List Tr) (i:Nat),(∀t∈l,StK L t)→Std L i ((prs l).flatMap (·.2)++[])→(zH L (i+((prs l).flatMap (·.2)).length)).kind=0→Rn L (.program c) i (trK 1 (c++bareL l)) (i+((prs l).flatMap (·.2)).length):=by
 intro l
 induction l with
 | nil=>
  intro c i _ hs b;rw[zU]at hs b⊢;have hi:i≤L.length - 1:=hs;have b:(zH L i).kind=0:=b;unfold Rn;rw[zQ g ⟨hi,trivial⟩];unfold zD;dsimp only;rw[if_pos b,zW,yAS];rfl
 | cons t l m=>
  intro c i e hs b;rw[zCl,yAL]at hs;rw[zCl,yAN,←yCO]at b;have f:Std L (i+(prT t).length) ((prs l).flatMap (·.2)++[]):=hs.right;have j:NxT (zH L (i+(prT t).length)) true:=by
   cases l with
   | nil=>
    rw[zU]at b;have b:(zH L (i+(prT t).length)).kind=0:=b;exact⟨zRj b _,zRj b _,fun _=>zRj b _⟩
   | cons u l=>
    rw[zCl,yAL]at f;exact((e u js).first _ _ f).2.1
  have k:=((e t js).run i _ hs (j.any _)).1;have d:=m (c++[bareT t]) _ (fun u o=>e u (yAV _ o)) f b;have p:=(e t js).first i _ hs;have hi:i≤L.length - 1:=by have:=hs.mid;omega
  unfold Rn at k d⊢;rw[zQ g ⟨hi,trivial⟩];unfold zD;dsimp only;rw[if_neg p.1,k];dsimp only;rw[d,zCl,zN];simp only[yAL,yCD,yAU,Ps.mk.injEq,true_and,and_true,yAN];omega
theorem zGI {x:Nd} {l:List Tr} (h:t∈l):t.size < (Tr.mk x l).size:=by
 rw[zAk];have:∀l:List Tr,t∈l→t.size≤sizes l:=by
  intro l
  induction l with
  | nil=>intro h;cases h
  | cons u r b=>
   intro h;rw[zY];rcases yAW.1 h with rfl | h
   · omega
   · have:=b h;omega
 have:=this l h;omega
structure AllK (L:List Tok) (t:Tr):Prop where
 expr:zBb t.nd.kind=true→ExO L t
 tgt:zAN t.nd.kind=true→zU9 L t
 prp:t.nd.kind=40→PrpK L t
 stm:zEm t.nd.kind=true→StK L t
 blk:t.nd.kind=4→zRe L t∧∃r,prT t=[123]::r
 dcl:t.nd.kind=7→DclK L t
 cls:t.nd.kind=11→zXn L t∧bareT t=trK 11 []∧prT t=[]
theorem zVJ {k:Int} (h:zEJ k=true):zEm k=true:=by
 unfold zEJ at h;simp only[yAQ]at h;exact h.1.1.1
theorem zEF:∀{l:List Tr},ShortL l→∀u∈l,ShortT u:=by
 intro l
 induction l with
 | nil=>intro _ u h;cases h
 | cons t r c=>
  intro h u b;rw[zEY]at h;rcases yAW.1 b with rfl | b
  · exact h.1
  · exact c h.2 u b
theorem zMn {k:Int} (h:zAN k=true):zBb k=true:=by
 unfold zAN at h;simp only[yBU,yBL]at h;rcases h with(rfl | rfl) | rfl<;>rfl
theorem zVK (j:Lst L):∀(n:Nat) (t:Tr),t.size≤n→goodT t=true→ShortT t→AllK L t:=by
 intro n
 induction n with
 | zero=>intro t h;have:=zBF t;omega
 | succ n X=>
  intro t hn hg J;cases t with
  | mk x l=>
  obtain⟨m,hk,D⟩:=zCa hg;rw[zCB]at J;have G:∀u∈l,ShortT u:=zEF J.2;have C:∀u∈l,AllK L u:=fun u k=>X u (by have:=zGI (x:=x) k;omega) (D u k) (G u k);have p:∀u∈l,zBb u.nd.kind=true→ExK L u:=fun u k O=>by
   have o:=(C u k).expr O;exact⟨D u k,G u k,O,o.all,o.first,o.pos⟩
  have hP:∀u∈l,u.nd.kind=20→PrmK u:=fun u k h=>zVA (D u k) h;have H:∀(a:Nat),zFz (zBA l.length a) 0 (zBy l)=true→(zBA l.length a).length≤l.length→∃ps c,l=ps++[c]∧(∀t∈ps,PrmK t)∧zAd a c.nd.kind=true∧c∈l:=by
   intro a h h1;obtain⟨ps,c,e,f,A⟩:=zXm _ l a h1 h;exact⟨ps,c,e,fun t I=>hP t (by rw[e];exact yCJ _ I) (f t I),A,by rw[e];simp⟩
  have hB:∀u∈l,zAd 8 u.nd.kind=true→u.nd.kind=4:=fun u _ h=>by unfold zAd at h;simpa using h
  have R:zAN x.kind=true→zU9 L (.mk x l)∧ExF L (.mk x l)∧0 < (prT (.mk x l)).length:=by
   intro I;have Y:x.kind=33∨x.kind=52∨x.kind=53:=by unfold zAN at I;simp only[yBU,yBL]at I;omega
   rcases Y with h | h | h
   · obtain⟨o,q⟩:=zYr j hg jo jo J.1;exact⟨q h,o.first,o.pos⟩
   · obtain⟨a,rfl,h1⟩:=zRa (by rw[h]at hk;exact hk) rfl;exact za4 j h m (p a js h1)
   · obtain⟨a,c,rfl,h1,f⟩:=zYA (by rw[h]at hk;exact hk) rfl;exact za5 j h m (p a js h1) (p c js f)
  refine⟨fun O=>?_,fun I=>(R I).1,fun h=>?_,fun hs=>?_,fun h=>?_,fun h=>?_,fun h=>?_⟩
  · have a0:zBb x.kind=true:=O;have hr:=zFl a0
    by_cases a1:x.kind≤37
    · exact(zYr j hg hr.1 a1 J.1).1
    have N:x.kind=38∨x.kind=39∨x.kind=41∨x.kind=42∨x.kind=43∨x.kind=44∨x.kind=45∨x.kind=46∨x.kind=47∨x.kind=48∨x.kind=49∨x.kind=50∨x.kind=51∨zAN x.kind=true:=by
     have:x.kind=52∨x.kind=53→zAN x.kind=true:=by rintro(h | h)<;>(rw[h];rfl)
     by_cases a2:x.kind=52∨x.kind=53
     · simp[this a2]
     · omega
    rcases N with h | h | h | h | h | h | h | h | h | h | h | h | h | h
    · rw[h]at hk;have f:=zCH (zAK hk (s:=[]) (r:=3) rfl).2;exact za6 j h m fun u k=>p u k (f u k)
    · rw[h]at hk;have f:=zCH (zAK hk (s:=[]) (r:=7) rfl).2;exact za8 j h m fun u k=>(C u k).prp (by have:=f u k;unfold zAd at this;simpa using this)
    · rw[h]at hk;obtain⟨h1,f⟩:=zAK hk (s:=zBA l.length 8) (r:=0) rfl;obtain⟨ps,c,e,A,B,z⟩:=H 8 f h1;have hb:=(C c z).blk (hB c z B);subst e;exact za9 j h m A hb.1
    · rw[h]at hk;obtain⟨h1,f⟩:=zAK hk (s:=zBA l.length 13) (r:=0) rfl;obtain⟨ps,c,e,A,B,z⟩:=H 13 f h1;have h6:c.nd.kind=4∨zBb c.nd.kind=true:=by unfold zAd at B;simpa using B
      have hc:(c.nd.kind=4∧zRe L c∧∃r,prT c=[123]::r)∨(c.nd.kind≠4∧ExK L c):=by
       rcases h6 with h6 | h6
       · exact .inl ⟨h6,(C c z).blk h6⟩
       · exact .inr ⟨by have:=zFl h6;omega,p c z h6⟩
      subst e;exact zbA j h m A hc
    · obtain⟨a,rfl,h1⟩:=zRa (by rw[h]at hk;exact hk) rfl;exact zav j h m (p a js h1)
    · obtain⟨a,rfl,h1⟩:=zRa (by rw[h]at hk;exact hk) rfl;exact zaw j h m h1 ((C a js).tgt h1)
    · obtain⟨a,rfl,h1⟩:=zRa (by rw[h]at hk;exact hk) rfl;have o:=(C a js).expr (zMn h1);exact zax j h m h1 ((C a js).tgt h1) o.first o.pos (zHC (D a js) (G a js) j)
    · obtain⟨a,c,rfl,h1,f⟩:=zYA (by rw[h]at hk;exact hk) rfl;exact zaz j h m (p a js h1) (p c js f)
    · obtain⟨a,c,rfl,h1,f⟩:=zYA (by rw[h]at hk;exact hk) rfl;exact za0 j h m (p a js h1) (p c js f)
    · obtain⟨a,c,d,rfl,h1,f,A⟩:=zZW (by rw[h]at hk;exact hk) rfl;exact za1 j h m (p a js h1) (p c js f) (p d js A)
    · obtain⟨a,c,rfl,h1,f⟩:=zYA (by rw[h]at hk;exact hk) rfl;have o:=(C a js).expr (zMn h1);exact zay j h m h1 ((C a js).tgt h1) o.first (zHC (D a js) (G a js) j) (p c js f)
    · rw[h]at hk;obtain⟨h1,f⟩:=zAK hk (s:=[3]) (r:=3) rfl;obtain⟨a,q,rfl,A,_,B⟩:=zAs h1 f;exact za2 j h m (p a js A) fun u k=>p u (yAV _ k) (zCH B u k)
    · rw[h]at hk;obtain⟨h1,f⟩:=zAK hk (s:=[3]) (r:=3) rfl;obtain⟨a,q,rfl,A,_,B⟩:=zAs h1 f;exact za3 j h m (p a js A) fun u k=>p u (yAV _ k) (zCH B u k)
    · obtain⟨h1,f,A⟩:=R h;exact⟨zOO j h1 A,f,A⟩
  · have h:x.kind=40:=h;obtain⟨a,rfl,h1⟩:=zRa (by rw[h]at hk;exact hk) rfl;exact za7 j h m (p a js h1)
  · have hs:zEm x.kind=true:=hs;have M:∀u∈l,zAd 2 u.nd.kind=true→StK L u∧zEJ u.nd.kind=true:=fun u k h=>⟨(C u k).stm (zVJ h),h⟩;have hG:∀(y:Nd) (q:List Tr),Tr.mk y q∈l→zL y=true∧zDL y.kind q=true∧∀v∈q,AllK L v:=by
     intro y q k;obtain⟨g1,g2,U⟩:=zCa (D _ k);have S:=G _ k;rw[zCB]at S;exact⟨g1,g2,fun v hv=>X v (by have:=zGI (x:=x) k;have:=zGI (x:=y) hv;omega) (U v hv) (zEF S.2 v hv)⟩
    have hD:∀(y:Nd) (q:List Tr),(y.kind=5∨y.kind=6)→zDL y.kind q=true→(∀v∈q,AllK L v)→∃t r,q=t::r∧∀u∈t::r,DclK L u:=by
     intro y q P a3 hv;have e:zu y.kind q.length=([5],5):=by rcases P with h | h<;>(rw[h];rfl)
     obtain⟨h1,f⟩:=zAK a3 e;obtain⟨t,r,rfl,A,_,B⟩:=zAs h1 f;refine⟨t,r,rfl,fun u k=>(hv u k).dcl ?_⟩;have z:zAd 5 u.nd.kind=true:=by
      rcases yAW.1 k with rfl | k
      · exact A
      · exact zCH B u k
     unfold zAd at z;simpa using z
    have V:∀u∈l,zAd 9 u.nd.kind=true→zXn L u∧(zr (u.nd.kind,prT u)=[]∨zr (u.nd.kind,prT u)=inP (prT u)):=by
     intro u k h;have F:u.nd.kind=11∨zBb u.nd.kind=true:=by unfold zAd at h;simpa using h
     rcases F with F | F
     · have c:=(C u k).cls F;exact⟨c.1,.inl (by rw[F];rfl)⟩
     · have c:=zYt j (p u k F);exact⟨c.1,.inr c.2⟩
    have N:x.kind=2∨x.kind=3∨x.kind=4∨(x.kind=5∨x.kind=6)∨x.kind=8∨x.kind=9∨x.kind=10∨(x.kind=12∨x.kind=13)∨x.kind=14∨x.kind=15∨x.kind=16∨x.kind=18∨x.kind=19:=by
     unfold zEm at hs;simp only[yAQ,yBG,Bool.not_eq_true',yA]at hs;omega
    rcases N with h | h | h | h | h | h | h | h | h | h | h | h | h
    · rw[h]at hk;exact zbB j h m (zCG (zAK hk (s:=[]) (r:=0) rfl).2)
    · obtain⟨a,rfl,h1⟩:=zRa (by rw[h]at hk;exact hk) rfl;exact zbC j h m (p a js h1)
    · rw[h]at hk;have f:=zCH (zAK hk (s:=[]) (r:=1) rfl).2;exact zbD j h (zYs j h m fun u k=>(C u k).stm (f u k))
    · obtain⟨t,r,rfl,h1⟩:=hD x l h hk C;exact(zad j h m h1).1
    · rw[h]at hk;rcases l with _ | ⟨a,_ | ⟨c,_ | ⟨d,q⟩⟩⟩
      · have:=(zAK hk (s:=[3,2]) (r:=0) rfl).1;simp at this
      · have:=(zAK hk (s:=[3,2]) (r:=0) rfl).1;simp at this
      · obtain⟨W,c',e,h1,f⟩:=zYA (a:=3) (b:=2) hk rfl;injection e with e1 e2;injection e2 with e2 _;subst e1 e2;obtain⟨g1,g2⟩:=M c js f;exact zae j h m (p a js h1) g1 g2 (.inl rfl)
      · obtain⟨W,c',d',e,h1,f,A⟩:=zZW (a:=3) (b:=2) (c:=2) hk (by
         show([3,2,2].take (min (max (q.length+1+1+1) 2) 3),0)=_;rw[Nat.max_eq_left jo,Nat.min_eq_right jo];rfl)
        injection e with e1 e2;injection e2 with e2 e3;injection e3 with e3 e4;subst e1 e2 e3 e4;obtain⟨g1,g2⟩:=M c js f;obtain⟨U,g4⟩:=M d js A;refine zae j h m (p a js h1) g1 g2 (.inr ⟨d,rfl,U,g4,?_⟩);unfold zDL at hk;rw[yAQ]at hk;have B:=hk.2;rw[ji,if_pos ⟨rfl,rfl⟩]at B;simpa [zWH]using B
    · obtain⟨a,c,rfl,h1,f⟩:=zYA (by rw[h]at hk;exact hk) rfl;obtain⟨g1,g2⟩:=M c js f;exact zbE j h m (p a js h1) g1 g2
    · obtain⟨a,c,d,e,rfl,h1,f,A,B⟩:=zau (by rw[h]at hk;exact hk) rfl;obtain⟨g1,g2⟩:=M e js B;refine zZX j h m ?_ (V c js f).1 (V d js A).1 g1 g2;have E:(a.nd.kind=5∨a.nd.kind=6)∨zAd 9 a.nd.kind=true:=by
       have T:(a.nd.kind==11 || a.nd.kind==5 || a.nd.kind==6 || zBb a.nd.kind)=true:=h1;simp only[yBU,yBL]at T;have F:a.nd.kind=11∨zBb a.nd.kind=true→zAd 9 a.nd.kind=true:=fun h=>by
        show(a.nd.kind==11 || zBb a.nd.kind)=true;simpa using h
       rcases T with((g | g) | g) | g
       · exact .inr (F (.inl g))
       · exact .inl (.inl g)
       · exact .inl (.inr g)
       · exact .inr (F (.inr g))
      rcases E with E | E
      · cases a with
        | mk y q=>
         obtain⟨f1,Q,f3⟩:=hG y q js;obtain⟨t,r,rfl,z⟩:=hD y q E Q f3;exact zVH j E f1 z
      · obtain⟨c1,c2⟩:=V a js E;exact zVI c1 c2
    · have e:zu x.kind l.length=([],0):=by rcases h with h | h<;>(rw[h];rfl)
      exact zXp j h m (zCG (zAK hk e).2)
    · rw[h]at hk;refine zZY j h m ?_;rcases l with _ | ⟨a,q⟩
      · exact .inl rfl
      · obtain⟨W,e,h1⟩:=zRa (a:=3) hk (by show([3].take (min (q.length+1) 1),0)=_;rw[Nat.min_eq_right jo];rfl);injection e with e1 e2;subst e1 e2;exact .inr ⟨a,rfl,p a js h1⟩
    · obtain⟨a,rfl,h1⟩:=zRa (by rw[h]at hk;exact hk) rfl;exact zZZ j h m (p a js h1)
    · rw[h]at hk;obtain⟨a,c,d,rfl,h1,f,A⟩:=zZW hk rfl;have B:(c.nd.kind==17 || d.nd.kind==4)=true:=by
       unfold zDL at hk;rw[yAQ]at hk;have B:=hk.2;rw[if_pos rfl]at B;exact B
      simp only[yBU,yBL]at B;refine zZc j h m ((C a js).blk (hB a js h1)).1 ?_ ?_ B
      · have z:c.nd.kind=11∨c.nd.kind=17:=by unfold zAd at f;simpa using f
        rcases z with z | z
        · exact .inl ⟨by omega,((C c js).cls z).2⟩
        · cases c with
          | mk y q=>
           have P:y.kind=17:=z;obtain⟨f1,Q,f3⟩:=hG y q js;rw[P]at Q;obtain⟨e,rfl,h6⟩:=zRa (a:=8) Q rfl;have h7:e.nd.kind=4:=by unfold zAd at h6;simpa using h6
           have hb:=(f3 e js).blk h7;exact .inr ⟨P,y,e,rfl,f1,hb.1,hb.2⟩
      · have z:d.nd.kind=11∨d.nd.kind=4:=by unfold zAd at A;simpa using A
        rcases z with z | z
        · exact .inr ⟨by omega,((C d js).cls z).2.1⟩
        · exact .inl ⟨z,((C d js).blk z).1⟩
    · obtain⟨c,rfl,h1⟩:=zRa (by rw[h]at hk;exact hk) rfl;obtain⟨g1,g2⟩:=M c js h1;exact zZa j h m g1 g2
    · rw[h]at hk;obtain⟨h1,f⟩:=zAK hk (s:=zBA l.length 8) (r:=0) rfl;obtain⟨ps,c,e,A,B,z⟩:=H 8 f h1;have hb:=(C c z).blk (hB c z B);subst e;exact zZb j h m A hb.1
  · have h:x.kind=4:=h;rw[h]at hk;have f:=zCH (zAK hk (s:=[]) (r:=1) rfl).2;exact⟨zYs j h m fun u k=>(C u k).stm (f u k),_,zMm h⟩
  · have h:x.kind=7:=h;rw[h]at hk;refine d_7 j h m ?_;rcases l with _ | ⟨a,q⟩
    · exact .inl rfl
    · obtain⟨W,e,h1⟩:=zRa (a:=3) hk (by show([3].take (min (q.length+1) 1),0)=_;rw[Nat.min_eq_right jo];rfl);injection e with e1 e2;subst e1 e2;exact .inr ⟨a,rfl,p a js h1⟩
  · have h:x.kind=11:=h;rw[h]at hk;obtain⟨h1,f⟩:=zAK hk (s:=[]) (r:=0) rfl;exact zbF j h m (zCG f)
theorem zRl (e:Lst L) (hg:goodT t=true) (b:ShortT t) (hk:t.nd.kind=1) (hs:Std L 0 (prT t++[])) (f:(zH L (prT t).length).kind=0):Rn L (.program []) 0 (bareT t) (prT t).length:=by
 cases t with
 | mk x l=>
  have hk:x.kind=1:=hk;obtain⟨j,c,g⟩:=zCa hg;rw[zCB]at b;rw[hk]at c;have k:=zCH (zAK c (s:=[]) (r:=1) rfl).2;have hb:bareT (.mk x l)=trK 1 (bareL l):=by rw[(zBj j (by rw[hk];decide) jo).1,hk]
  have m:prT (.mk x l)=(prs l).flatMap (·.2):=by rw[zAO];unfold zAh zt;rw[hk];rfl
  rw[m]at hs f⊢;rw[hb];have r:=zRk e l [] 0 (fun u d=>(zVK e _ u (yAC _) (g u d) (zEF b.2 u d)).stm (k u d)) hs (by rw[yCK];exact f);rw[yAY,yCK]at r;exact r
end
def zDF (s:jE):Prop:=s∈zl∨zGL s=true∨(∃n,n≤9007199254740991∧s=zBQ n)∨(∃m,zBL false m=true∧(∀y∈m,y < 4294967296)∧s=zBQ (zEW m)++[110])∨(∃u:jH,u.length≤4096∧s=zFq u)
abbrev AllP (ts:Tks):Prop:=∀s∈ts,zDF s
theorem AllP.nil:AllP []:=fun s h=>by cases h
theorem AllP.cons {s:jE} {r:Tks} (h:zDF s) (c:AllP r):AllP (s::r):=fun t b=>by
 rcases yAW.1 b with rfl | b
 · exact h
 · exact c t b
theorem AllP.app {a b:Tks} (h:AllP a) (d:AllP b):AllP (a++b):=fun t c=>by
 rcases yBQ.1 c with c | c
 · exact h t c
 · exact d t c
theorem zLT {c:Prop} [Decidable c] {a b:Tks} (h1:c→AllP a) (d:¬c→AllP b):AllP (if c then a else b):=by
 by_cases h:c
 · rw[if_pos h];exact h1 h
 · rw[if_neg h];exact d h
theorem zYu {c:Prop} [Decidable c] {a b:jE} (h1:c→zDF a) (d:¬c→zDF b):zDF (if c then a else b):=by
 by_cases h:c
 · rw[if_pos h];exact h1 h
 · rw[if_neg h];exact d h
theorem sg {s:jE} (h:s∈zl):zDF s:=.inl h
theorem zOS:∀s∈zAB,zGL s=true:=by decide+kernel
theorem wd {s:jE} (h:s∈zAB):zDF s:=.inr (.inl (zOS s h))
theorem zYv:∀s∈zHe++zDa++zX7++zV3++zKO,s∈zl∨zGL s=true:=by decide+kernel
theorem zMo {s:jE} (h:zBn s=true):zDF s:=by
 unfold zBn at h;rw[yAQ]at h;exact .inr (.inl h.1)
section
variable {ks:List Kd}
theorem zVL (hk:∀k∈ks,AllP k.2):AllP (ks.flatMap (·.2)):=fun s hs=>by
 obtain⟨k,h1,b⟩:=List.mem_flatMap.1 hs;exact hk k h1 s b
theorem zET (hk:∀k∈ks,AllP k.2) (i:Nat):AllP (kd ks i).2:=by
 unfold kd;rw[yAG]
 by_cases h:i < ks.length
 · rw[yAB h];exact hk _ (yAZ h)
 · rw[yBC jo];exact AllP.nil
theorem zKC {t:Tks} (h:AllP t):AllP (inP t):=AllP.cons (sg jd) (AllP.app h (AllP.cons (sg jd) AllP.nil))
theorem zGJ {k:Kd} (h:AllP k.2):AllP (zc k):=by
 unfold zc;split
 · exact h
 · exact zKC h
theorem zOT {k:Kd} (h:AllP k.2):AllP (zr k):=by
 unfold zr;split
 · exact fun s hs=>h s (List.dropLast_subset _ hs)
 split
 · exact AllP.nil
 · exact zKC h
theorem zVM:∀{ks:List Kd},(∀k∈ks,AllP (f k))→AllP (zGS f ks):=by
 intro ks
 induction ks with
 | nil=>intro _;exact AllP.nil
 | cons k r b=>intro h;exact AllP.cons (sg jd) (AllP.app (h k js) (b fun j c=>h j (by simp[c])))
theorem zHD {ks:List Kd} (h:∀k∈ks,AllP (f k)):AllP (zAS f ks):=by
 cases ks with
 | nil=>exact AllP.nil
 | cons k r=>exact AllP.app (h k js) (zVM fun j b=>h j (by simp[b]))
theorem zH4 {ks:List Kd} (h:∀k∈ks,AllP k.2):AllP (zp ks):=AllP.cons (sg jd) (AllP.app (zHD h) (AllP.cons (sg jd) AllP.nil))
theorem zMp {ks:List Kd} (h:∀k∈ks,AllP k.2):∀k∈ks.dropLast,AllP k.2:=fun k hk=>h k (List.dropLast_subset _ hk)
theorem zKD {s:jE} (h:s=[]∨zDF s):AllP (zAl s):=by
 unfold zAl;split
 · exact AllP.nil
 · rename_i b
   exact AllP.cons (h.resolve_left b) AllP.nil
theorem zVN (hk:∀k∈ks,AllP k.2):AllP (zEX ks):=AllP.app (zGJ (zET hk _)) (AllP.cons (sg jd) (AllP.app (zHD fun k h=>zGJ (hk k (List.mem_of_mem_drop h))) (AllP.cons (sg jd) AllP.nil)))
theorem zMq (hk:∀k∈ks,AllP k.2) {x:Nd} (h:x.name=[]∨zDF x.name):AllP (zFS x ks):=AllP.cons (wd jd) (AllP.app (zKD h) (AllP.app (zH4 (zMp hk)) (zET hk _)))
theorem zRm (hk:∀k∈ks,AllP k.2):AllP (zEo ks):=by
 refine AllP.app (zH4 (zMp hk)) (AllP.cons (sg jd) ?_);split
 · exact zET hk _
 · exact zKC (zET hk _)
theorem zRn (hk:∀k∈ks,AllP k.2) (x:Nd):AllP (zBI x ks):=by
 unfold zBI;refine AllP.cons ?_ (zHD hk);split
 · exact wd jd
 · exact wd jd
theorem zXq (hk:∀k∈ks,AllP k.2) {x:Nd} (j:x.kind=7∨x.kind=18∨x.kind=20→zDF x.name) (b:x.kind=12∨x.kind=13∨x.kind=17∨x.kind=19→x.name=[]∨zDF x.name):AllP (zt x ks):=by
 have c:=fun i=>zKC (zET hk i);have d:=zET hk;have e:=fun i=>zOT (zET hk i);have f:=zVL hk;have g:=zRn hk x;unfold zt
 repeat' first
  | exact f | exact d _ | exact c _ | exact e _ | exact g | exact AllP.nil
  | exact zKD (b jo) | exact zMq hk (b jo) | exact j jo
  | exact sg jd | exact wd jd
  | (rename_i l;exact(b jo).resolve_left l)
  | with_reducible refine zLT (fun _=>?_) (fun _=>?_) | refine AllP.app ?_ ?_ | refine AllP.cons ?_ ?_ | refine zYu (fun _=>?_) (fun _=>?_)
theorem zRo (hk:∀k∈ks,AllP k.2) {x:Nd} (p:x.kind=33∨43≤x.kind→x.kind≤47∨x.kind=49∨x.kind=52→zDF x.name) (q:x.kind=41→x.name=[]∨zDF x.name)
 (b:x.kind=30→zDF (zBQ x.nn.toNat)) (c:x.kind=31→zDF (zBQ (zEW x.mag)++[110])) (d:x.kind=32∨x.kind=40→zDF (zFq x.str)):AllP (zq x ks):=by
 have e:=fun i=>zKC (zET hk i);have f:=zET hk;have g:=fun i=>zGJ (zET hk i);have j:AllP (zAS zc ks):=zHD fun k h=>zGJ (hk k h);have l:AllP (zAS (·.2) ks):=zHD hk;have m:=zVN hk;have o:=zRm hk;unfold zq
 repeat' first
  | exact j | exact l | exact m | exact o | exact f _ | exact g _ | exact e _ | exact AllP.nil
  | exact b jo | exact c jo | exact d jo | exact zMq hk (q jo) | exact p jo jo
  | exact sg jd | exact wd jd
  | with_reducible refine zLT (fun _=>?_) (fun _=>?_) | refine AllP.app ?_ ?_ | refine AllP.cons ?_ ?_
end
theorem zVO {k:Int} {s:jE} (h:zC4 k s=true):s=[]∨zDF s:=by
 unfold zC4 at h;split at h
 · exact .inr (zMo h)
 split at h
 · rw[yBU]at h;exact h.imp yBF zMo
 split at h
 · exact .inr (.inr (.inl h))
 split at h
 · have h1:=yBF h;have c:s∈zHe++zDa++zX7++zV3++zKO:=by
    unfold zOh at h1;simp only[yBQ];split at h1
    · simp[h1]
    split at h1
    · simp[h1]
    split at h1
    · simp[h1]
    split at h1
    · simp[h1]
    split at h1
    · simp[h1]
    · cases h1
   rcases zYv s c with b | b
   · exact .inr (.inl b)
   · exact .inr (.inr (.inl b))
 · exact .inl (yBF h)
theorem zRp:∀k:Int,(k=7∨k=18∨k=20∨k=33∨k=43∨k=44∨k=45∨k=46∨k=47∨k=49∨k=52)→zC4 k []=false:=by
 intro k h;rcases h with rfl | rfl | rfl | rfl | rfl | rfl | rfl | rfl | rfl | rfl | rfl<;>decide+kernel
theorem zXr {x:Nd} {ks:List Kd} (b:zL x=true) (hs:Short x) (hk:∀k∈ks,AllP k.2):AllP (zAh x ks):=by
 by_cases d:x.kind=30∨x.kind=31∨x.kind=32∨x.kind=40
 · have e:zAh x ks=zq x ks:=by unfold zAh;rw[jn]
   rw[e];obtain⟨k,n,u,nk,nn,g,m,kk⟩:=x;simp only at d;unfold zL at b;simp only at b;split at b
   · cases b
   split at b
   · cases b
   split at b
   · cases b
   split at b
   · cases b
   rename_i a0 a1 a2 a3
   refine zRo hk (fun h j=>?_) (fun h=>?_) (fun h=>?_) (fun h=>?_) (fun h=>?_)
   · simp only at h j;omega
   · simp only at h;omega
   · simp only at h;subst h;simp at a1 a3 b;obtain⟨⟨⟨_,rfl⟩,c⟩,o⟩:=b;unfold zDg at c;simp at c;exact .inr (.inr (.inl ⟨nn.toNat,by omega,rfl⟩))
   · simp only at h;subst h;simp at a1 a2 b;obtain⟨⟨_,c⟩,rfl⟩:=b;exact .inr (.inr (.inr (.inl ⟨m,c,hs.limb,rfl⟩)))
   · simp only at h;have l:u.length≤4096:=by
      rcases h with rfl | rfl
      · simp at b;exact b.2
      · simp at b;exact b.2
     exact .inr (.inr (.inr (.inr ⟨u,l,rfl⟩)))
 · have hN:=zCQ b jo jo jo jo;have f:=zVO hN.2.1;have c:(x.kind=7∨x.kind=18∨x.kind=20∨x.kind=33∨x.kind=43∨x.kind=44∨x.kind=45∨x.kind=46∨x.kind=47∨x.kind=49∨x.kind=52)→zDF x.name:=fun h=>by
    refine f.resolve_left fun e=>?_;have h1:=hN.2.1;rw[e,zRp _ h]at h1;cases h1
   unfold zAh;refine zLT (fun _=>zXq hk (fun h=>c jo) (fun _=>f)) (fun _=>zRo hk (fun h j=>c jo) (fun _=>f) (fun h=>absurd (.inl h) d) (fun h=>absurd (.inr (.inl h)) d) (fun h=>absurd jo d))
theorem zRq:∀(n:Nat) (t:Tr),t.size≤n→goodT t=true→ShortT t→AllP (prT t):=by
 intro n
 induction n with
 | zero=>intro t h;have:=zBF t;omega
 | succ n f=>
  intro t j hg b;cases t with
  | mk x l=>
  obtain⟨g,hk,e⟩:=zCa hg;rw[zCB]at b;rw[zAO];refine zXr g b.1 fun k c=>?_;rw[zCK]at c;obtain⟨u,d,rfl⟩:=List.mem_map.1 c;exact f u (by have:=zGI (x:=x) d;omega) (e u d) (zEF b.2 u d)
structure PcOk (s:jE):Prop where
 cons:∃x r,zV s=x::r∧(zHd x || zAG x)=false∧x.toNat≠35∧(x=47→r=[]∨∃q,r=61::q)
 tok:zAU false (zV s)=(0,zCw s,(zV s).length)
theorem zXs:∀s∈zl,(zAU false (zV s)).1=0∧(zAU false (zV s)).2.2=(zV s).length∧zV s≠[]∧(zHd ((zV s).headD 0) || zAG ((zV s).headD 0))=false∧((zV s).headD 0).toNat≠35∧((zV s).headD 0=47→(zV s).tail=[]∨(zV s).tail.headD 0=61∧(zV s).tail≠[]):=by decide+kernel
theorem zKE {s:jE} {t:Tok} {n:Nat} (h:zAU false (zV s)=(0,t,n)) (b:n=(zV s).length):zAU false (zV s)=(0,zCw s,(zV s).length):=by
 unfold zCw;rw[h,b]
theorem zHE {x:UInt16} (h:zJ x=true):(zHd x || zAG x)=false∧x.toNat≠35∧x≠47:=by
 have h:=zA2.1 h;refine⟨?_,by omega,fun e=>by rw[e]at h;revert h;decide⟩;unfold zHd zAG;have e1:¬x.toNat=9:=by omega
 have e2:¬x.toNat=11:=by omega
 have e3:¬x.toNat=12:=by omega
 have e4:¬x.toNat=32:=by omega
 have e5:¬x.toNat=10:=by omega
 have e6:¬x.toNat=13:=by omega
 simp[e1,e2,e3,e4,e5,e6]
theorem zYw {s:jE} (h:zDF s):PcOk s:=by
 rcases h with h | h | ⟨n,h,rfl⟩ | ⟨m,h,k,rfl⟩ | ⟨u,h,rfl⟩
 · obtain⟨h1,c,d,f,g,h6⟩:=zXs s h;refine⟨?_,?_⟩
   · cases hq:zV s with
     | nil=>exact absurd hq d
     | cons x r=>
      rw[hq]at f g h6;refine⟨x,r,rfl,f,g,fun e=>(h6 e).imp id fun⟨a,b⟩=>?_⟩;cases r with
      | nil=>exact absurd rfl b
      | cons y q=>exact⟨q,by rw[show y=61 from a]⟩
   · exact zKE (s:=s) (t:=(zAU false (zV s)).2.1) (n:=(zAU false (zV s)).2.2) (by rw[←h1]) c
 · obtain⟨x,r,h1,c,d⟩:=zMd h;have f:=zRA c;refine⟨⟨x,r,h1,f.1,fun e=>?_,fun e=>absurd e f.2⟩,?_⟩
   · have:x=35:=yBS.1 e;rw[this]at c;revert c;decide
   · have g:zAU false (zV s)=zCm (zV s):=by
      rw[h1];show(if zAx x=true then zCm (x::r)else _)=_;rw[if_pos c]
     refine zKE (t:={zh with kind:=if 0 < zCS (asc (zV s))then 6 else 1,text:=asc (zV s)}) (g.trans ?_) rfl;unfold zCm;rw[h1,zV0 d,yBZ,if_neg (by simp[zg])]
 · obtain⟨x,r,h1,c⟩:=zFG n;obtain⟨g1,g2,j⟩:=zHE c;refine⟨⟨x,r,h1,g1,g2,fun e=>absurd e j⟩,?_⟩;have d:=zEC n [] (fun x q h=>by cases h);rw[yAS]at d;refine zKE (t:={zh with kind:=2,nn:=(n:Int)}) (d.trans ?_) rfl;unfold zBx;rw[zED,ji,if_neg (by rw[show zg [110] []=false from rfl];decide),if_neg (by unfold zBE;simp),if_neg (by unfold zBE;simp),zGC,jn]
 · obtain⟨h1,c⟩:=zJ7 h k;obtain⟨x,r,d,f⟩:=zFG (zEW m);obtain⟨g1,g2,j⟩:=zHE f;have e:zV (zBQ (zEW m)++[110])=zV (zBQ (zEW m))++[110]:=zCh _ _;refine⟨⟨x,r++[110],by rw[e,d];rfl,g1,g2,fun e=>absurd e j⟩,?_⟩;have g:=zEC (zEW m) [110] (fun x q h=>by injection h with h _;rw[←h];decide);refine zKE (t:={zh with kind:=3,mag:=limbs (zEW m)}) (n:=(zV (zBQ (zEW m))).length+1) (((congrArg (zAU false) e).trans g).trans ?_) (by rw[e,yAN];rfl);unfold zBx;rw[zED,ji,if_pos jd,zGC];unfold zIy;rw[jn,if_neg (by unfold zBE;simp)]
 · have e:zV (zFq u)=34::zV (u.flatMap zGT++[34]):=rfl;refine⟨⟨34,_,e,by decide,by decide,fun e=>absurd e jd⟩,?_⟩;have h1:zAU false (34::zV (u.flatMap zGT++[34]))=zAv 34 (zV (u.flatMap zGT++[34])):=rfl;refine zKE (t:={zh with kind:=4,str:=[]++u}) (n:=1+(zV (u.flatMap zGT++[34])).length) ?_ (by rw[e,yAO];omega);rw[e,h1];unfold zAv zKU;rw[zRY u [] _ (yAF _),if_neg js]
def zCO:Tks→jH
 | []=>[]
 | s::r=>32::(zV s++zCO r)
def zFx:Nat→Tks→List Tok
 | k,[]=>[setAt zh k false]
 | k,s::r=>setAt (zCw s) (k+1) false::zFx (k+1+(zV s).length) r
theorem zKF (r:Tks):zCO r=[]∨∃v,zCO r=32::v:=by
 cases r with
 | nil=>exact .inl rfl
 | cons s r=>exact .inr ⟨_,rfl⟩
theorem zIs {s:jE} (h:PcOk s) (r:Tks):zAM (zV s++zCO r)=(0,false,0)∧zAU false (zV s++zCO r)=(0,zCw s,(zV s).length)∧(∀x q,zV s++zCO r=x::q→x.toNat≠35)∧zV s++zCO r≠[]:=by
 obtain⟨x,q,e,h1,d,f⟩:=h.cons;refine⟨?_,?_,?_,by rw[e];simp⟩
 · rw[e,yAP]
   by_cases c:x=47
   · have hs:(zg [47,47] (x::(q++zCO r)) || zg [47,42] (x::(q++zCO r)))=false:=by
      subst c;rcases f rfl with rfl | ⟨q,rfl⟩
      · rcases zKF r with e2 | ⟨v,e2⟩
        · rw[e2];rfl
        · rw[e2];simp[zg,List.isPrefixOf]
      · simp[zg,List.isPrefixOf]
     show zC7 (x::(q++zCO r)) false=_;rw[zFU h1 hs]
   · exact zQ9 h1 c
 · rcases zKF r with e2 | ⟨v,e2⟩
   · rw[e2,yAS];exact h.tok
   · rw[e2,zOH (.inr rfl) (by rw[h.tok])];exact h.tok
 · intro y p b;rw[e,yAP]at b;injection b with b _;rw[←b];exact d
theorem zMr:∀(ts:Tks) (k:Nat),(∀s∈ts,PcOk s)→zGa k (zCO ts)=(zFx k ts,0,0):=by
 intro ts
 induction ts with
 | nil=>
  intro k _;show zGa k []=_;rw[zIL (by rw[zIm]) (by rw[zIm];rfl),zIm];rfl
 | cons s r d=>
  intro k hs;obtain⟨a1,a2,a3,a4⟩:=zIs (hs s js) r;have b:zAM (32::(zV s++zCO r))=(1,false,0):=by
   show zC7 (32::(zV s++zCO r)) false=_;rw[zGZ jd];have:zC7 (zV s++zCO r) (false || zAG 32)=(0,false,0):=a1;rw[this];rfl
  have c:zA6 k (32::(zV s++zCO r))=(0,zCw s,(zV s).length):=by
   unfold zA6;rw[b];show zAU (k+1==0) (zV s++zCO r)=_;rw[show(k+1==0)=false from yA.2 jo,a2]
  show zGa k (32::(zV s++zCO r))=_;rw[zEt (by rw[b]) (by rw[b];exact a4) (by rw[c]),b,c];have e:(32::(zV s++zCO r)).drop (1+(zV s).length)=zCO r:=by
   rw[Nat.add_comm,List.drop_succ_cons,List.drop_left]
  dsimp only;rw[e,d _ fun t c=>hs t (by simp[c])];rfl
theorem zRr:∀(ts:Tks) (u:jH),u≠[]→zC1 u ts=u++zCO ts:=by
 intro ts
 induction ts with
 | nil=>intro u _;rw[zSc];exact(yAS _).symm
 | cons s r c=>
  intro u b;rw[zGU,c _ (by unfold zOy;rw[if_neg b];simp)];unfold zOy;rw[if_neg b];show u++[32]++zV s++zCO r=u++(32::(zV s++zCO r));simp
def zMs:Tks→List Tok
 | []=>[setAt zh 0 false]
 | s::r=>setAt (zCw s) 0 false::zFx (zV s).length r
theorem zRs {ts:Tks} (hs:∀s∈ts,PcOk s) (d:(zC1 [] ts).length≤4096):zDX (zC1 [] ts)=(zMs ts,0,0):=by
 rw[zB2 jo];cases ts with
 | nil=>exact zMr [] 0 (fun s h=>by cases h)
 | cons s r=>
  obtain⟨a1,a2,a3,a4⟩:=zIs (hs s js) r;obtain⟨x,q,e,_⟩:=(hs s js).cons;have c:zC1 [] (s::r)=zV s++zCO r:=by
   rw[zGU,show zOy [] s=zV s from by unfold zOy;rfl,zRr _ _ (by rw[e];simp)]
  rw[c];have b:zA6 0 (zV s++zCO r)=(0,zCw s,(zV s).length):=by
   unfold zA6;rw[a1];show zAU true (zV s++zCO r)=_;rw[zUb a3,a2]
  rw[zEt (by rw[a1]) (by rw[a1];exact a4) (by rw[b]),a1,b];dsimp only;simp only[yCK,List.drop_left];rw[zMr r _ fun t b=>hs t (by simp[b])];rfl
theorem zOU:∀(ts:Tks) (k:Nat),(zFx k ts).length=ts.length+1:=by
 intro ts
 induction ts with
 | nil=>intro k;rfl
 | cons s r b=>intro k;show(zFx _ r).length+1=_;rw[b];rfl
theorem zYx {L:List Tok}:∀(ts:Tks) (k:Nat) (I:List Tok),L=I++zFx k ts→Std L I.length ts:=by
 intro ts
 induction ts with
 | nil=>
  intro k I e;show I.length≤L.length - 1;rw[e,yAN,zOU];simp
 | cons s r c=>
  intro k I e;have b:zH L I.length=setAt (zCw s) (k+1) false:=by
   rw[e];unfold zH;rw[yAG,yAX (yAC _),yCS];rfl
  refine⟨⟨by rw[b];exact⟨rfl,rfl,rfl,rfl,rfl,rfl⟩,by rw[b];rfl⟩,?_⟩;have:=c (k+1+(zV s).length) (I++[setAt (zCw s) (k+1) false]) (by rw[e,yAL];rfl);rwa [yAN]at this
theorem zXt:∀(ts:Tks) (k:Nat) (I:List Tok),(zH (I++zFx k ts) (I.length+ts.length)).kind=0:=by
 intro ts
 induction ts with
 | nil=>
  intro k I;unfold zH;rw[yAG,yAX js];simp[zFx,setAt,zh]
 | cons s r b=>
  intro k I;have:=b (k+1+(zV s).length) (I++[setAt (zCw s) (k+1) false]);rw[yAL,yAN]at this;have e:I.length+[setAt (zCw s) (k+1) false].length+r.length=I.length+(s::r).length:=by simp;omega
  rwa[e]at this
theorem zYy (ts:Tks):Std (zMs ts) 0 ts∧(zH (zMs ts) ts.length).kind=0:=by
 cases ts with
 | nil=>exact⟨by show 0≤_;omega,rfl⟩
 | cons s r=>
  refine⟨⟨⟨⟨rfl,rfl,rfl,rfl,rfl,rfl⟩,rfl⟩,?_⟩,?_⟩
  · exact zYx r (zV s).length [setAt (zCw s) 0 false] rfl
  · have:=zXt r (zV s).length [setAt (zCw s) 0 false];have e:[setAt (zCw s) 0 false].length+r.length=(s::r).length:=by simp;omega
    rwa[e]at this
mutual
theorem size_bare (t:Tr):(bareT t).size=t.size:=by
 cases t with
 | mk x l=>rw[zCX,zAk,zAk,sizes_bare l]
theorem sizes_bare (l:List Tr):sizes (bareL l)=sizes l:=by
 cases l with
 | nil=>rw[zW]
 | cons t r=>rw[zN,zY,zY,size_bare t,sizes_bare r]
end
mutual
theorem dep_bare (t:Tr):depT (bareT t)=depT t:=by
 cases t with
 | mk x l=>rw[zCX,zKW,zKW,depL_bare l]
theorem depL_bare (l:List Tr):depL (bareL l)=depL l:=by
 cases l with
 | nil=>rw[zW]
 | cons t r=>rw[zN,zGQ,zGQ,dep_bare t,depL_bare r]
end
theorem zLU:∀(l:List Tr) (n:Nat),zx n (bareL l)=zx n l:=by
 intro l
 induction l with
 | nil=>intro n;rw[zW]
 | cons t r b=>
  intro n;rw[zN];show(n:Int)::zx (n+(bareT t).size) (bareL r)=(n:Int)::zx (n+t.size) r;rw[b,size_bare]
mutual
theorem flat_bare (n:Nat) (t:Tr):flatT n (bareT t)=flatT n t:=by
 cases t with
 | mk x l=>rw[zCX,zAz,zAz,flatL_bare (n+1) l,zLU]
theorem flatL_bare (n:Nat) (l:List Tr):flatL n (bareL l)=flatL n l:=by
 cases l with
 | nil=>rw[zW]
 | cons t r=>rw[zN,zAP,zAP,flat_bare n t,size_bare,flatL_bare (n+t.size) r]
end
theorem zVP (hg:Good t) (c:ShortT t) (e:(zDj t).length≤4096):zBt (zDj t)=(flatT 0 t,0,0):=by
 have f:=zRq _ t (yAC _) hg.good c;have b:zDX (zDj t)=(zMs (prT t),0,0):=zRs (fun s hs=>zYw (f s hs)) e;have g:=zGF b;obtain⟨h1,j⟩:=zYy (prT t);have d:=zRl g hg.good c hg.kind (by rw[yAS];exact h1) j;unfold Rn at d;unfold zBt;rw[b];dsimp only;rw[if_neg js,show(⟨0,0,0⟩:Ps)=pl 0 from rfl,d];dsimp only;have hs:=hg.size;have k:=hg.nest;rw[if_neg js,if_neg (by rw[size_bare];omega),if_neg (by rw[dep_bare];omega),flat_bare]
open Go.RowKit
structure Pk (g:Nat) (w w':World) (v v':Value):Prop where
 os:w'.os=w.os
 tape:w'.tape=w.tape
 output:w'.output=w.output
 size:w.heap.size≤w'.heap.size
 block:∀i,i < w.heap.size→i≠g→v.ownBlock≠some i→w'.heap[i]? =w.heap[i]?
 own:v'.ownBlock=v.ownBlock∨∃r,v'.ownBlock=some r∧w.heap.size≤r
section
variable {g:Nat} {w w' w'':World} {v v' v'':Value}
theorem Pk.refl (g:Nat) (w:World) (v:Value):Pk g w w v v:=⟨rfl,rfl,rfl,yAC _,fun _ _ _ _=>rfl,.inl rfl⟩
theorem Pk.trans (h:Pk g w w' v v') (k:Pk g w' w'' v' v''):Pk g w w'' v v'':=
 ⟨k.os.trans h.os,k.tape.trans h.tape,k.output.trans h.output,yAD h.size k.size,fun i hi hg c=>(k.block i (yAA hi h.size) hg (by
  rcases h.own with e | ⟨r,e,b⟩
  · rw[e];exact c
  · rw[e];intro e2;injection e2 with e2;omega)).trans (h.block i hi hg c),by
  rcases k.own with e | ⟨r,e,b⟩
  · rcases h.own with e2 | ⟨r,e2,b⟩
    · exact .inl (e.trans e2)
    · exact .inr ⟨r,e.trans e2,b⟩
  · exact .inr ⟨r,e,yAD h.size b⟩⟩
theorem Pk.of_kept (h:Kept w w' v v'):Pk g w w' v v':=⟨h.os,h.tape,h.output,h.size,fun i hi _ b=>h.block i hi b,h.own⟩
theorem Pk.of_below (h:jY w w'):Pk g w w' v v:=⟨h.os,h.tape,h.output,h.size,fun i hi _ _=>h.block i hi,.inl rfl⟩
theorem Pk.set (h:Pk g w w' v v') (j:Nat) (z:Value):Pk g w (w'.setCell ⟨g,j,none⟩ z) v v':=
 ⟨h.os,h.tape,h.output,by have:=h.size;simpa using this,fun i hi hg b=>(Below.heap_setCell _ _ _ _ hg).trans (h.block i hi hg b),h.own⟩
theorem Pk.cell (h:Pk g w w' v v') {p:Addr} (c:p.block < w.heap.size) (hg:p.block≠g) (b:v.ownBlock≠some p.block):w'.cell? p=w.cell? p:=World.cell?_of_block (h.block p.block c hg b)
theorem Pk.below (h:Pk g w w' v v') (hB:∀i,v.ownBlock=some i→B≤i) (hg:B≤g) (hs:B≤w.heap.size):Below B w w':=
 ⟨h.os,h.tape,h.output,h.size,fun i hi=>h.block i jo jo (fun e=>by have:=hB i e;omega)⟩
end
structure Pn (w:World) (base g:Nat) (A:jQ) (n c:Nat) (us:jH) (v:Value):Prop where
 c0:w.cell? g=some (.slice A n c)
 c1:w.cell? ⟨g,1,none⟩=some v
 f1:w.frozen? ⟨g,1,none⟩=false
 own:w.ownsRow base 104 1 v us.length (zAC us)
 gb:g < base
section
variable {w w':World} {base g n c:Nat} {A:jQ} {us us':jH} {v v':Value}
theorem Pn.lt (h:Pn w base g A n c us v):g < w.heap.size:=World.block_lt_of_cell? w _ h.c0
theorem Pn.ne (h:Pn w base g A n c us v):v.ownBlock≠some g:=fun e=>by have:=(h.own.lt g e).1;have:=h.gb;omega
theorem Pn.ge (h:Pn w base g A n c us v):∀i,v.ownBlock=some i→base≤i:=zLa h.own
theorem Pn.below (h:Pn w base g A n c us v) (hb:jY w w'):Pn w' base g A n c us v:=
 ⟨(hb.cell (p:=g) h.lt).trans h.c0,(hb.cell (p:=⟨g,1,none⟩) h.lt).trans h.c1,(hb.frozen (p:=⟨g,1,none⟩) h.lt).trans h.f1,zC2 h.own hb,h.gb⟩
theorem Pn.alloc (h:Pn w base g A n c us v) (o:Obj):Pn (w.alloc o) base g A n c us v:=h.below (ja)
theorem Pn.drew (h:Pn w base g A n c us v):Pn w.drew base g A n c us v:=h.below ((Below.refl _ _).drew)
theorem Pn.cells (h:Pn w base g A n c us v) (hk:Kept w w' v v'):w'.cell? g=some (.slice A n c)∧w'.cell? ⟨g,1,none⟩=some v∧w'.frozen? ⟨g,1,none⟩=false:=
 ⟨(hk.cell (p:=g) h.lt h.ne).trans h.c0,(hk.cell (p:=⟨g,1,none⟩) h.lt h.ne).trans h.c1,(hk.frozen (p:=⟨g,1,none⟩) h.lt h.ne).trans h.f1⟩
theorem Pn.put (h:Pn w base g A n c us v) (hk:Kept w w' v v') (b:w'.ownsRow base 104 1 v' us'.length (zAC us')):Pn (w'.setCell ⟨g,1,none⟩ v') base g A n c us' v':=by
 obtain⟨d,h1,e⟩:=h.cells hk;exact⟨by go_simp,by go_simp,by go_simp,zBl b (zM w' g 1 v') h.gb,h.gb⟩
end
section
variable {P:Program} {w:World} {ops:Array Oper} {o:Oper} {a:Act} {K:Act→World→Prop} {Q:Exit→Act→World→Prop} {E:Prop}
theorem zRt (d:o.guard=none) (s x:Operand) (t:TypeId)
 (g:o.op=.call {callee:=.builtin .append,args:=#[s,x],argTypes:=#[t,t]})
 (base:Nat) (e:TypeId) (i:TypeInfo) (z:Value) (bytes:Nat) (ht:P.underlying t=some (.slice e)) (hi:P.info? e=some i) (hz:i.zero=some z)
 (hsize:i.size=1) (hby:i.bytes=bytes) (hzs:z.cells.size=1)
 (v:Value) (n:Nat) (xs:List Value) (hs:a.eval s=v) (hown:w.ownsRow base e 1 v n xs) (hbase:base≤w.heap.size)
 (ad:Addr) (m c:Nat) (news:List Value) (hx:a.eval x=.slice (some ad) m c) (hl:news.length=m) (hnews:∀j u,news[j]? =some u→w.cell? (ad.add j)=some u) (h1:∀u∈news,u.oneCell'=true)
 (hm:0 < m) (hsz:n+m≤1099511627776) (hb2:bytes≤128)
 (h:∀v' w',w'.ownsRow base e 1 v' (n+m) (xs++news)→Kept w w' v v'→K (a.put o.dst v') w'):
 if Region.wanted o (yielded ops a.tmps)=true then Oper.wp P o a w K Q else E:=by
 refine step_append_lies w d s x t g base e i z 1 bytes ht hi hz hsize hby hzs jo v n xs hs hown ad m c news hx jo hnews h1 hm (by unfold maxLen;omega) ?_ hbase _ rfl ?_
 · calc (n+m)*bytes≤1099511627776*128:=Nat.mul_le_mul hsz hb2
    _≤140737488355328:=by omega
 · intro gg cap w' l b p _;refine h _ w' l ⟨b.os,b.tape,b.output,b.size,fun k hk f=>b.block k hk (fun e=>f e.symm),?_⟩;rcases p with e | e
   · exact .inl e.symm
   · exact .inr ⟨gg,rfl,by omega⟩
end
theorem zVQ (x:jE) (hs:x.length≤1000000000) (w:World):
 Calls prog 98 #[x] w fun e w'=>∃A c,e=.returned (.slice A x.length c)∧Reads w' w'.heap.size 1 A x.length (zAC (zV x))∧jY w w':=by
 refine(zDi ⟨x.toArray⟩ w (by show x.toArray.size≤_;simp;omega)).mono ?_;rintro e w' ⟨v,rfl,b⟩;obtain⟨A,c,rfl,h1,g,d⟩:=b.u16;have f:(zV (⟨x.toArray⟩:ByteArray).data.toList).length=x.length:=by simp[zV]
 rw[f]at d⊢;exact⟨A,c,rfl,d,b.below⟩
def MayPut (us:jH) (tks:Tks):Prop:=(∀s∈tks,s≠[])∧us.length+zBZ tks≤1000000000
theorem zXu:∀(t:Tks),t.length≤zBZ t:=by
 intro t
 induction t with
 | nil=>exact yAE _
 | cons s r b=>simp only[yAO,zBZ];omega
theorem MayPut.app {us:jH} {a b:Tks} (h:MayPut us (a++b)):MayPut us a∧MayPut (zC1 us a) b:=by
 have h1:=h.2;rw[zBq]at h1;have c:=zLh a us;exact⟨⟨fun s hs=>h.1 s (yCJ _ hs),by omega⟩,⟨fun s hs=>h.1 s (yBX _ hs),by omega⟩⟩
def zbG (w:World) (base g:Nat) (A:jQ) (n c:Nat) (us:jH) (v:Value) (tks:Tks) (e:Ending) (w':World):Prop:=
 e=.returned (.tuple #[])∧∃v',Pn w' base g A n c (zC1 us tks) v'∧Pk g w w' v v'
theorem zXv {base g n c m cl X V:Nat} {A:jQ} {us:jH} {v:Value} {b:Tks} {w:World} (Y:Pn w base g A n c us v) (hb:base≤w.heap.size) (hn:b.length=m)
 (hc:∀(j:Nat) (s:jE),b[j]? =some s→w.cell? ⟨X,V+j,none⟩=some (.string ⟨s.toArray⟩)) (hX:X < w.heap.size) (a0:X≠g) (O:v.ownBlock≠some X) (W:MayPut us b):
 Calls prog 52 #[.pointer (some g),.slice (some ⟨X,V,none⟩) m cl] w (zbG w base g A n c us v b):=by
 have HP:=zA Y;have HB:=zA hb;have HN:=zA hn;have HC:=zA hc;have HM:=zA W;have a1:=zA O;have b4:m≤1000000000:=by have h1:=zXu b;have h2:=W.2;omega
 clear Y hn hc W O;go_enter func52,ntmps52;obtain⟨i0,hi,r,t,y⟩:=info_parts Tryz.info_u16;have HI:=zA (And.intro hi (And.intro r (And.intro t y)));clear hi r t y;go_wp2_with fail
 go_loopw [8] (fun i wr=>∃(k:Nat) (M:Value),k≤m∧i=.int .i64 k∧Hid (Pn wr base g A n c (zC1 us (b.take k)) M)∧Hid (Pk g w wr v M)) (fun i _=>m - (intOf i).toNat)
 case atStart=>exact⟨0,v,yAE _,rfl,HP,Pk.refl g w v⟩
 case round=>
  obtain⟨k,M,hk,rfl,d,z⟩:=hrel
  by_cases a2:k < m
  · have F:k < b.length:=by rw[HN.out];exact a2
    obtain⟨s,hs⟩:∃s,b[k]? =some s:=⟨_,yAB F⟩;have a3:=(z.out.cell (p:=⟨X,V+k,none⟩) hX a0 a1).trans (HC.out k s hs);have G:=zA (show b.take (k+1)=b.take k++[s] by rw[List.take_add_one,hs];rfl);have H:s≠[]:=HM.out.1 s (yCG hs);have I:(zC1 us (b.take k)).length+(s.length+1)≤1000000000:=by
     have h1:=HM.out.2;have e:b=b.take k++(s::b.drop (k+1)):=by
      have:=(yAT.1 hs).2;rw[←this,←yAH F,List.take_append_drop]
     rw[e,zBq]at h1;have h2:=zLh (b.take k) us;have h3:zBZ (s::b.drop (k+1))=s.length+1+zBZ (b.drop (k+1)):=rfl;omega
    have P:0 < s.length:=yCL.2 H;obtain⟨f,J⟩:=jx (zC1 us (b.take k));rw[J]at d I;have a4:=zA J;have Q:=d.out.c1;have R:=d.out.f1;have S:=d.out.lt;have T:base≤wr.heap.size:=yAD hb z.out.size;obtain⟨Av,cv,hv,b5,_⟩:=zP d.out.own;subst hv;clear hs H J F
    go_upto_if 17 with(fail)
    go_cut [5] (fun v5 wx=>v5=.string ⟨s.toArray⟩∧∃N,Hid (Pn wx base g A n c (if f=[]then []else f++[32]) N)∧Hid (Pk g w wx v N))
    case first=>
     by_cases C:f=[]
     · subst C;go_wp2_with fail;go_meet;exact⟨rfl,_,d,z⟩
     · have a5:0 < f.length:=yCL.2 C;have e1:(0:Int) < (f.length:Int):=by omega
       have e2:decide ((0:Int) < (f.length:Int))=true:=yBE e1;have e3:decide (0 < f.length)=true:=yBE a5;have HU:=zA C;obtain⟨hi,r,t,y⟩:=HI.out;clear C;go_wp2_with (at_builtin;refine zDI rfl _ _ 27 rfl base 104 i0 (.int .u16 0) 1 2 underlying27 hi r t y rfl jd (.slice Av f.length cv) _ _ rfl (by exact d.out.own) T [.int .u16 32] 1 1 rfl rfl rfl jo jd ?_;intro v' w' l o;obtain⟨a6,a7,a8⟩:=d.out.cells o;obtain⟨Aw,cw,rfl,_,_⟩:=zP l);go_meet;refine⟨rfl,_,?_,z.out.trans ((Pk.of_kept o).set 1 _)⟩;rw[if_neg HU.out];have e:zAC f++[Value.int .u16 32]=zAC (f++[32]):=by simp[zAC,zX6]
       rw[e]at l;exact d.out.put o (by rw[yAN];exact l)
    case rest=>
     obtain⟨rfl,N,B,U⟩:=hcut;clear Q R a3 d z S T;obtain⟨q,D⟩:=jx ((if f=[]then []else f++[32]));have b6:q.length+s.length≤1000000000:=by
      rw[←D];split
      · simp;omega
      · rw[yAN,yBW];omega
     rw[D]at B;have a9:=zA D;clear D I;have Q:=B.out.c1;have R:=B.out.f1;have S:=B.out.lt;have b0:base≤wc.heap.size:=yAD hb U.out.size;have CA:=zA (zVQ s jo wc.drew);obtain⟨hi,r,t,y⟩:=HI.out;go_wp2_with fail;go_region_law (first | (go_simp;go_at_call 98;refine CA.out.mono ?_;rintro e3 w3 ⟨AA,cA,rfl,b1,L⟩;have E:=zA (B.out.drew.below L);have b7:=E.out.c1;obtain⟨bA,oA,b2,_,b3⟩:=b1.spotR P;subst b2) | (refine zRt rfl _ _ 27 rfl base 104 i0 (.int .u16 0) 2 underlying27 hi r t y rfl N q.length (zAC q) rfl (by exact E.out.own) (yAD b0 L.size) ⟨bA,oA,none⟩ s.length cA (zAC (zV s)) rfl (by simp[zAC,zV]) (fun j u hu=>by rw[Addr.add_lit];exact b3 j u hu) (zSI _) P jo jd ?_;intro v' w' l o;obtain⟨a6,a7,a8⟩:=E.out.cells o;obtain⟨Aw,cw,rfl,_,_⟩:=zP l))
     all_goals go_wp2_with fail
     all_goals go_roundw
     all_goals first
      | (simp[intOf];omega)
      | (refine⟨k+1,_,by omega,by go_num,?_,U.out.trans ((Pk.of_below (zCU L)).trans ((Pk.of_kept o).set 1 _))⟩
         have e:zC1 us (b.take (k+1))=q++zV s:=by
          rw[G.out,zAZ,a4.out];show zOy f s=_;unfold zOy;rw[a9.out]
         rw[e];refine E.out.put o ?_;have e2:zAC q++zAC (zV s)=zAC (q++zV s):=by simp[zAC]
         have e3:q.length+s.length=(q++zV s).length:=by simp[zV]
         rw[e2]at l;rw[←e3];exact l)
  · obtain rfl:m=k:=by omega
    have G:=zA (show b.take m=b from yB (by rw[HN.out];omega));go_wp2_with fail;refine jr ?_;refine⟨rfl,M,?_,z⟩;have:=d.out;rwa[G.out]at this
structure Cx where
 B:Nat
 base:Nat
 g:Nat
 n:Nat
 c:Nat
 A:jQ
 ts:List Nd
instance jCx:Coe Cx Value:=⟨fun C=>.pointer (some ⟨C.g,0,none⟩)⟩
structure Pe (C:Cx) (us:jH) (v:Value) (w:World):Prop where
 pn:Pn w C.base C.g C.A C.n C.c us v
 nds:NdsR w C.B C.A C.n C.ts
 hb:C.base≤w.heap.size
 hB:C.B≤C.g
 tab:Tab w
 gB:2 < C.B
section
variable {C:Cx} {us us':jH} {v v':Value} {w w':World}
theorem Pe.low (h:Pe C us v w) (hk:Pk C.g w w' v v'):Below C.B w w':=
 hk.below (fun i hi=>by have:=h.pn.ge i hi;have:=h.pn.gb;have:=h.hB;omega) h.hB (by have:=h.hB;have:=h.pn.gb;have:=h.hb;omega)
theorem Pe.next (h:Pe C us v w) (b:Pn w' C.base C.g C.A C.n C.c us' v') (hk:Pk C.g w w' v v'):Pe C us' v' w':=
 ⟨b,h.nds.below (h.low hk),yAD h.hb hk.size,h.hB,h.tab.below h.gB (h.low hk),h.gB⟩
theorem Pe.below (h:Pe C us v w) (hb:jY w w'):Pe C us v w':=h.next (h.pn.below hb) (Pk.of_below hb)
theorem Pe.alloc (h:Pe C us v w) (o:Obj):Pe C us v (w.alloc o):=h.below (ja)
theorem Pe.blt (h:Pe C us v w):C.B < w.heap.size:=by have:=h.hB;have:=h.pn.lt;omega
end
def PutQ (C:Cx) (us:jH) (v:Value) (w:World) (tks:Tks) (e:Ending) (w':World):Prop:=
 e=.returned (.tuple #[])∧∃v',Pe C (zC1 us tks) v' w'∧Pk C.g w w' v v'
theorem PutQ.back {C:Cx} {us:jH} {v:Value} {w w1 w':World} {b:Tks} (hb:jY w w1) (h:PutQ C us v w1 b e w'):PutQ C us v w b e w':=by
 obtain⟨h1,v',c,d⟩:=h;exact⟨h1,v',c,(Pk.of_below hb).trans d⟩
theorem PutQ.nil {C:Cx} {us:jH} {v:Value} {w:World} (h:Pe C us v w):PutQ C us v w [] (.returned (.tuple #[])) w:=⟨rfl,v,h,Pk.refl _ _ _⟩
theorem zAc {C:Cx} {us:jH} {v:Value} {w:World} (c:Pe C us v w) (b:Tks) (m:Nat) (k:b.length=m) (l:MayPut us b):
 Calls prog 52 #[C,.slice (some ⟨w.heap.size,0,none⟩) m m] (w.alloc (.cells (zBk b).toArray 9)) (PutQ C us v w b):=by
 have d:jY w (w.alloc (.cells (zBk b).toArray 9)):=ja;refine(zXv (c.pn.below d) (yAD c.hb d.size) k (fun j s hs=>?_) js (fun e=>by have:=c.pn.lt;omega) (fun e=>by have:=(c.pn.own.lt _ e).2;omega) l).mono ?_
 · rw[yCK,yBR _ _ _ _ rfl];simp[zBk,hs]
 · rintro e w' ⟨rfl,v',h1,o⟩;have f:=(Pk.of_below d).trans o;exact⟨rfl,v',c.next h1 f,f⟩
theorem zHF {C:Cx} {us:jH} {v:Value} {w:World} {x:Nd} (c:Pe C us v w) (h:C.ts[k]? =some x):
 Calls prog 100 #[C,k] w fun e w'=>e=.returned x.kind∧w=w':=by
 have d:k < C.n:=by have:=(yAT.1 h).1;rwa[c.nds.1]at this
 obtain⟨b,o,q,s,m,t,f,p,r⟩:=c.nds.get d;obtain rfl:x=q:=yBI (h.symm.trans f);have j:=c.pn.c0;rw[m]at j;have u:=p.k0;obtain⟨g,hg⟩:∃g,C.g=g:=⟨_,rfl⟩;obtain⟨n,l⟩:∃n,C.n=n:=⟨_,rfl⟩;rw[hg,l]at j;rw[l]at d;rw[hg];clear c h m f p r hg l;go_enter func100,ntmps100;go_wp2_with fail;go_ret;exact⟨rfl,rfl⟩
theorem MayPut.of {us:jH} {a b:Tks} (h:MayPut us a) (e:a=b):MayPut us b:=e▸h
theorem zH5 {C:Cx} {us:jH} {v:Value} {w:World} (f:Pe C us v w) (d:MayPut us (zAl nm)):
 Calls prog 55 #[C,nm] w (PutQ C us v w (zAl nm)):=by
 by_cases h:nm=[]
 · subst h;have l:=zA f;clear d f;go_enter func55,ntmps55;go_wp2_with fail;exact jr (PutQ.nil l)
 · have e:zAl nm=[nm]:=by unfold zAl;rw[if_neg h]
   rw[e]at d⊢;obtain⟨b,c⟩:∃b:ByteArray,⟨nm.toArray⟩=b:=⟨_,rfl⟩;have j:b.data.toList=nm:=by rw[←c]
   have f1:b.toList≠[]:=by rw[ByteArray.toList_eq,j];exact h
   have o:(b.toList==[])=false:=yA.2 f1;have f3:b.toList.isEmpty=false:=by rw[List.isEmpty_eq_false_iff];exact f1
   have k:=zA (zAc f [nm] 1 rfl d);rw[show zBk [nm]=[Value.string b] by rw[←c];rfl]at k;rw[c];clear d e h j c f1;go_enter func55,ntmps55;go_wp2_with fail;refine k.out.mono ?_;rintro e1 w1 ⟨rfl,m⟩;go_wp2_with fail;exact jr (⟨rfl,m⟩)
def zAf (C:Cx) (m:Nat):Prop:=∀(t:Tr) (k:Nat) (us:jH) (v:Value) (w:World),t.size≤m→At C.ts k t→Pe C us v w→MayPut us (prT t)→
 Calls prog 14 #[C,k] w (PutQ C us v w (prT t))
theorem MayPut.two {us:jH} {a b c:Tks} (h:MayPut us a) (e:a=b++c):MayPut us b∧MayPut (zC1 us b) c:=(h.of e).app
theorem zLV {C:Cx} {m:Nat} {us:jH} {v:Value} {w:World} (hN:zAf C m) (B:t.size≤m) (p:At C.ts k t) (D:Pe C us v w) (q:MayPut us (inP (prT t))):
 Calls prog 53 #[C,k] w (PutQ C us v w (inP (prT t))):=by
 obtain⟨m1,m2⟩:=q.two (b:=[[40]]) (c:=prT t++[[41]]) rfl;obtain⟨r,s⟩:=m2.app;have E:=zA (zAc D [[40]] 1 rfl m1);have F:=zA r;have G:=zA s;have H:=zA hN;have I:=zA p;clear q m1 m2 r s hN p;go_enter func53,ntmps53;go_wp2_with fail;refine E.out.mono ?_;rintro e1 w1 ⟨rfl,v1,d,e⟩;have J:=zA (H.out t k _ v1 w1 B I d F);have u:=zA e;clear d e;go_wp2_with fail;refine J.out.mono ?_;rintro e2 w2 ⟨rfl,v2,f,j⟩;have L:=zA (zAc f [[41]] 1 rfl G);have y:=zA (u.out.trans j);clear f j;go_wp2_with fail;refine L.out.mono ?_;rintro e3 w3 ⟨rfl,v3,l,o⟩;have z:=zA l;have A:=zA (y.out.trans o);clear l o;go_wp2_with fail;refine jr ?_;refine⟨rfl,v3,?_,A⟩;have:=z.out;rwa[←zAZ,←zAZ]at this
theorem zD0 {C:Cx} {m:Nat} {us:jH} {v:Value} {w:World} (hN:zAf C m) (q:t.size≤m) (c:At C.ts k t) (p:Pe C us v w) (b:MayPut us (zc (t.nd.kind,prT t))):
 Calls prog 61 #[C,k] w (PutQ C us v w (zc (t.nd.kind,prT t))):=by
 obtain⟨K,d⟩:=jx t.nd.kind;have l:=zA (zHF p c.get);rw[zBr,d]at l;rw[d]at b⊢
 by_cases h:30≤K∧K≤37
 · have e:zc (K,prT t)=prT t:=by unfold zc;rw[if_pos h]
   rw[e]at b⊢;have o:=zA (hN t k us v w q c p b);obtain⟨h1,f⟩:=h;have e1:decide ((30:Int)≤K)=true:=yBE h1;have e2:decide (K≤(37:Int))=true:=yBE f;clear b hN c d e;go_enter func61,ntmps61;go_wp2_with (go_at_call 100;refine l.out.mono ?_;rintro e1 w1 ⟨rfl,rfl⟩);refine o.out.mono ?_;rintro e1 w1 ⟨rfl,j⟩;go_wp2_with fail;exact jr (⟨rfl,j⟩)
 · have e:zc (K,prT t)=inP (prT t):=by unfold zc;rw[if_neg h]
   rw[e]at b⊢;have o:=zA (zLV hN q c p b)
   by_cases h1:30≤K
   · have f:¬K≤37:=fun f=>h ⟨h1,f⟩;have e1:decide ((30:Int)≤K)=true:=yBE h1;have e2:decide (K≤(37:Int))=false:=yAI f;clear b hN c d e h;go_enter func61,ntmps61;go_wp2_with (go_at_call 100;refine l.out.mono ?_;rintro e1 w1 ⟨rfl,rfl⟩);refine o.out.mono ?_;rintro e1 w1 ⟨rfl,j⟩;go_wp2_with fail;exact jr (⟨rfl,j⟩)
   · have e1:decide ((30:Int)≤K)=false:=yAI h1;clear b hN c d e h;go_enter func61,ntmps61;go_wp2_with (go_at_call 100;refine l.out.mono ?_;rintro e1 w1 ⟨rfl,rfl⟩);refine o.out.mono ?_;rintro e1 w1 ⟨rfl,j⟩;go_wp2_with fail;exact jr (⟨rfl,j⟩)
def KidsAt (C:Cx) (w:World) (b o:Nat) (l:List Tr):Prop:=∀i (hi:i < l.length),∃p:Nat,At C.ts p l[i]∧b < C.B∧w.cell? ⟨b,o+i,none⟩=some (.int .i64 (p:Int))
theorem KidsAt.below {C:Cx} {w w':World} {b o:Nat} {l:List Tr} (h:KidsAt C w b o l) (hb:Below C.B w w'):KidsAt C w' b o l:=fun i hi=>by
 obtain⟨p,h1,c,d⟩:=h i hi;exact⟨p,h1,c,(hb.cell (p:=⟨b,o+i,none⟩) c).trans d⟩
theorem zVR (f:Kd→Tks) (a b:List Kd):zGS f (a++b)=zGS f a++zGS f b:=by
 induction a with
 | nil=>rfl
 | cons k r c=>show [44]::(f k++zGS f (r++b))=[44]::(f k++zGS f r)++zGS f b;rw[c];simp
theorem zMt (f:Kd→Tks) (a b:List Kd):zAS f (a++b)=zAS f a++(if a=[]then zAS f b else zGS f b):=by
 cases a with
 | nil=>rfl
 | cons k r=>
  rw[if_neg js];show f k++zGS f (r++b)=f k++zGS f r++zGS f b;rw[zVR,yAL]
def zHG (f:Kd→Tks) (i:Nat) (k:Kd):Tks:=if i=0 then f k else [44]::f k
theorem zKG {ks:List Kd} {i:Nat} {k:Kd} (h:ks[i]? =some k):zAS f (ks.take (i+1))=zAS f (ks.take i)++zHG f i k:=by
 obtain⟨c,rfl⟩:=yAT.1 h;rw[yAK c,zMt];congr 1;unfold zHG
 by_cases b:i=0
 · subst b;simp[zAS,zGS]
 · rw[if_neg b,if_neg (by
    intro e;rcases List.take_eq_nil_iff.1 e with e | e
    · exact b e
    · subst e;simp at c)];simp[zGS]
theorem zRu (f:Kd→Tks) (ks:List Kd) (i:Nat):∃r,zAS f ks=zAS f (ks.take i)++r:=by
 refine⟨if ks.take i=[]then zAS f (ks.drop i)else zGS f (ks.drop i),?_⟩;rw[←zMt,List.take_append_drop]
theorem MayPut.upto {us:jH} {ks:List Kd} {i:Nat} {k:Kd} (h:MayPut us (zAS f ks)) (hk:ks[i]? =some k):MayPut (zC1 us (zAS f (ks.take i))) (zHG f i k):=by
 obtain⟨r,b⟩:=zRu f ks (i+1);rw[zKG hk,yAL]at b;exact((h.of b).app.2).app.1
def KidsS (C:Cx) (w:World) (Al:jQ) (l:List Tr):Prop:=l≠[]→∃b o,Al=some ⟨b,o,none⟩∧KidsAt C w b o l
theorem KidsS.below {C:Cx} {w w':World} {l:List Tr} (h:KidsS C w Al l) (hb:Below C.B w w'):KidsS C w' Al l:=fun c=>by
 obtain⟨b,o,h1,d⟩:=h c;exact⟨b,o,h1,d.below hb⟩
theorem zKH {C:Cx} {m L:Nat} {G:FuncId} (hG:G=14∨G=61) {us:jH} {v:Value} {w:World} {l:List Tr} (hN:∀(t:Tr),t.size≤m→∀(p:Nat) us v w,At C.ts p t→Pe C us v w→MayPut us (f (t.nd.kind,prT t))→Calls prog G #[C,p] w (PutQ C us v w (f (t.nd.kind,prT t)))) (hs:∀t∈l,t.size≤m) (hk:KidsS C w Al l) (P:Pe C us v w) (D:l.length=L) (a3:L≤1000000) (Q:MayPut us (zAS f (prs l))):
 Calls prog 60 #[C,.slice Al L ck,.func (Fn.func G) #[C] #[]] w (PutQ C us v w (zAS f (prs l))):=by
 rcases hG with rfl | rfl
 all_goals
  have W:=zA hN;have HS:=zA hs;have HM:=zA Q;have R:=zA P;have F:=zA D
  by_cases S:l=[]
  · subst S;obtain rfl:L=0:=by rw[←D];rfl
    clear hN hs hk P D Q;go_enter func60,ntmps60;go_wp2_with fail
    go_loopw [10] (fun i wr=>i=.int .i64 0∧wr=w) (fun _ _=>0)
    case atStart=>exact⟨rfl,rfl⟩
    case round=>
     obtain⟨rfl,rfl⟩:=hrel;go_wp2_with fail;refine jr ?_;rw[zU];exact PutQ.nil R
  obtain⟨b,o,rfl,H⟩:=hk S;have HK:=zA H;clear hN hs hk P D Q H S;go_enter func60,ntmps60;go_wp2_with fail
  go_loopw [10] (fun i wr=>∃(j:Nat) (s:Value),j≤L∧i=.int .i64 j∧Hid (Pe C (zC1 us (zAS f ((prs l).take j))) s wr)∧Hid (Pk C.g w wr v s)) (fun i _=>L - (intOf i).toNat)
  case atStart=>exact⟨0,v,yAE _,rfl,R,Pk.refl _ _ _⟩
  case round=>
   obtain⟨j,s,hj,rfl,k,q⟩:=hrel
   by_cases X:j < L
   · have r:j < l.length:=by rw[F.out];exact X
     obtain⟨p,u,a4,a2⟩:=(HK.out.below (R.out.low q)) j r;have y:=HS.out l[j] (yAZ r);obtain⟨t,T⟩:=jx (l[j]);have hg:(prs l)[j]? =some (t.nd.kind,prT t):=by rw[zCK,yCH,yAB r,T];rfl
     rw[T]at u y;have z:=zA (HM.out.upto hg);have I:=zA (zKG (f:=f) hg);have J:=zA u;obtain⟨U,A⟩:=jx (zC1 us (zAS f ((prs l).take j)));rw[A]at k z;have M:=zA A;clear r u T hg A
     by_cases E:j=0
     · have e0:¬(0:Int) < (j:Int):=by omega
       have e1:decide ((0:Int) < (j:Int))=false:=yAI e0;have e2:¬0 < j:=by omega
       have c:=zA (show zHG f j (t.nd.kind,prT t)=f (t.nd.kind,prT t) by unfold zHG;rw[if_pos E]);have V:=zA (W.out t y p U s wr J k (by have:=z.out;rwa[c.out]at this));clear E;go_wp2_with fail;refine V.out.mono ?_;rintro e3 w3 ⟨rfl,v3,d,e⟩;have Y:=zA d;have B:=zA (q.out.trans e);clear d e;go_wp2_with fail
       go_roundw
       case rel=>exact⟨j+1,v3,by omega,by go_num,by rw[I.out,zAZ,M.out,c.out];exact Y.out,B⟩
       case measure=>simp[intOf];omega
     · have e0:(0:Int) < (j:Int):=by omega
       have e1:decide ((0:Int) < (j:Int))=true:=yBE e0;have e2:0 < j:=by omega
       have c:=zA (show zHG f j (t.nd.kind,prT t)=[[44]]++f (t.nd.kind,prT t) by unfold zHG;rw[if_neg E];rfl);obtain⟨m1,m2⟩:=z.out.two c;have V:=zA (zAc k [[44]] 1 rfl m1);have M2:=zA m2;clear E m1 m2;go_wp2_with fail;refine V.out.mono ?_;rintro e3 w3 ⟨rfl,v3,d,e⟩;have C2:=zA (W.out t y p _ v3 w3 J d M2);have B:=zA (q.out.trans e);clear d e;go_wp2_with fail;refine C2.out.mono ?_;rintro e4 w4 ⟨rfl,v4,N,O⟩;have a0:=zA N;have a1:=zA (B.out.trans O);clear N O;go_wp2_with fail
       go_roundw
       case rel=>exact⟨j+1,v4,by omega,by go_num,by rw[I.out,zAZ,M.out,c.out,zAZ];exact a0.out,a1⟩
       case measure=>simp[intOf];omega
   · obtain rfl:L=j:=by omega
     have HT:=zA (show(prs l).take L=prs l from yB (by rw[zV9,F.out];omega));go_wp2_with fail;refine jr ?_;refine⟨rfl,s,?_,q⟩;have:=k.out;rwa[HT.out]at this
theorem zEG {C:Cx} {m L:Nat} {us:jH} {v:Value} {w:World} {l:List Tr} (hN:zAf C m) (hs:∀t∈l,t.size≤m) (hk:KidsS C w Al l) (e:Pe C us v w) (j:l.length=L) (d:L≤1000000) (k:MayPut us (zAS (·.2) (prs l))):
 Calls prog 60 #[C,.slice Al L ck,.func (Fn.func 14) #[C] #[]] w (PutQ C us v w (zAS (·.2) (prs l))):=
 zKH (.inl rfl) (f:=(·.2)) (fun t h p us v w a b c=>hN t p us v w h a b c) hs hk e j d k
theorem zFo {C:Cx} {m L:Nat} {us:jH} {v:Value} {w:World} {l:List Tr} (hN:zAf C m) (hs:∀t∈l,t.size≤m) (hk:KidsS C w Al l) (e:Pe C us v w) (j:l.length=L) (d:L≤1000000) (k:MayPut us (zAS zc (prs l))):
 Calls prog 60 #[C,.slice Al L ck,.func (Fn.func 61) #[C] #[]] w (PutQ C us v w (zAS zc (prs l))):=
 zKH (.inr rfl) (f:=zc) (fun _ h _ _ _ _ a b c=>zD0 hN h a b c) hs hk e j d k
theorem zLW {C:Cx} {m L:Nat} {us:jH} {v:Value} {w:World} {l:List Tr} (hN:zAf C m) (hs:∀t∈l,t.size≤m) (hk:KidsS C w Al l) (q:Pe C us v w) (r:l.length=L) (s:L≤1000000) (u:MayPut us (zp (prs l))):
 Calls prog 107 #[C,.slice Al L ck] w (PutQ C us v w (zp (prs l))):=by
 obtain⟨m1,m2⟩:=u.two (b:=[[40]]) (c:=zAS (·.2) (prs l)++[[41]]) rfl;obtain⟨y,z⟩:=m2.app;have H:=zA y;have I:=zA z;have J:=zA hN;have M:=zA hs;have A:=zA hk;have B:=zA q;have D:=zA r;have N:=zA m1;clear u m1 m2 y z hN hs hk q r;go_enter func107,ntmps107;have O:=zA (zAc B [[40]] 1 rfl N);go_wp2_with fail;refine O.out.mono ?_;rintro e1 w1 ⟨rfl,v1,d,f⟩;have R:=zA d;have j:=zA (f);have P:=zA (zEG (ck:=ck) J M (A.out.below (B.out.low j)) d D s H);clear d f;go_wp2_with fail;refine P.out.mono ?_;rintro e2 w2 ⟨rfl,v2,e,k⟩;have S:=zA e;have E:=zA (j.out.trans k);have Q:=zA (zAc e [[41]] 1 rfl I);clear e k;go_wp2_with fail;refine Q.out.mono ?_;rintro e3 w3 ⟨rfl,v3,o,p⟩;have F:=zA o;have G:=zA (E.out.trans p);clear o p;go_wp2_with fail;refine jr ?_;refine⟨rfl,v3,?_,G⟩;have:=F.out;simp only[←zAZ]at this;exact this
structure PF (C:Cx) (m:Nat) (us:jH) (v0:Value) (W:World) (X b o:Nat) (K:Int) (u1 vk:Value) (l:List Tr) (ps:List Nat) (dn rs:Tks) (v:Value) (w:World):Prop where
 N:zAf C m
 pe:Pe C (zC1 us dn) v w
 p0:Pe C us v0 W
 pk:Pk C.g W w v0 v
 h1:X < W.heap.size
 hg:X≠C.g
 hv:v0.ownBlock≠some X
 x0:W.cell? X=some (.int .i64 K)
 x1:W.cell? ⟨X,1,none⟩=some u1
 x7:W.cell? ⟨X,7,none⟩=some vk
 kids:∀(i:Nat) (p:Nat) (t:Tr),ps[i]? =some p→l[i]? =some t→At C.ts p t∧b < C.B∧W.cell? ⟨b,o+i,none⟩=some (.int .i64 (p:Int))
 put:MayPut (zC1 us dn) rs
section
variable {C:Cx} {m X b o:Nat} {us:jH} {v0 v u1 vk:Value} {W w w':World} {K:Int} {l:List Tr} {ps:List Nat} {dn rs a:Tks}
theorem PF.x (F:PF C m us v0 W X b o K u1 vk l ps dn rs v w):w.cell? X=some (.int .i64 K)∧w.cell? ⟨X,1,none⟩=some u1∧w.cell? ⟨X,7,none⟩=some vk:=
 ⟨(F.pk.cell (p:=X) F.h1 F.hg F.hv).trans F.x0,(F.pk.cell (p:=⟨X,1,none⟩) F.h1 F.hg F.hv).trans F.x1,(F.pk.cell (p:=⟨X,7,none⟩) F.h1 F.hg F.hv).trans F.x7⟩
theorem PF.c (F:PF C m us v0 W X b o K u1 vk l ps dn rs v w) (i:Nat) (d:ps[i]? =some p:=by rfl) (ht:l[i]? =some t:=by rfl):w.cell? ⟨b,o+i,none⟩=some (.int .i64 (p:Int)):=by
 obtain⟨_,h1,e⟩:=F.kids i p t d ht;exact((F.p0.low F.pk).cell (p:=⟨b,o+i,none⟩) h1).trans e
theorem PF.c0 (F:PF C m us v0 W X b o K u1 vk l ps dn rs v w) (d:ps[0]? =some p:=by rfl) (ht:l[0]? =some t:=by rfl):w.cell? ⟨b,o,none⟩=some (.int .i64 (p:Int)):=F.c 0 d ht
def PFq (C:Cx) (m:Nat) (us:jH) (v0:Value) (W:World) (X b o:Nat) (K:Int) (u1 vk:Value) (l:List Tr) (ps:List Nat) (dn rs:Tks) (e:Ending) (w':World):Prop:=e=.returned (.tuple #[])∧∃v',Hid (PF C m us v0 W X b o K u1 vk l ps dn rs v' w')
theorem PF.then (F:PF C m us v0 W X b o K u1 vk l ps dn (a++rs) v w) (h:PutQ C (zC1 us dn) v w a e w'):PFq C m us v0 W X b o K u1 vk l ps (dn++a) rs e w':=by
 obtain⟨h1,v',c,d⟩:=h;exact⟨h1,v',⟨F.N,by rw[zAZ];exact c,F.p0,F.pk.trans d,F.h1,F.hg,F.hv,F.x0,F.x1,F.x7,F.kids,by rw[zAZ];exact F.put.app.2⟩⟩
theorem PF.lit (F:PF C m us v0 W X b o K u1 vk l ps dn (a++rs) v w) {n:Nat} (c:a.length=n):
 Calls prog 52 #[C,.slice (some ⟨w.heap.size,0,none⟩) n n] (w.alloc (.cells (zBk a).toArray 9)) (PFq C m us v0 W X b o K u1 vk l ps (dn++a) rs):=
 (zAc F.pe a n c F.put.app.1).mono fun _ _ h=>F.then h
theorem PF.part (i:Nat) (F:PF C m us v0 W X b o K u1 vk l ps dn (zc (t.nd.kind,prT t)++rs) v w) (hs:t.size≤m) (c:ps[i]? =some p) (d:l[i]? =some t):
 Calls prog 61 #[C,p] w (PFq C m us v0 W X b o K u1 vk l ps (dn++zc (t.nd.kind,prT t)) rs):=
 (zD0 F.N hs (F.kids i p t c d).1 F.pe F.put.app.1).mono fun _ _ h=>F.then h
theorem PF.pin (i:Nat) (F:PF C m us v0 W X b o K u1 vk l ps dn (inP (prT t)++rs) v w) (hs:t.size≤m) (c:ps[i]? =some p) (d:l[i]? =some t):
 Calls prog 53 #[C,p] w (PFq C m us v0 W X b o K u1 vk l ps (dn++inP (prT t)) rs):=
 (zLV F.N hs (F.kids i p t c d).1 F.pe F.put.app.1).mono fun _ _ h=>F.then h
theorem PF.node (i:Nat) (F:PF C m us v0 W X b o K u1 vk l ps dn (prT t++rs) v w) (hs:t.size≤m) (c:ps[i]? =some p) (d:l[i]? =some t):
 Calls prog 14 #[C,p] w (PFq C m us v0 W X b o K u1 vk l ps (dn++prT t) rs):=
 (F.N t p _ _ _ hs (F.kids i p t c d).1 F.pe F.put.app.1).mono fun _ _ h=>F.then h
theorem PF.named (F:PF C m us v0 W X b o K u1 vk l ps dn (zAl nm++rs) v w):Calls prog 55 #[C,nm] w (PFq C m us v0 W X b o K u1 vk l ps (dn++zAl nm) rs):=
 (zH5 F.pe F.put.app.1).mono fun _ _ h=>F.then h
theorem PF.kind (i:Nat) {q:Int} (F:PF C m us v0 W X b o K u1 vk l ps dn rs v w) (hk:t.nd.kind=q) (c:ps[i]? =some p) (d:l[i]? =some t):Calls prog 100 #[C,p] w fun e w'=>e=.returned q∧w=w':=by
 have:=zHF F.pe (F.kids i p t c d).1.get;rwa [zBr,hk]at this
theorem PF.ks (F:PF C m us v0 W X b o K u1 vk l ps dn rs v w) (e:ps.length=l.length):KidsAt C w b o l:=fun i hi=>by
 obtain⟨h1,c,d⟩:=F.kids i ps[i] l[i] js js;exact⟨_,h1,c,((F.p0.low F.pk).cell (p:=⟨b,o+i,none⟩) c).trans d⟩
theorem PF.fin (F:PF C m us v0 W X b o K u1 vk l ps dn [] v w') {w:World} (hb:jY w W) {q:Tks} (c:q=dn):PutQ C us v0 w q (.returned (.tuple #[])) w':=
 PutQ.back hb ⟨rfl,v,by rw[c];exact F.pe,F.pk⟩
end
theorem zLX {C:Cx} {w:World} {b:Nat}:∀(l:List Tr) (o:Nat),KidsAt C w b o l→∃ps:List Nat,ps.length=l.length∧∀(i:Nat) (p:Nat) (t:Tr),ps[i]? =some p→l[i]? =some t→At C.ts p t∧b < C.B∧w.cell? ⟨b,o+i,none⟩=some (.int .i64 (p:Int)):=by
 intro l
 induction l with
 | nil=>intro o _;exact⟨[],rfl,fun i p t h=>by cases h⟩
 | cons t r e=>
  intro o h;obtain⟨p0,h1,f,g⟩:=h 0 js;obtain⟨ps,j,k⟩:=e (o+1) fun i hi=>by
   obtain⟨p,g1,g2,m⟩:=h (i+1) (by simpa using hi);exact⟨p,g1,g2,by rw[show o+1+i=o+(i+1) by omega];exact m⟩
  refine⟨p0::ps,by simp[j],fun i p u c d=>?_⟩;cases i with
  | zero=>
   obtain rfl:=yBI c;obtain rfl:=yBI d;exact⟨h1,f,g⟩
  | succ i=>
   have:=k i p u (by simpa using c) (by simpa using d);rwa[show o+1+i=o+(i+1) by omega]at this
theorem ps1 {ps:List Nat} (h:ps.length=1):∃p,ps=[p]:=by
 rcases ps with _ | ⟨p,_ | ⟨q,r⟩⟩<;>simp at h;exact⟨_,rfl⟩
theorem ps2 {ps:List Nat} (h:ps.length=2):∃p q,ps=[p,q]:=by
 rcases ps with _ | ⟨p,r⟩
 · simp at h
 · obtain⟨q,rfl⟩:=ps1 (by simpa using h);exact⟨p,q,rfl⟩
theorem ps3 {ps:List Nat} (h:ps.length=3):∃p q r,ps=[p,q,r]:=by
 rcases ps with _ | ⟨p,r⟩
 · simp at h
 · obtain⟨q,s,rfl⟩:=ps2 (by simpa using h);exact⟨p,q,s,rfl⟩
theorem ps4 {ps:List Nat} (h:ps.length=4):∃p q r s,ps=[p,q,r,s]:=by
 rcases ps with _ | ⟨p,r⟩
 · simp at h
 · obtain⟨q,s,t,rfl⟩:=ps3 (by simpa using h);exact⟨p,q,s,t,rfl⟩
theorem PF.new {C:Cx} {m b o:Nat} {us:jH} {v:Value} {w:World} {l:List Tr} {rs:Tks} (K:Int) (u1 f g j k p vk:Value) (hN:zAf C m) (hk:KidsAt C w b o l) (d:Pe C us v w) (q:MayPut us rs):
 ∃W X,w.alloc (.cells #[K,u1,f,g,j,k,p,vk] 58)=W∧w.heap.size=X∧Hid (jY w W)∧∃ps:List Nat,ps.length=l.length∧Hid (PF C m us v W X b o K u1 vk l ps [] rs v W):=by
 obtain⟨W,c⟩:=jx (w.alloc (.cells #[K,u1,f,g,j,k,p,vk] 58));have hb:jY w W:=jb c;obtain⟨ps,h1,r⟩:=zLX l o (hk.below (hb.mono (yAM d.blt)));refine⟨W,_,c,rfl,hb,ps,h1,⟨hN,d.below hb,d.below hb,Pk.refl _ _ _,by rw[←c];simp,fun e=>by have:=d.pn.lt;omega,fun e=>by have:=(d.pn.own.lt _ e).2;omega,?_,?_,?_,r,q⟩⟩
 · rw[←c,yBR _ _ _ _ rfl];rfl
 · rw[←c,yBR _ _ _ _ rfl];rfl
 · rw[←c,yBR _ _ _ _ rfl];rfl
theorem zMu {C:Cx} {w:World} {x:Nd} {l:List Tr} {s:NdSl} (h:At C.ts k (.mk x l)) (e:NdR w C.B ((Tr.mk x l).laid k) s):KidsS C w s.Ak l:=by
 intro f;have c:((Tr.mk x l).laid k).kids.length=l.length:=zBV (k+1) l;obtain⟨b,o,g,hb,j⟩:=e.kids.spotK (by rw[c];exact yCL.2 f);refine⟨b,o,g,fun i hi=>?_⟩;obtain⟨p,m,d,_⟩:=h.kid i hi;have h1:=j i (by rw[c];exact hi);have q:((Tr.mk x l).laid k).kids[i]'(by rw[c];exact hi)=(p:Int):=(yAT.1 m).2;rw[q]at h1;exact⟨p,d,hb,h1⟩
theorem Pe.node {C:Cx} {us:jH} {v:Value} {w:World} (d:Pe C us v w) (h:At C.ts k t):∃b o s,C.A=some ⟨b,o,none⟩∧k < C.n∧b < C.B∧NdC w b (o+k*8) (t.laid k) s∧NdR w C.B (t.laid k) s:=by
 have hg:=h.get;have c:k < C.n:=by have:=(yAT.1 hg).1;rwa[d.nds.1]at this
 obtain⟨b,o,g,s,j,e,f,l,m⟩:=d.nds.get c;obtain rfl:t.laid k=g:=yBI (hg.symm.trans f);exact⟨b,o,s,j,c,e,l,m⟩
theorem zH6 {C:Cx} {m:Nat} {us:jH} {v:Value} {w:World} {x:Nd} {l:List Tr} (hN:zAf C m) (hs:∀t∈l,t.size≤m) (h:At C.ts k (.mk x l)) (H:x.kind=5∨x.kind=6) (I:Pe C us v w) (O:l.length≤1000000) (hm:MayPut us (zBI x (prs l))):
 Calls prog 54 #[C,k] w (PutQ C us v w (zBI x (prs l))):=by
 obtain⟨b,o,s,hA,b2,b5,hC,hR⟩:=I.node h;obtain⟨r,P,Q,R,S,T,U,V⟩:=hC;have a6:=zMu h hR;have Y:((Tr.mk x l).laid k).kids.length=l.length:=zBV (k+1) l;obtain⟨L,hL⟩:=jx l.length;rw[Y,hL]at V;rw[hL]at O;obtain⟨y,hy⟩:=jx ((Tr.mk x l).laid k);have a7:y.kind=x.kind:=by rw[←hy];rfl
 rw[hy]at r P Q R S T U;rw[a7]at r;have u:=I.pn.c0;rw[hA]at u;have b3:=I.pn.lt;have b6:=I.blt;obtain⟨g,hg⟩:∃g,C.g=g:=⟨_,rfl⟩;have N:=zA I;have HN:=zA hN;have HS:=zA hs;have a8:=zA a6;have a9:=zA hL;obtain⟨z,m1,m2,e1⟩:∃z:jE,MayPut us [z]∧MayPut (zC1 us [z]) (zAS (·.2) (prs l))∧zBI x (prs l)=[z]++zAS (·.2) (prs l):=
  ⟨_,(hm.two rfl).1,(hm.two rfl).2,rfl⟩
 have M2:=zA m2;have d:z=(if x.kind=6 then [99,111,110,115,116]else [108,101,116]):=by
  have:zBI x (prs l)=(if x.kind=6 then [99,111,110,115,116]else [108,101,116])::zAS (·.2) (prs l):=rfl;rw[this]at e1;injection e1 with e2 e3;exact e2.symm
 have HE:=zA e1;have b0:=zA (fun(W:World) (hb:jY w W)=>zAc (I.below hb) [z] 1 rfl m1);rw[hg]at u b3;obtain⟨n,hn⟩:∃n,C.n=n:=⟨_,rfl⟩;rw[hn]at u b2;have M:=zA hg;clear hm m1 m2 e1 I hN hs h hR hA hy a7 Y hL a6 hn;rcases H with H | H
 · rw[H]at r d;have q:z=[108,101,116]:=d;clear d;subst q;rw[hg];clear H hg;go_enter func54,ntmps54;go_upto_region 1 with(fail);obtain⟨W,j⟩:=jx (w.alloc (.cells #[(5:Int),y.name,.slice s.As y.str.length s.cs,y.nk,y.nn,y.neg,.slice s.Am y.mag.length s.cm,.slice s.Ak L s.ck] 58));rw[j];have c:jY w W:=jb j;have A:w.heap.size < W.heap.size:=by rw[←j];simp
   have x0:W.cell? w.heap.size=some (.int .i64 5):=jc j;have x7:W.cell? ⟨w.heap.size,7,none⟩=some (.slice s.Ak L s.ck):=jc j;have B:w.heap.size≠C.g:=fun e=>by have:=N.out.pn.lt;omega
   have D:v.ownBlock≠some w.heap.size:=fun e=>by have:=(N.out.pn.own.lt _ e).2;omega
   have a0:=zA (N.out.below c);have a1:=zA c;have C1:=zA (b0.out W c);have a2:=zA (a8.out.below (c.mono jo));obtain⟨X,J⟩:=jx w.heap.size;rw[J]at x0 x7 A B D;rw[J];clear j c J r P Q R S T U V u;rw[M.out]at C1;go_wp2_with fail;refine C1.out.mono ?_;rintro e1 w1 ⟨rfl,v1,E,f⟩;have b4:=(f.cell (p:=⟨X,7,none⟩) A B D).trans x7;have C2:=zA (zEG (ck:=s.ck) HN HS (a2.out.below (a0.out.low f)) E a9 O M2);rw[M.out]at C2;have a3:=zA f;clear E f x7 x0;go_wp2_with fail;refine C2.out.mono ?_;rintro e2 w2 ⟨rfl,v2,F,G⟩;have a4:=zA F;have a5:=zA (a3.out.trans G);clear F G;go_wp2_with fail;refine jr ?_;refine PutQ.back a1 ⟨rfl,v2,?_,a5⟩;rw[HE.out,zAZ];exact a4.out
 · rw[H]at r d;have q:z=[99,111,110,115,116]:=d;clear d;subst q;rw[hg];clear H hg;go_enter func54,ntmps54;go_upto_region 1 with(fail);obtain⟨W,j⟩:=jx (w.alloc (.cells #[(6:Int),y.name,.slice s.As y.str.length s.cs,y.nk,y.nn,y.neg,.slice s.Am y.mag.length s.cm,.slice s.Ak L s.ck] 58));rw[j];have c:jY w W:=jb j;have A:w.heap.size < W.heap.size:=by rw[←j];simp
   have x0:W.cell? w.heap.size=some (.int .i64 6):=jc j;have x7:W.cell? ⟨w.heap.size,7,none⟩=some (.slice s.Ak L s.ck):=jc j;have B:w.heap.size≠C.g:=fun e=>by have:=N.out.pn.lt;omega
   have D:v.ownBlock≠some w.heap.size:=fun e=>by have:=(N.out.pn.own.lt _ e).2;omega
   have a0:=zA (N.out.below c);have a1:=zA c;have C1:=zA (b0.out W c);have a2:=zA (a8.out.below (c.mono jo));obtain⟨X,J⟩:=jx w.heap.size;rw[J]at x0 x7 A B D;rw[J];clear j c J r P Q R S T U V u;rw[M.out]at C1;go_wp2_with fail;refine C1.out.mono ?_;rintro e1 w1 ⟨rfl,v1,E,f⟩;have b4:=(f.cell (p:=⟨X,7,none⟩) A B D).trans x7;have C2:=zA (zEG (ck:=s.ck) HN HS (a2.out.below (a0.out.low f)) E a9 O M2);rw[M.out]at C2;have a3:=zA f;clear E f x7 x0;go_wp2_with fail;refine C2.out.mono ?_;rintro e2 w2 ⟨rfl,v2,F,G⟩;have a4:=zA F;have a5:=zA (a3.out.trans G);clear F G;go_wp2_with fail;refine jr ?_;refine PutQ.back a1 ⟨rfl,v2,?_,a5⟩;rw[HE.out,zAZ];exact a4.out
theorem zXw {x:Nd} {l:List Tr} (h:x.kind=5∨x.kind=6):prT (.mk x l)=zBI x (prs l)++[[59]]:=by
 rw[zAO];unfold zAh zt;rw[if_pos jo,jn,jn,jn,jn,if_pos h]
theorem zLY {C:Cx} {m:Nat} {us:jH} {v:Value} {w:World} (hN:zAf C m) (o:t.size≤m) (F:m≤1000000) (f:At C.ts k t) (d:Pe C us v w) (b:MayPut us (zr (t.nd.kind,prT t))):
 Calls prog 99 #[C,k] w (PutQ C us v w (zr (t.nd.kind,prT t))):=by
 obtain⟨K,j⟩:=jx t.nd.kind;have p:=zA (zHF d f.get);rw[zBr,j]at p;rw[j]at b⊢
 by_cases h:K=5∨K=6
 · obtain⟨x,l⟩:=t;have s:x.kind=K:=j;have h1:x.kind=5∨x.kind=6:=by rw[s];exact h
   have e:zr (K,prT (.mk x l))=zBI x (prs l):=by
    unfold zr;rw[if_pos h];show(prT (.mk x l)).dropLast=_;rw[zXw h1,List.dropLast_concat]
   rw[e]at b⊢;have q:∀t∈l,t.size≤m:=by
    intro t u;rw[zAk]at o;have:t.size≤sizes l:=by
     clear o hN f d b p j s h1 e h
     induction l with
     | nil=>cases u
     | cons a r B=>
      rw[zY];rcases yAW.1 u with rfl | D
      · omega
      · have:=B D;omega
    omega
   have y:l.length≤1000000:=by
    rw[zAk]at o;have:l.length≤sizes l:=by
     clear o hN f d b p j s h1 e h q
     induction l with
     | nil=>exact yAE _
     | cons a r B=>rw[zY];have:=zBF a;simp only[yAO];omega
    omega
   have z:=zA (zH6 hN q f h1 d y b);clear b hN f s h1 e q y o j d;rcases h with rfl | rfl
   all_goals
    go_enter func99,ntmps99;go_wp2_with (go_at_call 100;refine p.out.mono ?_;rintro e1 w1 ⟨rfl,rfl⟩);refine z.out.mono ?_;rintro e1 w1 ⟨rfl,A⟩;go_wp2_with fail;exact jr (⟨rfl,A⟩)
 · have e5:(K==5)=false:=yA.2 jo;have e6:(K==6)=false:=yA.2 jo
   by_cases c:K=11
   · have e:zr (K,prT t)=[]:=by unfold zr;rw[if_neg h,if_pos c]
     rw[e];have E:=zA d;subst c;clear b hN f d e h j;go_enter func99,ntmps99;go_wp2_with (go_at_call 100;refine p.out.mono ?_;rintro e1 w1 ⟨rfl,rfl⟩);exact jr (PutQ.nil E)
   · have e:zr (K,prT t)=inP (prT t):=by unfold zr;rw[if_neg h,if_neg c]
     rw[e]at b⊢;have z:=zA (zLV hN o f d b);have G:(K !=11)=true:=yBM.2 c;have H:(K==11)=false:=yA.2 c;clear b hN f d e h j c;go_enter func99,ntmps99;go_wp2_with (go_at_call 100;refine p.out.mono ?_;rintro e1 w1 ⟨rfl,rfl⟩);refine z.out.mono ?_;rintro e1 w1 ⟨rfl,A⟩;go_wp2_with fail;exact jr (⟨rfl,A⟩)
theorem KidsAt.init {C:Cx} {w:World} {b o:Nat} {l:List Tr} (h:KidsAt C w b o (l++r)):KidsAt C w b o l:=fun i hi=>by
 have h1:=h i (by rw[yAN];omega);rw[List.getElem_append_left hi]at h1;exact h1
theorem KidsAt.tail {C:Cx} {w:World} {b o:Nat} {z:Tr} (h:KidsAt C w b o (z::r)):KidsAt C w b (o+1) r:=fun i hi=>by
 obtain⟨p,h1,c,d⟩:=h (i+1) (by simp;omega);refine⟨p,h1,c,?_⟩;rw[show o+1+i=o+(i+1) by omega];exact d
theorem KidsAt.s {C:Cx} {w:World} {b o:Nat} {l:List Tr} (h:KidsAt C w b o l):KidsS C w (some ⟨b,o,none⟩) l:=fun _=>⟨b,o,rfl,h⟩
theorem zRv {ps:List Nat} {l:List Tr} {a:Tr} {n:Nat} (b:ps.length=(l++[a]).length) (c:l.length=n):∃p,Hid (ps[n]? =some p∧(l++[a])[n]? =some a):=by
 subst c;have h:l.length < ps.length:=by rw[b];simp
 exact⟨_,yAB h,by simp⟩
theorem PF.params {C:Cx} {m X b o n:Nat} {us:jH} {v0 v u1 vk:Value} {W w:World} {K:Int} {l:List Tr} {ps:List Nat} {dn rs:Tks} (F:PF C m us v0 W X b o K u1 vk (l++[a0]) ps dn (zp (prs l)++rs) v w) (h:l.length=n∧(∀t∈l,t.size≤m)∧ps.length=(l++[a0]).length) (c:n≤1000000):
 Calls prog 107 #[C,.slice (some ⟨b,o,none⟩) n ck] w (PFq C m us v0 W X b o K u1 vk (l++[a0]) ps (dn++zp (prs l)) rs):=
 (zLW F.N h.2.1 (F.ks h.2.2).init.s F.pe h.1 c F.put.app.1).mono fun _ _ h=>F.then h
theorem zKI {C:Cx} {m n:Nat} {us:jH} {v:Value} {w:World} (kk:Int) (nm:jE) (vs r:Value) (nk nn:Int) (s:Bool) {l:List Tr} (hN:zAf C m) (hs:∀t∈l,t.size≤m) (s0:a0.size≤m) (j:l.length=n) (I:n+1≤1000000) (B:n+1≤ck) (hk:KidsS C w Ak (l++[a0])) (u:Pe C us v w) (k:MayPut us ([[102,117,110,99,116,105,111,110]]++((zAl nm)++((zp (prs l))++(prT a0))))):
 Calls prog 62 #[C,.agg #[kk,nm,vs,nk,nn,s,r,.slice Ak (n+1) ck]] w (PutQ C us v w ([[102,117,110,99,116,105,111,110]]++((zAl nm)++((zp (prs l))++(prT a0))))):=by
 obtain⟨b,o,rfl,f⟩:=hk js;obtain⟨W,X,D,E,F,ps,d,p⟩:=PF.new kk (.string ⟨nm.toArray⟩) vs (.int .i64 nk) (.int .i64 nn) (.bool s) r (.slice (some ⟨b,o,none⟩) (n+1) ck) hN f u (by rw[←yAS (_++_)]at k;exact k);simp only[yAL]at p;obtain⟨p0,e⟩:=zRv d j;have G:=zA (show l.length=n∧(∀t∈l,t.size≤m)∧ps.length=(l++[a0]).length from⟨j,hs,d⟩);have A:n≤ck:=by omega
 go_enter func62,ntmps62;go_upto_region 1 with(fail);clear hN f hk u k j hs d D E;have:=p.out.x;go_wp2_with fail;refine(p.out.lit (a:=[[102,117,110,99,116,105,111,110]]) rfl).mono ?_;rintro e1 w1 ⟨rfl,v1,y⟩;have:=y.out.x;go_wp2_with fail;refine y.out.named.mono ?_;rintro e2 w2 ⟨rfl,v2,z⟩;have:=z.out.x;go_wp2_with fail;refine(z.out.params G jo).mono ?_;rintro e3 w3 ⟨rfl,v3,q⟩;have:=q.out.x;have:=q.out.c n e.out.1 e.out.2;go_wp2_with fail;refine(q.out.node n s0 e.out.1 e.out.2).mono ?_;rintro e4 J ⟨rfl,v4,H⟩;go_wp2_with fail;exact jr (H.out.fin F js)
theorem zKJ {C:Cx} {m n:Nat} {us:jH} {v:Value} {w:World} (kk:Int) (nm:jE) (vs r:Value) (nk nn:Int) (s:Bool) {l:List Tr} (hN:zAf C m) (hs:∀t∈l,t.size≤m) (s0:a0.size≤m) (k:l.length=n) (J:n+1≤1000000) (D:n+1≤ck) (hk:KidsS C w Ak (l++[a0])) (u:Pe C us v w) (y:a0.nd.kind=4) (p:MayPut us ((zp (prs l))++([[61,62]]++(prT a0)))):
 Calls prog 63 #[C,.agg #[kk,nm,vs,nk,nn,s,r,.slice Ak (n+1) ck]] w (PutQ C us v w ((zp (prs l))++([[61,62]]++(prT a0)))):=by
 obtain⟨b,o,rfl,j⟩:=hk js;obtain⟨W,X,E,F,G,ps,e,q⟩:=PF.new kk (.string ⟨nm.toArray⟩) vs (.int .i64 nk) (.int .i64 nn) (.bool s) r (.slice (some ⟨b,o,none⟩) (n+1) ck) hN j u (by rw[←yAS (_++_)]at p;exact p);simp only[yAL]at q;obtain⟨p0,d⟩:=zRv e k;have H:=zA (show l.length=n∧(∀t∈l,t.size≤m)∧ps.length=(l++[a0]).length from⟨k,hs,e⟩);have B:n≤ck:=by omega
 have z:=zA y;go_enter func63,ntmps63;go_upto_region 1 with(fail);clear hN j hk u p k hs e E F y;have:=q.out.x;go_wp2_with fail;refine(q.out.params H jo).mono ?_;rintro e1 w1 ⟨rfl,v1,A⟩;have:=A.out.x;go_wp2_with fail;refine(A.out.lit (a:=[[61,62]]) rfl).mono ?_;rintro e2 w2 ⟨rfl,v2,f⟩;have:=f.out.x;have:=f.out.c n d.out.1 d.out.2;go_wp2_with fail;refine(f.out.kind n z d.out.1 d.out.2).mono ?_;rintro L M ⟨rfl,rfl⟩;go_wp2_with fail;refine(f.out.node n s0 d.out.1 d.out.2).mono ?_;rintro e3 w3 ⟨rfl,v3,I⟩;go_wp2_with fail;exact jr (I.out.fin G js)
theorem zRw {C:Cx} {m n:Nat} {us:jH} {v:Value} {w:World} (kk:Int) (nm:jE) (vs s:Value) (nk nn:Int) (u:Bool) {l:List Tr} (hN:zAf C m) (hs:∀t∈l,t.size≤m) (s0:a0.size≤m) (k:l.length=n) (M:n+1≤1000000) (F:n+1≤ck) (hk:KidsS C w Ak (l++[a0])) (y:Pe C us v w) {p:Int} (z:a0.nd.kind=p) (A:p≠4) (q:MayPut us ((zp (prs l))++([[61,62]]++(inP (prT a0))))):
 Calls prog 63 #[C,.agg #[kk,nm,vs,nk,nn,u,s,.slice Ak (n+1) ck]] w (PutQ C us v w ((zp (prs l))++([[61,62]]++(inP (prT a0))))):=by
 obtain⟨b,o,rfl,j⟩:=hk js;obtain⟨W,X,G,H,I,ps,e,r⟩:=PF.new kk (.string ⟨nm.toArray⟩) vs (.int .i64 nk) (.int .i64 nn) (.bool u) s (.slice (some ⟨b,o,none⟩) (n+1) ck) hN j y (by rw[←yAS (_++_)]at q;exact q);simp only[yAL]at r;obtain⟨p0,d⟩:=zRv e k;have J:=zA (show l.length=n∧(∀t∈l,t.size≤m)∧ps.length=(l++[a0]).length from⟨k,hs,e⟩);have E:n≤ck:=by omega
 have B:=zA z;have e4:(p==4)=false:=yA.2 A;go_enter func63,ntmps63;go_upto_region 1 with(fail);clear hN j hk y q k hs e G H z;have:=r.out.x;go_wp2_with fail;refine(r.out.params J jo).mono ?_;rintro e1 w1 ⟨rfl,v1,D⟩;have:=D.out.x;go_wp2_with fail;refine(D.out.lit (a:=[[61,62]]) rfl).mono ?_;rintro e2 w2 ⟨rfl,v2,f⟩;have:=f.out.x;have:=f.out.c n d.out.1 d.out.2;go_wp2_with fail;refine(f.out.kind n B d.out.1 d.out.2).mono ?_;rintro N O ⟨rfl,rfl⟩;go_wp2_with fail;refine(f.out.pin n s0 d.out.1 d.out.2).mono ?_;rintro e3 w3 ⟨rfl,v3,L⟩;go_wp2_with fail;exact jr (L.out.fin I js)
theorem zOV {C:Cx} {m n:Nat} {us:jH} {v:Value} {w:World} {l:List Tr} (hN:zAf C m) (hs:∀t∈l,t.size≤m) (s0:a0.size≤m) (L:l.length=n) (a3:n+1≤1000000) (W:n+1≤ck) (e:ck≠1) (hk:KidsS C w Ak (a0::l)) (M:Pe C us v w) (N:MayPut us (zc (a0.nd.kind,prT a0)++([[40]]++(zAS zc (prs l)++[[41]])))):
 Calls prog 108 #[C,.slice Ak (n+1) ck] w (PutQ C us v w (zc (a0.nd.kind,prT a0)++([[40]]++(zAS zc (prs l)++[[41]])))):=by
 obtain⟨b,o,rfl,d⟩:=hk js;obtain⟨p0,f,a4,j⟩:=d 0 js;have c0:w.cell? ⟨b,o,none⟩=some (.int .i64 (p0:Int)):=j;have O:=zA f;have P:=zA d.tail;have X:=zA hs;have Q:=zA L;have k:=zA M;have R:=zA hN;have Y:1≤ck:=by omega
 have a1:(1:Int)≤(ck:Int):=by omega
 have a2:¬ck=1:=e;clear e;obtain⟨p,q⟩:=N.two (b:=zc (a0.nd.kind,prT a0)) (c:=[[40]]++(zAS zc (prs l)++[[41]])) rfl;obtain⟨r,u⟩:=q.two (b:=[[40]]) (c:=zAS zc (prs l)++[[41]]) rfl;obtain⟨y,z⟩:=u.app;have M1:=zA p;have M2:=zA r;have M3:=zA y;have M4:=zA z;clear N M hN d f j hs L p q r u y z;go_enter func108,ntmps108;have C1:=zA (zD0 R s0 O k M1);go_wp2_with fail;refine C1.out.mono ?_;rintro e1 w1 ⟨rfl,v1,A,B⟩;have C2:=zA (zAc A [[40]] 1 rfl M2);have S:=zA B;clear A B;go_wp2_with fail;refine C2.out.mono ?_;rintro e2 w2 ⟨rfl,v2,D,E⟩;have F:=zA (S.out.trans E);have C3:=zA (zFo (ck:=ck - 1) R X (P.out.below (k.out.low F)).s D Q jo M3);clear D E;go_wp2_with fail;refine C3.out.mono ?_;rintro e3 w3 ⟨rfl,v3,G,H⟩;have C4:=zA (zAc G [[41]] 1 rfl M4);have T:=zA (F.out.trans H);clear G H;go_wp2_with fail;refine C4.out.mono ?_;rintro e4 w4 ⟨rfl,v4,I,J⟩;have U:=zA I;have V:=zA (T.out.trans J);clear I J;go_wp2_with fail;refine jr ?_;refine⟨rfl,v4,?_,V⟩;have:=U.out;simp only[←zAZ,yAL]at this;exact this
theorem zRx {C:Cx} {m n:Nat} {us:jH} {v:Value} {w:World} {l:List Tr} (hN:zAf C m) (hs:∀t∈l,t.size≤m) (s0:a0.size≤m) (H:l.length=n) (a3:n+1≤1000000) (X:n+1≤ck) (I:ck=1) (hk:KidsS C w Ak (a0::l)) (J:Pe C us v w) (L:MayPut us (zc (a0.nd.kind,prT a0)++([[40]]++(zAS zc (prs l)++[[41]])))):
 Calls prog 108 #[C,.slice Ak (n+1) ck] w (PutQ C us v w (zc (a0.nd.kind,prT a0)++([[40]]++(zAS zc (prs l)++[[41]])))):=by
 obtain⟨b,o,rfl,d⟩:=hk js;obtain⟨p0,e,a4,f⟩:=d 0 js;have c0:w.cell? ⟨b,o,none⟩=some (.int .i64 (p0:Int)):=f;have M:=zA e;have a5:=zA d.tail;have Y:=zA hs;have N:=zA H;have O:=zA J;have P:=zA hN;have a1:1≤ck:=by omega
 have a2:(1:Int)≤(ck:Int):=by omega
 obtain rfl:=I;have Q:n=0:=by omega
 have j:l=[]:=yCT.1 jo;have R:=zA j;subst Q;clear j;obtain⟨k,p⟩:=L.two (b:=zc (a0.nd.kind,prT a0)) (c:=[[40]]++(zAS zc (prs l)++[[41]])) rfl;obtain⟨q,r⟩:=p.two (b:=[[40]]) (c:=zAS zc (prs l)++[[41]]) rfl;obtain⟨s,u⟩:=r.app;have M1:=zA k;have M2:=zA q;have M3:=zA s;have M4:=zA u;clear L J hN d e f hs H k p q r s u;go_enter func108,ntmps108;have C1:=zA (zD0 P s0 M O M1);go_wp2_with fail;refine C1.out.mono ?_;rintro e1 w1 ⟨rfl,v1,y,z⟩;have C2:=zA (zAc y [[40]] 1 rfl M2);have S:=zA z;clear y z;go_wp2_with fail;refine C2.out.mono ?_;rintro e2 w2 ⟨rfl,v2,A,B⟩;have T:=zA (S.out.trans B);have C3:=zA (zFo (Al:=some ⟨b,o,none⟩) (ck:=0) P Y (fun h=>absurd R h) A N jo M3);clear A B;go_wp2_with fail;refine C3.out.mono ?_;rintro e3 w3 ⟨rfl,v3,D,E⟩;have C4:=zA (zAc D [[41]] 1 rfl M4);have U:=zA (T.out.trans E);clear D E;go_wp2_with fail;refine C4.out.mono ?_;rintro e4 w4 ⟨rfl,v4,F,G⟩;have V:=zA F;have W:=zA (U.out.trans G);clear F G;go_wp2_with fail;refine jr ?_;refine⟨rfl,v4,?_,W⟩;have:=V.out;simp only[←zAZ,yAL]at this;exact this
theorem zKK {C:Cx} {m n:Nat} {us:jH} {v:Value} {w:World} {l:List Tr} (hN:zAf C m) (hs:∀t∈l,t.size≤m) (s0:a0.size≤m) (f:l.length=n) (c:n+1≤1000000) (b:n+1≤ck) (hk:KidsS C w Ak (a0::l)) (j:Pe C us v w) (d:MayPut us (zEX (prs (a0::l)))):
 Calls prog 108 #[C,.slice Ak (n+1) ck] w (PutQ C us v w (zEX (prs (a0::l)))):=by
 have e:zEX (prs (a0::l))=zc (a0.nd.kind,prT a0)++([[40]]++(zAS zc (prs l)++[[41]])):=by rw[zI];rfl
 rw[e]at d⊢
 by_cases h:ck=1
 · exact zRx hN hs s0 f c b h hk j d
 · exact zOV hN hs s0 f c b h hk j d
theorem zIt {C:Cx} {K:Int} (e:K∈([8,9,10,16,17,19]:List Int)) {us:jH} {v:Value} {w:World} {b:Tks} (f:ByteArray) (vs j vk:Value) (nk nn:Int) (k:Bool) (l:∀W,jY w W→Calls prog 56 #[C,.agg #[K,.string f,vs,nk,nn,k,j,vk]] W (PutQ C us v W b)):
 Calls prog 27 #[C,k0,.agg #[K,.string f,vs,nk,nn,k,j,vk]] w (PutQ C us v w b):=by
 simp only[yAW,List.not_mem_nil,or_false]at e;have p:=zA l;clear l;rcases e with rfl | rfl | rfl | rfl | rfl | rfl
 all_goals
  go_enter func27,ntmps27;go_wp2_with fail;refine(p.out _ (ja)).mono ?_;rintro e1 w1 ⟨rfl,v1,c,d⟩;have m:=zA c;have o:=zA d;clear c d;go_wp2_with fail;exact jr (PutQ.back (ja) ⟨rfl,v1,m,o⟩)
theorem zVS {C:Cx} {us:jH} {v:Value} {w:World} {b:Tks} (e:ByteArray) (vs f vk:Value) (nk nn:Int) (j:Bool) (k:∀W,jY w W→Calls prog 62 #[C,.agg #[(19:Int),.string e,vs,nk,nn,j,f,vk]] W (PutQ C us v W b)):
 Calls prog 56 #[C,.agg #[(19:Int),.string e,vs,nk,nn,j,f,vk]] w (PutQ C us v w b):=by
 have o:=zA k;clear k;go_enter func56,ntmps56;go_wp2_with fail;refine(o.out _ (ja)).mono ?_;rintro e1 w1 ⟨rfl,v1,c,d⟩;have l:=zA c;have m:=zA d;clear c d;go_wp2_with fail;exact jr (PutQ.back (ja) ⟨rfl,v1,l,m⟩)
theorem zVT {C:Cx} {us:jH} {v:Value} {w:World} {b:Tks} (e:ByteArray) (vs f vk:Value) (nk nn:Int) (j:Bool) (k:∀W,jY w W→Calls prog 62 #[C,.agg #[(41:Int),.string e,vs,nk,nn,j,f,vk]] W (PutQ C us v W b)):
 Calls prog 28 #[C,.agg #[(41:Int),.string e,vs,nk,nn,j,f,vk]] w (PutQ C us v w b):=by
 have o:=zA k;clear k;go_enter func28,ntmps28;go_wp2_with fail;refine(o.out _ (ja)).mono ?_;rintro e1 w1 ⟨rfl,v1,c,d⟩;have l:=zA c;have m:=zA d;clear c d;go_wp2_with fail;exact jr (PutQ.back (ja) ⟨rfl,v1,l,m⟩)
theorem zMv {C:Cx} {us:jH} {v:Value} {w:World} {b:Tks} (e:ByteArray) (vs f vk:Value) (nk nn:Int) (j:Bool) (k:∀W,jY w W→Calls prog 63 #[C,.agg #[(42:Int),.string e,vs,nk,nn,j,f,vk]] W (PutQ C us v W b)):
 Calls prog 28 #[C,.agg #[(42:Int),.string e,vs,nk,nn,j,f,vk]] w (PutQ C us v w b):=by
 have o:=zA k;clear k;go_enter func28,ntmps28;go_wp2_with fail;refine(o.out _ (ja)).mono ?_;rintro e1 w1 ⟨rfl,v1,c,d⟩;have l:=zA c;have m:=zA d;clear c d;go_wp2_with fail;exact jr (PutQ.back (ja) ⟨rfl,v1,l,m⟩)
theorem zHH {C:Cx} {K:Int} (e:K∈([43,44,45,46,47,48,49,50,51,52,53]:List Int)) {us:jH} {v:Value} {w:World} {b:Tks} (f:ByteArray) (vs j vk:Value) (nk nn:Int) (k:Bool) (l:∀W,jY w W→Calls prog 64 #[C,.agg #[K,.string f,vs,nk,nn,k,j,vk]] W (PutQ C us v W b)):
 Calls prog 28 #[C,.agg #[K,.string f,vs,nk,nn,k,j,vk]] w (PutQ C us v w b):=by
 simp only[yAW,List.not_mem_nil,or_false]at e;have p:=zA l;clear l;rcases e with rfl | rfl | rfl | rfl | rfl | rfl | rfl | rfl | rfl | rfl | rfl
 all_goals
  go_enter func28,ntmps28;go_wp2_with fail;refine(p.out _ (ja)).mono ?_;rintro e1 w1 ⟨rfl,v1,c,d⟩;have m:=zA c;have o:=zA d;clear c d;go_wp2_with fail;exact jr (PutQ.back (ja) ⟨rfl,v1,m,o⟩)
theorem zXx {C:Cx} {us:jH} {v:Value} {w:World} {b:ByteArray} (h:⟨nm.toArray⟩=b) (c:Pe C us v w) (d:MayPut us [[40],nm,[41]]):
 Calls prog 52 #[C,.slice (some ⟨w.heap.size,0,none⟩) 3 3] (w.alloc (.cells #[.string ⟨#[40]⟩,.string b,.string ⟨#[41]⟩] 9)) (PutQ C us v w [[40],nm,[41]]):=by
 subst h;exact zAc c [[40],nm,[41]] 3 rfl d
theorem zRy {C:Cx} {m:Nat} {us:jH} {v:Value} {w:World} (vs q:Value) (nk nn:Int) (r:Bool) {c:ByteArray} (hN:zAf C m) (s0:a0.size≤m) (hk:KidsS C w Ak [a0]) (s:Pe C us v w) (d:⟨nm.toArray⟩=c) (f:nm≠[]) (k:MayPut us ([[99,97,116,99,104]]++([[40],nm,[41]]++(prT a0)))):
 Calls prog 56 #[C,.agg #[(17:Int),.string c,vs,nk,nn,r,q,.slice Ak 1 ck]] w (PutQ C us v w ([[99,97,116,99,104]]++([[40],nm,[41]]++(prT a0)))):=by
 obtain⟨b,o,rfl,j⟩:=hk js;obtain⟨W,X,A,B,D,ps,t,l⟩:=PF.new 17 (.string c) vs (.int .i64 nk) (.int .i64 nn) (.bool r) q (.slice (some ⟨b,o,none⟩) 1 ck) hN j s (by rw[←yAS (_++_)]at k;exact k);obtain⟨p0,rfl⟩:=ps1 t;simp only[yAL]at l;have u:=zA d;have y:c.data.toList=nm:=by rw[←d]
 have f1:c.toList≠[]:=by rw[ByteArray.toList_eq,y];exact f
 have E:(c.toList==[])=false:=yA.2 f1;have f3:c.toList.isEmpty=false:=by rw[List.isEmpty_eq_false_iff];exact f1
 go_enter func56,ntmps56;go_upto_region 1 with(fail);clear hN j hk s k t A B d y f f1;have:=l.out.x;go_wp2_with fail;refine(l.out.lit (a:=[[99,97,116,99,104]]) rfl).mono ?_;rintro e1 w1 ⟨rfl,v1,e⟩;have:=e.out.x;go_wp2_with fail;refine((zXx u e.out.pe e.out.put.app.1).mono fun _ _ h=>e.out.then h).mono ?_;rintro e2 w2 ⟨rfl,v2,p⟩;have:=p.out.x;have:=p.out.c0;go_wp2_with fail;refine(p.out.node 0 s0 rfl rfl).mono ?_;rintro e3 w3 ⟨rfl,v3,z⟩;have:=z.out.x;go_wp2_with fail;exact jr (z.out.fin D js)
theorem zZd {C:Cx} {m L:Nat} {us:jH} {v:Value} {w:World} (D:ByteArray) (vs E:Value) (nk nn:Int) (F:Bool) {l:List Tr} (hN:zAf C m) (hs:∀t∈l,t.size≤m) (G:l.length=L) (H:L≤1000000) (hk:KidsS C w Ak l) (B:Pe C us v w) (I:MayPut us ([[91]]++((zAS zc (prs l))++([[93]])))):
 Calls prog 28 #[C,.agg #[(38:Int),.string D,vs,nk,nn,F,E,.slice Ak (L) ck]] w (PutQ C us v w ([[91]]++((zAS zc (prs l))++([[93]])))):=by
 obtain⟨W,e⟩:=jx (w.alloc (.cells #[(38:Int),.string D,vs,nk,nn,F,E,.slice Ak (L) ck] 58));have d:jY w W:=jb e;have J:w.heap.size < W.heap.size:=by rw[←e];simp
 have x0:W.cell? w.heap.size=some (.int .i64 38):=jc e;have x7:W.cell? ⟨w.heap.size,7,none⟩=some (.slice Ak (L) ck):=jc e;have M:=zA (hk.below (d.mono (yAM B.blt)));have V:=zA hs;have Y:=zA hN;have f:=zA (B.below d);have N:=zA d;obtain⟨j,k⟩:=I.two (b:=[[91]]) (c:=(zAS zc (prs l))++([[93]])) rfl;have M1:=zA j;obtain⟨o,p⟩:=k.two (b:=zAS zc (prs l)) (c:=[[93]]) rfl;have M2:=zA o;have M3:=zA p;have O:=zA G;clear G;obtain⟨X,P⟩:=jx w.heap.size;go_enter func28,ntmps28;go_upto_region 1 with(fail);clear I B d hN hs hk j k o p;clear e;rw[P]at x0 x7 J;clear P;have C1:=zA (zAc f [[91]] 1 rfl M1);go_wp2_with fail;refine C1.out.mono ?_;rintro e1 w1 ⟨rfl,v1,q,r⟩;have Q:=zA q;have s:=zA (r);clear q r;have C2:=zA (zFo (ck:=ck) Y V (M.out.below (f.out.low s)) Q O H M2);go_wp2_with fail;refine C2.out.mono ?_;rintro e2 w2 ⟨rfl,v2,u,y⟩;have R:=zA u;have S:=zA (s.out.trans y);clear u y;have C3:=zA (zAc R [[93]] 1 rfl M3);go_wp2_with fail;refine C3.out.mono ?_;rintro e3 w3 ⟨rfl,v3,z,A⟩;have T:=zA z;have U:=zA (S.out.trans A);clear z A;go_wp2_with fail;refine jr ?_;refine PutQ.back N ⟨rfl,v3,?_,U⟩;have:=T.out;simp only[←zAZ,yAL]at this;exact this
theorem zZe {C:Cx} {m L:Nat} {us:jH} {v:Value} {w:World} (D:ByteArray) (vs E:Value) (nk nn:Int) (F:Bool) {l:List Tr} (hN:zAf C m) (hs:∀t∈l,t.size≤m) (G:l.length=L) (H:L≤1000000) (hk:KidsS C w Ak l) (B:Pe C us v w) (I:MayPut us ([[123]]++((zAS (·.2) (prs l))++([[125]])))):
 Calls prog 28 #[C,.agg #[(39:Int),.string D,vs,nk,nn,F,E,.slice Ak (L) ck]] w (PutQ C us v w ([[123]]++((zAS (·.2) (prs l))++([[125]])))):=by
 obtain⟨W,e⟩:=jx (w.alloc (.cells #[(39:Int),.string D,vs,nk,nn,F,E,.slice Ak (L) ck] 58));have d:jY w W:=jb e;have J:w.heap.size < W.heap.size:=by rw[←e];simp
 have x0:W.cell? w.heap.size=some (.int .i64 39):=jc e;have x7:W.cell? ⟨w.heap.size,7,none⟩=some (.slice Ak (L) ck):=jc e;have M:=zA (hk.below (d.mono (yAM B.blt)));have V:=zA hs;have Y:=zA hN;have f:=zA (B.below d);have N:=zA d;obtain⟨j,k⟩:=I.two (b:=[[123]]) (c:=(zAS (·.2) (prs l))++([[125]])) rfl;have M1:=zA j;obtain⟨o,p⟩:=k.two (b:=zAS (·.2) (prs l)) (c:=[[125]]) rfl;have M2:=zA o;have M3:=zA p;have O:=zA G;clear G;obtain⟨X,P⟩:=jx w.heap.size;go_enter func28,ntmps28;go_upto_region 1 with(fail);clear I B d hN hs hk j k o p;clear e;rw[P]at x0 x7 J;clear P;have C1:=zA (zAc f [[123]] 1 rfl M1);go_wp2_with fail;refine C1.out.mono ?_;rintro e1 w1 ⟨rfl,v1,q,r⟩;have Q:=zA q;have s:=zA (r);clear q r;have C2:=zA (zEG (ck:=ck) Y V (M.out.below (f.out.low s)) Q O H M2);go_wp2_with fail;refine C2.out.mono ?_;rintro e2 w2 ⟨rfl,v2,u,y⟩;have R:=zA u;have S:=zA (s.out.trans y);clear u y;have C3:=zA (zAc R [[125]] 1 rfl M3);go_wp2_with fail;refine C3.out.mono ?_;rintro e3 w3 ⟨rfl,v3,z,A⟩;have T:=zA z;have U:=zA (S.out.trans A);clear z A;go_wp2_with fail;refine jr ?_;refine PutQ.back N ⟨rfl,v3,?_,U⟩;have:=T.out;simp only[←zAZ,yAL]at this;exact this
theorem zZf {C:Cx} {m n:Nat} {us:jH} {v:Value} {w:World} (k:ByteArray) (vs o:Value) (nk nn:Int) (p:Bool) {l:List Tr} (hN:zAf C m) (hs:∀t∈l,t.size≤m) (s0:a0.size≤m) (q:l.length=n) (r:n+1≤1000000) (f:n+1≤ck) (hk:KidsS C w Ak (a0::l)) (j:Pe C us v w) (s:MayPut us (zEX (prs (a0::l)))):
 Calls prog 64 #[C,.agg #[(50:Int),.string k,vs,nk,nn,p,o,.slice Ak (n+1) ck]] w (PutQ C us v w (zEX (prs (a0::l)))):=by
 obtain⟨W,c⟩:=jx (w.alloc (.cells #[(50:Int),.string k,vs,nk,nn,p,o,.slice Ak (n+1) ck] 58));have b:jY w W:=jb c;have u:w.heap.size < W.heap.size:=by rw[←c];simp
 have x0:W.cell? w.heap.size=some (.int .i64 50):=jc c;have x7:W.cell? ⟨w.heap.size,7,none⟩=some (.slice Ak (n+1) ck):=jc c;have y:=zA (hk.below (b.mono (yAM j.blt)));have G:=zA hs;have H:=zA hN;have z:=zA (j.below b);have A:=zA b;have I:=zA s;have B:=zA q;clear q;obtain⟨X,D⟩:=jx w.heap.size;go_enter func64,ntmps64;go_upto_region 1 with(fail);clear s j b hN hs hk;clear c;rw[D]at x0 x7 u;clear D;have J:=zA (zKK H G s0 B r f y z I);go_wp2_with fail;refine J.out.mono ?_;rintro e1 w1 ⟨rfl,v1,d,e⟩;have E:=zA d;have F:=zA (e);clear d e;go_wp2_with fail;refine jr ?_;refine PutQ.back A ⟨rfl,v1,?_,F⟩;exact E.out
theorem zZg {C:Cx} {m n:Nat} {us:jH} {v:Value} {w:World} (z:ByteArray) (vs A:Value) (nk nn:Int) (B:Bool) {l:List Tr} (hN:zAf C m) (hs:∀t∈l,t.size≤m) (s0:a0.size≤m) (D:l.length=n) (E:n+1≤1000000) (u:n+1≤ck) (hk:KidsS C w Ak (a0::l)) (y:Pe C us v w) (F:MayPut us ([[110,101,119]]++(zEX (prs (a0::l))))):
 Calls prog 64 #[C,.agg #[(51:Int),.string z,vs,nk,nn,B,A,.slice Ak (n+1) ck]] w (PutQ C us v w ([[110,101,119]]++(zEX (prs (a0::l))))):=by
 obtain⟨W,e⟩:=jx (w.alloc (.cells #[(51:Int),.string z,vs,nk,nn,B,A,.slice Ak (n+1) ck] 58));have d:jY w W:=jb e;have G:w.heap.size < W.heap.size:=by rw[←e];simp
 have x0:W.cell? w.heap.size=some (.int .i64 51):=jc e;have x7:W.cell? ⟨w.heap.size,7,none⟩=some (.slice Ak (n+1) ck):=jc e;have H:=zA (hk.below (d.mono (yAM y.blt)));have P:=zA hs;have Q:=zA hN;have f:=zA (y.below d);have I:=zA d;obtain⟨j,k⟩:=F.two (b:=[[110,101,119]]) (c:=zEX (prs (a0::l))) rfl;have R:=zA j;have S:=zA k;have J:=zA D;clear D;obtain⟨X,L⟩:=jx w.heap.size;go_enter func64,ntmps64;go_upto_region 1 with(fail);clear F y d hN hs hk j k;clear e;rw[L]at x0 x7 G;clear L;have T:=zA (zAc f [[110,101,119]] 1 rfl R);go_wp2_with fail;refine T.out.mono ?_;rintro e1 w1 ⟨rfl,v1,o,p⟩;have M:=zA o;have q:=zA (p);clear o p;have U:=zA (zKK Q P s0 J E u (H.out.below (f.out.low q)) M S);go_wp2_with fail;refine U.out.mono ?_;rintro e2 w2 ⟨rfl,v2,r,s⟩;have N:=zA r;have O:=zA (q.out.trans s);clear r s;go_wp2_with fail;refine jr ?_;refine PutQ.back I ⟨rfl,v2,?_,O⟩;have:=N.out;simp only[←zAZ]at this;exact this
theorem zYz {C:Cx} {K:Int} (S:K=5∨K=6) {m L:Nat} {us:jH} {v:Value} {w:World} (u:ByteArray) (vs y:Value) (nk nn:Int) (z:Bool) {l:List Tr} {x:Nd} (hN:zAf C m) (hs:∀t∈l,t.size≤m) (f:At C.ts k0 (.mk x l)) (A:x.kind=5∨x.kind=6) (B:l.length=L) (D:L≤1000000) (hk:KidsS C w Ak l) (s:Pe C us v w) (E:MayPut us ((zBI x (prs l))++([[59]]))):
 Calls prog 27 #[C,k0,.agg #[K,.string u,vs,nk,nn,z,y,.slice Ak (L) ck]] w (PutQ C us v w ((zBI x (prs l))++([[59]]))):=by
 obtain⟨W,e⟩:=jx (w.alloc (.cells #[K,.string u,vs,nk,nn,z,y,.slice Ak (L) ck] 58));have d:jY w W:=jb e;have F:w.heap.size < W.heap.size:=by rw[←e];simp
 have x0:W.cell? w.heap.size=some (.int .i64 K):=jc e;have x7:W.cell? ⟨w.heap.size,7,none⟩=some (.slice Ak (L) ck):=jc e;have a0:=zA (hk.below (d.mono (yAM s.blt)));have T:=zA hs;have U:=zA hN;have G:=zA (s.below d);have H:=zA d;obtain⟨j,k⟩:=E.two (b:=zBI x (prs l)) (c:=[[59]]) rfl;have V:=zA j;have Y:=zA k;have I:=zA B;clear B;have J:=zA f;have M:=zA A;clear f A;obtain⟨X,N⟩:=jx w.heap.size;rcases S with rfl | rfl
 all_goals
  go_enter func27,ntmps27;go_upto_region 1 with(fail);clear E s d hN hs hk j k;clear e;rw[N]at x0 x7 F;clear N;have C1:=zA (zH6 U T J M G (by rw[I.out];exact D) V);go_wp2_with fail;refine C1.out.mono ?_;rintro e1 w1 ⟨rfl,v1,o,p⟩;have O:=zA o;have P:=zA (p);clear o p;have C2:=zA (zAc O [[59]] 1 rfl Y);go_wp2_with fail;refine C2.out.mono ?_;rintro e2 w2 ⟨rfl,v2,q,r⟩;have Q:=zA q;have R:=zA (P.out.trans r);clear q r;go_wp2_with fail;refine jr ?_;refine PutQ.back H ⟨rfl,v2,?_,R⟩;have:=Q.out;simp only[←zAZ]at this;exact this
theorem zZh {C:Cx} {m:Nat} {us:jH} {v:Value} {w:World} (nm:jE) (vs d:Value) (nk nn:Int) (e:Bool) (hN:zAf C m) (f:Pe C us v w) (j:MayPut us ([nm])):
 Calls prog 28 #[C,.agg #[(33:Int),nm,vs,nk,nn,e,d,.slice Ak 0 ck]] w (PutQ C us v w ([nm])):=by
 obtain⟨W,X,p,q,r,ps,s,c⟩:=PF.new 33 (.string ⟨nm.toArray⟩) vs (.int .i64 nk) (.int .i64 nn) (.bool e) d (.slice Ak 0 ck) (b:=0) (o:=0) (l:=[]) (rs:=_++[]) hN (fun i hi=>absurd hi (Nat.not_lt_zero _)) f (by rw[yAS];exact j)
 try simp only[yAL]at c
 go_enter func28,ntmps28;go_upto_region 1 with(fail);clear hN f j s p q;have:=c.out.x;go_wp2_with fail;refine(c.out.lit (a:=[nm]) rfl).mono ?_;rintro e1 w1 ⟨rfl,v1,k⟩;have:=k.out.x;go_wp2_with fail;exact jr (k.out.fin r js)
theorem zZD {C:Cx} {K:Int} {c:jE} (q:(K=34∧c=[116,114,117,101])∨(K=35∧c=[102,97,108,115,101])∨(K=36∧c=[110,117,108,108])∨(K=37∧c=[116,104,105,115])) {m:Nat} {us:jH} {v:Value} {w:World} (nm:jE) (vs e:Value) (nk nn:Int) (f:Bool) (hN:zAf C m) (j:Pe C us v w) (k:MayPut us ([c])):
 Calls prog 28 #[C,.agg #[K,nm,vs,nk,nn,f,e,.slice Ak 0 ck]] w (PutQ C us v w ([c])):=by
 obtain⟨W,X,r,s,t,ps,u,d⟩:=PF.new K (.string ⟨nm.toArray⟩) vs (.int .i64 nk) (.int .i64 nn) (.bool f) e (.slice Ak 0 ck) (b:=0) (o:=0) (l:=[]) (rs:=_++[]) hN (fun i hi=>absurd hi (Nat.not_lt_zero _)) j (by rw[yAS];exact k)
 try simp only[yAL]at d
 rcases q with⟨rfl,rfl⟩ | ⟨rfl,rfl⟩ | ⟨rfl,rfl⟩ | ⟨rfl,rfl⟩
 all_goals
  go_enter func28,ntmps28;go_upto_region 1 with(fail);clear hN j k u r s;have:=d.out.x;go_wp2_with fail;refine(d.out.lit (a:=[_]) rfl).mono ?_;rintro e1 w1 ⟨rfl,v1,p⟩;have:=p.out.x;go_wp2_with fail;exact jr (p.out.fin t js)
section
variable {P:Program} {w0 w:World} {ops:Array Oper} {o:Oper} {a:Act} {K:Act→World→Prop} {Q:Exit→Act→World→Prop} {E:Prop}
theorem zRz (f:o.guard=none) (s x:Operand) (t:TypeId)
 (g:o.op=.call {callee:=.builtin .append,args:=#[s,x],argTypes:=#[t,t]})
 (e:TypeId) (i:TypeInfo) (z:Value) (bytes:Nat) (ht:P.underlying t=some (.slice e)) (hi:P.info? e=some i) (hz:i.zero=some z)
 (hsize:i.size=1) (hby:i.bytes=bytes) (hzs:z.cells.size=1)
 (v:Value) (xs:List Value) (hs:a.eval s=v) (hm:Made w0 w e v xs)
 (cs:List Value) (m c:Nat) (hx:a.eval x=.slice (some ⟨w.heap.size,0,none⟩) m c) (hl:cs.length=m) (h1:(cs.all fun u=>u.oneCell')=true)
 (hm0:0 < m) (hsz:xs.length+m≤70368744177664) (hb2:bytes≤2)
 (h:∀v' w',Made w0 w' e v' (xs++cs)→w.grownBy w' v.ownBlock→K (a.put o.dst v') w'):
 if Region.wanted o (yielded ops a.tmps)=true then Oper.wp P o a (w.alloc (.cells cs.toArray e)) K Q else E:=by
 subst hl;refine step_append_lies (w.alloc (.cells cs.toArray e)) f s x t g w0.heap.size e i z 1 bytes ht hi hz hsize hby hzs jo v xs.length xs hs (hm.own.alloc _) ⟨w.heap.size,0,none⟩ _ c cs hx jo ?_ (fun u d=>yBH.1 h1 u d) hm0 (by unfold maxLen;omega) ?_ (yAD hm.below.size js) _ rfl ?_
 · intro j u d;rw[Addr.add_lit,yBR _ _ _ _ rfl];simpa using d
 · calc (xs.length+cs.length)*bytes≤70368744177664*2:=Nat.mul_le_mul hsz hb2
    _≤140737488355328:=by omega
 · intro gg cap w' h1 l _ _;have b:w.grownBy w' v.ownBlock:=zC (zG w _ _) l;exact h _ w' ⟨by rw[yAN];exact h1,hm.below.grown b hm.below.size (fun k hk=>(hm.own.lt k hk).1)⟩ b
theorem zR0 (b:o.guard=none) (s x:Operand) (t:TypeId)
 (d:o.op=.call {callee:=.builtin .append,args:=#[s,x],argTypes:=#[t,t]})
 (e:TypeId) (i:TypeInfo) (z:Value) (bytes:Nat) (ht:P.underlying t=some (.slice e)) (hi:P.info? e=some i) (hz:i.zero=some z)
 (hsize:i.size=1) (hby:i.bytes=bytes) (hzs:z.cells.size=1)
 (v:Value) (xs:List Value) (hs:a.eval s=v) (hm:Made w0 w e v xs)
 (cs:List Value) (m c:Nat) (hx:a.eval x=.slice (some ⟨w.heap.size,0,none⟩) m c) (hl:cs.length=m) (h1:(cs.all fun u=>u.oneCell')=true)
 (hm0:0 < m) (hsz:xs.length+m≤70368744177664) (hb2:bytes≤2)
 (h:∀v' w',Made w0 w' e v' (xs++cs)→K (a.put o.dst v') w'):
 if Region.wanted o (yielded ops a.tmps)=true then Oper.wp P o a (w.alloc (.cells cs.toArray e)).drew K Q else E:=
 zRz (w:=w.drew) b s x t d e i z bytes ht hi hz hsize hby hzs v xs hs hm.drew cs m c hx hl h1 hm0 hsz hb2 (fun v' w' h1 _=>h v' w' h1)
end
def zVU (u:jH):jE:=34::u.flatMap zGT
theorem zR1 {u:jH} (h:k < u.length):zVU (u.take (k+1))=zVU (u.take k)++zGT u[k]:=by
 unfold zVU;rw[yAK h,List.flatMap_append];simp
theorem zVV (u:jH):(zVU u).length≤6*u.length+1:=by
 unfold zVU;rw[yAO];have:(u.flatMap zGT).length≤6*u.length:=by
  induction u with
  | nil=>simp
  | cons x r b=>rw[List.flatMap_cons,yAN,yAO];have:=zLi x;omega
 omega
theorem zIu {d:Nat} (b:d < 16):∀h,(ByteArray.mk #[48,49,50,51,52,53,54,55,56,57,97,98,99,100,101,102])[d]'h=zCJ d:=by
 have h:d=0∨d=1∨d=2∨d=3∨d=4∨d=5∨d=6∨d=7∨d=8∨d=9∨d=10∨d=11∨d=12∨d=13∨d=14∨d=15:=by omega
 rcases h with rfl | rfl | rfl | rfl | rfl | rfl | rfl | rfl | rfl | rfl | rfl | rfl | rfl | rfl | rfl | rfl<;>exact fun _=>rfl
theorem zXy {x:Nat} (h:x < 65536):bits .and .u16 (x:Int) 15=((x % 16:Nat):Int):=by
 have:=u16_and_nat x 15 h jo;rw[show(15:Int)=((15:Nat):Int)from rfl,this,show(15:Nat)=2^4 - 1 from rfl,Nat.and_two_pow_sub_one_eq_mod]
theorem zXz (u:jH):zFq u=zVU u++[34]:=rfl
theorem zOW (u:jH):u8s (zVU u)++[.int .u8 34]=u8s (zFq u):=by rw[zXz];unfold u8s;rw[yCR];rfl
theorem zH7 {A:jQ} {c n:Nat} {us:jH} {w:World} (Q:us.length=n) (hB:B≤w.heap.size) (J:Reads w B 1 A n (zAC us)) (hl:n≤1000000):
 Calls prog 59 #[.slice A n c] w fun e w'=>e=.returned (zFq us)∧jY w w':=by
 subst Q;obtain⟨H,j,l,m,o⟩:=info_parts Tryz.info_u8;have R:=zA J;have L:=zA (Made.lit w 5 (u8s [34]) (by simp[u8s,maxLen]));clear J;go_enter func59,ntmps59;go_wp2_with fail
 go_loopg [3,9] us.length (fun r v i wr=>∃k:Nat,k+r=us.length∧i=.int .i64 k∧Hid (Made w wr 5 v (u8s (zVU (us.take k)))))
 case atStart=>exact⟨0,by omega,rfl,L⟩
 case round=>
  obtain⟨k,a0,rfl,p⟩:=hrel;have M:=zVV (us.take k);have N:(u8s (zVU (us.take k))).length≤6*k+1:=by rw[zEU];rw[yBK]at M;omega
  clear M
  by_cases D:k < us.length
  · obtain⟨ad,S,_,q⟩:=(R.out.below (p.out.below.mono hB)).u16 D;subst S;have h3:(k:Int) < (us.length:Int):=by omega
    have C:=us[k].toNat_lt;have I:=zA (zR1 D);obtain⟨x,E⟩:=jx (us[k]);rw[E]at q C I;clear E
    by_cases s:32≤x.toNat∧x.toNat≤126∧x.toNat≠34∧x.toNat≠92
    · have b:=zA (show zGT x=[x.toUInt8] by unfold zGT;rw[if_pos s]);obtain⟨p1,p2,p3,p4⟩:=s;obtain⟨y,g⟩:=jx x.toNat
      have T:=zA (show u8s [x.toUInt8]=[.int .u8 (y:Int)] by rw[←g];simp[u8s,u8v];omega);rw[g]at p1 p2 p3 p4 q C;clear g;have q3:((y:Int) !=34)=true:=by simp;omega
      have q4:((y:Int) !=92)=true:=by simp;omega
      go_wp2_with (at_builtin;refine zCY rfl _ _ 68 rfl 5 H _ 1 underlying68 j l m o rfl _ _ rfl p.out [.int .u8 (y:Int)] 1 1 rfl rfl rfl jo jo ?_;intro v' w' f)
      go_roundg (gk - 1)
      all_goals first
       | omega
       | exact⟨k+1,by omega,by go_num,f.cells (by rw[I.out,b.out,←T.out];simp[u8s])⟩
    · have b:=zA (show zGT x=[92,117,zCJ (x.toNat / 4096),zCJ (x.toNat / 256 % 16),zCJ (x.toNat / 16 % 16),zCJ (x.toNat % 16)] by unfold zGT;rw[if_neg s]);obtain⟨y,g⟩:=jx x.toNat
      rw[g]at s q C b;clear g;have O:y < 65536:=C;obtain⟨d0,F⟩:=jx (y / 4096);obtain⟨d1,t⟩:=jx (y / 256 % 16);obtain⟨d2,u⟩:=jx (y / 16 % 16);obtain⟨d3,z⟩:=jx (y % 16);have e0:(y:Int) / 4096=(d0:Int):=by omega
      have e1:bits .and .u16 ((y:Int) / 256) 15=(d1:Int):=by
       rw[show(y:Int) / 256=((y / 256:Nat):Int) by omega,zXy jo,t]
      have e2:bits .and .u16 ((y:Int) / 16) 15=(d2:Int):=by
       rw[show(y:Int) / 16=((y / 16:Nat):Int) by omega,zXy jo,u]
      have e3:bits .and .u16 (y:Int) 15=(d3:Int):=by rw[zXy O,z]
      have U:d0 < 16:=by omega
      have l1:d1 < 16:=by omega
      have l2:d2 < 16:=by omega
      have V:d3 < 16:=by omega
      have g0:=zIu U;have g1:=zIu l1;have g2:=zIu l2;have g3:=zIu V;have k0:(d0:Int) < 16:=by omega
      have k1:(d1:Int) < 16:=by omega
      have k2:(d2:Int) < 16:=by omega
      have k3:(d3:Int) < 16:=by omega
      rw[F,t,u,z]at b;have W:(¬32≤y)∨(32≤y∧¬y≤126)∨(32≤y∧y≤126∧y=34)∨(32≤y∧y≤126∧y=92):=by omega
      clear s F t u z;go_upto_region 5 with(fail)
      go_cut [9,26] (fun i X Y=>i=.int .i64 k∧X=.bool false∧Y=wr)
      case first=>
       rcases W with c1 | ⟨c1,c2⟩ | ⟨c1,c2,c3⟩ | ⟨c1,c2,c4⟩
       · have b1:¬(32≤(y:Int)):=by omega
         go_wp2_with fail;go_meet;exact⟨rfl,rfl,rfl⟩
       · have b2:¬((y:Int)≤126):=by omega
         go_wp2_with fail;go_meet;exact⟨rfl,rfl,rfl⟩
       · have b3:((y:Int) !=34)=false:=by simp;omega
         clear c3;go_wp2_with fail;go_meet;exact⟨rfl,rfl,rfl⟩
       · have b3:((y:Int) !=34)=true:=by simp;omega
         have b4:((y:Int) !=92)=false:=by simp;omega
         clear c4;go_wp2_with fail;go_meet;exact⟨rfl,rfl,rfl⟩
      case rest=>
       obtain⟨rfl,rfl,rfl⟩:=hcut;go_wp2_with fail;go_region_law (refine zR0 rfl _ _ 68 rfl 5 H _ 1 underlying68 j l m o rfl _ _ rfl p.out [.int .u8 92,.int .u8 117,.int .u8 ((zCJ d0).toNat:Int),.int .u8 ((zCJ d1).toNat:Int),.int .u8 ((zCJ d2).toNat:Int),.int .u8 ((zCJ d3).toNat:Int)] 6 6 rfl rfl rfl jo jo jo ?_;intro v' w' f)
       all_goals go_wp2
       all_goals go_roundg (gk - 1)
       all_goals first
        | omega
        | exact⟨k+1,by omega,by go_num,f.cells (by rw[I.out,b.out];simp[u8s,u8v])⟩
  · have P:us.take k=us:=yB jo;rw[P]at p N;go_wp2_with (at_builtin;refine zCY rfl _ _ 68 rfl 5 H _ 1 underlying68 j l m o rfl _ _ rfl p.out [.int .u8 34] 1 1 rfl rfl rfl jo jo ?_;intro v' w' f;have G:Made w w' 5 v' (u8s (zFq us)):=f.cells (zOW us);obtain⟨A',c',rfl,_,_,hr⟩:=G.u8;have hs:=zEa (c:=c') hr);go_ret;exact⟨rfl,G.below⟩
theorem zR2 (l:List Nat):zB4 l=zEW l:=by
 induction l with
 | nil=>rfl
 | cons x r b=>rw[zB4,zEW,b]
def AtTxt (v0 v:Nat) (ls:jE):Prop:=zBQ v0=(if v=0 then []else zBQ v)++ls.reverse
theorem AtTxt.start {v0:Nat} (h:v0≠0):AtTxt v0 v0 []:=by unfold AtTxt;rw[if_neg h];simp
theorem AtTxt.step {v0 v:Nat} {c:jE} (h:AtTxt v0 v c) (hv:v≠0):AtTxt v0 (v / 10) (c++[chr (48+v % 10)]):=by
 unfold AtTxt at h⊢;rw[if_neg hv]at h;rw[h,List.reverse_append]
 by_cases b:v < 10
 · rw[zCe b,if_pos jo,show v % 10=v by omega];rfl
 · rw[zDJ b,jn];simp
theorem AtTxt.done {v0:Nat} {b:jE} (h:AtTxt v0 0 b):b.reverse=zBQ v0:=by
 unfold AtTxt at h;rw[h];rfl
theorem AtTxt.len {v0 v:Nat} {b:jE} (h:AtTxt v0 v b):b.length≤(zBQ v0).length:=by
 unfold AtTxt at h;rw[h,yAN,List.length_reverse];omega
structure AtDiv (ms:List Nat) (k r:Nat) (cs:List Nat):Prop where
 len:cs.length=ms.length
 low:cs.take k=ms.take k
 rest:r≤9
 val:zB4 (ms.drop k)=10*zB4 (cs.drop k)+r
 lt:∀x∈cs,x < 4294967296
theorem AtDiv.start (h:∀x∈ms,x < 4294967296):AtDiv ms ms.length 0 ms:=⟨rfl,rfl,by omega,by rw[yBZ];rfl,h⟩
theorem AtDiv.get {r:Nat} (h:AtDiv ms (k+1) r cs) (hk:k < ms.length):cs[k]'(by rw[h.len];exact hk)=ms[k]:=by
 have h1:=congrArg (fun l=>l[k]?) h.low;simp only[List.getElem?_take,if_pos (yAF k)]at h1;rw[yAB (by rw[h.len];exact hk),yAB hk]at h1;exact yBI h1
theorem AtDiv.step {r:Nat} (h:AtDiv ms (k+1) r cs) (hk:k < ms.length):AtDiv ms k ((r*4294967296+ms[k]) % 10) (cs.set k ((r*4294967296+ms[k]) / 10)):=by
 have c:k < cs.length:=by rw[h.len];exact hk
 have d:ms[k] < 4294967296:=by rw[←h.get hk];exact h.lt _ (yAZ _)
 have e:=h.rest;refine⟨by simp[h.len],?_,by omega,?_,?_⟩
 · rw[List.take_set_of_le (yAC k)];have:=congrArg (List.take k) h.low;rwa [List.take_take,List.take_take,Nat.min_eq_left jo]at this
 · have hv:=h.val;rw[yAH hk,zB4,hv,List.drop_set,jn,yCS,yAH c,List.set_cons_zero,zB4];omega
 · intro x b;rcases List.mem_or_eq_of_mem_set b with b | rfl
   · exact h.lt x b
   · omega
theorem AtDiv.done {r:Nat} (h:AtDiv ms 0 r cs):zB4 ms=10*zB4 cs+r∧r≤9:=by
 have:=h.val;simp only[List.drop_zero]at this;exact⟨this,h.rest⟩
theorem zH8 (l:List Nat):zB4 (zAe l)=zB4 l:=by
 induction l with
 | nil=>rfl
 | cons x r b=>
  by_cases h:zAe r=[]∧x=0
  · rw[zAe,if_pos h,zB4,zB4];have:=zDn.1 h.1;omega
  · rw[zAe,if_neg h,zB4,zB4,b]
theorem zOX (l:List Nat):zAe (zAe l)=zAe l:=by
 induction l with
 | nil=>rfl
 | cons x r b=>
  by_cases h:zAe r=[]∧x=0
  · rw[zAe,if_pos h];rfl
  · rw[zAe,if_neg h,zAe,b,if_neg h]
theorem zR3 {l:List Nat} {x:Nat} (h:x∈zAe l):x∈l:=by
 rw[zD5 l]at h;exact List.mem_of_mem_take h
theorem zOY {l:List Nat} {x:Nat} (h:l.getLast? =some x) (c:x≠0):zAe l=l:=by
 obtain⟨r,rfl⟩:∃r,l=r++[x]:=by
  have b:l≠[]:=by intro e;subst e;simp at h
  refine⟨l.dropLast,?_⟩;have h1:=List.dropLast_concat_getLast b;rw[List.getLast?_eq_some_getLast b]at h;rw[←yBI h,h1]
 exact zFc c r
end Go.Proofs.YtjlfhidpmdgloaaGreatDoor
