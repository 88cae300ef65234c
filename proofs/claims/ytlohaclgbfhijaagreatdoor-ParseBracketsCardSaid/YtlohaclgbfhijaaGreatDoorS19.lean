/- Joined for the claim ParseBlocks: the parser, the lexer and the trees as they are walked, made short by a program of mine. -/
import Derived.Test.YtlohaclgbfhijaaGreatDoorS03
import Derived.Test.YtlohaclgbfhijaaGreatDoorS01
set_option maxHeartbeats 16000000
set_option maxRecDepth 1000000
namespace Go.Proofs.YtlohaclgbfhijaaGreatDoor
def zS5 (t u:Tok):Prop:=t.kind=u.kind∧t.text=u.text∧t.str=u.str∧t.nk=u.nk∧t.nn=u.nn∧t.mag=u.mag
def zUr:List (List UInt8):=[[101,108,115,101],[99,97,116,99,104],[102,105,110,97,108,108,121],[63],[63,63],[124,124],[38,38],[40],[46],[91],[61],[44],[58],[61,62]]
structure Stop (t:Tok):Prop where
 name:t.kind≠1
 binds:zA9 t=9
 words:∀w∈zUr,isT t w=false
 asgn:t.kind=5→¬t.text∈zIB
 post:t.kind=5→t.text∈zDv→t.nl=true
structure Sim (L1 L2:List Tok) (a d m:Nat) (lo:Bool):Prop where
 l1:Lst L1
 l2:Lst L2
 le1:m≤L1.length - 1
 le2:m+d≤L2.length - 1
 tok:∀i,a≤i→i < m→zS5 (zH L1 i) (zH L2 (i+d))
 nl:∀i,a < i→i < m→(zH L1 i).nl=(zH L2 (i+d)).nl
 stop:Stop (zH L2 (m+d))
 arrow:isT (zH L2 (m+d)) [41]=true→isT (zH L2 (m+d+1)) [61,62]=false
 loose:lo=true→(isT (zH L2 (m+d)) [59]=true∧isT (zH L2 (m+d+1)) [101,108,115,101]=false)∨(isT (zH L2 (m+d)) [59]=false∧((zH L2 (m+d)).nl=true∨(zH L2 (m+d)).kind=0∨isT (zH L2 (m+d)) [125]=true))
def shP (d:Nat) (s:Ps):Ps:={s with k:=s.k+d}
theorem zj (d:Nat) (s:Ps):zB (shP d s)=shP d (zB s):=by
 unfold zB shP;simp only[Ps.mk.injEq,and_self,and_true];omega
structure Ok (m:Nat) (s:Ps):Prop where
 bad:s.bad=0
 le:s.k≤m
theorem Ok.back {L:List Tok} {m:Nat} {x y:Ps} (h:Ok m y) (k:Adv L x y):Ok m x:=⟨by
 rcases Nat.eq_zero_or_pos x.bad with hz | hz
 · exact hz
 · exact absurd h.bad (k.bad (by omega)),yAE k.le h.le⟩
theorem Ok.eat {L:List Tok} {m:Nat} {x y:Ps} (h:Ok m y) (k:Eat L x y) (hx:x.k≤L.length - 1):x.k < m:=yAA (k.lt hx (fun hb=>hb h.bad)) h.le
theorem Ok.step {m:Nat} {x:Ps} (h:Ok m (zB x)):Ok m x∧x.k < m:=⟨⟨h.bad,Nat.le_of_succ_le h.le⟩,h.le⟩
theorem Ok.need {L:List Tok} {m:Nat} {x:Ps} {w:List UInt8} (h:Ok m (zM L w x)):onP L w x=true∧zM L w x=zB x∧Ok m x∧x.k < m:=by
 unfold zM at h⊢
 by_cases c:onP L w x=true
 · rw[if_pos c]at h⊢;exact⟨c,rfl,h.step.1,h.step.2⟩
 · rw[if_neg c]at h;exact absurd h.bad ze
theorem Ok.name {L:List Tok} {m:Nat} {x:Ps} (h:Ok m (zW L x).2):(zH L x.k).kind=1∧zW L x=((zH L x.k).text,zB x)∧Ok m x∧x.k < m:=by
 unfold zW at h⊢
 by_cases c:(zH L x.k).kind=1
 · rw[if_pos c]at h⊢;exact⟨c,rfl,h.step.1,h.step.2⟩
 · rw[if_neg c]at h;exact absurd h.bad ze
section
variable {L1 L2:List Tok} {a d m:Nat} {lo:Bool} {s:Ps} {w:List UInt8}
theorem zBc {t u:Tok} (h:zS5 t u) (w:List UInt8):isT u w=isT t w:=by
 unfold isT;rw[h.1,h.2.1]
theorem Sim.on (S:Sim L1 L2 a d m lo) (ha:a≤s.k) (hm:s.k < m):onP L2 w (shP d s)=onP L1 w s:=zBc (S.tok _ ha hm) w
theorem Sim.yes (S:Sim L1 L2 a d m lo) (ha:a≤s.k) (hm:s.k < m) (h:onP L1 w s=true):onP L2 w (shP d s)=true:=(S.on ha hm).trans h
theorem Sim.no (S:Sim L1 L2 a d m lo) (ha:a≤s.k) (hm:s.k≤m) (h:¬onP L1 w s=true) (hw:w∈zUr):¬onP L2 w (shP d s)=true:=by
 rcases Nat.lt_or_ge s.k m with h1 | h1
 · rw[S.on ha h1];exact h
 · have h2:=S.stop.words w hw;unfold onP;show¬isT (zH L2 (s.k+d)) w=true;rw[show s.k=m by omega,h2];decide
theorem Sim.no1 (S:Sim L1 L2 a d m lo) (ha:a≤s.k) (hm:s.k < m) (h:¬onP L1 w s=true):¬onP L2 w (shP d s)=true:=by
 rw[S.on ha hm];exact h
theorem Sim.need (S:Sim L1 L2 a d m lo) (ha:a≤s.k) (hm:s.k < m) (h:onP L1 w s=true):zM L2 w (shP d s)=shP d (zB s):=by
 unfold zM;rw[if_pos (S.yes ha hm h),zj]
theorem Sim.kind (S:Sim L1 L2 a d m lo) (ha:a≤s.k) (hm:s.k < m):(zH L2 (shP d s).k).kind=(zH L1 s.k).kind:=(S.tok _ ha hm).1.symm
theorem Sim.text (S:Sim L1 L2 a d m lo) (ha:a≤s.k) (hm:s.k < m):(zH L2 (shP d s).k).text=(zH L1 s.k).text:=(S.tok _ ha hm).2.1.symm
theorem Sim.line (S:Sim L1 L2 a d m lo) (ha:a < s.k) (hm:s.k < m):(zH L2 (shP d s).k).nl=(zH L1 s.k).nl:=(S.nl _ ha hm).symm
theorem Sim.name (S:Sim L1 L2 a d m lo) (ha:a≤s.k) (hm:s.k < m) (h:(zH L1 s.k).kind=1):zW L2 (shP d s)=((zH L1 s.k).text,shP d (zB s)):=by
 unfold zW;rw[if_pos ((S.kind ha hm).trans h),S.text ha hm,zj]
def zJg:Ph→Bool
 | .body _=>true
 | _=>false
def isS:Ph→Bool
 | .item=>true
 | .statement=>true
 | .simple=>true
 | .word _=>true
 | .loop=>true
 | .jump _=>true
 | _=>false
def zUa (L2:List Tok) (d m:Nat) (lo:Bool) (r1 r2:Tr×Ps) (p:Ph):Prop:=
 if isS p=true then(r1.2.k < m→r2=(r1.1,shP d r1.2))∧(r1.2.k=m→lo=true→r2=(r1.1,shP d r1.2)∨(isT (zH L2 (m+d)) [59]=true∧r2=(r1.1,zB (shP d r1.2))))else r2=(r1.1,shP d r1.2)
def Clm (L1 L2:List Tok) (a d m:Nat) (lo:Bool) (R1 R2:Ph→Ps→Tr×Ps) (p:Ph) (s:Ps):Prop:=
 (∀acc,p≠.program acc)→Pre L1 p s→a≤s.k→(zJg p=true→a < s.k)→Ok m (R1 p s).2→zUa L2 d m lo (R1 p s) (R2 p (shP d s)) p
variable {R1 R2:Ph→Ps→Tr×Ps}
def zUb (L:List Tok) (s r:Ps):Prop:=(isT (zH L (s.k+1)) [41]=true∧r.k=s.k+2)∨(isT (zH L (s.k+1)) [41]=false∧∃j,zBT L L.length (s.k+1)=some j∧isT (zH L j) [41]=true∧r.k=j+1)
structure Kn (L1 L2:List Tok) (a d m:Nat) (lo:Bool) (R1 R2:Ph→Ps→Tr×Ps):Prop where
 post:∀q s1,Pre L1 q s1→Post L1 q s1 (R1 q s1).2
 clm:∀q s1,Clm L1 L2 a d m lo R1 R2 q s1
 blk:∀acc s1,Pre L1 (.blockL acc) s1→(R1 (.blockL acc) s1).2.bad=0→s1.k < (R1 (.blockL acc) s1).2.k
 nul:∀x s1,Pre L1 (.nullL x) s1→onP L1 [63,63] s1=true→(R1 (.nullL x) s1).2.bad=0→s1.k < (R1 (.nullL x) s1).2.k
 par:∀s1,Pre L1 .params s1→(R1 .params s1).2.bad=0→zUb L1 s1 (R1 .params s1).2
def exq:Ph→Bool
 | .body _=>false
 | .program _=>false
 | q=> !isS q
theorem zT4 {q:Ph} (h:exq q=true):isS q=false∧zJg q=false∧∀acc,q≠.program acc:=by
 cases q<;>first | exact absurd (show false=true from h) Bool.false_ne_true | exact⟨rfl,rfl,fun _ e=>by cases e⟩
theorem Kn.exact (K:Kn L1 L2 a d m lo R1 R2) {q:Ph} {s1:Ps} (h:exq q=true) (hp:Pre L1 q s1) (ha:a≤s1.k) (hok:Ok m (R1 q s1).2):R2 q (shP d s1)=((R1 q s1).1,shP d (R1 q s1).2):=by
 obtain⟨h0,h1,h2⟩:=zT4 h;have:=K.clm q s1 h2 hp ha (fun h=>by rw[h1]at h;cases h) hok;unfold zUa at this;rwa [if_neg (by rw[h0];decide)]at this
theorem Kn.body (K:Kn L1 L2 a d m lo R1 R2) {l:List Tr} {s1:Ps} (hp:Pre L1 (.body l) s1) (ha:a < s1.k) (hok:Ok m (R1 (.body l) s1).2):R2 (.body l) (shP d s1)=((R1 (.body l) s1).1,shP d (R1 (.body l) s1).2):=by
 have:=K.clm (.body l) s1 (fun _ h=>by cases h) hp (Nat.le_of_lt ha) (fun _=>ha) hok;exact this
theorem Kn.item (K:Kn L1 L2 a d m lo R1 R2) {s1:Ps} (hp:Pre L1 .item s1) (ha:a≤s1.k) (hok:Ok m (R1 .item s1).2) (hl:(R1 .item s1).2.k < m):R2 .item (shP d s1)=((R1 .item s1).1,shP d (R1 .item s1).2):=
 (K.clm .item s1 (fun _ h=>by cases h) hp ha (fun h=>by cases h) hok).1 hl
theorem zBP (S:Sim L1 L2 a d m lo) (K:Kn L1 L2 a d m lo R1 R2) {p:Ph} (hp:Pre L1 p s):Post L1 p s (zF L1 R1 p s).2:=
 (zEt (R:=R1) (R':=R1) S.l1 hp (fun q s1 hq _=>⟨K.post q s1 hq,rfl⟩)).1
def Sg (L1 L2:List Tok) (a d m:Nat) (lo:Bool) (R1 R2:Ph→Ps→Tr×Ps) (s:Ps) (p:Ph):Prop:=Sim L1 L2 a d m lo→Kn L1 L2 a d m lo R1 R2→Pre L1 p s→a≤s.k→Ok m (zF L1 R1 p s).2→zF L2 R2 p (shP d s)=((zF L1 R1 p s).1,shP d (zF L1 R1 p s).2)
theorem zNR:Sg L1 L2 a d m lo R1 R2 s .block:=by
 intro S K hp ha hok;unfold zF at hok⊢;dsimp only at hok⊢;have x:=zN (w:=[123]) S.l1 hp.1;have p:=(K.post (.blockL []) (zM L1 [123] s) ⟨x.adv.hi,trivial⟩).adv;obtain⟨n1,n2,ok1,l1⟩:=(hok.back p).need;rw[n2]at hok⊢;rw[S.need ha l1 n1,K.exact (q:=.blockL []) (s1:=zB s) rfl ⟨(by have:=S.le1;show _+1≤_;omega),trivial⟩ (yAB ha) hok]
theorem zK1 {acc:List Tr}:Sg L1 L2 a d m lo R1 R2 s (.blockL acc):=by
 intro S K hp ha hok;unfold zF at hok⊢;dsimp only at hok⊢
 by_cases c:s.bad≠0
 · simp only[if_pos c]at hok;exact absurd hok.bad c
 simp only[if_neg c,if_neg (show¬(shP d s).bad≠0 from c)]at hok⊢
 by_cases c2:onP L1 [125] s=true
 · simp only[if_pos c2]at hok⊢;have l:=hok.step.2;simp only[if_pos (S.yes ha l c2),zj]
 simp only[if_neg c2]at hok⊢;have x1:Eat L1 s (R1 .item s).2:=K.post .item s ⟨hp.1,trivial⟩;have hp2:Pre L1 (.blockL (acc++[(R1 .item s).1])) (R1 .item s).2:=⟨x1.adv.hi,trivial⟩;have p2:=(K.post _ _ hp2).adv;have l2:=yAA (K.blk _ _ hp2 hok.bad) hok.le;have ok1:=hok.back p2;have a1:=yAE ha x1.adv.le;have l1:=Nat.lt_of_le_of_lt x1.adv.le l2;simp only[if_neg (S.no1 ha l1 c2)];rw[K.item ⟨hp.1,trivial⟩ ha ok1 l2];dsimp only;rw[K.exact (q:=.blockL (acc++[(R1 .item s).1])) (s1:=(R1 .item s).2) rfl hp2 a1 hok]
theorem zHo:Sg L1 L2 a d m lo R1 R2 s .declares:=by
 intro S K hp ha hok;have hok0:=hok;unfold zF at hok⊢;dsimp only at hok⊢;have l:s.k < m:=hok0.eat (zBP S K hp) hp.1
 by_cases c:onP L1 [99,111,110,115,116] s=true
 · simp only[if_pos c,if_pos (S.yes ha l c),zj]at hok⊢;rw[K.exact (q:=.declL 6 []) (s1:=zB s) rfl ⟨(by have:=S.le1;show _+1≤_;omega),trivial⟩ (yAB ha) hok]
 · simp only[if_neg c,if_neg (S.no1 ha l c)]at hok⊢;have x:=zN (w:=[108,101,116]) S.l1 hp.1;have p:=(K.post (.declL 5 []) (zM L1 [108,101,116] s) ⟨x.adv.hi,trivial⟩).adv;obtain⟨n1,n2,ok1,l1⟩:=(hok.back p).need;rw[n2]at hok⊢;rw[S.need ha l1 n1,K.exact (q:=.declL 5 []) (s1:=zB s) rfl ⟨(by have:=S.le1;show _+1≤_;omega),trivial⟩ (yAB ha) hok]
theorem zJh {k:Int} {acc:List Tr} (S:Sim L1 L2 a d m lo) (K:Kn L1 L2 a d m lo R1 R2) {e:Tr×Ps} (hi:e.2.k≤L1.length - 1) (ha:a≤e.2.k) (hok:Ok m (if e.2.bad≠0 then(trK k (acc++[e.1]),e.2)else if onP L1 [44] e.2=true then R1 (.declL k (acc++[e.1])) (zB e.2)else(trK k (acc++[e.1]),e.2)).2):
 Ok m e.2∧(if(e.1,shP d e.2).2.bad≠0 then(trK k (acc++[(e.1,shP d e.2).1]),(e.1,shP d e.2).2)else if onP L2 [44] (e.1,shP d e.2).2=true then R2 (.declL k (acc++[(e.1,shP d e.2).1])) (zB (e.1,shP d e.2).2)else(trK k (acc++[(e.1,shP d e.2).1]),(e.1,shP d e.2).2))=((if e.2.bad≠0 then(trK k (acc++[e.1]),e.2)else if onP L1 [44] e.2=true then R1 (.declL k (acc++[e.1])) (zB e.2)else(trK k (acc++[e.1]),e.2)).1,shP d (if e.2.bad≠0 then(trK k (acc++[e.1]),e.2)else if onP L1 [44] e.2=true then R1 (.declL k (acc++[e.1])) (zB e.2)else(trK k (acc++[e.1]),e.2)).2):=by
 dsimp only
 by_cases c:e.2.bad≠0
 · simp only[if_pos c]at hok;exact absurd hok.bad c
 simp only[if_neg c,if_neg (show¬(shP d e.2).bad≠0 from c)]at hok⊢
 by_cases c2:onP L1 [44] e.2=true
 · simp only[if_pos c2]at hok⊢;have hl:=S.l1.on hi c2;have p:=(K.post (.declL k (acc++[e.1])) (zB e.2) ⟨hl,trivial⟩).adv;obtain⟨ok1,l1⟩:=(hok.back p).step;simp only[if_pos (S.yes ha l1 c2),zj];exact⟨ok1,by rw[K.exact (q:=.declL k (acc++[e.1])) (s1:=zB e.2) rfl ⟨hl,trivial⟩ (yAB ha) hok]⟩
 · simp only[if_neg c2]at hok⊢;simp only[if_neg (S.no ha hok.le c2 (by decide))];exact⟨hok,trivial⟩
theorem zNS {k:Int} {acc:List Tr}:Sg L1 L2 a d m lo R1 R2 s (.declL k acc):=by
 intro S K hp ha hok;unfold zF at hok⊢;dsimp only at hok⊢;have x:=zAD S.l1 hp.1
 by_cases c:onP L1 [61] (zW L1 s).2=true
 · have hlt:=S.l1.on x.adv.hi c;have p1:=(K.post .assign (zB (zW L1 s).2) ⟨hlt,trivial⟩).adv;have y:=(x.then (zAC hlt)).then p1;simp only[if_pos c]at hok⊢;obtain⟨ok1,e1⟩:=zJh S K (e:=(trN 7 (zW L1 s).1 [(R1 .assign (zB (zW L1 s).2)).1],(R1 .assign (zB (zW L1 s).2)).2)) y.adv.hi (yAE ha y.adv.le) hok;obtain⟨ok2,l2⟩:=(ok1.back p1).step;obtain⟨n1,n2,ok3,l3⟩:=ok2.name;have a1:=yAE ha x.adv.le;have c':=S.yes (w:=[61]) a1 l2 c;rw[n2]at ok1 e1 c' a1 l2⊢;rw[S.name ha l3 n1];dsimp only at ok1 e1 c' a1 l2⊢;simp only[if_pos c',zj];rw[K.exact (q:=.assign) (s1:=zB (zB s)) rfl ⟨by have:=S.le1;show _+1≤_;omega,trivial⟩ (yAB a1) ok1];exact e1
 · simp only[if_neg c]at hok⊢;obtain⟨ok1,e1⟩:=zJh S K (e:=(trN 7 (zW L1 s).1 [],(zW L1 s).2)) x.adv.hi (yAE ha x.adv.le) hok;obtain⟨n1,n2,ok3,l3⟩:=ok1.name;have a1:=yAE ha x.adv.le;have c':=S.no (w:=[61]) a1 ok1.le c (by decide);rw[n2]at e1 c'⊢;rw[S.name ha l3 n1];dsimp only at e1 c'⊢;simp only[if_neg c'];exact e1
theorem zQN {k:Int} {n:List UInt8}:Sg L1 L2 a d m lo R1 R2 s (.func k n):=by
 intro _S K hp ha hok;unfold zF at hok⊢;dsimp only at hok⊢;have x1:Eat L1 s (R1 .params s).2:=K.post .params s ⟨hp.1,trivial⟩;have p2:=(K.post .block (R1 .params s).2 ⟨x1.adv.hi,trivial⟩).adv;rw[K.exact (q:=.params) (s1:=s) rfl ⟨hp.1,trivial⟩ ha (hok.back p2)];dsimp only;rw[K.exact (q:=.block) (s1:=(R1 .params s).2) rfl ⟨x1.adv.hi,trivial⟩ (yAE ha x1.adv.le) hok]
theorem zK2:Sg L1 L2 a d m lo R1 R2 s .params:=by
 intro S K hp ha hok;unfold zF at hok⊢;dsimp only at hok⊢;have x:=zN (w:=[40]) S.l1 hp.1
 by_cases c:onP L1 [41] (zM L1 [40] s)=true
 · simp only[if_pos c]at hok⊢;obtain⟨ok1,l1⟩:=hok.step;obtain⟨n1,n2,ok2,l2⟩:=ok1.need;rw[n2]at c l1⊢;rw[S.need ha l2 n1];simp only[if_pos (S.yes (yAB ha) l1 c),zj]
 · simp only[if_neg c]at hok⊢;have p:=(K.post (.paramL []) (zM L1 [40] s) ⟨x.adv.hi,trivial⟩);have p1:Eat L1 (zM L1 [40] s) _:=p;obtain⟨n1,n2,ok2,l2⟩:=(hok.back p.adv).need;have l3:=hok.eat p1 x.adv.hi;rw[n2]at c hok l3⊢;rw[S.need ha l2 n1];simp only[if_neg (S.no1 (yAB ha) l3 c)];rw[K.exact (q:=.paramL []) (s1:=zB s) rfl ⟨(by have:=S.le1;show _+1≤_;omega),trivial⟩ (yAB ha) hok]
theorem zK3 {acc:List Tr}:Sg L1 L2 a d m lo R1 R2 s (.paramL acc):=by
 intro S K hp ha hok;unfold zF at hok⊢;dsimp only at hok⊢;have x:=zAD S.l1 hp.1
 by_cases c:(zW L1 s).2.bad≠0
 · simp only[if_pos c]at hok;exact absurd hok.bad c
 simp only[if_neg c]at hok⊢
 by_cases c2:onP L1 [41] (zW L1 s).2=true
 · simp only[if_pos c2]at hok⊢;obtain⟨ok1,l1⟩:=hok.step;obtain⟨n1,n2,ok2,l2⟩:=ok1.name;rw[n2]at c c2 l1⊢;rw[S.name ha l2 n1];dsimp only at c c2 l1⊢;simp only[if_neg (show¬(shP d (zB s)).bad≠0 from c),if_pos (S.yes (yAB ha) l1 c2),zj]
 simp only[if_neg c2]at hok⊢;have y:=zN (w:=[44]) S.l1 x.adv.hi;have p:=(K.post (.paramL (acc++[trN 20 (zW L1 s).1 []])) (zM L1 [44] (zW L1 s).2) ⟨y.adv.hi,trivial⟩).adv;obtain⟨n1,n2,ok1,l1⟩:=(hok.back p).need;obtain⟨m1,m2,ok2,l2⟩:=ok1.name;rw[n2]at hok⊢;rw[m2]at c c2 l1 n1 hok⊢;rw[S.name ha l2 m1];dsimp only at c c2 l1 n1 hok⊢;have a1:=yAB ha;simp only[if_neg (show¬(shP d (zB s)).bad≠0 from c),if_neg (S.no1 a1 l1 c2)];rw[S.need a1 l1 n1,K.exact (q:=.paramL (acc++[trN 20 (zH L1 s.k).text []])) (s1:=zB (zB s)) rfl ⟨by have:=S.le1;show _+1≤_;omega,trivial⟩ (yAB a1) hok]
theorem zK4:Sg L1 L2 a d m lo R1 R2 s .within:=by
 intro S K hp ha hok;unfold zF at hok⊢;dsimp only at hok⊢;have x:=zN (w:=[40]) S.l1 hp.1;have p:=(K.post .assign (zM L1 [40] s) ⟨x.adv.hi,trivial⟩).adv;obtain⟨n1,n2,ok1,l1⟩:=hok.need;obtain⟨m1,m2,ok2,l2⟩:=(ok1.back p).need;rw[n2];rw[m2]at n1 ok1 l1⊢;have q:=(K.post .assign (zB s) ⟨(by have:=S.le1;show _+1≤_;omega),trivial⟩).adv;rw[S.need ha l2 m1,K.exact (q:=.assign) (s1:=zB s) rfl ⟨(by have:=S.le1;show _+1≤_;omega),trivial⟩ (yAB ha) ok1];dsimp only;rw[S.need (yAE (yAB ha) q.le) l1 n1]
theorem zK5:Sg L1 L2 a d m lo R1 R2 s (.clause w):=by
 intro S K hp ha hok;unfold zF at hok⊢;dsimp only at hok⊢
 by_cases c:onP L1 w s=true
 · simp only[if_pos c]at hok⊢;obtain⟨n1,n2,ok1,l1⟩:=hok.need;simp only[if_pos (S.yes ha l1 c)];rw[S.need ha l1 n1,n2]
 · simp only[if_neg c]at hok⊢;have x1:Eat L1 s (R1 .assign s).2:=K.post .assign s ⟨hp.1,trivial⟩;obtain⟨n1,n2,ok1,l1⟩:=hok.need;have l0:=ok1.eat x1 hp.1;simp only[if_neg (S.no1 ha l0 c)];rw[K.exact (q:=.assign) (s1:=s) rfl ⟨hp.1,trivial⟩ ha ok1,n2];dsimp only;rw[S.need (yAE ha x1.adv.le) l1 n1]
theorem zFX (S:Sim L1 L2 a d m lo) (K:Kn L1 L2 a d m lo R1 R2) {b0:Tr} {e:Tr×Ps} (hi:e.2.k≤L1.length - 1) (ha:a≤e.2.k) (hok:Ok m (if onP L1 [102,105,110,97,108,108,121] e.2=true then(trK 16 [b0,e.1,(R1 .block (zB e.2)).1],(R1 .block (zB e.2)).2)else(trK 16 [b0,e.1,trK 11 []],e.2)).2):
 Ok m e.2∧(if onP L2 [102,105,110,97,108,108,121] (e.1,shP d e.2).2=true then(trK 16 [b0,(e.1,shP d e.2).1,(R2 .block (zB (e.1,shP d e.2).2)).1],(R2 .block (zB (e.1,shP d e.2).2)).2)else(trK 16 [b0,(e.1,shP d e.2).1,trK 11 []],(e.1,shP d e.2).2))=((if onP L1 [102,105,110,97,108,108,121] e.2=true then(trK 16 [b0,e.1,(R1 .block (zB e.2)).1],(R1 .block (zB e.2)).2)else(trK 16 [b0,e.1,trK 11 []],e.2)).1,shP d (if onP L1 [102,105,110,97,108,108,121] e.2=true then(trK 16 [b0,e.1,(R1 .block (zB e.2)).1],(R1 .block (zB e.2)).2)else(trK 16 [b0,e.1,trK 11 []],e.2)).2):=by
 dsimp only
 by_cases c2:onP L1 [102,105,110,97,108,108,121] e.2=true
 · simp only[if_pos c2]at hok⊢;have hl:=S.l1.on hi c2;have p:=(K.post .block (zB e.2) ⟨hl,trivial⟩).adv;obtain⟨ok1,l1⟩:=(hok.back p).step;simp only[if_pos (S.yes ha l1 c2),zj];exact⟨ok1,by rw[K.exact (q:=.block) (s1:=zB e.2) rfl ⟨hl,trivial⟩ (yAB ha) hok]⟩
 · simp only[if_neg c2]at hok⊢;simp only[if_neg (S.no ha hok.le c2 (by decide))];exact⟨hok,trivial⟩
theorem zNT:Sg L1 L2 a d m lo R1 R2 s .tries:=by
 intro S K hp ha hok;have hlt:s.k < L1.length - 1:=hp.2;unfold zF at hok⊢;dsimp only at hok⊢;have p1:=(K.post .block (zB s) ⟨hlt,trivial⟩).adv;have a0:a≤(R1 .block (zB s)).2.k:=yAE (yAB ha) p1.le
 by_cases g:(onP L1 [99,97,116,99,104] (R1 .block (zB s)).2 || onP L1 [102,105,110,97,108,108,121] (R1 .block (zB s)).2)=true
 case neg=>
  simp only[if_neg g]at hok;have z:=zl p1.hi;have hno:∀w,onP L1 w (zV L1 (R1 .block (zB s)).2)=true→False:=fun w h=>by
   have:=S.l1.on z.adv.hi h;rw[zD0]at this;omega
  simp only[if_neg (fun h=>hno [99,97,116,99,104] h),if_neg (fun h=>hno [102,105,110,97,108,108,121] h)]at hok;exact absurd hok.bad ze
 simp only[if_pos g]at hok⊢;have fin:∀(ok0:Ok m (R1 .block (zB s)).2) (l0:(R1 .block (zB s)).2.k < m),R2 .block (zB (shP d s))=((R1 .block (zB s)).1,shP d (R1 .block (zB s)).2)∧(onP L2 [99,97,116,99,104] (shP d (R1 .block (zB s)).2) || onP L2 [102,105,110,97,108,108,121] (shP d (R1 .block (zB s)).2))=true:=fun ok0 l0=>by
  rw[zj,K.exact (q:=.block) (s1:=zB s) rfl ⟨hlt,trivial⟩ (yAB ha) ok0,S.on a0 l0,S.on a0 l0];exact⟨rfl,g⟩
 by_cases c:onP L1 [99,97,116,99,104] (R1 .block (zB s)).2=true
 · simp only[if_pos c]at hok⊢;have hl1:=S.l1.on p1.hi c
   by_cases c2:onP L1 [40] (zB (R1 .block (zB s)).2)=true
   · simp only[if_pos c2]at hok⊢;have hl2:=S.l1.on (s:=zB (R1 .block (zB s)).2) hl1 c2;have u:=zAD (s:=zB (zB (R1 .block (zB s)).2)) S.l1 hl2;have v:=zN (w:=[41]) S.l1 u.adv.hi;have p2:=(K.post .block (zM L1 [41] (zW L1 (zB (zB (R1 .block (zB s)).2))).2) ⟨v.adv.hi,trivial⟩).adv;have a3:a≤(zB (zB (R1 .block (zB s)).2)).k:=yAB (yAB a0);obtain⟨ok1,e1⟩:=zFX S K (e:=(trN 17 (zW L1 (zB (zB (R1 .block (zB s)).2))).1 [(R1 .block (zM L1 [41] (zW L1 (zB (zB (R1 .block (zB s)).2))).2)).1],(R1 .block (zM L1 [41] (zW L1 (zB (zB (R1 .block (zB s)).2))).2)).2)) p2.hi (yAE a3 (yAE u.adv.le (yAE v.adv.le p2.le))) hok;obtain⟨n1,n2,ok2,l2⟩:=(ok1.back p2).need;obtain⟨m1,m2,ok3,l3⟩:=ok2.name;obtain⟨ok4,l4⟩:=ok3.step;obtain⟨ok5,l5⟩:=ok4.step;obtain⟨g1,g2⟩:=fin ok5 l5;rw[n2]at ok1 e1⊢;rw[m2]at ok1 e1 n1 l2⊢;dsimp only at ok1 e1 n1 l2⊢;rw[g1];dsimp only;simp only[if_pos g2,if_pos (S.yes a0 l5 c),zj];simp only[if_pos (S.yes (s:=zB (R1 .block (zB s)).2) (yAB a0) l4 c2)];rw[S.name a3 l3 m1];dsimp only;rw[S.need (yAB a3) l2 n1,K.exact (q:=.block) (s1:=zB (zB (zB (zB (R1 .block (zB s)).2)))) rfl ⟨by have:=S.le1;show _+1≤_;omega,trivial⟩ (yAB (yAB a3)) ok1];exact e1
   · simp only[if_neg c2]at hok⊢;have p2:=K.post .block (zB (R1 .block (zB s)).2) ⟨hl1,trivial⟩;have x2:Eat L1 (zB (R1 .block (zB s)).2) _:=p2;have a2:a≤(zB (R1 .block (zB s)).2).k:=yAB a0;obtain⟨ok1,e1⟩:=zFX S K (e:=(trN 17 [] [(R1 .block (zB (R1 .block (zB s)).2)).1],(R1 .block (zB (R1 .block (zB s)).2)).2)) p2.adv.hi (yAE a2 p2.adv.le) hok;have l4:=ok1.eat x2 hl1;obtain⟨ok5,l5⟩:=(ok1.back p2.adv).step;obtain⟨g1,g2⟩:=fin ok5 l5;rw[g1];dsimp only;simp only[if_pos g2,if_pos (S.yes a0 l5 c),zj];simp only[if_neg (S.no1 (s:=zB (R1 .block (zB s)).2) a2 l4 c2)];rw[K.exact (q:=.block) (s1:=zB (R1 .block (zB s)).2) rfl ⟨hl1,trivial⟩ a2 ok1];exact e1
 · simp only[if_neg c]at hok⊢;obtain⟨ok1,e1⟩:=zFX S K (e:=(trK 11 [],(R1 .block (zB s)).2)) p1.hi a0 hok;have c3:onP L1 [102,105,110,97,108,108,121] (R1 .block (zB s)).2=true:=by
    cases h:onP L1 [99,97,116,99,104] (R1 .block (zB s)).2 with
    | true=>exact absurd h c
    | false=>rw[h,Bool.false_or]at g;exact g
   have l5:(R1 .block (zB s)).2.k < m:=by
    simp only[if_pos c3]at hok;exact(hok.back (K.post .block (zB (R1 .block (zB s)).2) ⟨S.l1.on p1.hi c3,trivial⟩).adv).step.2
   obtain⟨g1,g2⟩:=fin ok1 l5;rw[g1];dsimp only;simp only[if_pos g2,if_neg (S.no1 a0 l5 c)];exact e1
theorem Sim.ahead (S:Sim L1 L2 a d m lo) (ha:a≤s.k) (hm:s.k+1 < m):isT (zx L2 (shP d s).k 1) w=isT (zx L1 s.k 1) w∧(zx L2 (shP d s).k 1).nl=(zx L1 s.k 1).nl:=by
 have e:(shP d s).k+1=s.k+1+d:=by show s.k+d+1=_;omega
 unfold zx;rw[e];exact⟨zBc (S.tok _ (by omega) hm) w,(S.nl _ (by omega) hm).symm⟩
theorem Sim.ahead_no (S:Sim L1 L2 a d m lo) (hm:s.k+1=m) (hw:w∈zUr):isT (zx L2 (shP d s).k 1) w=false:=by
 have e:(shP d s).k+1=m+d:=by show s.k+d+1=_;omega
 unfold zx;rw[e];exact S.stop.words w hw
theorem zFY {L:List Tok}:∀{f i j:Nat},zBT L f i=some j→i < j:=by
 intro f
 induction f with
 | zero=>intro i j h;cases h
 | succ f ih=>
  intro i j h;unfold zBT at h;split at h
  · split at h
    · have:=ih h;omega
    · injection h with h;omega
  · cases h
theorem zNU (S:Sim L1 L2 a d m lo):∀(f i j:Nat),zBT L1 f i=some j→a≤i→j < m→∀g,L2.length≤g+(i+d)→zBT L2 g (i+d)=some (j+d):=by
 intro f
 induction f with
 | zero=>intro i j h;cases h
 | succ f ih=>
  intro i j h ha hj g hg;have hgt:=zFY h;have hle:=S.le2;have hpos:=S.l2.pos;obtain⟨g,rfl⟩:∃q,g=q+1:=⟨g - 1,by omega⟩;unfold zBT at h⊢;have e1:=S.tok i ha (by omega);rw[←e1.1];split at h
  · rename_i hk
    rw[if_pos hk];split at h
    · rename_i hc
      have h2:=zFY h;rw[show i+d+1=i+1+d by omega,zBc (S.tok (i+1) (by omega) (by omega)),if_pos hc,show i+d+2=i+2+d by omega];exact ih (i+2) j h (by omega) hj g (by omega)
    · rename_i hc
      injection h with h;subst h;rw[show i+d+1=i+1+d by omega,zBc (S.tok (i+1) (by omega) hj),if_neg hc]
  · cases h
theorem zNV (S:Sim L1 L2 a d m lo):∀(g i j2:Nat),zBT L2 g (i+d)=some j2→a≤i→i≤m→zBI L2 j2=true→∃j,j2=j+d∧i < j∧j+1 < m∧∀f,L1.length≤f+i→zBT L1 f i=some j:=by
 intro g
 induction g with
 | zero=>intro i j h;cases h
 | succ g ih=>
  intro i j2 h ha him he;unfold zBT at h;split at h
  · rename_i hk
    have hlt:i < m:=by
     rcases Nat.lt_or_ge i m with h1 | h1
     · exact h1
     · rw[show i=m by omega]at hk;exact absurd hk S.stop.name
    have e1:=S.tok i ha hlt;have hk1:(zH L1 i).kind=1:=e1.1.trans hk;have hlen:i < L1.length:=by have:=S.le1;omega
    split at h
    · rename_i hc
      rw[show i+d+1=i+1+d by omega]at hc;have hlt2:i+1 < m:=by
       rcases Nat.lt_or_ge (i+1) m with h1 | h1
       · exact h1
       · rw[show i+1=m by omega,S.stop.words _ (by decide)]at hc;cases hc
      rw[show i+d+2=i+2+d by omega]at h;obtain⟨j,h1,h2,h3,h4⟩:=ih (i+2) j2 h (by omega) (by omega) he;refine⟨j,h1,by omega,h3,fun f hf=>?_⟩;obtain⟨f,rfl⟩:∃q,f=q+1:=⟨f - 1,by omega⟩;unfold zBT;rw[zBc (S.tok (i+1) (by omega) hlt2)]at hc;rw[if_pos hk1,if_pos hc];exact h4 f (by omega)
    · rename_i hc
      injection h with h;subst h;unfold zBI at he;rw[Bool.and_eq_true]at he;have hlt2:i+1 < m:=by
       rcases Nat.lt_or_ge (i+1) m with h1 | h1
       · exact h1
       · rw[show i+d+1=m+d by omega]at he;rw[S.arrow he.1]at he;cases he.2
      have hlt3:i+2 < m:=by
       rcases Nat.lt_or_ge (i+2) m with h1 | h1
       · exact h1
       · rw[show i+d+1+1=m+d by omega,S.stop.words _ (by decide)]at he;cases he.2
      refine⟨i+1,by omega,by omega,hlt3,fun f hf=>?_⟩;obtain⟨f,rfl⟩:∃q,f=q+1:=⟨f - 1,by omega⟩;unfold zBT;rw[show i+d+1=i+1+d by omega,zBc (S.tok (i+1) (by omega) hlt2)]at hc;rw[if_pos hk1,if_neg hc]
  · cases h
theorem zQO (S:Sim L1 L2 a d m lo) (ha:a≤s.k) (hl:s.k < m) (h:¬zAR L1 s=true):¬zAR L2 (shP d s)=true:=by
 intro h2;apply h;unfold zAR at h2⊢;rw[Bool.and_eq_true]at h2⊢;rw[S.on ha hl]at h2;refine⟨h2.1,?_⟩;have h3:=h2.2;have e0:(shP d s).k+1=s.k+1+d:=by show s.k+d+1=_;omega
 rw[e0]at h3
 by_cases c:isT (zH L2 (s.k+1+d)) [41]=true
 · rw[if_pos c]at h3;unfold zBI at h3⊢;rw[Bool.and_eq_true]at h3;have hlt2:s.k+1 < m:=by
    rcases Nat.lt_or_ge (s.k+1) m with h1 | h1
    · exact h1
    · rw[show s.k+1+d=m+d by omega]at h3;rw[S.arrow h3.1]at h3;cases h3.2
   have hlt3:s.k+2 < m:=by
    rcases Nat.lt_or_ge (s.k+2) m with h1 | h1
    · exact h1
    · rw[show s.k+1+d+1=m+d by omega,S.stop.words _ (by decide)]at h3;cases h3.2
   rw[zBc (S.tok (s.k+1) (by omega) hlt2),show s.k+1+d+1=s.k+2+d by omega,zBc (S.tok (s.k+2) (by omega) hlt3)]at h3;rw[if_pos h3.1,Bool.and_eq_true];exact h3
 · rw[if_neg c]at h3;cases hn:zBT L2 L2.length (s.k+1+d)with
   | none=>rw[hn]at h3;cases h3
   | some j2=>
    rw[hn]at h3;obtain⟨j,h4,h5,h6,h7⟩:=zNV S _ _ _ hn (by omega) (by omega) h3;rw[zBc (S.tok (s.k+1) (by omega) (by omega))]at c;rw[if_neg c,h7 L1.length (by omega)];subst h4;dsimp only at h3⊢;unfold zBI at h3⊢;rw[zBc (S.tok j (by omega) (by omega)),show j+d+1=j+1+d by omega,zBc (S.tok (j+1) (by omega) h6)]at h3;exact h3
theorem zNW (S:Sim L1 L2 a d m lo) (ha:a≤s.k) {r:Ps} (hp:zUb L1 s r) (hr:r.k < m) (h:zAR L1 s=true):zAR L2 (shP d s)=true:=by
 unfold zAR at h⊢;rw[Bool.and_eq_true]at h⊢;have e0:(shP d s).k+1=s.k+1+d:=by show s.k+d+1=_;omega
 rw[e0];rcases hp with⟨h1,h2⟩ | ⟨h1,j,h2,h3,h4⟩
 · have h5:=h.2;rw[if_pos h1]at h5;refine⟨S.yes ha (by omega) h.1,?_⟩;rw[zBc (S.tok (s.k+1) (by omega) (by omega)),if_pos h1];unfold zBI at h5⊢;rw[zBc (S.tok (s.k+1) (by omega) (by omega)),show s.k+1+d+1=s.k+2+d by omega,zBc (S.tok (s.k+2) (by omega) (by omega))];exact h5
 · have hgt:=zFY h2;have h5:=h.2;rw[if_neg (by rw[h1];decide),h2]at h5;refine⟨S.yes ha (by omega) h.1,?_⟩;rw[zBc (S.tok (s.k+1) (by omega) (by omega)),if_neg (by rw[h1];decide),zNU S _ _ _ h2 (by omega) (by omega) L2.length (by omega)];unfold zBI at h5⊢;show(isT (zH L2 (j+d)) [41]&&isT (zH L2 (j+d+1)) [61,62])=true;rw[zBc (S.tok j (by omega) (by omega)),show j+d+1=j+1+d by omega,zBc (S.tok (j+1) (by omega) (by omega))];exact h5
theorem zK6:Sg L1 L2 a d m lo R1 R2 s .assign:=by
 intro S K hp ha hok;have hok0:=hok;unfold zF at hok⊢;dsimp only at hok⊢;have l:s.k < m:=hok0.eat (zBP S K hp) hp.1
 by_cases c:(zH L1 s.k).kind=1∧isT (zx L1 s.k 1) [61,62]=true∧(zx L1 s.k 1).nl=false
 · simp only[if_pos c]at hok⊢;have hlt:=S.l1.lt hp.1 (by rw[c.1];decide);have p:Eat L1 (zB s) _:=K.post (.body [trN 20 (zH L1 s.k).text []]) (zB s) ⟨hlt,trivial⟩;have l1:s.k+1 < m:=hok.eat p hlt;obtain⟨e1,e2⟩:=S.ahead (w:=[61,62]) ha l1;have c':(zH L2 (shP d s).k).kind=1∧isT (zx L2 (shP d s).k 1) [61,62]=true∧(zx L2 (shP d s).k 1).nl=false:=⟨(S.kind ha l).trans c.1,e1.trans c.2.1,e2.trans c.2.2⟩;simp only[if_pos c',S.text ha l,zj];rw[K.body (s1:=zB s) ⟨hlt,trivial⟩ (Nat.lt_succ_of_le ha) hok]
 simp only[if_neg c]at hok⊢;have c':¬((zH L2 (shP d s).k).kind=1∧isT (zx L2 (shP d s).k 1) [61,62]=true∧(zx L2 (shP d s).k 1).nl=false):=by
  rintro⟨h1,h2,h3⟩;rcases Nat.lt_or_ge (s.k+1) m with hl | hl
  · obtain⟨e1,e2⟩:=S.ahead (w:=[61,62]) ha hl;exact c ⟨(S.kind ha l).symm.trans h1,e1.symm.trans h2,e2.symm.trans h3⟩
  · rw[S.ahead_no (w:=[61,62]) (by omega) (by decide)]at h2;cases h2
 simp only[if_neg c']
 by_cases c2:zAR L1 s=true
 · simp only[if_pos c2]at hok⊢;have x1:Eat L1 s (R1 .params s).2:=K.post .params s ⟨hp.1,trivial⟩;have p2:Eat L1 (R1 .params s).2 _:=K.post (.body (R1 .params s).1.subs) (R1 .params s).2 ⟨x1.adv.hi,trivial⟩;have ok1:=hok.back p2.adv;have l1:=hok.eat p2 x1.adv.hi;simp only[if_pos (zNW S ha (K.par s ⟨hp.1,trivial⟩ ok1.bad) l1 c2)];rw[K.exact (q:=.params) (s1:=s) rfl ⟨hp.1,trivial⟩ ha ok1];dsimp only;rw[K.body (l:=(R1 .params s).1.subs) (s1:=(R1 .params s).2) ⟨x1.adv.hi,trivial⟩ (Nat.lt_of_le_of_lt ha (x1.lt hp.1 (fun hb=>hb ok1.bad))) hok]
 simp only[if_neg c2,if_neg (zQO S ha l c2)]at hok⊢;have x1:Eat L1 s (R1 .cond s).2:=K.post .cond s ⟨hp.1,trivial⟩;have a1:=yAE ha x1.adv.le
 by_cases c3:(zH L1 (R1 .cond s).2.k).kind≠5∨¬(zH L1 (R1 .cond s).2.k).text∈zIB
 · simp only[if_pos c3]at hok⊢;rw[K.exact (q:=.cond) (s1:=s) rfl ⟨hp.1,trivial⟩ ha hok];dsimp only;have c3':(zH L2 (shP d (R1 .cond s).2).k).kind≠5∨¬(zH L2 (shP d (R1 .cond s).2).k).text∈zIB:=by
    rcases Nat.lt_or_ge (R1 .cond s).2.k m with hl | hl
    · rw[S.kind a1 hl,S.text a1 hl];exact c3
    · have:=hok.le;show(zH L2 ((R1 .cond s).2.k+d)).kind≠5∨¬(zH L2 ((R1 .cond s).2.k+d)).text∈zIB;rw[show(R1 .cond s).2.k=m by omega]
      by_cases h5:(zH L2 (m+d)).kind=5
      · exact .inr (S.stop.asgn h5)
      · exact .inl h5
   simp only[if_pos c3']
 simp only[if_neg c3]at hok⊢
 by_cases c4:zAH (R1 .cond s).1.nd.kind=false
 · simp only[if_pos c4]at hok;exact absurd hok.bad (zAt (by decide))
 simp only[if_neg c4]at hok⊢;have hl2:(R1 .cond s).2.k < L1.length - 1:=S.l1.lt x1.adv.hi (fun h0=>c3 (.inl (by rw[h0];decide)));have p2:=(K.post .assign (zB (R1 .cond s).2) ⟨hl2,trivial⟩).adv;obtain⟨ok1,l1⟩:=(hok.back p2).step;rw[K.exact (q:=.cond) (s1:=s) rfl ⟨hp.1,trivial⟩ ha ok1];dsimp only;rw[S.kind a1 l1,S.text a1 l1];simp only[if_neg c3,if_neg c4,zj];rw[K.exact (q:=.assign) (s1:=zB (R1 .cond s).2) rfl ⟨hl2,trivial⟩ (yAB a1) hok]
theorem zQP {l:List Tr} (S:Sim L1 L2 a d m lo) (K:Kn L1 L2 a d m lo R1 R2) (hp:Pre L1 (.body l) s) (ha:a < s.k) (hok:Ok m (zF L1 R1 (.body l) s).2):zF L2 R2 (.body l) (shP d s)=((zF L1 R1 (.body l) s).1,shP d (zF L1 R1 (.body l) s).2):=by
 have hok0:=hok;unfold zF at hok⊢;dsimp only at hok⊢;have l0:s.k < m:=hok0.eat (zBP S K hp) hp.1
 by_cases g:(zH L1 s.k).nl=true
 · simp only[if_pos g]at hok;have z:=zl hp.1;have nn:zM L1 [61,62] (zV L1 s)=zV L1 (zV L1 s):=by
    unfold zM;rw[if_neg];intro h;have:=S.l1.on z.adv.hi h;rw[zD0]at this;omega
   rw[nn]at hok;have z2:=zl (s:=zV L1 s) z.adv.hi
   by_cases c:onP L1 [123] (zV L1 (zV L1 s))=true
   · have:=S.l1.on z2.adv.hi c;rw[zD0]at this;omega
   · simp only[if_neg c]at hok;exact absurd (hok.back (K.post .assign (zV L1 (zV L1 s)) ⟨z2.adv.hi,trivial⟩).adv).bad ze
 have g':¬(zH L2 (shP d s).k).nl=true:=by rw[S.line ha l0];exact g
 simp only[if_neg g,if_neg g']at hok⊢;have x:=zN (w:=[61,62]) S.l1 hp.1;have ha':=Nat.le_of_lt ha
 by_cases c:onP L1 [123] (zM L1 [61,62] s)=true
 · simp only[if_pos c]at hok⊢;have p:Eat L1 (zM L1 [61,62] s) _:=K.post .block (zM L1 [61,62] s) ⟨x.adv.hi,trivial⟩;have l3:=hok.eat p x.adv.hi;obtain⟨n1,n2,ok1,l1⟩:=(hok.back p.adv).need;rw[n2]at c hok l3⊢;rw[S.need ha' l1 n1];simp only[if_pos (S.yes (yAB ha') l3 c)];rw[K.exact (q:=.block) (s1:=zB s) rfl ⟨(by have:=S.le1;show _+1≤_;omega),trivial⟩ (yAB ha') hok]
 · simp only[if_neg c]at hok⊢;have p:Eat L1 (zM L1 [61,62] s) _:=K.post .assign (zM L1 [61,62] s) ⟨x.adv.hi,trivial⟩;have l3:=hok.eat p x.adv.hi;obtain⟨n1,n2,ok1,l1⟩:=(hok.back p.adv).need;rw[n2]at c hok l3⊢;rw[S.need ha' l1 n1];simp only[if_neg (S.no1 (yAB ha') l3 c)];rw[K.exact (q:=.assign) (s1:=zB s) rfl ⟨(by have:=S.le1;show _+1≤_;omega),trivial⟩ (yAB ha') hok]
theorem zQQ:Sg L1 L2 a d m lo R1 R2 s .cond:=by
 intro S K hp ha hok;unfold zF at hok⊢;dsimp only at hok⊢;have x1:Eat L1 s (R1 .either s).2:=K.post .either s ⟨hp.1,trivial⟩
 by_cases c:onP L1 [63] (R1 .either s).2=true
 · simp only[if_pos c]at hok⊢;have hl:=S.l1.on x1.adv.hi c;have p2:=(K.post .assign (zB (R1 .either s).2) ⟨hl,trivial⟩).adv;have y:=zN (w:=[58]) S.l1 p2.hi;have p3:=(K.post .assign (zM L1 [58] (R1 .assign (zB (R1 .either s).2)).2) ⟨y.adv.hi,trivial⟩).adv;obtain⟨n1,n2,ok2,l2⟩:=(hok.back p3).need;rw[n2]at hok⊢;obtain⟨ok1,l1⟩:=(ok2.back p2).step;have a1:=yAE ha x1.adv.le;have a2:a≤(R1 .assign (zB (R1 .either s).2)).2.k:=yAE a1 (yAE (Nat.le_succ _) p2.le);rw[K.exact (q:=.either) (s1:=s) rfl ⟨hp.1,trivial⟩ ha ok1];dsimp only;simp only[if_pos (S.yes (w:=[63]) a1 l1 c),zj];rw[K.exact (q:=.assign) (s1:=zB (R1 .either s).2) rfl ⟨hl,trivial⟩ (yAB a1) ok2];dsimp only;rw[S.need a2 l2 n1,K.exact (q:=.assign) (s1:=zB (R1 .assign (zB (R1 .either s).2)).2) rfl ⟨(by have:=S.le1;show _+1≤_;omega),trivial⟩ (yAB a2) hok]
 · simp only[if_neg c]at hok⊢;rw[K.exact (q:=.either) (s1:=s) rfl ⟨hp.1,trivial⟩ ha hok];dsimp only;simp only[if_neg (S.no (w:=[63]) (yAE ha x1.adv.le) hok.le c (by decide))]
theorem zK7:Sg L1 L2 a d m lo R1 R2 s .either:=by
 intro S K hp ha hok;unfold zF at hok⊢;dsimp only at hok⊢;have x1:Eat L1 s (R1 (.level 0) s).2:=K.post (.level 0) s ⟨hp.1,yAF _⟩;have a1:=yAE ha x1.adv.le
 by_cases c:onP L1 [63,63] (R1 (.level 0) s).2=true
 · simp only[if_pos c]at hok⊢;have p:=(K.post (.nullL (R1 (.level 0) s).1) (R1 (.level 0) s).2 ⟨x1.adv.hi,trivial⟩).adv
   by_cases c2:(onP L1 [124,124] (R1 (.nullL (R1 (.level 0) s).1) (R1 (.level 0) s).2).2 || onP L1 [38,38] (R1 (.nullL (R1 (.level 0) s).1) (R1 (.level 0) s).2).2)=true
   · simp only[if_pos c2]at hok;exact absurd hok.bad ze
   simp only[if_neg c2]at hok⊢;have ok1:=hok.back p;have l1:(R1 (.level 0) s).2.k < m:=by
    rcases Nat.lt_or_ge (R1 (.level 0) s).2.k m with hl | hl
    · exact hl
    · exact absurd hok.le (by have:=K.nul (R1 (.level 0) s).1 (R1 (.level 0) s).2 ⟨x1.adv.hi,trivial⟩ c hok.bad;omega)
   rw[K.exact (q:=.level 0) (s1:=s) rfl ⟨hp.1,yAF _⟩ ha ok1];dsimp only;simp only[if_pos (S.yes (w:=[63,63]) a1 l1 c)];rw[K.exact (q:=.nullL (R1 (.level 0) s).1) (s1:=(R1 (.level 0) s).2) rfl ⟨x1.adv.hi,trivial⟩ a1 hok];dsimp only;have a2:=yAE a1 p.le;have c3:¬(onP L2 [124,124] (shP d (R1 (.nullL (R1 (.level 0) s).1) (R1 (.level 0) s).2).2) || onP L2 [38,38] (shP d (R1 (.nullL (R1 (.level 0) s).1) (R1 (.level 0) s).2).2))=true:=by
    rw[Bool.or_eq_true]at c2⊢;rintro(h | h)
    · exact S.no (w:=[124,124]) a2 hok.le (fun h2=>c2 (.inl h2)) (by decide) h
    · exact S.no (w:=[38,38]) a2 hok.le (fun h2=>c2 (.inr h2)) (by decide) h
   simp only[if_neg c3]
 · simp only[if_neg c]at hok⊢;have p2:=(K.post (.both (R1 (.level 0) s).1) (R1 (.level 0) s).2 ⟨x1.adv.hi,trivial⟩).adv;have p3:=(K.post (.orL (R1 (.both (R1 (.level 0) s).1) (R1 (.level 0) s).2).1) (R1 (.both (R1 (.level 0) s).1) (R1 (.level 0) s).2).2 ⟨p2.hi,trivial⟩).adv
   by_cases c2:onP L1 [63,63] (R1 (.orL (R1 (.both (R1 (.level 0) s).1) (R1 (.level 0) s).2).1) (R1 (.both (R1 (.level 0) s).1) (R1 (.level 0) s).2).2).2=true
   · simp only[if_pos c2]at hok;exact absurd hok.bad ze
   simp only[if_neg c2]at hok⊢;have ok2:=hok.back p3;have ok1:=ok2.back p2;rw[K.exact (q:=.level 0) (s1:=s) rfl ⟨hp.1,yAF _⟩ ha ok1];dsimp only;simp only[if_neg (S.no (w:=[63,63]) a1 ok1.le c (by decide))];rw[K.exact (q:=.both (R1 (.level 0) s).1) (s1:=(R1 (.level 0) s).2) rfl ⟨x1.adv.hi,trivial⟩ a1 ok2];dsimp only;rw[K.exact (q:=.orL (R1 (.both (R1 (.level 0) s).1) (R1 (.level 0) s).2).1) (s1:=(R1 (.both (R1 (.level 0) s).1) (R1 (.level 0) s).2).2) rfl ⟨p2.hi,trivial⟩ (yAE a1 p2.le) hok];dsimp only;simp only[if_neg (S.no (w:=[63,63]) (yAE a1 (yAE p2.le p3.le)) hok.le c2 (by decide))]
theorem zNX {x:Tr}:Sg L1 L2 a d m lo R1 R2 s (.nullL x):=by
 intro S K hp ha hok;unfold zF at hok⊢;dsimp only at hok⊢
 by_cases c:onP L1 [63,63] s=true
 · simp only[if_pos c]at hok⊢;have hl:=S.l1.on hp.1 c;have p1:=(K.post (.level 0) (zB s) ⟨hl,yAF _⟩).adv;have p2:=(K.post (.nullL (trN 47 [63,63] [x,(R1 (.level 0) (zB s)).1])) (R1 (.level 0) (zB s)).2 ⟨p1.hi,trivial⟩).adv;have ok1:=hok.back p2;obtain⟨ok0,l0⟩:=(ok1.back p1).step;simp only[if_pos (S.yes ha l0 c),zj];rw[K.exact (q:=.level 0) (s1:=zB s) rfl ⟨hl,yAF _⟩ (yAB ha) ok1];dsimp only;rw[K.exact (q:=.nullL (trN 47 [63,63] [x,(R1 (.level 0) (zB s)).1])) (s1:=(R1 (.level 0) (zB s)).2) rfl ⟨p1.hi,trivial⟩ (yAE (yAB ha) p1.le) hok]
 · simp only[if_neg c,if_neg (S.no (w:=[63,63]) ha (by have:=hok;simp only[if_neg c]at this;exact this.le) c (by decide))]
theorem zQR {x:Tr}:Sg L1 L2 a d m lo R1 R2 s (.both x):=by
 intro S K hp ha hok;unfold zF at hok⊢;dsimp only at hok⊢
 by_cases c:onP L1 [38,38] s=true
 · simp only[if_pos c]at hok⊢;have hl:=S.l1.on hp.1 c;have p1:=(K.post (.level 0) (zB s) ⟨hl,yAF _⟩).adv;have p2:=(K.post (.both (trN 47 [38,38] [x,(R1 (.level 0) (zB s)).1])) (R1 (.level 0) (zB s)).2 ⟨p1.hi,trivial⟩).adv;have ok1:=hok.back p2;obtain⟨ok0,l0⟩:=(ok1.back p1).step;simp only[if_pos (S.yes ha l0 c),zj];rw[K.exact (q:=.level 0) (s1:=zB s) rfl ⟨hl,yAF _⟩ (yAB ha) ok1];dsimp only;rw[K.exact (q:=.both (trN 47 [38,38] [x,(R1 (.level 0) (zB s)).1])) (s1:=(R1 (.level 0) (zB s)).2) rfl ⟨p1.hi,trivial⟩ (yAE (yAB ha) p1.le) hok]
 · simp only[if_neg c,if_neg (S.no (w:=[38,38]) ha (by have:=hok;simp only[if_neg c]at this;exact this.le) c (by decide))]
theorem zS6 {x:Tr}:Sg L1 L2 a d m lo R1 R2 s (.orL x):=by
 intro S K hp ha hok;unfold zF at hok⊢;dsimp only at hok⊢
 by_cases c:onP L1 [124,124] s=true
 · simp only[if_pos c]at hok⊢;have hl:=S.l1.on hp.1 c;have p1:=(K.post (.level 0) (zB s) ⟨hl,yAF _⟩).adv;have p2:=(K.post (.both (R1 (.level 0) (zB s)).1) (R1 (.level 0) (zB s)).2 ⟨p1.hi,trivial⟩).adv;have p3:=(K.post (.orL (trN 47 [124,124] [x,(R1 (.both (R1 (.level 0) (zB s)).1) (R1 (.level 0) (zB s)).2).1])) (R1 (.both (R1 (.level 0) (zB s)).1) (R1 (.level 0) (zB s)).2).2 ⟨p2.hi,trivial⟩).adv;have ok2:=hok.back p3;have ok1:=ok2.back p2;obtain⟨ok0,l0⟩:=(ok1.back p1).step;have a1:=yAE (yAB ha) p1.le;simp only[if_pos (S.yes ha l0 c),zj];rw[K.exact (q:=.level 0) (s1:=zB s) rfl ⟨hl,yAF _⟩ (yAB ha) ok1];dsimp only;rw[K.exact (q:=.both (R1 (.level 0) (zB s)).1) (s1:=(R1 (.level 0) (zB s)).2) rfl ⟨p1.hi,trivial⟩ a1 ok2];dsimp only;rw[K.exact (q:=.orL (trN 47 [124,124] [x,(R1 (.both (R1 (.level 0) (zB s)).1) (R1 (.level 0) (zB s)).2).1])) (s1:=(R1 (.both (R1 (.level 0) (zB s)).1) (R1 (.level 0) (zB s)).2).2) rfl ⟨p2.hi,trivial⟩ (yAE a1 p2.le) hok]
 · simp only[if_neg c,if_neg (S.no (w:=[124,124]) ha (by have:=hok;simp only[if_neg c]at this;exact this.le) c (by decide))]
theorem zNY {n:Nat}:Sg L1 L2 a d m lo R1 R2 s (.level n):=by
 intro _S K hp ha hok;have hn:n≤8:=hp.2;unfold zF at hok⊢;dsimp only at hok⊢
 by_cases c:n=8
 · simp only[if_pos c]at hok⊢;rw[K.exact (q:=.unary) (s1:=s) rfl ⟨hp.1,trivial⟩ ha hok]
 · simp only[if_neg c]at hok⊢;have x1:Eat L1 s (R1 (.level (n+1)) s).2:=K.post (.level (n+1)) s ⟨hp.1,(by show n+1≤8;omega)⟩;have hp2:Pre L1 (.levelL n (R1 (.level (n+1)) s).1) (R1 (.level (n+1)) s).2:=⟨x1.adv.hi,(by show n < 8;omega)⟩;have p2:=(K.post _ _ hp2).adv;rw[K.exact (q:=.level (n+1)) (s1:=s) rfl ⟨hp.1,(by show n+1≤8;omega)⟩ ha (hok.back p2)];dsimp only;rw[K.exact (q:=.levelL n (R1 (.level (n+1)) s).1) (s1:=(R1 (.level (n+1)) s).2) rfl hp2 (yAE ha x1.adv.le) hok]
theorem zJi {t u:Tok} (h:zS5 t u):zA9 u=zA9 t:=by
 unfold zA9;rw[zBc h,h.1,h.2.1]
theorem zK8 {n:Nat} {x:Tr}:Sg L1 L2 a d m lo R1 R2 s (.levelL n x):=by
 intro S K hp ha hok;have hn:n < 8:=hp.2;unfold zF at hok⊢;dsimp only at hok⊢
 by_cases c:zA9 (zH L1 s.k)=n
 · simp only[if_pos c]at hok⊢;have hl:=S.l1.lt hp.1 (zCZ (by omega));have p1:=(K.post (.level (n+1)) (zB s) ⟨hl,(by show n+1≤8;omega)⟩).adv;have p2:=(K.post (.levelL n (trN 46 (zH L1 s.k).text [x,(R1 (.level (n+1)) (zB s)).1])) (R1 (.level (n+1)) (zB s)).2 ⟨p1.hi,hn⟩).adv;have ok1:=hok.back p2;obtain⟨ok0,l0⟩:=(ok1.back p1).step;have c':zA9 (zH L2 (shP d s).k)=n:=(zJi (S.tok _ ha l0)).trans c;simp only[if_pos c',zj,S.text ha l0];rw[K.exact (q:=.level (n+1)) (s1:=zB s) rfl ⟨hl,(by show n+1≤8;omega)⟩ (yAB ha) ok1];dsimp only;rw[K.exact (q:=.levelL n (trN 46 (zH L1 s.k).text [x,(R1 (.level (n+1)) (zB s)).1])) (s1:=(R1 (.level (n+1)) (zB s)).2) rfl ⟨p1.hi,hn⟩ (yAE (yAB ha) p1.le) hok]
 · simp only[if_neg c]at hok⊢;have c':¬zA9 (zH L2 (shP d s).k)=n:=by
    rcases Nat.lt_or_ge s.k m with hl | hl
    · rw[show zA9 (zH L2 (shP d s).k)=zA9 (zH L1 s.k)from zJi (S.tok _ ha hl)];exact c
    · have:=hok.le;show¬zA9 (zH L2 (s.k+d))=n;rw[show s.k=m by omega,S.stop.binds];omega
   simp only[if_neg c']
theorem zNZ:Sg L1 L2 a d m lo R1 R2 s .unary:=by
 intro S K hp ha hok;have hok0:=hok;unfold zF at hok⊢;dsimp only at hok⊢;have l:s.k < m:=hok0.eat (zBP S K hp) hp.1;rw[S.kind ha l,S.text ha l]
 by_cases c:((zH L1 s.k).kind=5∨(zH L1 s.k).kind=6)∧(zH L1 s.k).text∈zH7
 · simp only[if_pos c,zj]at hok⊢;have hl:=S.l1.lt hp.1 (by omega);rw[K.exact (q:=.unary) (s1:=zB s) rfl ⟨hl,trivial⟩ (yAB ha) hok]
 simp only[if_neg c]at hok⊢
 by_cases c2:((zH L1 s.k).kind=5∨(zH L1 s.k).kind=6)∧(zH L1 s.k).text∈zDv
 · simp only[if_pos c2,zj]at hok⊢;have hl:=S.l1.lt hp.1 (by omega)
   by_cases c3:(R1 .unary (zB s)).2.bad=0∧zAH (R1 .unary (zB s)).1.nd.kind=false
   · simp only[if_pos c3]at hok;exact absurd hok.bad ze
   simp only[if_neg c3]at hok⊢;rw[K.exact (q:=.unary) (s1:=zB s) rfl ⟨hl,trivial⟩ (yAB ha) hok];dsimp only;simp only[if_neg (show¬((shP d (R1 .unary (zB s)).2).bad=0∧zAH (R1 .unary (zB s)).1.nd.kind=false)from c3)]
 simp only[if_neg c2]at hok⊢;have x1:Eat L1 s (R1 .calls s).2:=K.post .calls s ⟨hp.1,trivial⟩;have a1:=yAE ha x1.adv.le
 by_cases c3:(zH L1 (R1 .calls s).2.k).kind=5∧(zH L1 (R1 .calls s).2.k).text∈zDv∧(zH L1 (R1 .calls s).2.k).nl=false
 · simp only[if_pos c3]at hok⊢
   by_cases c4:zAH (R1 .calls s).1.nd.kind=false
   · simp only[if_pos c4]at hok;exact absurd hok.bad ze
   simp only[if_neg c4]at hok⊢;obtain⟨ok1,l1⟩:=hok.step;have a2:=Nat.lt_of_le_of_lt ha (x1.lt hp.1 (fun hb=>hb ok1.bad));rw[K.exact (q:=.calls) (s1:=s) rfl ⟨hp.1,trivial⟩ ha ok1];dsimp only;rw[S.kind a1 l1,S.text a1 l1,S.line a2 l1];simp only[if_pos c3,if_neg c4,zj]
 · simp only[if_neg c3]at hok⊢;rw[K.exact (q:=.calls) (s1:=s) rfl ⟨hp.1,trivial⟩ ha hok];dsimp only;have a2:=Nat.lt_of_le_of_lt ha (x1.lt hp.1 (fun hb=>hb hok.bad));have c3':¬((zH L2 (shP d (R1 .calls s).2).k).kind=5∧(zH L2 (shP d (R1 .calls s).2).k).text∈zDv∧(zH L2 (shP d (R1 .calls s).2).k).nl=false):=by
    rcases Nat.lt_or_ge (R1 .calls s).2.k m with hl | hl
    · rw[S.kind a1 hl,S.text a1 hl,S.line a2 hl];exact c3
    · have:=hok.le;show¬((zH L2 ((R1 .calls s).2.k+d)).kind=5∧(zH L2 ((R1 .calls s).2.k+d)).text∈zDv∧(zH L2 ((R1 .calls s).2.k+d)).nl=false);rw[show(R1 .calls s).2.k=m by omega];rintro⟨h1,h2,h3⟩;rw[S.stop.post h1 h2]at h3;cases h3
   simp only[if_neg c3']
theorem zNa:Sg L1 L2 a d m lo R1 R2 s .calls:=by
 intro _S K hp ha hok;unfold zF at hok⊢;dsimp only at hok⊢;have x1:Eat L1 s (R1 .head s).2:=K.post .head s ⟨hp.1,trivial⟩;have p2:=(K.post (.callsL (R1 .head s).1) (R1 .head s).2 ⟨x1.adv.hi,trivial⟩).adv;rw[K.exact (q:=.head) (s1:=s) rfl ⟨hp.1,trivial⟩ ha (hok.back p2)];dsimp only;rw[K.exact (q:=.callsL (R1 .head s).1) (s1:=(R1 .head s).2) rfl ⟨x1.adv.hi,trivial⟩ (yAE ha x1.adv.le) hok]
theorem zK9 {x:Tr}:Sg L1 L2 a d m lo R1 R2 s (.callsL x):=by
 intro S K hp ha hok;unfold zF at hok⊢;dsimp only at hok⊢
 by_cases c:onP L1 [40] s=true
 · simp only[if_pos c]at hok⊢;have hlt:=S.l1.on hp.1 c;have x1:Eat L1 s (R1 .args s).2:=K.post .args s ⟨hp.1,hlt⟩;have p2:=(K.post (.callsL (trK 50 (x::(R1 .args s).1.subs))) (R1 .args s).2 ⟨x1.adv.hi,trivial⟩).adv;have ok1:=hok.back p2;have l0:=ok1.eat x1 hp.1;simp only[if_pos (S.yes ha l0 c)];rw[K.exact (q:=.args) (s1:=s) rfl ⟨hp.1,hlt⟩ ha ok1];dsimp only;rw[K.exact (q:=.callsL (trK 50 (x::(R1 .args s).1.subs))) (s1:=(R1 .args s).2) rfl ⟨x1.adv.hi,trivial⟩ (yAE ha x1.adv.le) hok]
 simp only[if_neg c]at hok⊢
 by_cases c2:onP L1 [46] s=true
 · simp only[if_pos c2]at hok⊢;have hlt:=S.l1.on hp.1 c2
   by_cases c3:(zH L1 (zB s).k).kind≠1∧(zH L1 (zB s).k).kind≠6
   · simp only[if_pos c3]at hok;exact absurd hok.bad ze
   simp only[if_neg c3]at hok⊢;have hl2:(zB s).k < L1.length - 1:=S.l1.lt hlt (by omega);have p:=(K.post (.callsL (trN 52 (zH L1 (zB s).k).text [x])) (zB (zB s)) ⟨hl2,trivial⟩).adv;obtain⟨ok1,l1⟩:=(hok.back p).step;have l0:=ok1.step.2;have a1:a≤(zB s).k:=yAB ha;simp only[if_neg (S.no1 ha l0 c)];simp only[if_pos (S.yes ha l0 c2),zj,S.kind a1 l1,S.text a1 l1];simp only[if_neg c3];rw[K.exact (q:=.callsL (trN 52 (zH L1 (zB s).k).text [x])) (s1:=zB (zB s)) rfl ⟨hl2,trivial⟩ (yAB a1) hok]
 simp only[if_neg c2]at hok⊢
 by_cases c4:onP L1 [91] s=true
 · simp only[if_pos c4]at hok⊢;have hlt:=S.l1.on hp.1 c4;have p1:=(K.post .assign (zB s) ⟨hlt,trivial⟩).adv;have y:=zN (w:=[93]) S.l1 p1.hi;have p2:=(K.post (.callsL (trK 53 [x,(R1 .assign (zB s)).1])) (zM L1 [93] (R1 .assign (zB s)).2) ⟨y.adv.hi,trivial⟩).adv;obtain⟨n1,n2,ok2,l2⟩:=(hok.back p2).need;obtain⟨ok0,l0⟩:=(ok2.back p1).step;have a1:a≤(zB s).k:=yAB ha;have a2:=yAE a1 p1.le;rw[n2]at hok⊢;simp only[if_neg (S.no1 ha l0 c)];simp only[if_neg (S.no1 ha l0 c2),if_pos (S.yes ha l0 c4),zj];rw[K.exact (q:=.assign) (s1:=zB s) rfl ⟨hlt,trivial⟩ a1 ok2];dsimp only;rw[S.need a2 l2 n1,K.exact (q:=.callsL (trK 53 [x,(R1 .assign (zB s)).1])) (s1:=zB (R1 .assign (zB s)).2) rfl ⟨(by have:=S.le1;show _+1≤_;omega),trivial⟩ (yAB a2) hok]
 · simp only[if_neg c4]at hok⊢;simp only[if_neg (S.no ha hok.le c (by decide))];simp only[if_neg (S.no ha hok.le c2 (by decide)),if_neg (S.no ha hok.le c4 (by decide))]
theorem zNb {x:Tr}:Sg L1 L2 a d m lo R1 R2 s (.headL x):=by
 intro S K hp ha hok;unfold zF at hok⊢;dsimp only at hok⊢
 by_cases c2:onP L1 [46] s=true
 · simp only[if_pos c2]at hok⊢;have hlt:=S.l1.on hp.1 c2
   by_cases c3:(zH L1 (zB s).k).kind≠1∧(zH L1 (zB s).k).kind≠6
   · simp only[if_pos c3]at hok;exact absurd hok.bad ze
   simp only[if_neg c3]at hok⊢;have hl2:(zB s).k < L1.length - 1:=S.l1.lt hlt (by omega);have p:=(K.post (.headL (trN 52 (zH L1 (zB s).k).text [x])) (zB (zB s)) ⟨hl2,trivial⟩).adv;obtain⟨ok1,l1⟩:=(hok.back p).step;have l0:=ok1.step.2;have a1:a≤(zB s).k:=yAB ha;simp only[if_pos (S.yes ha l0 c2),zj,S.kind a1 l1,S.text a1 l1];simp only[if_neg c3];rw[K.exact (q:=.headL (trN 52 (zH L1 (zB s).k).text [x])) (s1:=zB (zB s)) rfl ⟨hl2,trivial⟩ (yAB a1) hok]
 simp only[if_neg c2]at hok⊢
 by_cases c4:onP L1 [91] s=true
 · simp only[if_pos c4]at hok⊢;have hlt:=S.l1.on hp.1 c4;have p1:=(K.post .assign (zB s) ⟨hlt,trivial⟩).adv;have y:=zN (w:=[93]) S.l1 p1.hi;have p2:=(K.post (.headL (trK 53 [x,(R1 .assign (zB s)).1])) (zM L1 [93] (R1 .assign (zB s)).2) ⟨y.adv.hi,trivial⟩).adv;obtain⟨n1,n2,ok2,l2⟩:=(hok.back p2).need;obtain⟨ok0,l0⟩:=(ok2.back p1).step;have a1:a≤(zB s).k:=yAB ha;have a2:=yAE a1 p1.le;rw[n2]at hok⊢;simp only[if_neg (S.no1 ha l0 c2),if_pos (S.yes ha l0 c4),zj];rw[K.exact (q:=.assign) (s1:=zB s) rfl ⟨hlt,trivial⟩ a1 ok2];dsimp only;rw[S.need a2 l2 n1,K.exact (q:=.headL (trK 53 [x,(R1 .assign (zB s)).1])) (s1:=zB (R1 .assign (zB s)).2) rfl ⟨(by have:=S.le1;show _+1≤_;omega),trivial⟩ (yAB a2) hok]
 · simp only[if_neg c4]at hok⊢;simp only[if_neg (S.no ha hok.le c2 (by decide)),if_neg (S.no ha hok.le c4 (by decide))]
theorem zQS:Sg L1 L2 a d m lo R1 R2 s .head:=by
 intro S K hp ha hok;have hok0:=hok;unfold zF at hok⊢;dsimp only at hok⊢;have l:s.k < m:=hok0.eat (zBP S K hp) hp.1
 by_cases c:onP L1 [110,101,119] s=true
 · simp only[if_pos c,if_pos (S.yes ha l c),zj]at hok⊢;have hlt:=S.l1.on hp.1 c;have p1:=(K.post .head (zB s) ⟨hlt,trivial⟩).adv;have p2:=(K.post (.headL (R1 .head (zB s)).1) (R1 .head (zB s)).2 ⟨p1.hi,trivial⟩).adv;have a1:=yAE (yAB ha) p1.le;have a2:=yAE a1 p2.le
   by_cases c2:onP L1 [40] (R1 (.headL (R1 .head (zB s)).1) (R1 .head (zB s)).2).2=true
   · simp only[if_pos c2]at hok⊢;have hl2:=S.l1.on p2.hi c2;have x3:Eat L1 (R1 (.headL (R1 .head (zB s)).1) (R1 .head (zB s)).2).2 _:=K.post .args (R1 (.headL (R1 .head (zB s)).1) (R1 .head (zB s)).2).2 ⟨p2.hi,hl2⟩;have ok2:=hok.back x3.adv;have l2:=hok.eat x3 p2.hi;rw[K.exact (q:=.head) (s1:=zB s) rfl ⟨hlt,trivial⟩ (yAB ha) (ok2.back p2)];dsimp only;rw[K.exact (q:=.headL (R1 .head (zB s)).1) (s1:=(R1 .head (zB s)).2) rfl ⟨p1.hi,trivial⟩ a1 ok2];dsimp only;simp only[if_pos (S.yes a2 l2 c2)];rw[K.exact (q:=.args) (s1:=(R1 (.headL (R1 .head (zB s)).1) (R1 .head (zB s)).2).2) rfl ⟨p2.hi,hl2⟩ a2 hok]
   · simp only[if_neg c2]at hok⊢;rw[K.exact (q:=.head) (s1:=zB s) rfl ⟨hlt,trivial⟩ (yAB ha) (hok.back p2)];dsimp only;rw[K.exact (q:=.headL (R1 .head (zB s)).1) (s1:=(R1 .head (zB s)).2) rfl ⟨p1.hi,trivial⟩ a1 hok];dsimp only;simp only[if_neg (S.no a2 hok.le c2 (by decide))]
 · simp only[if_neg c,if_neg (S.no1 ha l c)]at hok⊢;rw[K.exact (q:=.primary) (s1:=s) rfl ⟨hp.1,trivial⟩ ha hok]
theorem zQT:Sg L1 L2 a d m lo R1 R2 s .args:=by
 intro S K hp ha hok;have hlt:s.k < L1.length - 1:=hp.2;unfold zF at hok⊢;dsimp only at hok⊢;have x:=zN (w:=[40]) S.l1 hp.1;have p:=(K.post (.list [41]) (zM L1 [40] s) ⟨x.adv.hi,trivial⟩).adv;obtain⟨n1,n2,ok1,l1⟩:=(hok.back p).need;rw[n2]at hok⊢;rw[S.need ha l1 n1,K.exact (q:=.list [41]) (s1:=zB s) rfl ⟨hlt,trivial⟩ (yAB ha) hok]
theorem zQU:Sg L1 L2 a d m lo R1 R2 s (.list w):=by
 intro S K hp ha hok;have hok0:=hok;unfold zF at hok⊢;dsimp only at hok⊢;have l:s.k < m:=hok0.eat (zBP S K hp) hp.1
 by_cases c:onP L1 w s=true
 · simp only[if_pos c,if_pos (S.yes ha l c),zj]
 · simp only[if_neg c,if_neg (S.no1 ha l c)]at hok⊢;rw[K.exact (q:=.listL w []) (s1:=s) rfl ⟨hp.1,trivial⟩ ha hok]
theorem zNc {acc:List Tr}:Sg L1 L2 a d m lo R1 R2 s (.listL w acc):=by
 intro S K hp ha hok;unfold zF at hok⊢;dsimp only at hok⊢;have x1:Eat L1 s (R1 .assign s).2:=K.post .assign s ⟨hp.1,trivial⟩;have a1:=yAE ha x1.adv.le
 by_cases c:(R1 .assign s).2.bad≠0
 · simp only[if_pos c]at hok;exact absurd hok.bad c
 simp only[if_neg c]at hok⊢
 by_cases c2:onP L1 w (R1 .assign s).2=true
 · simp only[if_pos c2]at hok⊢;obtain⟨ok1,l1⟩:=hok.step;rw[K.exact (q:=.assign) (s1:=s) rfl ⟨hp.1,trivial⟩ ha ok1];dsimp only;simp only[if_neg (show¬(shP d (R1 .assign s).2).bad≠0 from c),if_pos (S.yes a1 l1 c2),zj]
 simp only[if_neg c2]at hok⊢;have y:=zN (w:=[44]) S.l1 x1.adv.hi;have p2:=(K.post (.listL w (acc++[(R1 .assign s).1])) (zM L1 [44] (R1 .assign s).2) ⟨y.adv.hi,trivial⟩).adv;obtain⟨n1,n2,ok1,l1⟩:=(hok.back p2).need;rw[n2]at hok⊢;rw[K.exact (q:=.assign) (s1:=s) rfl ⟨hp.1,trivial⟩ ha ok1];dsimp only;simp only[if_neg (show¬(shP d (R1 .assign s).2).bad≠0 from c),if_neg (S.no1 a1 l1 c2)];rw[S.need a1 l1 n1,K.exact (q:=.listL w (acc++[(R1 .assign s).1])) (s1:=zB (R1 .assign s).2) rfl ⟨(by have:=S.le1;show _+1≤_;omega),trivial⟩ (yAB a1) hok]
theorem zQV {acc:List Tr}:Sg L1 L2 a d m lo R1 R2 s (.objL acc):=by
 intro S K hp ha hok;unfold zF at hok⊢;dsimp only at hok⊢;have x1:Eat L1 s (R1 .prop s).2:=K.post .prop s ⟨hp.1,trivial⟩;have a1:=yAE ha x1.adv.le
 by_cases c:(R1 .prop s).2.bad≠0
 · simp only[if_pos c]at hok;exact absurd hok.bad c
 simp only[if_neg c]at hok⊢
 by_cases c2:onP L1 [125] (R1 .prop s).2=true
 · simp only[if_pos c2]at hok⊢;obtain⟨ok1,l1⟩:=hok.step;rw[K.exact (q:=.prop) (s1:=s) rfl ⟨hp.1,trivial⟩ ha ok1];dsimp only;simp only[if_neg (show¬(shP d (R1 .prop s).2).bad≠0 from c),if_pos (S.yes a1 l1 c2),zj]
 simp only[if_neg c2]at hok⊢;have y:=zN (w:=[44]) S.l1 x1.adv.hi;have p2:=(K.post (.objL (acc++[(R1 .prop s).1])) (zM L1 [44] (R1 .prop s).2) ⟨y.adv.hi,trivial⟩).adv;obtain⟨n1,n2,ok1,l1⟩:=(hok.back p2).need;rw[n2]at hok⊢;rw[K.exact (q:=.prop) (s1:=s) rfl ⟨hp.1,trivial⟩ ha ok1];dsimp only;simp only[if_neg (show¬(shP d (R1 .prop s).2).bad≠0 from c),if_neg (S.no1 a1 l1 c2)];rw[S.need a1 l1 n1,K.exact (q:=.objL (acc++[(R1 .prop s).1])) (s1:=zB (R1 .prop s).2) rfl ⟨(by have:=S.le1;show _+1≤_;omega),trivial⟩ (yAB a1) hok]
theorem zLA:Sg L1 L2 a d m lo R1 R2 s .object:=by
 intro S K hp ha hok;have hok0:=hok;unfold zF at hok⊢;dsimp only at hok⊢;have l:s.k < m:=hok0.eat (zBP S K hp) hp.1
 by_cases c:onP L1 [125] s=true
 · simp only[if_pos c,if_pos (S.yes ha l c),zj]
 · simp only[if_neg c,if_neg (S.no1 ha l c)]at hok⊢;rw[K.exact (q:=.objL []) (s1:=s) rfl ⟨hp.1,trivial⟩ ha hok]
theorem zLB {t u:Tok} (h:zS5 t u):zAb u=zAb t:=by
 unfold zAb;rw[h.1,h.2.1,h.2.2.1,h.2.2.2.2.1]
theorem zQW:Sg L1 L2 a d m lo R1 R2 s .prop:=by
 intro S K hp ha hok;have hok0:=hok;unfold zF at hok⊢;dsimp only at hok⊢;have l:s.k < m:=hok0.eat (zBP S K hp) hp.1;rw[show zAb (zH L2 (shP d s).k)=zAb (zH L1 s.k)from zLB (S.tok _ ha l),S.kind ha l,S.text ha l];cases hs:zAb (zH L1 s.k)with
 | none=>
  rw[hs]at hok;exact absurd hok.bad ze
 | some u=>
  rw[hs]at hok;dsimp only at hok⊢;have hlt:=S.l1.lt hp.1 (zCM hs);have a1:a≤(zB s).k:=yAB ha
  by_cases c:(zH L1 s.k).kind=1∧onP L1 [58] (zB s)=false
  · simp only[if_pos c,zj]at hok⊢;have c':(zH L1 s.k).kind=1∧onP L2 [58] (shP d (zB s))=false:=⟨c.1,by
     have:=S.no (w:=[58]) a1 hok.le (by rw[c.2];decide) (by decide);simpa using this⟩
    simp only[if_pos c']
  simp only[if_neg c,zj]at hok⊢;have y:=zN (w:=[58]) (s:=zB s) S.l1 hlt;have p1:=(K.post .assign (zM L1 [58] (zB s)) ⟨y.adv.hi,trivial⟩).adv;obtain⟨n1,n2,ok1,l1⟩:=(hok.back p1).need;rw[n2]at hok⊢;have c':¬((zH L1 s.k).kind=1∧onP L2 [58] (shP d (zB s))=false):=fun h=>by
   rw[S.yes a1 l1 n1]at h;cases h.2
  simp only[if_neg c'];rw[S.need a1 l1 n1,K.exact (q:=.assign) (s1:=zB (zB s)) rfl ⟨(by have:=S.le1;show _+1≤_;omega),trivial⟩ (yAB a1) hok]
theorem zIl:Sg L1 L2 a d m lo R1 R2 s .primary:=by
 intro S K hp ha hok;have hok0:=hok;unfold zF at hok⊢;dsimp only at hok⊢;have l:s.k < m:=hok0.eat (zBP S K hp) hp.1;have et:=S.tok _ ha l;rw[S.kind ha l,S.text ha l,show(zH L2 (shP d s).k).nk=(zH L1 s.k).nk from et.2.2.2.1.symm,show(zH L2 (shP d s).k).nn=(zH L1 s.k).nn from et.2.2.2.2.1.symm,show(zH L2 (shP d s).k).mag=(zH L1 s.k).mag from et.2.2.2.2.2.symm,show(zH L2 (shP d s).k).str=(zH L1 s.k).str from et.2.2.1.symm]
 by_cases c0:(zH L1 s.k).kind=0
 · simp only[if_pos c0]at hok;exact absurd hok.bad ze
 simp only[if_neg c0]at hok⊢;have hlt:=S.l1.lt hp.1 c0;have a1:a≤(zB s).k:=yAB ha
 by_cases k0:(zH L1 s.k).kind=2
 · simp only[if_pos k0,zj]
 simp only[if_neg k0]at hok⊢
 by_cases k1:(zH L1 s.k).kind=3
 · simp only[if_pos k1,zj]
 simp only[if_neg k1]at hok⊢
 by_cases k2:(zH L1 s.k).kind=4
 · simp only[if_pos k2,zj]
 simp only[if_neg k2]at hok⊢
 by_cases k3:(zH L1 s.k).kind=1
 · simp only[if_pos k3,zj]
 simp only[if_neg k3]at hok⊢
 by_cases k4:(zH L1 s.k).text=[116,114,117,101]
 · simp only[if_pos k4,zj]
 simp only[if_neg k4]at hok⊢
 by_cases k5:(zH L1 s.k).text=[102,97,108,115,101]
 · simp only[if_pos k5,zj]
 simp only[if_neg k5]at hok⊢
 by_cases k6:(zH L1 s.k).text=[110,117,108,108]
 · simp only[if_pos k6,zj]
 simp only[if_neg k6]at hok⊢
 by_cases k7:(zH L1 s.k).text=[116,104,105,115]
 · simp only[if_pos k7,zj]
 simp only[if_neg k7]at hok⊢
 by_cases c9:(zH L1 s.k).text=[91]
 · simp only[if_pos c9,zj]at hok⊢;rw[K.exact (q:=.list [93]) (s1:=zB s) rfl ⟨hlt,trivial⟩ a1 hok]
 simp only[if_neg c9]at hok⊢
 by_cases d0:(zH L1 s.k).text=[123]
 · simp only[if_pos d0,zj]at hok⊢;rw[K.exact (q:=.object) (s1:=zB s) rfl ⟨hlt,trivial⟩ a1 hok]
 simp only[if_neg d0]at hok⊢
 by_cases d1:(zH L1 s.k).text=[102,117,110,99,116,105,111,110]
 · simp only[if_pos d1,zj]at hok⊢
   by_cases d2:(zH L1 (zB s).k).kind=1
   · simp only[if_pos d2]at hok⊢;have y:=zAD (s:=zB s) S.l1 hlt;have p:=(K.post (.func 41 (zW L1 (zB s)).1) (zW L1 (zB s)).2 ⟨y.adv.hi,trivial⟩).adv;obtain⟨m1,m2,ok1,l1⟩:=(hok.back p).name;rw[m2]at hok⊢;dsimp only at hok⊢;have d2':(zH L2 (shP d (zB s)).k).kind=1:=(S.kind a1 l1).trans d2;simp only[if_pos d2'];rw[S.name a1 l1 m1];dsimp only;rw[K.exact (q:=.func 41 (zH L1 (zB s).k).text) (s1:=zB (zB s)) rfl ⟨(by have:=S.le1;show _+1≤_;omega),trivial⟩ (yAB a1) hok]
   · simp only[if_neg d2]at hok⊢;have x:Eat L1 (zB s) _:=K.post (.func 41 []) (zB s) ⟨hlt,trivial⟩;have l1:=hok.eat x hlt;have d2':¬(zH L2 (shP d (zB s)).k).kind=1:=by rw[S.kind a1 l1];exact d2
     simp only[if_neg d2'];rw[K.exact (q:=.func 41 []) (s1:=zB s) rfl ⟨hlt,trivial⟩ a1 hok]
 simp only[if_neg d1]at hok⊢
 by_cases d3:(zH L1 s.k).text=[40]
 · simp only[if_pos d3,zj]at hok⊢;have p1:=(K.post .assign (zB s) ⟨hlt,trivial⟩).adv;obtain⟨n1,n2,ok1,l1⟩:=hok.need;rw[K.exact (q:=.assign) (s1:=zB s) rfl ⟨hlt,trivial⟩ a1 ok1,n2];dsimp only;rw[S.need (yAE a1 p1.le) l1 n1]
 simp only[if_neg d3]at hok;refine absurd hok.bad ?_;show(if _ then _ else _:Ps).bad≠0;split
 · exact zAt (by decide)
 · exact ze
def Loo (L2:List Tok) (d m:Nat) (lo:Bool) (r1 r2:Tr×Ps):Prop:=
 (r1.2.k < m→r2=(r1.1,shP d r1.2))∧(r1.2.k=m→lo=true→r2=(r1.1,shP d r1.2)∨(isT (zH L2 (m+d)) [59]=true∧r2=(r1.1,zB (shP d r1.2))))
theorem Loo.same {r1 r2:Tr×Ps} (h:r2=(r1.1,shP d r1.2)):Loo L2 d m lo r1 r2:=⟨fun _=>h,fun _ _=>.inl h⟩
theorem Loo.map {r1 r2:Tr×Ps} (h:Loo L2 d m lo r1 r2) (F:Tr→Tr):Loo L2 d m lo (F r1.1,r1.2) (F r2.1,r2.2):=by
 refine⟨fun x=>?_,fun x y=>?_⟩
 · rw[h.1 x]
 · rcases h.2 x y with h2 | ⟨h2,h3⟩
   · left;rw[h2]
   · right;exact⟨h2,by rw[h3]⟩
theorem Kn.loo (K:Kn L1 L2 a d m lo R1 R2) {q:Ph} {s1:Ps} (h0:isS q=true) (h1:zJg q=false) (h2:∀acc,q≠.program acc) (hp:Pre L1 q s1) (ha:a≤s1.k) (hok:Ok m (R1 q s1).2):Loo L2 d m lo (R1 q s1) (R2 q (shP d s1)):=by
 have:=K.clm q s1 h2 hp ha (fun h=>by rw[h1]at h;cases h) hok;unfold zUa at this;rwa [if_pos h0]at this
theorem Sim.ended (S:Sim L1 L2 a d m lo) (ha:a < s.k) (hm:s.k < m):zB1 L2 (shP d s)=zB1 L1 s:=by
 unfold zB1;rw[S.line ha hm,S.kind (Nat.le_of_lt ha) hm,S.on (Nat.le_of_lt ha) hm,S.on (Nat.le_of_lt ha) hm]
theorem zCq (S:Sim L1 L2 a d m lo) (ha:a < s.k) (hok:Ok m (zBR L1 s)):Ok m s∧∀t:Tr,Loo L2 d m lo (t,zBR L1 s) (t,zBR L2 (shP d s)):=by
 have ha':=Nat.le_of_lt ha
 by_cases c:onP L1 [59] s=true
 · have e1:zBR L1 s=zB s:=by unfold zBR;rw[if_pos c]
   rw[e1]at hok⊢;obtain⟨ok1,l1⟩:=hok.step;have e2:zBR L2 (shP d s)=shP d (zB s):=by unfold zBR;rw[if_pos (S.yes ha' l1 c),zj]
   exact⟨ok1,fun t=>Loo.same (by rw[e2])⟩
 by_cases c2:(onP L1 [125] s || (zH L1 s.k).kind==0 || (zH L1 s.k).nl)=true
 · have e1:zBR L1 s=s:=by unfold zBR;rw[if_neg c,if_pos c2]
   rw[e1]at hok⊢;refine⟨hok,fun t=>⟨fun hk=>?_,fun hk hlo=>?_⟩⟩
   · have hk':s.k < m:=hk;have:zBR L2 (shP d s)=shP d s:=by
      unfold zBR;rw[if_neg (S.no1 ha' hk' c),S.on ha' hk',S.kind ha' hk',S.line ha hk',if_pos c2]
     rw[this]
   · have hk':s.k=m:=hk;have ek:(shP d s).k=m+d:=by show s.k+d=_;rw[hk']
     rcases S.loose hlo with⟨h1,_⟩ | ⟨h1,h2⟩
     · right;refine⟨h1,?_⟩;have:zBR L2 (shP d s)=zB (shP d s):=by
        unfold zBR onP;rw[ek,if_pos h1]
       rw[this]
     · left;have:zBR L2 (shP d s)=shP d s:=by
        unfold zBR onP;rw[ek,if_neg (by rw[h1];decide),if_pos];rcases h2 with h2 | h2 | h2<;>rw[h2]<;>simp
       rw[this]
 · have e1:zBR L1 s=zV L1 s:=by unfold zBR;rw[if_neg c,if_neg c2]
   rw[e1]at hok;exact absurd hok.bad ze
theorem zQX (S:Sim L1 L2 a d m lo) (K:Kn L1 L2 a d m lo R1 R2) (hp:Pre L1 .item s) (ha:a≤s.k) (hok:Ok m (zF L1 R1 .item s).2):Loo L2 d m lo (zF L1 R1 .item s) (zF L2 R2 .item (shP d s)):=by
 have hok0:=hok;unfold zF at hok⊢;dsimp only at hok⊢;have l:s.k < m:=by
  have:=zBP S K hp;exact hok0.eat this hp.1
 by_cases c:(onP L1 [108,101,116] s || onP L1 [99,111,110,115,116] s)=true
 · simp only[if_pos c,S.on ha l]at hok⊢;have x1:Eat L1 s (R1 .declares s).2:=K.post .declares s ⟨hp.1,trivial⟩;have y:=zAV S.l1 x1.adv.hi;have ok1:=hok.back y;obtain⟨_,h⟩:=zCq S (Nat.lt_of_le_of_lt ha (x1.lt hp.1 (fun hb=>hb ok1.bad))) hok;rw[K.exact (q:=.declares) (s1:=s) rfl ⟨hp.1,trivial⟩ ha ok1];exact h _
 simp only[if_neg c,S.on ha l]at hok⊢
 by_cases c2:onP L1 [102,117,110,99,116,105,111,110] s=true
 · simp only[if_pos c2,zj]at hok⊢;have hlt:=S.l1.on hp.1 c2;have y:=zAD (s:=zB s) S.l1 hlt;have p:=(K.post (.func 19 (zW L1 (zB s)).1) (zW L1 (zB s)).2 ⟨y.adv.hi,trivial⟩).adv;obtain⟨m1,m2,ok1,l1⟩:=(hok.back p).name;have a1:a≤(zB s).k:=yAB ha;rw[m2]at hok⊢;rw[S.name a1 l1 m1];dsimp only at hok⊢;exact Loo.same (K.exact (q:=.func 19 (zH L1 (zB s).k).text) (s1:=zB (zB s)) rfl ⟨(by have:=S.le1;show _+1≤_;omega),trivial⟩ (yAB a1) hok)
 simp only[if_neg c2]at hok⊢;exact K.loo (q:=.statement) (s1:=s) rfl rfl (fun _ h=>by cases h) ⟨hp.1,trivial⟩ ha hok
theorem zGp (S:Sim L1 L2 a d m lo) (K:Kn L1 L2 a d m lo R1 R2) (hp:Pre L1 .statement s) (ha:a≤s.k) (hok:Ok m (zF L1 R1 .statement s).2):Loo L2 d m lo (zF L1 R1 .statement s) (zF L2 R2 .statement (shP d s)):=by
 have hok0:=hok;unfold zF at hok⊢;dsimp only at hok⊢;have l:s.k < m:=by
  have:=zBP S K hp;exact hok0.eat this hp.1
 rw[S.kind ha l,S.text ha l,S.on ha l,S.on ha l]
 by_cases c:(zH L1 s.k).kind=1∧isT (zx L1 s.k 1) [58]=true
 · simp only[if_pos c,zj]at hok⊢;have hlt:=S.l1.lt hp.1 (by rw[c.1];decide);have h2:=zEs S.l1 hlt c.2;have p:Eat L1 (zB (zB s)) _:=K.post .statement (zB (zB s)) ⟨h2,trivial⟩;have l2:s.k+1+1 < m:=hok.eat p h2;have c':(zH L1 s.k).kind=1∧isT (zx L2 (shP d s).k 1) [58]=true:=⟨c.1,(S.ahead ha (by omega)).1.trans c.2⟩;simp only[if_pos c'];exact(K.loo (q:=.statement) (s1:=zB (zB s)) rfl rfl (fun _ h=>by cases h) ⟨h2,trivial⟩ (yAB (yAB ha)) hok).map (fun t=>trN 18 (zH L1 s.k).text [t])
 have c':¬((zH L1 s.k).kind=1∧isT (zx L2 (shP d s).k 1) [58]=true):=by
  rintro⟨h1,h2⟩;rcases Nat.lt_or_ge (s.k+1) m with hl | hl
  · exact c ⟨h1,(S.ahead ha hl).1.symm.trans h2⟩
  · rw[S.ahead_no (by omega) (by decide)]at h2;cases h2
 simp only[if_neg c,if_neg c']at hok⊢
 by_cases c2:(zH L1 s.k).kind=6
 · simp only[if_pos c2]at hok⊢;have hlt:=S.l1.lt hp.1 (by rw[c2];decide);exact K.loo (q:=.word (zH L1 s.k).text) (s1:=s) rfl rfl (fun _ h=>by cases h) ⟨hp.1,hlt⟩ ha hok
 simp only[if_neg c2]at hok⊢
 by_cases c3:onP L1 [59] s=true
 · simp only[if_pos c3,zj]at hok⊢;exact Loo.same rfl
 simp only[if_neg c3]at hok⊢
 by_cases c4:onP L1 [123] s=true
 · simp only[if_pos c4]at hok⊢;exact Loo.same (K.exact (q:=.block) (s1:=s) rfl ⟨hp.1,trivial⟩ ha hok)
 simp only[if_neg c4]at hok⊢;exact K.loo (q:=.simple) (s1:=s) rfl rfl (fun _ h=>by cases h) ⟨hp.1,trivial⟩ ha hok
theorem zLC (S:Sim L1 L2 a d m lo) (K:Kn L1 L2 a d m lo R1 R2) (hp:Pre L1 .simple s) (ha:a≤s.k) (hok:Ok m (zF L1 R1 .simple s).2):Loo L2 d m lo (zF L1 R1 .simple s) (zF L2 R2 .simple (shP d s)):=by
 unfold zF at hok⊢;dsimp only at hok⊢;have x1:Eat L1 s (R1 .assign s).2:=K.post .assign s ⟨hp.1,trivial⟩;have ok1:=hok.back (zAV S.l1 x1.adv.hi);obtain⟨_,h⟩:=zCq S (Nat.lt_of_le_of_lt ha (x1.lt hp.1 (fun hb=>hb ok1.bad))) hok;rw[K.exact (q:=.assign) (s1:=s) rfl ⟨hp.1,trivial⟩ ha ok1];exact h _
theorem zQY {k:Int} (S:Sim L1 L2 a d m lo) (_K:Kn L1 L2 a d m lo R1 R2) (hp:Pre L1 (.jump k) s) (ha:a≤s.k) (hok:Ok m (zF L1 R1 (.jump k) s).2):Loo L2 d m lo (zF L1 R1 (.jump k) s) (zF L2 R2 (.jump k) (shP d s)):=by
 have hlt:s.k < L1.length - 1:=hp.2;unfold zF at hok⊢;dsimp only at hok⊢;have a0:a < (zB s).k:=Nat.lt_succ_of_le ha;rw[zj]
 by_cases c:(zH L1 (zB s).k).kind=1∧(zH L1 (zB s).k).nl=false
 · simp only[if_pos c]at hok⊢;have y:=zAD (s:=zB s) S.l1 hlt;obtain⟨m1,m2,ok1,l1⟩:=(hok.back (zAV S.l1 y.adv.hi)).name;rw[m2]at hok⊢;have c':(zH L2 (shP d (zB s)).k).kind=1∧(zH L2 (shP d (zB s)).k).nl=false:=⟨(S.kind (Nat.le_of_lt a0) l1).trans c.1,(S.line a0 l1).trans c.2⟩;simp only[if_pos c'];rw[S.name (Nat.le_of_lt a0) l1 m1];dsimp only at hok⊢;exact(zCq S (s:=zB (zB s)) (Nat.lt_succ_of_lt a0) hok).2 _
 · simp only[if_neg c]at hok⊢;obtain⟨ok1,h⟩:=zCq S (s:=zB s) a0 hok;have c':¬((zH L2 (shP d (zB s)).k).kind=1∧(zH L2 (shP d (zB s)).k).nl=false):=by
    rcases Nat.lt_or_ge (zB s).k m with hl | hl
    · rw[S.kind (Nat.le_of_lt a0) hl,S.line a0 hl];exact c
    · have:=ok1.le;show¬((zH L2 ((zB s).k+d)).kind=1∧(zH L2 ((zB s).k+d)).nl=false);rw[show(zB s).k=m by omega];exact fun h=>S.stop.name h.1
   simp only[if_neg c'];exact h _
theorem zJj (K:Kn L1 L2 a d m lo R1 R2) {e:Tr×Ps} (hi:e.2.k≤L1.length - 1) (ha:a≤e.2.k) (hok:Ok m (trK 10 [e.1,(R1 (.clause [59]) e.2).1,(R1 (.clause [41]) (R1 (.clause [59]) e.2).2).1,(R1 .statement (R1 (.clause [41]) (R1 (.clause [59]) e.2).2).2).1],(R1 .statement (R1 (.clause [41]) (R1 (.clause [59]) e.2).2).2).2).2):
 Ok m e.2∧Loo L2 d m lo (trK 10 [e.1,(R1 (.clause [59]) e.2).1,(R1 (.clause [41]) (R1 (.clause [59]) e.2).2).1,(R1 .statement (R1 (.clause [41]) (R1 (.clause [59]) e.2).2).2).1],(R1 .statement (R1 (.clause [41]) (R1 (.clause [59]) e.2).2).2).2) (trK 10 [(e.1,shP d e.2).1,(R2 (.clause [59]) (e.1,shP d e.2).2).1,(R2 (.clause [41]) (R2 (.clause [59]) (e.1,shP d e.2).2).2).1,(R2 .statement (R2 (.clause [41]) (R2 (.clause [59]) (e.1,shP d e.2).2).2).2).1],(R2 .statement (R2 (.clause [41]) (R2 (.clause [59]) (e.1,shP d e.2).2).2).2).2):=by
 dsimp only at hok⊢;have p1:=(K.post (.clause [59]) e.2 ⟨hi,trivial⟩).adv;have p2:=(K.post (.clause [41]) (R1 (.clause [59]) e.2).2 ⟨p1.hi,trivial⟩).adv;have p3:=(K.post .statement (R1 (.clause [41]) (R1 (.clause [59]) e.2).2).2 ⟨p2.hi,trivial⟩).adv;have ok2:=hok.back p3;have ok1:=ok2.back p2;have a1:=yAE ha p1.le;rw[K.exact (q:=.clause [59]) (s1:=e.2) rfl ⟨hi,trivial⟩ ha ok1];dsimp only;rw[K.exact (q:=.clause [41]) (s1:=(R1 (.clause [59]) e.2).2) rfl ⟨p1.hi,trivial⟩ a1 ok2];dsimp only;exact⟨ok1.back p1,(K.loo (q:=.statement) (s1:=(R1 (.clause [41]) (R1 (.clause [59]) e.2).2).2) rfl rfl (fun _ h=>by cases h) ⟨p2.hi,trivial⟩ (yAE a1 p2.le) hok).map (fun t=>trK 10 [e.1,(R1 (.clause [59]) e.2).1,(R1 (.clause [41]) (R1 (.clause [59]) e.2).2).1,t])⟩
theorem zQZ (S:Sim L1 L2 a d m lo) (K:Kn L1 L2 a d m lo R1 R2) (hp:Pre L1 .loop s) (ha:a≤s.k) (hok:Ok m (zF L1 R1 .loop s).2):Loo L2 d m lo (zF L1 R1 .loop s) (zF L2 R2 .loop (shP d s)):=by
 have hlt:s.k < L1.length - 1:=hp.2;unfold zF at hok⊢;dsimp only at hok⊢;have x1:=zN (w:=[40]) (s:=zB s) S.l1 hlt;have a0:a≤(zB s).k:=yAB ha;rw[zj]
 by_cases c:(onP L1 [108,101,116] (zM L1 [40] (zB s)) || onP L1 [99,111,110,115,116] (zM L1 [40] (zB s)))=true
 · simp only[if_pos c]at hok⊢;have p1:Eat L1 (zM L1 [40] (zB s)) _:=K.post .declares (zM L1 [40] (zB s)) ⟨x1.adv.hi,trivial⟩;have y:=zN (w:=[59]) S.l1 p1.adv.hi;obtain⟨ok1,h⟩:=zJj K (e:=((R1 .declares (zM L1 [40] (zB s))).1,zM L1 [59] (R1 .declares (zM L1 [40] (zB s))).2)) y.adv.hi (yAE a0 (yAE x1.adv.le (yAE p1.adv.le y.adv.le))) hok;obtain⟨n1,n2,ok2,l2⟩:=ok1.need;have l3:=ok2.eat p1 x1.adv.hi;obtain⟨m1,m2,ok3,l4⟩:=(ok2.back p1.adv).need;rw[n2]at h⊢;rw[m2]at c h n1 ok2 l2 l3⊢;have hs2:(zB (zB s)).k≤L1.length - 1:=by have:=S.le1;show(zB s).k+1≤_;omega
   have p1':=(K.post .declares (zB (zB s)) ⟨hs2,trivial⟩).adv;rw[S.need a0 l4 m1,S.on (yAB a0) l3,S.on (yAB a0) l3];simp only[if_pos c];rw[K.exact (q:=.declares) (s1:=zB (zB s)) rfl ⟨hs2,trivial⟩ (yAB a0) ok2];dsimp only;rw[S.need (yAE (yAB a0) p1'.le) l2 n1];exact h
 · simp only[if_neg c]at hok⊢;have p1:Eat L1 (zM L1 [40] (zB s)) _:=K.post (.clause [59]) (zM L1 [40] (zB s)) ⟨x1.adv.hi,trivial⟩;obtain⟨ok1,h⟩:=zJj K (e:=R1 (.clause [59]) (zM L1 [40] (zB s))) p1.adv.hi (yAE a0 (yAE x1.adv.le p1.adv.le)) hok;have l3:=ok1.eat p1 x1.adv.hi;obtain⟨m1,m2,ok3,l4⟩:=(ok1.back p1.adv).need;rw[m2]at c h ok1 l3⊢;have hs2:(zB (zB s)).k≤L1.length - 1:=by have:=S.le1;show(zB s).k+1≤_;omega
   rw[S.need a0 l4 m1,S.on (yAB a0) l3,S.on (yAB a0) l3];simp only[if_neg c];rw[K.exact (q:=.clause [59]) (s1:=zB (zB s)) rfl ⟨hs2,trivial⟩ (yAB a0) ok1];exact h
theorem zQa (S:Sim L1 L2 a d m lo) (K:Kn L1 L2 a d m lo R1 R2) (hp:Pre L1 (.word w) s) (ha:a≤s.k) (hok:Ok m (zF L1 R1 (.word w) s).2):Loo L2 d m lo (zF L1 R1 (.word w) s) (zF L2 R2 (.word w) (shP d s)):=by
 have hlt:s.k < L1.length - 1:=hp.2;have hok0:=hok;unfold zF at hok⊢;dsimp only at hok⊢;have l:s.k < m:=by
  have:=zBP S K hp;exact hok0.eat this hp.1
 have a0:a≤(zB s).k:=yAB ha;rw[zj]
 by_cases c1:w=[105,102]
 · simp only[if_pos c1]at hok⊢;have p1:=(K.post .within (zB s) ⟨hlt,trivial⟩).adv;have p2:=(K.post .statement (R1 .within (zB s)).2 ⟨p1.hi,trivial⟩).adv;have a1:=yAE a0 p1.le;have a2:=yAE a1 p2.le
   by_cases c:onP L1 [101,108,115,101] (R1 .statement (R1 .within (zB s)).2).2=true
   · simp only[if_pos c]at hok⊢;have hl2:=S.l1.on p2.hi c;have p3:=(K.post .statement (zB (R1 .statement (R1 .within (zB s)).2).2) ⟨hl2,trivial⟩).adv;obtain⟨ok2,l2⟩:=(hok.back p3).step;rw[K.exact (q:=.within) (s1:=zB s) rfl ⟨hlt,trivial⟩ a0 (ok2.back p2)];dsimp only;rw[(K.loo (q:=.statement) (s1:=(R1 .within (zB s)).2) rfl rfl (fun _ h=>by cases h) ⟨p1.hi,trivial⟩ a1 ok2).1 l2];dsimp only;simp only[if_pos (S.yes a2 l2 c),zj];exact(K.loo (q:=.statement) (s1:=zB (R1 .statement (R1 .within (zB s)).2).2) rfl rfl (fun _ h=>by cases h) ⟨hl2,trivial⟩ (yAB a2) hok).map (fun t=>trK 8 [(R1 .within (zB s)).1,(R1 .statement (R1 .within (zB s)).2).1,t])
   · simp only[if_neg c]at hok⊢;rw[K.exact (q:=.within) (s1:=zB s) rfl ⟨hlt,trivial⟩ a0 (hok.back p2)];dsimp only;have h:=K.loo (q:=.statement) (s1:=(R1 .within (zB s)).2) rfl rfl (fun _ h=>by cases h) ⟨p1.hi,trivial⟩ a1 hok;refine⟨fun x=>?_,fun x y=>?_⟩
     · rw[h.1 x];dsimp only;simp only[if_neg (S.no1 a2 x c)]
     · rcases h.2 x y with h2 | ⟨h2,h3⟩
       · left;rw[h2];dsimp only;simp only[if_neg (S.no a2 hok.le c (by decide))]
       · right;refine⟨h2,?_⟩;rw[h3];dsimp only;have hk:(R1 .statement (R1 .within (zB s)).2).2.k=m:=x;have hne:¬onP L2 [101,108,115,101] (zB (shP d (R1 .statement (R1 .within (zB s)).2).2))=true:=by
          unfold onP;rw[show(zB (shP d (R1 .statement (R1 .within (zB s)).2).2)).k=m+d+1 by show(R1 .statement (R1 .within (zB s)).2).2.k+d+1=_;rw[hk]];rcases S.loose y with⟨_,g2⟩ | ⟨g1,_⟩
          · rw[g2];decide
          · rw[g1]at h2;cases h2
         simp only[if_neg hne]
 simp only[if_neg c1]at hok⊢
 by_cases c2:w=[119,104,105,108,101]
 · simp only[if_pos c2]at hok⊢;have p1:=(K.post .within (zB s) ⟨hlt,trivial⟩).adv;have p2:=(K.post .statement (R1 .within (zB s)).2 ⟨p1.hi,trivial⟩).adv;rw[K.exact (q:=.within) (s1:=zB s) rfl ⟨hlt,trivial⟩ a0 (hok.back p2)];dsimp only;exact(K.loo (q:=.statement) (s1:=(R1 .within (zB s)).2) rfl rfl (fun _ h=>by cases h) ⟨p1.hi,trivial⟩ (yAE a0 p1.le) hok).map (fun t=>trK 9 [(R1 .within (zB s)).1,t])
 simp only[if_neg c2]at hok⊢
 by_cases c3:w=[102,111,114]
 · simp only[if_pos c3]at hok⊢;exact K.loo (q:=.loop) (s1:=s) rfl rfl (fun _ h=>by cases h) ⟨hp.1,hlt⟩ ha hok
 simp only[if_neg c3]at hok⊢
 by_cases c4:w=[98,114,101,97,107]
 · simp only[if_pos c4]at hok⊢;exact K.loo (q:=.jump 12) (s1:=s) rfl rfl (fun _ h=>by cases h) ⟨hp.1,hlt⟩ ha hok
 simp only[if_neg c4]at hok⊢
 by_cases c5:w=[99,111,110,116,105,110,117,101]
 · simp only[if_pos c5]at hok⊢;exact K.loo (q:=.jump 13) (s1:=s) rfl rfl (fun _ h=>by cases h) ⟨hp.1,hlt⟩ ha hok
 simp only[if_neg c5]at hok⊢;have a00:a < (zB s).k:=Nat.lt_succ_of_le ha
 by_cases c6:w=[114,101,116,117,114,110]
 · simp only[if_pos c6]at hok⊢
   by_cases c:zB1 L1 (zB s)=true
   · simp only[if_pos c]at hok⊢;obtain⟨ok1,h⟩:=zCq S (s:=zB s) a00 hok;refine⟨fun x=>?_,fun x y=>?_⟩
     · have hk:(zB s).k < m:=Nat.lt_of_le_of_lt (zAV (s:=zB s) S.l1 hlt).le x;have c':zB1 L2 (shP d (zB s))=true:=(S.ended a00 hk).trans c;simp only[if_pos c'];exact(h (trK 14 [])).1 x
     · have c':zB1 L2 (shP d (zB s))=true:=by
        rcases Nat.lt_or_ge (zB s).k m with hl | hl
        · exact(S.ended a00 hl).trans c
        · have:=ok1.le;unfold zB1 onP;rw[show(shP d (zB s)).k=m+d by show(zB s).k+d=_;omega];rcases S.loose y with⟨g1,_⟩ | ⟨_,g2⟩
          · rw[g1];simp
          · rcases g2 with g2 | g2 | g2<;>rw[g2]<;>simp
       simp only[if_pos c'];exact(h (trK 14 [])).2 x y
   · simp only[if_neg c]at hok⊢;have x1:Eat L1 (zB s) _:=K.post .assign (zB s) ⟨hlt,trivial⟩;have ok1:=hok.back (zAV S.l1 x1.adv.hi);have l1:=ok1.eat x1 hlt;have c':¬zB1 L2 (shP d (zB s))=true:=by rw[S.ended a00 l1];exact c
     simp only[if_neg c'];rw[K.exact (q:=.assign) (s1:=zB s) rfl ⟨hlt,trivial⟩ a0 ok1];exact(zCq S (yAA a00 x1.adv.le) hok).2 _
 simp only[if_neg c6]at hok⊢
 by_cases c7:w=[116,104,114,111,119]
 · simp only[if_pos c7]at hok⊢
   by_cases c:(zH L1 (zB s).k).nl=true
   · simp only[if_pos c]at hok;have z:=zl (s:=zB s) hlt;have p:=(K.post .assign (zV L1 (zB s)) ⟨z.adv.hi,trivial⟩).adv;exact absurd ((hok.back (zAV S.l1 p.hi)).back p).bad ze
   simp only[if_neg c]at hok⊢;have x1:Eat L1 (zB s) _:=K.post .assign (zB s) ⟨hlt,trivial⟩;have ok1:=hok.back (zAV S.l1 x1.adv.hi);have l1:=ok1.eat x1 hlt;have c':¬(zH L2 (shP d (zB s)).k).nl=true:=by rw[S.line a00 l1];exact c
   simp only[if_neg c'];rw[K.exact (q:=.assign) (s1:=zB s) rfl ⟨hlt,trivial⟩ a0 ok1];exact(zCq S (yAA a00 x1.adv.le) hok).2 _
 simp only[if_neg c7]at hok⊢
 by_cases c8:w=[116,114,121]
 · simp only[if_pos c8]at hok⊢;exact Loo.same (K.exact (q:=.tries) (s1:=s) rfl ⟨hp.1,hlt⟩ ha hok)
 simp only[if_neg c8]at hok⊢
 by_cases c9:w=[102,117,110,99,116,105,111,110]∨w=[108,101,116]∨w=[99,111,110,115,116]
 · simp only[if_pos c9]at hok;exact absurd hok.bad ze
 simp only[if_neg c9]at hok⊢;exact K.loo (q:=.simple) (s1:=s) rfl rfl (fun _ h=>by cases h) ⟨hp.1,trivial⟩ ha hok
theorem zQb (S:Sim L1 L2 a d m lo) (K:Kn L1 L2 a d m lo R1 R2) (p:Ph) (s:Ps):Clm L1 L2 a d m lo (zF L1 R1) (zF L2 R2) p s:=by
 intro hn hp ha hb hok;cases p with
 | program acc=>exact absurd rfl (hn acc)
 | body l=>exact zQP S K hp (hb rfl) hok
 | block=>exact zNR S K hp ha hok
 | blockL acc=>exact zK1 S K hp ha hok
 | declares=>exact zHo S K hp ha hok
 | declL k acc=>exact zNS S K hp ha hok
 | func k n=>exact zQN S K hp ha hok
 | params=>exact zK2 S K hp ha hok
 | paramL acc=>exact zK3 S K hp ha hok
 | within=>exact zK4 S K hp ha hok
 | clause w=>exact zK5 S K hp ha hok
 | tries=>exact zNT S K hp ha hok
 | assign=>exact zK6 S K hp ha hok
 | cond=>exact zQQ S K hp ha hok
 | either=>exact zK7 S K hp ha hok
 | nullL x=>exact zNX S K hp ha hok
 | orL x=>exact zS6 S K hp ha hok
 | both x=>exact zQR S K hp ha hok
 | level n=>exact zNY S K hp ha hok
 | levelL n x=>exact zK8 S K hp ha hok
 | unary=>exact zNZ S K hp ha hok
 | calls=>exact zNa S K hp ha hok
 | callsL x=>exact zK9 S K hp ha hok
 | head=>exact zQS S K hp ha hok
 | headL x=>exact zNb S K hp ha hok
 | args=>exact zQT S K hp ha hok
 | list w=>exact zQU S K hp ha hok
 | listL w acc=>exact zNc S K hp ha hok
 | primary=>exact zIl S K hp ha hok
 | object=>exact zLA S K hp ha hok
 | objL acc=>exact zQV S K hp ha hok
 | prop=>exact zQW S K hp ha hok
 | item=>exact zQX S K hp ha hok
 | statement=>exact zGp S K hp ha hok
 | simple=>exact zLC S K hp ha hok
 | word w=>exact zQa S K hp ha hok
 | loop=>exact zQZ S K hp ha hok
 | jump k=>exact zQY S K hp ha hok
end
theorem zNd {L:List Tok} (hL:Lst L):∀(f:Nat) (acc:List Tr) (s:Ps),Pre L (.blockL acc) s→(zCL L f (.blockL acc) s).2.bad=0→s.k < (zCL L f (.blockL acc) s).2.k:=by
 intro f
 induction f with
 | zero=>intro acc s _ h;exact absurd h (zAt (by decide))
 | succ f ih=>
  intro acc s hp h;have h':(zF L (zCL L f) (.blockL acc) s).2.bad=0:=h;show s.k < (zF L (zCL L f) (.blockL acc) s).2.k;unfold zF at h'⊢;dsimp only at h'⊢
  by_cases c:s.bad≠0
  · simp only[if_pos c]at h';exact absurd h' c
  simp only[if_neg c]at h'⊢
  by_cases c2:onP L [125] s=true
  · simp only[if_pos c2];exact yAG _
  · simp only[if_neg c2]at h'⊢;have p:=(zCB hL f .item s ⟨hp.1,trivial⟩).adv;exact Nat.lt_of_le_of_lt p.le (ih _ _ ⟨p.hi,trivial⟩ h')
theorem zNe {L:List Tok} (hL:Lst L) (f:Nat) (x:Tr) (s:Ps) (hp:Pre L (.nullL x) s) (c:onP L [63,63] s=true) (h:(zCL L f (.nullL x) s).2.bad=0):s.k < (zCL L f (.nullL x) s).2.k:=by
 cases f with
 | zero=>exact absurd h (zAt (by decide))
 | succ f=>
  show s.k < (zF L (zCL L f) (.nullL x) s).2.k;unfold zF;dsimp only;simp only[if_pos c];have hl:=hL.on hp.1 c;have p1:=(zCB hL f (.level 0) (zB s) ⟨hl,yAF _⟩).adv;have p2:=(zCB hL f (.nullL (trN 47 [63,63] [x,(zCL L f (.level 0) (zB s)).1])) (zCL L f (.level 0) (zB s)).2 ⟨p1.hi,trivial⟩).adv;exact yAA (yAG s.k) (yAE p1.le p2.le)
theorem zQc {L:List Tok} (hL:Lst L):∀(f:Nat) (acc:List Tr) (s:Ps),s.k≤L.length - 1→(zCL L f (.paramL acc) s).2.bad=0→∀g,L.length≤g+s.k→∃j,zBT L g s.k=some j∧isT (zH L j) [41]=true∧(zCL L f (.paramL acc) s).2.k=j+1:=by
 intro f
 induction f with
 | zero=>intro acc s _ h;exact absurd h (zAt (by decide))
 | succ f ih=>
  intro acc s hp h g hg;have hpos:=hL.pos;obtain⟨g,rfl⟩:∃q,g=q+1:=⟨g - 1,by omega⟩;have h':(zF L (zCL L f) (.paramL acc) s).2.bad=0:=h;show∃j,_∧_∧(zF L (zCL L f) (.paramL acc) s).2.k=j+1;unfold zF at h'⊢;dsimp only at h'⊢;have x:=zAD hL hp
  by_cases c:(zW L s).2.bad≠0
  · simp only[if_pos c]at h';exact absurd h' c
  simp only[if_neg c]at h'⊢;obtain⟨m1,m2,_,_⟩:=Ok.name (L:=L) (m:=(zW L s).2.k) (x:=s) ⟨yAL.1 c,yAD _⟩;have hlt:=hL.lt hp (by rw[m1];decide);rw[m2]at h'⊢;dsimp only at h'⊢;unfold zBT;rw[if_pos m1]
  by_cases c2:onP L [41] (zB s)=true
  · simp only[if_pos c2];have c3:¬isT (zH L (s.k+1)) [44]=true:=by
     intro h3;have h4:isT (zH L (s.k+1)) [41]=true:=c2;unfold isT at h3 h4;rw[Bool.and_eq_true,decide_eq_true_eq]at h3 h4;rw[h3.1]at h4;exact absurd h4.1 (by decide)
    exact⟨s.k+1,by rw[if_neg c3],c2,rfl⟩
  · simp only[if_neg c2]at h'⊢;have y:=zN (w:=[44]) (s:=zB s) hL hlt;have p:=(zCB hL f (.paramL (acc++[trN 20 (zH L s.k).text []])) (zM L [44] (zB s)) ⟨y.adv.hi,trivial⟩).adv;obtain⟨n1,n2,_,_⟩:=Ok.need (L:=L) (m:=(zM L [44] (zB s)).k) (x:=zB s) (w:=[44]) ((Ok.mk h' (yAD _)).back p |>.bad |> fun hb=>⟨hb,yAD _⟩);rw[n2]at h'⊢;have hl2:(zB s).k < L.length - 1:=hL.on (s:=zB s) hlt n1;have c3:isT (zH L (s.k+1)) [44]=true:=n1;rw[if_pos c3];exact ih _ (zB (zB s)) hl2 h' g (by show L.length≤g+(s.k+1+1);omega)
theorem zNf {L:List Tok} (hL:Lst L) (f:Nat) (s:Ps) (hp:Pre L .params s) (h:(zCL L f .params s).2.bad=0):zUb L s (zCL L f .params s).2:=by
 cases f with
 | zero=>exact absurd h (zAt (by decide))
 | succ f=>
  have h':(zF L (zCL L f) .params s).2.bad=0:=h;show zUb L s (zF L (zCL L f) .params s).2;unfold zF at h'⊢;dsimp only at h'⊢;have x:=zN (w:=[40]) hL hp.1
  by_cases c:onP L [41] (zM L [40] s)=true
  · simp only[if_pos c]at h'⊢;obtain⟨n1,n2,_,_⟩:=Ok.need (L:=L) (m:=(zM L [40] s).k) (x:=s) (w:=[40]) ⟨h',yAD _⟩;rw[n2]at c⊢;exact .inl ⟨c,rfl⟩
  · simp only[if_neg c]at h'⊢;have p:=(zCB hL f (.paramL []) (zM L [40] s) ⟨x.adv.hi,trivial⟩).adv;obtain⟨n1,n2,_,_⟩:=Ok.need (L:=L) (m:=(zM L [40] s).k) (x:=s) (w:=[40]) ((Ok.mk h' (yAD _)).back p |>.bad |> fun hb=>⟨hb,yAD _⟩);have hlt:=hL.on hp.1 n1;rw[n2]at c h'⊢;obtain⟨j,h1,h2,h3⟩:=zQc hL f [] (zB s) hlt h' L.length (by omega);refine .inr ⟨?_,j,h1,h2,h3⟩;cases hh:isT (zH L (s.k+1)) [41]with
    | false=>rfl
    | true=>exact absurd hh c
theorem zS7 {L1 L2:List Tok} {a d m:Nat} {lo:Bool} (S:Sim L1 L2 a d m lo):∀f:Nat,Kn L1 L2 a d m lo (zCL L1 f) (zCL L2 f):=by
 intro f
 induction f with
 | zero=>exact⟨zCB S.l1 0,fun q s1 _ _ _ _ hok=>absurd hok.bad (zAt (by decide)),zNd S.l1 0,zNe S.l1 0,zNf S.l1 0⟩
 | succ f ih=>exact⟨zCB S.l1 (f+1),fun q s1=>zQb S ih q s1,zNd S.l1 (f+1),zNe S.l1 (f+1),zNf S.l1 (f+1)⟩
end Go.Proofs.YtlohaclgbfhijaaGreatDoor
