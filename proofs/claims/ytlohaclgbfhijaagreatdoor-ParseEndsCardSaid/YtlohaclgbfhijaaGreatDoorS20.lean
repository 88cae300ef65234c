/- Joined for the claim ParseEnds: the parser, the lexer and the trees as they are walked, made short by a program of mine. -/
import Derived.Test.YtlohaclgbfhijaaGreatDoorS03
set_option maxHeartbeats 16000000
set_option maxRecDepth 1000000
namespace Go.Proofs.YtlohaclgbfhijaaGreatDoor
def zMz (t u:Tok):Prop:=t.kind=u.kind∧t.text=u.text∧t.str=u.str∧t.nk=u.nk∧t.nn=u.nn∧t.mag=u.mag
def zSa:List (List UInt8):=[[101,108,115,101],[99,97,116,99,104],[102,105,110,97,108,108,121],[63],[63,63],[124,124],[38,38],[40],[46],[91],[61],[44],[58],[61,62]]
structure Stop (t:Tok):Prop where
 name:t.kind≠1
 binds:zA5 t=9
 words:∀w∈zSa,isT t w=false
 asgn:t.kind=5→¬t.text∈zKx
 post:t.kind=5→t.text∈zCs→t.nl=true
structure Sim (L1 L2:List Tok) (a d m:Nat) (lo:Bool):Prop where
 l1:Lst L1
 l2:Lst L2
 le1:m≤L1.length - 1
 le2:m+d≤L2.length - 1
 tok:∀i,a≤i→i < m→zMz (zM L1 i) (zM L2 (i+d))
 nl:∀i,a < i→i < m→(zM L1 i).nl=(zM L2 (i+d)).nl
 stop:Stop (zM L2 (m+d))
 arrow:isT (zM L2 (m+d)) [41]=true→isT (zM L2 (m+d+1)) [61,62]=false
 loose:lo=true→(isT (zM L2 (m+d)) [59]=true∧isT (zM L2 (m+d+1)) [101,108,115,101]=false)∨(isT (zM L2 (m+d)) [59]=false∧((zM L2 (m+d)).nl=true∨(zM L2 (m+d)).kind=0∨isT (zM L2 (m+d)) [125]=true))
def shP (d:Nat) (s:Ps):Ps:={s with k:=s.k+d}
theorem zl (d:Nat) (s:Ps):stepP (shP d s)=shP d (stepP s):=by
 unfold stepP shP
 simp only[Ps.mk.injEq,and_self,and_true]
 omega
structure Ok (m:Nat) (s:Ps):Prop where
 bad:s.bad=0
 le:s.k≤m
theorem Ok.back {L:List Tok} {m:Nat} {x y:Ps} (h:Ok m y) (k:Adv L x y):Ok m x:=⟨by
 rcases Nat.eq_zero_or_pos x.bad with hz | hz
 · exact hz
 · exact absurd h.bad (k.bad (by omega)),Nat.le_trans k.le h.le⟩
theorem Ok.eat {L:List Tok} {m:Nat} {x y:Ps} (h:Ok m y) (k:Eat L x y) (hx:x.k≤L.length - 1):x.k < m:=Nat.lt_of_lt_of_le (k.lt hx (fun hb=>hb h.bad)) h.le
theorem Ok.step {m:Nat} {x:Ps} (h:Ok m (stepP x)):Ok m x∧x.k < m:=⟨⟨h.bad,Nat.le_of_succ_le h.le⟩,h.le⟩
theorem Ok.need {L:List Tok} {m:Nat} {x:Ps} {w:List UInt8} (h:Ok m (zO L w x)):onP L w x=true∧zO L w x=stepP x∧Ok m x∧x.k < m:=by
 unfold zO at h⊢
 by_cases c:onP L w x=true
 · rw[if_pos c]at h⊢
   exact⟨c,rfl,h.step.1,h.step.2⟩
 · rw[if_neg c]at h
   exact absurd h.bad zv
theorem Ok.name {L:List Tok} {m:Nat} {x:Ps} (h:Ok m (zg L x).2):(zM L x.k).kind=1∧zg L x=((zM L x.k).text,stepP x)∧Ok m x∧x.k < m:=by
 unfold zg at h⊢
 by_cases c:(zM L x.k).kind=1
 · rw[if_pos c]at h⊢
   exact⟨c,rfl,h.step.1,h.step.2⟩
 · rw[if_neg c]at h
   exact absurd h.bad zv
section
variable {L1 L2:List Tok} {a d m:Nat} {lo:Bool} {s:Ps} {w:List UInt8}
theorem zBN {t u:Tok} (h:zMz t u) (w:List UInt8):isT u w=isT t w:=by
 unfold isT
 rw[h.1,h.2.1]
theorem Sim.on (S:Sim L1 L2 a d m lo) (ha:a≤s.k) (hm:s.k < m):onP L2 w (shP d s)=onP L1 w s:=zBN (S.tok _ ha hm) w
theorem Sim.yes (S:Sim L1 L2 a d m lo) (ha:a≤s.k) (hm:s.k < m) (h:onP L1 w s=true):onP L2 w (shP d s)=true:=(S.on ha hm).trans h
theorem Sim.no (S:Sim L1 L2 a d m lo) (ha:a≤s.k) (hm:s.k≤m) (h:¬onP L1 w s=true) (hw:w∈zSa):¬onP L2 w (shP d s)=true:=by
 rcases Nat.lt_or_ge s.k m with h1 | h1
 · rw[S.on ha h1];exact h
 · have h2:=S.stop.words w hw
   unfold onP
   show¬isT (zM L2 (s.k+d)) w=true
   rw[show s.k=m by omega,h2]
   decide
theorem Sim.no1 (S:Sim L1 L2 a d m lo) (ha:a≤s.k) (hm:s.k < m) (h:¬onP L1 w s=true):¬onP L2 w (shP d s)=true:=by
 rw[S.on ha hm];exact h
theorem Sim.need (S:Sim L1 L2 a d m lo) (ha:a≤s.k) (hm:s.k < m) (h:onP L1 w s=true):zO L2 w (shP d s)=shP d (stepP s):=by
 unfold zO
 rw[if_pos (S.yes ha hm h),zl]
theorem Sim.kind (S:Sim L1 L2 a d m lo) (ha:a≤s.k) (hm:s.k < m):(zM L2 (shP d s).k).kind=(zM L1 s.k).kind:=(S.tok _ ha hm).1.symm
theorem Sim.text (S:Sim L1 L2 a d m lo) (ha:a≤s.k) (hm:s.k < m):(zM L2 (shP d s).k).text=(zM L1 s.k).text:=(S.tok _ ha hm).2.1.symm
theorem Sim.line (S:Sim L1 L2 a d m lo) (ha:a < s.k) (hm:s.k < m):(zM L2 (shP d s).k).nl=(zM L1 s.k).nl:=(S.nl _ ha hm).symm
theorem Sim.name (S:Sim L1 L2 a d m lo) (ha:a≤s.k) (hm:s.k < m) (h:(zM L1 s.k).kind=1):zg L2 (shP d s)=((zM L1 s.k).text,shP d (stepP s)):=by
 unfold zg
 rw[if_pos ((S.kind ha hm).trans h),S.text ha hm,zl]
def zH8:Ph→Bool
 | .body _=>true
 | _=>false
def isS:Ph→Bool
 | .item=>true
 | .statement=>true
 | .simple=>true
 | .word _=>true
 | .loop=>true
 | .jump _=>true
 | _=>false
def zSb (L2:List Tok) (d m:Nat) (lo:Bool) (r1 r2:Tr×Ps) (p:Ph):Prop:=
 if isS p=true then(r1.2.k < m→r2=(r1.1,shP d r1.2))∧(r1.2.k=m→lo=true→r2=(r1.1,shP d r1.2)∨(isT (zM L2 (m+d)) [59]=true∧r2=(r1.1,stepP (shP d r1.2))))else r2=(r1.1,shP d r1.2)
def Clm (L1 L2:List Tok) (a d m:Nat) (lo:Bool) (R1 R2:Ph→Ps→Tr×Ps) (p:Ph) (s:Ps):Prop:=
 (∀acc,p≠.program acc)→Pre L1 p s→a≤s.k→(zH8 p=true→a < s.k)→Ok m (R1 p s).2→zSb L2 d m lo (R1 p s) (R2 p (shP d s)) p
variable {R1 R2:Ph→Ps→Tr×Ps}
def zSc (L:List Tok) (s r:Ps):Prop:=(isT (zM L (s.k+1)) [41]=true∧r.k=s.k+2)∨(isT (zM L (s.k+1)) [41]=false∧∃j,zBE L L.length (s.k+1)=some j∧isT (zM L j) [41]=true∧r.k=j+1)
structure Kn (L1 L2:List Tok) (a d m:Nat) (lo:Bool) (R1 R2:Ph→Ps→Tr×Ps):Prop where
 post:∀q s1,Pre L1 q s1→Post L1 q s1 (R1 q s1).2
 clm:∀q s1,Clm L1 L2 a d m lo R1 R2 q s1
 blk:∀acc s1,Pre L1 (.blockL acc) s1→(R1 (.blockL acc) s1).2.bad=0→s1.k < (R1 (.blockL acc) s1).2.k
 nul:∀x s1,Pre L1 (.nullL x) s1→onP L1 [63,63] s1=true→(R1 (.nullL x) s1).2.bad=0→s1.k < (R1 (.nullL x) s1).2.k
 par:∀s1,Pre L1 .params s1→(R1 .params s1).2.bad=0→zSc L1 s1 (R1 .params s1).2
theorem Kn.exact (K:Kn L1 L2 a d m lo R1 R2) {q:Ph} {s1:Ps} (h0:isS q=false) (h1:zH8 q=false) (h2:∀acc,q≠.program acc) (hp:Pre L1 q s1) (ha:a≤s1.k) (hok:Ok m (R1 q s1).2):R2 q (shP d s1)=((R1 q s1).1,shP d (R1 q s1).2):=by
 have:=K.clm q s1 h2 hp ha (fun h=>by rw[h1]at h;cases h) hok
 unfold zSb at this
 rwa [if_neg (by rw[h0];decide)]at this
theorem Kn.body (K:Kn L1 L2 a d m lo R1 R2) {l:List Tr} {s1:Ps} (hp:Pre L1 (.body l) s1) (ha:a < s1.k) (hok:Ok m (R1 (.body l) s1).2):R2 (.body l) (shP d s1)=((R1 (.body l) s1).1,shP d (R1 (.body l) s1).2):=by
 have:=K.clm (.body l) s1 (fun _ h=>by cases h) hp (Nat.le_of_lt ha) (fun _=>ha) hok
 exact this
theorem Kn.item (K:Kn L1 L2 a d m lo R1 R2) {s1:Ps} (hp:Pre L1 .item s1) (ha:a≤s1.k) (hok:Ok m (R1 .item s1).2) (hl:(R1 .item s1).2.k < m):R2 .item (shP d s1)=((R1 .item s1).1,shP d (R1 .item s1).2):=
 (K.clm .item s1 (fun _ h=>by cases h) hp ha (fun h=>by cases h) hok).1 hl
theorem zBA (S:Sim L1 L2 a d m lo) (K:Kn L1 L2 a d m lo R1 R2) {p:Ph} (hp:Pre L1 p s):Post L1 p s (zE L1 R1 p s).2:=
 (zD8 (R:=R1) (R':=R1) S.l1 hp (fun q s1 hq _=>⟨K.post q s1 hq,rfl⟩)).1
theorem zM0 (S:Sim L1 L2 a d m lo) (K:Kn L1 L2 a d m lo R1 R2) (hp:Pre L1 .block s) (ha:a≤s.k) (hok:Ok m (zE L1 R1 .block s).2):zE L2 R2 .block (shP d s)=((zE L1 R1 .block s).1,shP d (zE L1 R1 .block s).2):=by
 unfold zE at hok⊢
 dsimp only at hok⊢
 have x:=zS (w:=[123]) S.l1 hp.1
 have p:=(K.post (.blockL []) (zO L1 [123] s) ⟨x.adv.hi,trivial⟩).adv
 obtain⟨n1,n2,ok1,l1⟩:=(hok.back p).need
 rw[n2]at hok⊢
 rw[S.need ha l1 n1,K.exact (q:=.blockL []) (s1:=stepP s) rfl rfl (fun _ h=>by cases h) ⟨(by have:=S.le1;show _+1≤_;omega),trivial⟩ (Nat.le_succ_of_le ha) hok]
theorem zKL {acc:List Tr} (S:Sim L1 L2 a d m lo) (K:Kn L1 L2 a d m lo R1 R2) (hp:Pre L1 (.blockL acc) s) (ha:a≤s.k) (hok:Ok m (zE L1 R1 (.blockL acc) s).2):zE L2 R2 (.blockL acc) (shP d s)=((zE L1 R1 (.blockL acc) s).1,shP d (zE L1 R1 (.blockL acc) s).2):=by
 unfold zE at hok⊢
 dsimp only at hok⊢
 by_cases c:s.bad≠0
 · simp only[if_pos c]at hok
   exact absurd hok.bad c
 simp only[if_neg c,if_neg (show¬(shP d s).bad≠0 from c)]at hok⊢
 by_cases c2:onP L1 [125] s=true
 · simp only[if_pos c2]at hok⊢
   have l:=hok.step.2
   simp only[if_pos (S.yes ha l c2),zl]
 simp only[if_neg c2]at hok⊢
 have x1:Eat L1 s (R1 .item s).2:=K.post .item s ⟨hp.1,trivial⟩
 have hp2:Pre L1 (.blockL (acc++[(R1 .item s).1])) (R1 .item s).2:=⟨x1.adv.hi,trivial⟩
 have p2:=(K.post _ _ hp2).adv
 have l2:=Nat.lt_of_lt_of_le (K.blk _ _ hp2 hok.bad) hok.le
 have ok1:=hok.back p2
 have a1:=Nat.le_trans ha x1.adv.le
 have l1:=Nat.lt_of_le_of_lt x1.adv.le l2
 simp only[if_neg (S.no1 ha l1 c2)]
 rw[K.item ⟨hp.1,trivial⟩ ha ok1 l2]
 dsimp only
 rw[K.exact (q:=.blockL (acc++[(R1 .item s).1])) (s1:=(R1 .item s).2) rfl rfl (fun _ h=>by cases h) hp2 a1 hok]
theorem zGj (S:Sim L1 L2 a d m lo) (K:Kn L1 L2 a d m lo R1 R2) (hp:Pre L1 .declares s) (ha:a≤s.k) (hok:Ok m (zE L1 R1 .declares s).2):zE L2 R2 .declares (shP d s)=((zE L1 R1 .declares s).1,shP d (zE L1 R1 .declares s).2):=by
 have hok0:=hok
 unfold zE at hok⊢
 dsimp only at hok⊢
 have l:s.k < m:=hok0.eat (zBA S K hp) hp.1
 by_cases c:onP L1 [99,111,110,115,116] s=true
 · simp only[if_pos c,if_pos (S.yes ha l c),zl]at hok⊢
   rw[K.exact (q:=.declL 6 []) (s1:=stepP s) rfl rfl (fun _ h=>by cases h) ⟨(by have:=S.le1;show _+1≤_;omega),trivial⟩ (Nat.le_succ_of_le ha) hok]
 · simp only[if_neg c,if_neg (S.no1 ha l c)]at hok⊢
   have x:=zS (w:=[108,101,116]) S.l1 hp.1
   have p:=(K.post (.declL 5 []) (zO L1 [108,101,116] s) ⟨x.adv.hi,trivial⟩).adv
   obtain⟨n1,n2,ok1,l1⟩:=(hok.back p).need
   rw[n2]at hok⊢
   rw[S.need ha l1 n1,K.exact (q:=.declL 5 []) (s1:=stepP s) rfl rfl (fun _ h=>by cases h) ⟨(by have:=S.le1;show _+1≤_;omega),trivial⟩ (Nat.le_succ_of_le ha) hok]
theorem zH9 {k:Int} {acc:List Tr} (S:Sim L1 L2 a d m lo) (K:Kn L1 L2 a d m lo R1 R2) {e:Tr×Ps} (hi:e.2.k≤L1.length - 1) (ha:a≤e.2.k) (hok:Ok m (if e.2.bad≠0 then(trK k (acc++[e.1]),e.2)else if onP L1 [44] e.2=true then R1 (.declL k (acc++[e.1])) (stepP e.2)else(trK k (acc++[e.1]),e.2)).2):
 Ok m e.2∧(if(e.1,shP d e.2).2.bad≠0 then(trK k (acc++[(e.1,shP d e.2).1]),(e.1,shP d e.2).2)else if onP L2 [44] (e.1,shP d e.2).2=true then R2 (.declL k (acc++[(e.1,shP d e.2).1])) (stepP (e.1,shP d e.2).2)else(trK k (acc++[(e.1,shP d e.2).1]),(e.1,shP d e.2).2))=((if e.2.bad≠0 then(trK k (acc++[e.1]),e.2)else if onP L1 [44] e.2=true then R1 (.declL k (acc++[e.1])) (stepP e.2)else(trK k (acc++[e.1]),e.2)).1,shP d (if e.2.bad≠0 then(trK k (acc++[e.1]),e.2)else if onP L1 [44] e.2=true then R1 (.declL k (acc++[e.1])) (stepP e.2)else(trK k (acc++[e.1]),e.2)).2):=by
 dsimp only
 by_cases c:e.2.bad≠0
 · simp only[if_pos c]at hok
   exact absurd hok.bad c
 simp only[if_neg c,if_neg (show¬(shP d e.2).bad≠0 from c)]at hok⊢
 by_cases c2:onP L1 [44] e.2=true
 · simp only[if_pos c2]at hok⊢
   have hl:=S.l1.on hi c2
   have p:=(K.post (.declL k (acc++[e.1])) (stepP e.2) ⟨hl,trivial⟩).adv
   obtain⟨ok1,l1⟩:=(hok.back p).step
   simp only[if_pos (S.yes ha l1 c2),zl]
   exact⟨ok1,by rw[K.exact (q:=.declL k (acc++[e.1])) (s1:=stepP e.2) rfl rfl (fun _ h=>by cases h) ⟨hl,trivial⟩ (Nat.le_succ_of_le ha) hok]⟩
 · simp only[if_neg c2]at hok⊢
   simp only[if_neg (S.no ha hok.le c2 (by decide))]
   exact⟨hok,trivial⟩
theorem zM1 {k:Int} {acc:List Tr} (S:Sim L1 L2 a d m lo) (K:Kn L1 L2 a d m lo R1 R2) (hp:Pre L1 (.declL k acc) s) (ha:a≤s.k) (hok:Ok m (zE L1 R1 (.declL k acc) s).2):zE L2 R2 (.declL k acc) (shP d s)=((zE L1 R1 (.declL k acc) s).1,shP d (zE L1 R1 (.declL k acc) s).2):=by
 unfold zE at hok⊢
 dsimp only at hok⊢
 have x:=zAO S.l1 hp.1
 by_cases c:onP L1 [61] (zg L1 s).2=true
 · have hlt:=S.l1.on x.adv.hi c
   have p1:=(K.post .assign (stepP (zg L1 s).2) ⟨hlt,trivial⟩).adv
   have y:=(x.then (zAD hlt)).then p1
   simp only[if_pos c]at hok⊢
   obtain⟨ok1,e1⟩:=zH9 S K (e:=(trN 7 (zg L1 s).1 [(R1 .assign (stepP (zg L1 s).2)).1],(R1 .assign (stepP (zg L1 s).2)).2)) y.adv.hi (Nat.le_trans ha y.adv.le) hok
   obtain⟨ok2,l2⟩:=(ok1.back p1).step
   obtain⟨n1,n2,ok3,l3⟩:=ok2.name
   have a1:=Nat.le_trans ha x.adv.le
   have c':=S.yes (w:=[61]) a1 l2 c
   rw[n2]at ok1 e1 c' a1 l2⊢
   rw[S.name ha l3 n1]
   dsimp only at ok1 e1 c' a1 l2⊢
   simp only[if_pos c',zl]
   rw[K.exact (q:=.assign) (s1:=stepP (stepP s)) rfl rfl (fun _ h=>by cases h) ⟨by have:=S.le1;show _+1≤_;omega,trivial⟩ (Nat.le_succ_of_le a1) ok1]
   exact e1
 · simp only[if_neg c]at hok⊢
   obtain⟨ok1,e1⟩:=zH9 S K (e:=(trN 7 (zg L1 s).1 [],(zg L1 s).2)) x.adv.hi (Nat.le_trans ha x.adv.le) hok
   obtain⟨n1,n2,ok3,l3⟩:=ok1.name
   have a1:=Nat.le_trans ha x.adv.le
   have c':=S.no (w:=[61]) a1 ok1.le c (by decide)
   rw[n2]at e1 c'⊢
   rw[S.name ha l3 n1]
   dsimp only at e1 c'⊢
   simp only[if_neg c']
   exact e1
theorem zPI {k:Int} {n:List UInt8} (_S:Sim L1 L2 a d m lo) (K:Kn L1 L2 a d m lo R1 R2) (hp:Pre L1 (.func k n) s) (ha:a≤s.k) (hok:Ok m (zE L1 R1 (.func k n) s).2):zE L2 R2 (.func k n) (shP d s)=((zE L1 R1 (.func k n) s).1,shP d (zE L1 R1 (.func k n) s).2):=by
 unfold zE at hok⊢
 dsimp only at hok⊢
 have x1:Eat L1 s (R1 .params s).2:=K.post .params s ⟨hp.1,trivial⟩
 have p2:=(K.post .block (R1 .params s).2 ⟨x1.adv.hi,trivial⟩).adv
 rw[K.exact (q:=.params) (s1:=s) rfl rfl (fun _ h=>by cases h) ⟨hp.1,trivial⟩ ha (hok.back p2)]
 dsimp only
 rw[K.exact (q:=.block) (s1:=(R1 .params s).2) rfl rfl (fun _ h=>by cases h) ⟨x1.adv.hi,trivial⟩ (Nat.le_trans ha x1.adv.le) hok]
theorem zKM (S:Sim L1 L2 a d m lo) (K:Kn L1 L2 a d m lo R1 R2) (hp:Pre L1 .params s) (ha:a≤s.k) (hok:Ok m (zE L1 R1 .params s).2):zE L2 R2 .params (shP d s)=((zE L1 R1 .params s).1,shP d (zE L1 R1 .params s).2):=by
 unfold zE at hok⊢
 dsimp only at hok⊢
 have x:=zS (w:=[40]) S.l1 hp.1
 by_cases c:onP L1 [41] (zO L1 [40] s)=true
 · simp only[if_pos c]at hok⊢
   obtain⟨ok1,l1⟩:=hok.step
   obtain⟨n1,n2,ok2,l2⟩:=ok1.need
   rw[n2]at c l1⊢
   rw[S.need ha l2 n1]
   simp only[if_pos (S.yes (Nat.le_succ_of_le ha) l1 c),zl]
 · simp only[if_neg c]at hok⊢
   have p:=(K.post (.paramL []) (zO L1 [40] s) ⟨x.adv.hi,trivial⟩)
   have p1:Eat L1 (zO L1 [40] s) _:=p
   obtain⟨n1,n2,ok2,l2⟩:=(hok.back p.adv).need
   have l3:=hok.eat p1 x.adv.hi
   rw[n2]at c hok l3⊢
   rw[S.need ha l2 n1]
   simp only[if_neg (S.no1 (Nat.le_succ_of_le ha) l3 c)]
   rw[K.exact (q:=.paramL []) (s1:=stepP s) rfl rfl (fun _ h=>by cases h) ⟨(by have:=S.le1;show _+1≤_;omega),trivial⟩ (Nat.le_succ_of_le ha) hok]
theorem zKN {acc:List Tr} (S:Sim L1 L2 a d m lo) (K:Kn L1 L2 a d m lo R1 R2) (hp:Pre L1 (.paramL acc) s) (ha:a≤s.k) (hok:Ok m (zE L1 R1 (.paramL acc) s).2):zE L2 R2 (.paramL acc) (shP d s)=((zE L1 R1 (.paramL acc) s).1,shP d (zE L1 R1 (.paramL acc) s).2):=by
 unfold zE at hok⊢
 dsimp only at hok⊢
 have x:=zAO S.l1 hp.1
 by_cases c:(zg L1 s).2.bad≠0
 · simp only[if_pos c]at hok
   exact absurd hok.bad c
 simp only[if_neg c]at hok⊢
 by_cases c2:onP L1 [41] (zg L1 s).2=true
 · simp only[if_pos c2]at hok⊢
   obtain⟨ok1,l1⟩:=hok.step
   obtain⟨n1,n2,ok2,l2⟩:=ok1.name
   rw[n2]at c c2 l1⊢
   rw[S.name ha l2 n1]
   dsimp only at c c2 l1⊢
   simp only[if_neg (show¬(shP d (stepP s)).bad≠0 from c),if_pos (S.yes (Nat.le_succ_of_le ha) l1 c2),zl]
 simp only[if_neg c2]at hok⊢
 have y:=zS (w:=[44]) S.l1 x.adv.hi
 have p:=(K.post (.paramL (acc++[trN 20 (zg L1 s).1 []])) (zO L1 [44] (zg L1 s).2) ⟨y.adv.hi,trivial⟩).adv
 obtain⟨n1,n2,ok1,l1⟩:=(hok.back p).need
 obtain⟨m1,m2,ok2,l2⟩:=ok1.name
 rw[n2]at hok⊢
 rw[m2]at c c2 l1 n1 hok⊢
 rw[S.name ha l2 m1]
 dsimp only at c c2 l1 n1 hok⊢
 have a1:=Nat.le_succ_of_le ha
 simp only[if_neg (show¬(shP d (stepP s)).bad≠0 from c),if_neg (S.no1 a1 l1 c2)]
 rw[S.need a1 l1 n1,K.exact (q:=.paramL (acc++[trN 20 (zM L1 s.k).text []])) (s1:=stepP (stepP s)) rfl rfl (fun _ h=>by cases h) ⟨by have:=S.le1;show _+1≤_;omega,trivial⟩ (Nat.le_succ_of_le a1) hok]
theorem zKO (S:Sim L1 L2 a d m lo) (K:Kn L1 L2 a d m lo R1 R2) (hp:Pre L1 .within s) (ha:a≤s.k) (hok:Ok m (zE L1 R1 .within s).2):zE L2 R2 .within (shP d s)=((zE L1 R1 .within s).1,shP d (zE L1 R1 .within s).2):=by
 unfold zE at hok⊢
 dsimp only at hok⊢
 have x:=zS (w:=[40]) S.l1 hp.1
 have p:=(K.post .assign (zO L1 [40] s) ⟨x.adv.hi,trivial⟩).adv
 obtain⟨n1,n2,ok1,l1⟩:=hok.need
 obtain⟨m1,m2,ok2,l2⟩:=(ok1.back p).need
 rw[n2]
 rw[m2]at n1 ok1 l1⊢
 have q:=(K.post .assign (stepP s) ⟨(by have:=S.le1;show _+1≤_;omega),trivial⟩).adv
 rw[S.need ha l2 m1,K.exact (q:=.assign) (s1:=stepP s) rfl rfl (fun _ h=>by cases h) ⟨(by have:=S.le1;show _+1≤_;omega),trivial⟩ (Nat.le_succ_of_le ha) ok1]
 dsimp only
 rw[S.need (Nat.le_trans (Nat.le_succ_of_le ha) q.le) l1 n1]
theorem zKP (S:Sim L1 L2 a d m lo) (K:Kn L1 L2 a d m lo R1 R2) (hp:Pre L1 (.clause w) s) (ha:a≤s.k) (hok:Ok m (zE L1 R1 (.clause w) s).2):zE L2 R2 (.clause w) (shP d s)=((zE L1 R1 (.clause w) s).1,shP d (zE L1 R1 (.clause w) s).2):=by
 unfold zE at hok⊢
 dsimp only at hok⊢
 by_cases c:onP L1 w s=true
 · simp only[if_pos c]at hok⊢
   obtain⟨n1,n2,ok1,l1⟩:=hok.need
   simp only[if_pos (S.yes ha l1 c)]
   rw[S.need ha l1 n1,n2]
 · simp only[if_neg c]at hok⊢
   have x1:Eat L1 s (R1 .assign s).2:=K.post .assign s ⟨hp.1,trivial⟩
   obtain⟨n1,n2,ok1,l1⟩:=hok.need
   have l0:=ok1.eat x1 hp.1
   simp only[if_neg (S.no1 ha l0 c)]
   rw[K.exact (q:=.assign) (s1:=s) rfl rfl (fun _ h=>by cases h) ⟨hp.1,trivial⟩ ha ok1,n2]
   dsimp only
   rw[S.need (Nat.le_trans ha x1.adv.le) l1 n1]
theorem zEg (S:Sim L1 L2 a d m lo) (K:Kn L1 L2 a d m lo R1 R2) {b0:Tr} {e:Tr×Ps} (hi:e.2.k≤L1.length - 1) (ha:a≤e.2.k) (hok:Ok m (if onP L1 [102,105,110,97,108,108,121] e.2=true then(trK 16 [b0,e.1,(R1 .block (stepP e.2)).1],(R1 .block (stepP e.2)).2)else(trK 16 [b0,e.1,trK 11 []],e.2)).2):
 Ok m e.2∧(if onP L2 [102,105,110,97,108,108,121] (e.1,shP d e.2).2=true then(trK 16 [b0,(e.1,shP d e.2).1,(R2 .block (stepP (e.1,shP d e.2).2)).1],(R2 .block (stepP (e.1,shP d e.2).2)).2)else(trK 16 [b0,(e.1,shP d e.2).1,trK 11 []],(e.1,shP d e.2).2))=((if onP L1 [102,105,110,97,108,108,121] e.2=true then(trK 16 [b0,e.1,(R1 .block (stepP e.2)).1],(R1 .block (stepP e.2)).2)else(trK 16 [b0,e.1,trK 11 []],e.2)).1,shP d (if onP L1 [102,105,110,97,108,108,121] e.2=true then(trK 16 [b0,e.1,(R1 .block (stepP e.2)).1],(R1 .block (stepP e.2)).2)else(trK 16 [b0,e.1,trK 11 []],e.2)).2):=by
 dsimp only
 by_cases c2:onP L1 [102,105,110,97,108,108,121] e.2=true
 · simp only[if_pos c2]at hok⊢
   have hl:=S.l1.on hi c2
   have p:=(K.post .block (stepP e.2) ⟨hl,trivial⟩).adv
   obtain⟨ok1,l1⟩:=(hok.back p).step
   simp only[if_pos (S.yes ha l1 c2),zl]
   exact⟨ok1,by rw[K.exact (q:=.block) (s1:=stepP e.2) rfl rfl (fun _ h=>by cases h) ⟨hl,trivial⟩ (Nat.le_succ_of_le ha) hok]⟩
 · simp only[if_neg c2]at hok⊢
   simp only[if_neg (S.no ha hok.le c2 (by decide))]
   exact⟨hok,trivial⟩
theorem zM2 (S:Sim L1 L2 a d m lo) (K:Kn L1 L2 a d m lo R1 R2) (hp:Pre L1 .tries s) (ha:a≤s.k) (hok:Ok m (zE L1 R1 .tries s).2):zE L2 R2 .tries (shP d s)=((zE L1 R1 .tries s).1,shP d (zE L1 R1 .tries s).2):=by
 have hlt:s.k < L1.length - 1:=hp.2
 unfold zE at hok⊢
 dsimp only at hok⊢
 have p1:=(K.post .block (stepP s) ⟨hlt,trivial⟩).adv
 have a0:a≤(R1 .block (stepP s)).2.k:=Nat.le_trans (Nat.le_succ_of_le ha) p1.le
 by_cases g:(onP L1 [99,97,116,99,104] (R1 .block (stepP s)).2 || onP L1 [102,105,110,97,108,108,121] (R1 .block (stepP s)).2)=true
 case neg=>
  simp only[if_neg g]at hok
  have z:=zp p1.hi
  have hno:∀w,onP L1 w (zc L1 (R1 .block (stepP s)).2)=true→False:=fun w h=>by
   have:=S.l1.on z.adv.hi h
   rw[zDU]at this
   omega
  simp only[if_neg (fun h=>hno [99,97,116,99,104] h),if_neg (fun h=>hno [102,105,110,97,108,108,121] h)]at hok
  exact absurd hok.bad zv
 simp only[if_pos g]at hok⊢
 have fin:∀(ok0:Ok m (R1 .block (stepP s)).2) (l0:(R1 .block (stepP s)).2.k < m),R2 .block (stepP (shP d s))=((R1 .block (stepP s)).1,shP d (R1 .block (stepP s)).2)∧(onP L2 [99,97,116,99,104] (shP d (R1 .block (stepP s)).2) || onP L2 [102,105,110,97,108,108,121] (shP d (R1 .block (stepP s)).2))=true:=fun ok0 l0=>by
  rw[zl,K.exact (q:=.block) (s1:=stepP s) rfl rfl (fun _ h=>by cases h) ⟨hlt,trivial⟩ (Nat.le_succ_of_le ha) ok0,S.on a0 l0,S.on a0 l0]
  exact⟨rfl,g⟩
 by_cases c:onP L1 [99,97,116,99,104] (R1 .block (stepP s)).2=true
 · simp only[if_pos c]at hok⊢
   have hl1:=S.l1.on p1.hi c
   by_cases c2:onP L1 [40] (stepP (R1 .block (stepP s)).2)=true
   · simp only[if_pos c2]at hok⊢
     have hl2:=S.l1.on (s:=stepP (R1 .block (stepP s)).2) hl1 c2
     have u:=zAO (s:=stepP (stepP (R1 .block (stepP s)).2)) S.l1 hl2
     have v:=zS (w:=[41]) S.l1 u.adv.hi
     have p2:=(K.post .block (zO L1 [41] (zg L1 (stepP (stepP (R1 .block (stepP s)).2))).2) ⟨v.adv.hi,trivial⟩).adv
     have a3:a≤(stepP (stepP (R1 .block (stepP s)).2)).k:=Nat.le_succ_of_le (Nat.le_succ_of_le a0)
     obtain⟨ok1,e1⟩:=zEg S K (e:=(trN 17 (zg L1 (stepP (stepP (R1 .block (stepP s)).2))).1 [(R1 .block (zO L1 [41] (zg L1 (stepP (stepP (R1 .block (stepP s)).2))).2)).1],(R1 .block (zO L1 [41] (zg L1 (stepP (stepP (R1 .block (stepP s)).2))).2)).2)) p2.hi (Nat.le_trans a3 (Nat.le_trans u.adv.le (Nat.le_trans v.adv.le p2.le))) hok
     obtain⟨n1,n2,ok2,l2⟩:=(ok1.back p2).need
     obtain⟨m1,m2,ok3,l3⟩:=ok2.name
     obtain⟨ok4,l4⟩:=ok3.step
     obtain⟨ok5,l5⟩:=ok4.step
     obtain⟨g1,g2⟩:=fin ok5 l5
     rw[n2]at ok1 e1⊢
     rw[m2]at ok1 e1 n1 l2⊢
     dsimp only at ok1 e1 n1 l2⊢
     rw[g1]
     dsimp only
     simp only[if_pos g2,if_pos (S.yes a0 l5 c),zl]
     simp only[if_pos (S.yes (s:=stepP (R1 .block (stepP s)).2) (Nat.le_succ_of_le a0) l4 c2)]
     rw[S.name a3 l3 m1]
     dsimp only
     rw[S.need (Nat.le_succ_of_le a3) l2 n1,K.exact (q:=.block) (s1:=stepP (stepP (stepP (stepP (R1 .block (stepP s)).2)))) rfl rfl (fun _ h=>by cases h) ⟨by have:=S.le1;show _+1≤_;omega,trivial⟩ (Nat.le_succ_of_le (Nat.le_succ_of_le a3)) ok1]
     exact e1
   · simp only[if_neg c2]at hok⊢
     have p2:=K.post .block (stepP (R1 .block (stepP s)).2) ⟨hl1,trivial⟩
     have x2:Eat L1 (stepP (R1 .block (stepP s)).2) _:=p2
     have a2:a≤(stepP (R1 .block (stepP s)).2).k:=Nat.le_succ_of_le a0
     obtain⟨ok1,e1⟩:=zEg S K (e:=(trN 17 [] [(R1 .block (stepP (R1 .block (stepP s)).2)).1],(R1 .block (stepP (R1 .block (stepP s)).2)).2)) p2.adv.hi (Nat.le_trans a2 p2.adv.le) hok
     have l4:=ok1.eat x2 hl1
     obtain⟨ok5,l5⟩:=(ok1.back p2.adv).step
     obtain⟨g1,g2⟩:=fin ok5 l5
     rw[g1]
     dsimp only
     simp only[if_pos g2,if_pos (S.yes a0 l5 c),zl]
     simp only[if_neg (S.no1 (s:=stepP (R1 .block (stepP s)).2) a2 l4 c2)]
     rw[K.exact (q:=.block) (s1:=stepP (R1 .block (stepP s)).2) rfl rfl (fun _ h=>by cases h) ⟨hl1,trivial⟩ a2 ok1]
     exact e1
 · simp only[if_neg c]at hok⊢
   obtain⟨ok1,e1⟩:=zEg S K (e:=(trK 11 [],(R1 .block (stepP s)).2)) p1.hi a0 hok
   have c3:onP L1 [102,105,110,97,108,108,121] (R1 .block (stepP s)).2=true:=by
    cases h:onP L1 [99,97,116,99,104] (R1 .block (stepP s)).2 with
    | true=>exact absurd h c
    | false=>rw[h,Bool.false_or]at g;exact g
   have l5:(R1 .block (stepP s)).2.k < m:=by
    simp only[if_pos c3]at hok
    exact(hok.back (K.post .block (stepP (R1 .block (stepP s)).2) ⟨S.l1.on p1.hi c3,trivial⟩).adv).step.2
   obtain⟨g1,g2⟩:=fin ok1 l5
   rw[g1]
   dsimp only
   simp only[if_pos g2,if_neg (S.no1 a0 l5 c)]
   exact e1
theorem Sim.ahead (S:Sim L1 L2 a d m lo) (ha:a≤s.k) (hm:s.k+1 < m):isT (zAC L2 (shP d s).k 1) w=isT (zAC L1 s.k 1) w∧(zAC L2 (shP d s).k 1).nl=(zAC L1 s.k 1).nl:=by
 have e:(shP d s).k+1=s.k+1+d:=by show s.k+d+1=_;omega
 unfold zAC
 rw[e]
 exact⟨zBN (S.tok _ (by omega) hm) w,(S.nl _ (by omega) hm).symm⟩
theorem Sim.ahead_no (S:Sim L1 L2 a d m lo) (hm:s.k+1=m) (hw:w∈zSa):isT (zAC L2 (shP d s).k 1) w=false:=by
 have e:(shP d s).k+1=m+d:=by show s.k+d+1=_;omega
 unfold zAC
 rw[e]
 exact S.stop.words w hw
theorem zEh {L:List Tok}:∀{f i j:Nat},zBE L f i=some j→i < j:=by
 intro f
 induction f with
 | zero=>intro i j h;cases h
 | succ f ih=>
  intro i j h
  unfold zBE at h
  split at h
  · split at h
    · have:=ih h;omega
    · injection h with h;omega
  · cases h
theorem zM3 (S:Sim L1 L2 a d m lo):∀(f i j:Nat),zBE L1 f i=some j→a≤i→j < m→∀g,L2.length≤g+(i+d)→zBE L2 g (i+d)=some (j+d):=by
 intro f
 induction f with
 | zero=>intro i j h;cases h
 | succ f ih=>
  intro i j h ha hj g hg
  have hgt:=zEh h
  have hle:=S.le2
  have hpos:=S.l2.pos
  obtain⟨g,rfl⟩:∃q,g=q+1:=⟨g - 1,by omega⟩
  unfold zBE at h⊢
  have e1:=S.tok i ha (by omega)
  rw[←e1.1]
  split at h
  · rename_i hk
    rw[if_pos hk]
    split at h
    · rename_i hc
      have h2:=zEh h
      rw[show i+d+1=i+1+d by omega,zBN (S.tok (i+1) (by omega) (by omega)),if_pos hc,show i+d+2=i+2+d by omega]
      exact ih (i+2) j h (by omega) hj g (by omega)
    · rename_i hc
      injection h with h
      subst h
      rw[show i+d+1=i+1+d by omega,zBN (S.tok (i+1) (by omega) hj),if_neg hc]
  · cases h
theorem zM4 (S:Sim L1 L2 a d m lo):∀(g i j2:Nat),zBE L2 g (i+d)=some j2→a≤i→i≤m→zA2 L2 j2=true→∃j,j2=j+d∧i < j∧j+1 < m∧∀f,L1.length≤f+i→zBE L1 f i=some j:=by
 intro g
 induction g with
 | zero=>intro i j h;cases h
 | succ g ih=>
  intro i j2 h ha him he
  unfold zBE at h
  split at h
  · rename_i hk
    have hlt:i < m:=by
     rcases Nat.lt_or_ge i m with h1 | h1
     · exact h1
     · rw[show i=m by omega]at hk;exact absurd hk S.stop.name
    have e1:=S.tok i ha hlt
    have hk1:(zM L1 i).kind=1:=e1.1.trans hk
    have hlen:i < L1.length:=by have:=S.le1;omega
    split at h
    · rename_i hc
      rw[show i+d+1=i+1+d by omega]at hc
      have hlt2:i+1 < m:=by
       rcases Nat.lt_or_ge (i+1) m with h1 | h1
       · exact h1
       · rw[show i+1=m by omega,S.stop.words _ (by decide)]at hc;cases hc
      rw[show i+d+2=i+2+d by omega]at h
      obtain⟨j,h1,h2,h3,h4⟩:=ih (i+2) j2 h (by omega) (by omega) he
      refine⟨j,h1,by omega,h3,fun f hf=>?_⟩
      obtain⟨f,rfl⟩:∃q,f=q+1:=⟨f - 1,by omega⟩
      unfold zBE
      rw[zBN (S.tok (i+1) (by omega) hlt2)]at hc
      rw[if_pos hk1,if_pos hc]
      exact h4 f (by omega)
    · rename_i hc
      injection h with h
      subst h
      unfold zA2 at he
      rw[Bool.and_eq_true]at he
      have hlt2:i+1 < m:=by
       rcases Nat.lt_or_ge (i+1) m with h1 | h1
       · exact h1
       · rw[show i+d+1=m+d by omega]at he
         rw[S.arrow he.1]at he
         cases he.2
      have hlt3:i+2 < m:=by
       rcases Nat.lt_or_ge (i+2) m with h1 | h1
       · exact h1
       · rw[show i+d+1+1=m+d by omega,S.stop.words _ (by decide)]at he
         cases he.2
      refine⟨i+1,by omega,by omega,hlt3,fun f hf=>?_⟩
      obtain⟨f,rfl⟩:∃q,f=q+1:=⟨f - 1,by omega⟩
      unfold zBE
      rw[show i+d+1=i+1+d by omega,zBN (S.tok (i+1) (by omega) hlt2)]at hc
      rw[if_pos hk1,if_neg hc]
  · cases h
theorem zPJ (S:Sim L1 L2 a d m lo) (ha:a≤s.k) (hl:s.k < m) (h:¬zAN L1 s=true):¬zAN L2 (shP d s)=true:=by
 intro h2
 apply h
 unfold zAN at h2⊢
 rw[Bool.and_eq_true]at h2⊢
 rw[S.on ha hl]at h2
 refine⟨h2.1,?_⟩
 have h3:=h2.2
 have e0:(shP d s).k+1=s.k+1+d:=by show s.k+d+1=_;omega
 rw[e0]at h3
 by_cases c:isT (zM L2 (s.k+1+d)) [41]=true
 · rw[if_pos c]at h3
   unfold zA2 at h3⊢
   rw[Bool.and_eq_true]at h3
   have hlt2:s.k+1 < m:=by
    rcases Nat.lt_or_ge (s.k+1) m with h1 | h1
    · exact h1
    · rw[show s.k+1+d=m+d by omega]at h3
      rw[S.arrow h3.1]at h3
      cases h3.2
   have hlt3:s.k+2 < m:=by
    rcases Nat.lt_or_ge (s.k+2) m with h1 | h1
    · exact h1
    · rw[show s.k+1+d+1=m+d by omega,S.stop.words _ (by decide)]at h3
      cases h3.2
   rw[zBN (S.tok (s.k+1) (by omega) hlt2),show s.k+1+d+1=s.k+2+d by omega,zBN (S.tok (s.k+2) (by omega) hlt3)]at h3
   rw[if_pos h3.1,Bool.and_eq_true]
   exact h3
 · rw[if_neg c]at h3
   cases hn:zBE L2 L2.length (s.k+1+d)with
   | none=>rw[hn]at h3;cases h3
   | some j2=>
    rw[hn]at h3
    obtain⟨j,h4,h5,h6,h7⟩:=zM4 S _ _ _ hn (by omega) (by omega) h3
    rw[zBN (S.tok (s.k+1) (by omega) (by omega))]at c
    rw[if_neg c,h7 L1.length (by omega)]
    subst h4
    dsimp only at h3⊢
    unfold zA2 at h3⊢
    rw[zBN (S.tok j (by omega) (by omega)),show j+d+1=j+1+d by omega,zBN (S.tok (j+1) (by omega) h6)]at h3
    exact h3
theorem zM5 (S:Sim L1 L2 a d m lo) (ha:a≤s.k) {r:Ps} (hp:zSc L1 s r) (hr:r.k < m) (h:zAN L1 s=true):zAN L2 (shP d s)=true:=by
 unfold zAN at h⊢
 rw[Bool.and_eq_true]at h⊢
 have e0:(shP d s).k+1=s.k+1+d:=by show s.k+d+1=_;omega
 rw[e0]
 rcases hp with⟨h1,h2⟩ | ⟨h1,j,h2,h3,h4⟩
 · have h5:=h.2
   rw[if_pos h1]at h5
   refine⟨S.yes ha (by omega) h.1,?_⟩
   rw[zBN (S.tok (s.k+1) (by omega) (by omega)),if_pos h1]
   unfold zA2 at h5⊢
   rw[zBN (S.tok (s.k+1) (by omega) (by omega)),show s.k+1+d+1=s.k+2+d by omega,zBN (S.tok (s.k+2) (by omega) (by omega))]
   exact h5
 · have hgt:=zEh h2
   have h5:=h.2
   rw[if_neg (by rw[h1];decide),h2]at h5
   refine⟨S.yes ha (by omega) h.1,?_⟩
   rw[zBN (S.tok (s.k+1) (by omega) (by omega)),if_neg (by rw[h1];decide),zM3 S _ _ _ h2 (by omega) (by omega) L2.length (by omega)]
   unfold zA2 at h5⊢
   show(isT (zM L2 (j+d)) [41]&&isT (zM L2 (j+d+1)) [61,62])=true
   rw[zBN (S.tok j (by omega) (by omega)),show j+d+1=j+1+d by omega,zBN (S.tok (j+1) (by omega) (by omega))]
   exact h5
theorem zKQ (S:Sim L1 L2 a d m lo) (K:Kn L1 L2 a d m lo R1 R2) (hp:Pre L1 .assign s) (ha:a≤s.k) (hok:Ok m (zE L1 R1 .assign s).2):zE L2 R2 .assign (shP d s)=((zE L1 R1 .assign s).1,shP d (zE L1 R1 .assign s).2):=by
 have hok0:=hok
 unfold zE at hok⊢
 dsimp only at hok⊢
 have l:s.k < m:=hok0.eat (zBA S K hp) hp.1
 by_cases c:(zM L1 s.k).kind=1∧isT (zAC L1 s.k 1) [61,62]=true∧(zAC L1 s.k 1).nl=false
 · simp only[if_pos c]at hok⊢
   have hlt:=S.l1.lt hp.1 (by rw[c.1];decide)
   have p:Eat L1 (stepP s) _:=K.post (.body [trN 20 (zM L1 s.k).text []]) (stepP s) ⟨hlt,trivial⟩
   have l1:s.k+1 < m:=hok.eat p hlt
   obtain⟨e1,e2⟩:=S.ahead (w:=[61,62]) ha l1
   have c':(zM L2 (shP d s).k).kind=1∧isT (zAC L2 (shP d s).k 1) [61,62]=true∧(zAC L2 (shP d s).k 1).nl=false:=⟨(S.kind ha l).trans c.1,e1.trans c.2.1,e2.trans c.2.2⟩
   simp only[if_pos c',S.text ha l,zl]
   rw[K.body (s1:=stepP s) ⟨hlt,trivial⟩ (Nat.lt_succ_of_le ha) hok]
 simp only[if_neg c]at hok⊢
 have c':¬((zM L2 (shP d s).k).kind=1∧isT (zAC L2 (shP d s).k 1) [61,62]=true∧(zAC L2 (shP d s).k 1).nl=false):=by
  rintro⟨h1,h2,h3⟩
  rcases Nat.lt_or_ge (s.k+1) m with hl | hl
  · obtain⟨e1,e2⟩:=S.ahead (w:=[61,62]) ha hl
    exact c ⟨(S.kind ha l).symm.trans h1,e1.symm.trans h2,e2.symm.trans h3⟩
  · rw[S.ahead_no (w:=[61,62]) (by omega) (by decide)]at h2
    cases h2
 simp only[if_neg c']
 by_cases c2:zAN L1 s=true
 · simp only[if_pos c2]at hok⊢
   have x1:Eat L1 s (R1 .params s).2:=K.post .params s ⟨hp.1,trivial⟩
   have p2:Eat L1 (R1 .params s).2 _:=K.post (.body (R1 .params s).1.subs) (R1 .params s).2 ⟨x1.adv.hi,trivial⟩
   have ok1:=hok.back p2.adv
   have l1:=hok.eat p2 x1.adv.hi
   simp only[if_pos (zM5 S ha (K.par s ⟨hp.1,trivial⟩ ok1.bad) l1 c2)]
   rw[K.exact (q:=.params) (s1:=s) rfl rfl (fun _ h=>by cases h) ⟨hp.1,trivial⟩ ha ok1]
   dsimp only
   rw[K.body (l:=(R1 .params s).1.subs) (s1:=(R1 .params s).2) ⟨x1.adv.hi,trivial⟩ (Nat.lt_of_le_of_lt ha (x1.lt hp.1 (fun hb=>hb ok1.bad))) hok]
 simp only[if_neg c2,if_neg (zPJ S ha l c2)]at hok⊢
 have x1:Eat L1 s (R1 .cond s).2:=K.post .cond s ⟨hp.1,trivial⟩
 have a1:=Nat.le_trans ha x1.adv.le
 by_cases c3:(zM L1 (R1 .cond s).2.k).kind≠5∨¬(zM L1 (R1 .cond s).2.k).text∈zKx
 · simp only[if_pos c3]at hok⊢
   rw[K.exact (q:=.cond) (s1:=s) rfl rfl (fun _ h=>by cases h) ⟨hp.1,trivial⟩ ha hok]
   dsimp only
   have c3':(zM L2 (shP d (R1 .cond s).2).k).kind≠5∨¬(zM L2 (shP d (R1 .cond s).2).k).text∈zKx:=by
    rcases Nat.lt_or_ge (R1 .cond s).2.k m with hl | hl
    · rw[S.kind a1 hl,S.text a1 hl];exact c3
    · have:=hok.le
      show(zM L2 ((R1 .cond s).2.k+d)).kind≠5∨¬(zM L2 ((R1 .cond s).2.k+d)).text∈zKx
      rw[show(R1 .cond s).2.k=m by omega]
      by_cases h5:(zM L2 (m+d)).kind=5
      · exact .inr (S.stop.asgn h5)
      · exact .inl h5
   simp only[if_pos c3']
 simp only[if_neg c3]at hok⊢
 by_cases c4:zAQ (R1 .cond s).1.nd.kind=false
 · simp only[if_pos c4]at hok
   exact absurd hok.bad (zA3 (by decide))
 simp only[if_neg c4]at hok⊢
 have hl2:(R1 .cond s).2.k < L1.length - 1:=S.l1.lt x1.adv.hi (fun h0=>c3 (.inl (by rw[h0];decide)))
 have p2:=(K.post .assign (stepP (R1 .cond s).2) ⟨hl2,trivial⟩).adv
 obtain⟨ok1,l1⟩:=(hok.back p2).step
 rw[K.exact (q:=.cond) (s1:=s) rfl rfl (fun _ h=>by cases h) ⟨hp.1,trivial⟩ ha ok1]
 dsimp only
 rw[S.kind a1 l1,S.text a1 l1]
 simp only[if_neg c3,if_neg c4,zl]
 rw[K.exact (q:=.assign) (s1:=stepP (R1 .cond s).2) rfl rfl (fun _ h=>by cases h) ⟨hl2,trivial⟩ (Nat.le_succ_of_le a1) hok]
theorem zPK {l:List Tr} (S:Sim L1 L2 a d m lo) (K:Kn L1 L2 a d m lo R1 R2) (hp:Pre L1 (.body l) s) (ha:a < s.k) (hok:Ok m (zE L1 R1 (.body l) s).2):zE L2 R2 (.body l) (shP d s)=((zE L1 R1 (.body l) s).1,shP d (zE L1 R1 (.body l) s).2):=by
 have hok0:=hok
 unfold zE at hok⊢
 dsimp only at hok⊢
 have l0:s.k < m:=hok0.eat (zBA S K hp) hp.1
 by_cases g:(zM L1 s.k).nl=true
 · simp only[if_pos g]at hok
   have z:=zp hp.1
   have nn:zO L1 [61,62] (zc L1 s)=zc L1 (zc L1 s):=by
    unfold zO
    rw[if_neg]
    intro h
    have:=S.l1.on z.adv.hi h
    rw[zDU]at this
    omega
   rw[nn]at hok
   have z2:=zp (s:=zc L1 s) z.adv.hi
   by_cases c:onP L1 [123] (zc L1 (zc L1 s))=true
   · have:=S.l1.on z2.adv.hi c
     rw[zDU]at this
     omega
   · simp only[if_neg c]at hok
     exact absurd (hok.back (K.post .assign (zc L1 (zc L1 s)) ⟨z2.adv.hi,trivial⟩).adv).bad zv
 have g':¬(zM L2 (shP d s).k).nl=true:=by rw[S.line ha l0];exact g
 simp only[if_neg g,if_neg g']at hok⊢
 have x:=zS (w:=[61,62]) S.l1 hp.1
 have ha':=Nat.le_of_lt ha
 by_cases c:onP L1 [123] (zO L1 [61,62] s)=true
 · simp only[if_pos c]at hok⊢
   have p:Eat L1 (zO L1 [61,62] s) _:=K.post .block (zO L1 [61,62] s) ⟨x.adv.hi,trivial⟩
   have l3:=hok.eat p x.adv.hi
   obtain⟨n1,n2,ok1,l1⟩:=(hok.back p.adv).need
   rw[n2]at c hok l3⊢
   rw[S.need ha' l1 n1]
   simp only[if_pos (S.yes (Nat.le_succ_of_le ha') l3 c)]
   rw[K.exact (q:=.block) (s1:=stepP s) rfl rfl (fun _ h=>by cases h) ⟨(by have:=S.le1;show _+1≤_;omega),trivial⟩ (Nat.le_succ_of_le ha') hok]
 · simp only[if_neg c]at hok⊢
   have p:Eat L1 (zO L1 [61,62] s) _:=K.post .assign (zO L1 [61,62] s) ⟨x.adv.hi,trivial⟩
   have l3:=hok.eat p x.adv.hi
   obtain⟨n1,n2,ok1,l1⟩:=(hok.back p.adv).need
   rw[n2]at c hok l3⊢
   rw[S.need ha' l1 n1]
   simp only[if_neg (S.no1 (Nat.le_succ_of_le ha') l3 c)]
   rw[K.exact (q:=.assign) (s1:=stepP s) rfl rfl (fun _ h=>by cases h) ⟨(by have:=S.le1;show _+1≤_;omega),trivial⟩ (Nat.le_succ_of_le ha') hok]
theorem zPL (S:Sim L1 L2 a d m lo) (K:Kn L1 L2 a d m lo R1 R2) (hp:Pre L1 .cond s) (ha:a≤s.k) (hok:Ok m (zE L1 R1 .cond s).2):zE L2 R2 .cond (shP d s)=((zE L1 R1 .cond s).1,shP d (zE L1 R1 .cond s).2):=by
 unfold zE at hok⊢
 dsimp only at hok⊢
 have x1:Eat L1 s (R1 .either s).2:=K.post .either s ⟨hp.1,trivial⟩
 by_cases c:onP L1 [63] (R1 .either s).2=true
 · simp only[if_pos c]at hok⊢
   have hl:=S.l1.on x1.adv.hi c
   have p2:=(K.post .assign (stepP (R1 .either s).2) ⟨hl,trivial⟩).adv
   have y:=zS (w:=[58]) S.l1 p2.hi
   have p3:=(K.post .assign (zO L1 [58] (R1 .assign (stepP (R1 .either s).2)).2) ⟨y.adv.hi,trivial⟩).adv
   obtain⟨n1,n2,ok2,l2⟩:=(hok.back p3).need
   rw[n2]at hok⊢
   obtain⟨ok1,l1⟩:=(ok2.back p2).step
   have a1:=Nat.le_trans ha x1.adv.le
   have a2:a≤(R1 .assign (stepP (R1 .either s).2)).2.k:=Nat.le_trans a1 (Nat.le_trans (Nat.le_succ _) p2.le)
   rw[K.exact (q:=.either) (s1:=s) rfl rfl (fun _ h=>by cases h) ⟨hp.1,trivial⟩ ha ok1]
   dsimp only
   simp only[if_pos (S.yes (w:=[63]) a1 l1 c),zl]
   rw[K.exact (q:=.assign) (s1:=stepP (R1 .either s).2) rfl rfl (fun _ h=>by cases h) ⟨hl,trivial⟩ (Nat.le_succ_of_le a1) ok2]
   dsimp only
   rw[S.need a2 l2 n1,K.exact (q:=.assign) (s1:=stepP (R1 .assign (stepP (R1 .either s).2)).2) rfl rfl (fun _ h=>by cases h) ⟨(by have:=S.le1;show _+1≤_;omega),trivial⟩ (Nat.le_succ_of_le a2) hok]
 · simp only[if_neg c]at hok⊢
   rw[K.exact (q:=.either) (s1:=s) rfl rfl (fun _ h=>by cases h) ⟨hp.1,trivial⟩ ha hok]
   dsimp only
   simp only[if_neg (S.no (w:=[63]) (Nat.le_trans ha x1.adv.le) hok.le c (by decide))]
theorem zKR (S:Sim L1 L2 a d m lo) (K:Kn L1 L2 a d m lo R1 R2) (hp:Pre L1 .either s) (ha:a≤s.k) (hok:Ok m (zE L1 R1 .either s).2):zE L2 R2 .either (shP d s)=((zE L1 R1 .either s).1,shP d (zE L1 R1 .either s).2):=by
 unfold zE at hok⊢
 dsimp only at hok⊢
 have x1:Eat L1 s (R1 (.level 0) s).2:=K.post (.level 0) s ⟨hp.1,Nat.zero_le _⟩
 have a1:=Nat.le_trans ha x1.adv.le
 by_cases c:onP L1 [63,63] (R1 (.level 0) s).2=true
 · simp only[if_pos c]at hok⊢
   have p:=(K.post (.nullL (R1 (.level 0) s).1) (R1 (.level 0) s).2 ⟨x1.adv.hi,trivial⟩).adv
   by_cases c2:(onP L1 [124,124] (R1 (.nullL (R1 (.level 0) s).1) (R1 (.level 0) s).2).2 || onP L1 [38,38] (R1 (.nullL (R1 (.level 0) s).1) (R1 (.level 0) s).2).2)=true
   · simp only[if_pos c2]at hok
     exact absurd hok.bad zv
   simp only[if_neg c2]at hok⊢
   have ok1:=hok.back p
   have l1:(R1 (.level 0) s).2.k < m:=by
    rcases Nat.lt_or_ge (R1 (.level 0) s).2.k m with hl | hl
    · exact hl
    · exact absurd hok.le (by have:=K.nul (R1 (.level 0) s).1 (R1 (.level 0) s).2 ⟨x1.adv.hi,trivial⟩ c hok.bad;omega)
   rw[K.exact (q:=.level 0) (s1:=s) rfl rfl (fun _ h=>by cases h) ⟨hp.1,Nat.zero_le _⟩ ha ok1]
   dsimp only
   simp only[if_pos (S.yes (w:=[63,63]) a1 l1 c)]
   rw[K.exact (q:=.nullL (R1 (.level 0) s).1) (s1:=(R1 (.level 0) s).2) rfl rfl (fun _ h=>by cases h) ⟨x1.adv.hi,trivial⟩ a1 hok]
   dsimp only
   have a2:=Nat.le_trans a1 p.le
   have c3:¬(onP L2 [124,124] (shP d (R1 (.nullL (R1 (.level 0) s).1) (R1 (.level 0) s).2).2) || onP L2 [38,38] (shP d (R1 (.nullL (R1 (.level 0) s).1) (R1 (.level 0) s).2).2))=true:=by
    rw[Bool.or_eq_true]at c2⊢
    rintro(h | h)
    · exact S.no (w:=[124,124]) a2 hok.le (fun h2=>c2 (.inl h2)) (by decide) h
    · exact S.no (w:=[38,38]) a2 hok.le (fun h2=>c2 (.inr h2)) (by decide) h
   simp only[if_neg c3]
 · simp only[if_neg c]at hok⊢
   have p2:=(K.post (.both (R1 (.level 0) s).1) (R1 (.level 0) s).2 ⟨x1.adv.hi,trivial⟩).adv
   have p3:=(K.post (.orL (R1 (.both (R1 (.level 0) s).1) (R1 (.level 0) s).2).1) (R1 (.both (R1 (.level 0) s).1) (R1 (.level 0) s).2).2 ⟨p2.hi,trivial⟩).adv
   by_cases c2:onP L1 [63,63] (R1 (.orL (R1 (.both (R1 (.level 0) s).1) (R1 (.level 0) s).2).1) (R1 (.both (R1 (.level 0) s).1) (R1 (.level 0) s).2).2).2=true
   · simp only[if_pos c2]at hok
     exact absurd hok.bad zv
   simp only[if_neg c2]at hok⊢
   have ok2:=hok.back p3
   have ok1:=ok2.back p2
   rw[K.exact (q:=.level 0) (s1:=s) rfl rfl (fun _ h=>by cases h) ⟨hp.1,Nat.zero_le _⟩ ha ok1]
   dsimp only
   simp only[if_neg (S.no (w:=[63,63]) a1 ok1.le c (by decide))]
   rw[K.exact (q:=.both (R1 (.level 0) s).1) (s1:=(R1 (.level 0) s).2) rfl rfl (fun _ h=>by cases h) ⟨x1.adv.hi,trivial⟩ a1 ok2]
   dsimp only
   rw[K.exact (q:=.orL (R1 (.both (R1 (.level 0) s).1) (R1 (.level 0) s).2).1) (s1:=(R1 (.both (R1 (.level 0) s).1) (R1 (.level 0) s).2).2) rfl rfl (fun _ h=>by cases h) ⟨p2.hi,trivial⟩ (Nat.le_trans a1 p2.le) hok]
   dsimp only
   simp only[if_neg (S.no (w:=[63,63]) (Nat.le_trans a1 (Nat.le_trans p2.le p3.le)) hok.le c2 (by decide))]
theorem zM6 {x:Tr} (S:Sim L1 L2 a d m lo) (K:Kn L1 L2 a d m lo R1 R2) (hp:Pre L1 (.nullL x) s) (ha:a≤s.k) (hok:Ok m (zE L1 R1 (.nullL x) s).2):zE L2 R2 (.nullL x) (shP d s)=((zE L1 R1 (.nullL x) s).1,shP d (zE L1 R1 (.nullL x) s).2):=by
 unfold zE at hok⊢
 dsimp only at hok⊢
 by_cases c:onP L1 [63,63] s=true
 · simp only[if_pos c]at hok⊢
   have hl:=S.l1.on hp.1 c
   have p1:=(K.post (.level 0) (stepP s) ⟨hl,Nat.zero_le _⟩).adv
   have p2:=(K.post (.nullL (trN 47 [63,63] [x,(R1 (.level 0) (stepP s)).1])) (R1 (.level 0) (stepP s)).2 ⟨p1.hi,trivial⟩).adv
   have ok1:=hok.back p2
   obtain⟨ok0,l0⟩:=(ok1.back p1).step
   simp only[if_pos (S.yes ha l0 c),zl]
   rw[K.exact (q:=.level 0) (s1:=stepP s) rfl rfl (fun _ h=>by cases h) ⟨hl,Nat.zero_le _⟩ (Nat.le_succ_of_le ha) ok1]
   dsimp only
   rw[K.exact (q:=.nullL (trN 47 [63,63] [x,(R1 (.level 0) (stepP s)).1])) (s1:=(R1 (.level 0) (stepP s)).2) rfl rfl (fun _ h=>by cases h) ⟨p1.hi,trivial⟩ (Nat.le_trans (Nat.le_succ_of_le ha) p1.le) hok]
 · simp only[if_neg c,if_neg (S.no (w:=[63,63]) ha (by have:=hok;simp only[if_neg c]at this;exact this.le) c (by decide))]
theorem zPM {x:Tr} (S:Sim L1 L2 a d m lo) (K:Kn L1 L2 a d m lo R1 R2) (hp:Pre L1 (.both x) s) (ha:a≤s.k) (hok:Ok m (zE L1 R1 (.both x) s).2):zE L2 R2 (.both x) (shP d s)=((zE L1 R1 (.both x) s).1,shP d (zE L1 R1 (.both x) s).2):=by
 unfold zE at hok⊢
 dsimp only at hok⊢
 by_cases c:onP L1 [38,38] s=true
 · simp only[if_pos c]at hok⊢
   have hl:=S.l1.on hp.1 c
   have p1:=(K.post (.level 0) (stepP s) ⟨hl,Nat.zero_le _⟩).adv
   have p2:=(K.post (.both (trN 47 [38,38] [x,(R1 (.level 0) (stepP s)).1])) (R1 (.level 0) (stepP s)).2 ⟨p1.hi,trivial⟩).adv
   have ok1:=hok.back p2
   obtain⟨ok0,l0⟩:=(ok1.back p1).step
   simp only[if_pos (S.yes ha l0 c),zl]
   rw[K.exact (q:=.level 0) (s1:=stepP s) rfl rfl (fun _ h=>by cases h) ⟨hl,Nat.zero_le _⟩ (Nat.le_succ_of_le ha) ok1]
   dsimp only
   rw[K.exact (q:=.both (trN 47 [38,38] [x,(R1 (.level 0) (stepP s)).1])) (s1:=(R1 (.level 0) (stepP s)).2) rfl rfl (fun _ h=>by cases h) ⟨p1.hi,trivial⟩ (Nat.le_trans (Nat.le_succ_of_le ha) p1.le) hok]
 · simp only[if_neg c,if_neg (S.no (w:=[38,38]) ha (by have:=hok;simp only[if_neg c]at this;exact this.le) c (by decide))]
theorem zRN {x:Tr} (S:Sim L1 L2 a d m lo) (K:Kn L1 L2 a d m lo R1 R2) (hp:Pre L1 (.orL x) s) (ha:a≤s.k) (hok:Ok m (zE L1 R1 (.orL x) s).2):zE L2 R2 (.orL x) (shP d s)=((zE L1 R1 (.orL x) s).1,shP d (zE L1 R1 (.orL x) s).2):=by
 unfold zE at hok⊢
 dsimp only at hok⊢
 by_cases c:onP L1 [124,124] s=true
 · simp only[if_pos c]at hok⊢
   have hl:=S.l1.on hp.1 c
   have p1:=(K.post (.level 0) (stepP s) ⟨hl,Nat.zero_le _⟩).adv
   have p2:=(K.post (.both (R1 (.level 0) (stepP s)).1) (R1 (.level 0) (stepP s)).2 ⟨p1.hi,trivial⟩).adv
   have p3:=(K.post (.orL (trN 47 [124,124] [x,(R1 (.both (R1 (.level 0) (stepP s)).1) (R1 (.level 0) (stepP s)).2).1])) (R1 (.both (R1 (.level 0) (stepP s)).1) (R1 (.level 0) (stepP s)).2).2 ⟨p2.hi,trivial⟩).adv
   have ok2:=hok.back p3
   have ok1:=ok2.back p2
   obtain⟨ok0,l0⟩:=(ok1.back p1).step
   have a1:=Nat.le_trans (Nat.le_succ_of_le ha) p1.le
   simp only[if_pos (S.yes ha l0 c),zl]
   rw[K.exact (q:=.level 0) (s1:=stepP s) rfl rfl (fun _ h=>by cases h) ⟨hl,Nat.zero_le _⟩ (Nat.le_succ_of_le ha) ok1]
   dsimp only
   rw[K.exact (q:=.both (R1 (.level 0) (stepP s)).1) (s1:=(R1 (.level 0) (stepP s)).2) rfl rfl (fun _ h=>by cases h) ⟨p1.hi,trivial⟩ a1 ok2]
   dsimp only
   rw[K.exact (q:=.orL (trN 47 [124,124] [x,(R1 (.both (R1 (.level 0) (stepP s)).1) (R1 (.level 0) (stepP s)).2).1])) (s1:=(R1 (.both (R1 (.level 0) (stepP s)).1) (R1 (.level 0) (stepP s)).2).2) rfl rfl (fun _ h=>by cases h) ⟨p2.hi,trivial⟩ (Nat.le_trans a1 p2.le) hok]
 · simp only[if_neg c,if_neg (S.no (w:=[124,124]) ha (by have:=hok;simp only[if_neg c]at this;exact this.le) c (by decide))]
theorem zM7 {n:Nat} (_S:Sim L1 L2 a d m lo) (K:Kn L1 L2 a d m lo R1 R2) (hp:Pre L1 (.level n) s) (ha:a≤s.k) (hok:Ok m (zE L1 R1 (.level n) s).2):zE L2 R2 (.level n) (shP d s)=((zE L1 R1 (.level n) s).1,shP d (zE L1 R1 (.level n) s).2):=by
 have hn:n≤8:=hp.2
 unfold zE at hok⊢
 dsimp only at hok⊢
 by_cases c:n=8
 · simp only[if_pos c]at hok⊢
   rw[K.exact (q:=.unary) (s1:=s) rfl rfl (fun _ h=>by cases h) ⟨hp.1,trivial⟩ ha hok]
 · simp only[if_neg c]at hok⊢
   have x1:Eat L1 s (R1 (.level (n+1)) s).2:=K.post (.level (n+1)) s ⟨hp.1,(by show n+1≤8;omega)⟩
   have hp2:Pre L1 (.levelL n (R1 (.level (n+1)) s).1) (R1 (.level (n+1)) s).2:=⟨x1.adv.hi,(by show n < 8;omega)⟩
   have p2:=(K.post _ _ hp2).adv
   rw[K.exact (q:=.level (n+1)) (s1:=s) rfl rfl (fun _ h=>by cases h) ⟨hp.1,(by show n+1≤8;omega)⟩ ha (hok.back p2)]
   dsimp only
   rw[K.exact (q:=.levelL n (R1 (.level (n+1)) s).1) (s1:=(R1 (.level (n+1)) s).2) rfl rfl (fun _ h=>by cases h) hp2 (Nat.le_trans ha x1.adv.le) hok]
theorem zIA {t u:Tok} (h:zMz t u):zA5 u=zA5 t:=by
 unfold zA5
 rw[zBN h,h.1,h.2.1]
theorem zKS {n:Nat} {x:Tr} (S:Sim L1 L2 a d m lo) (K:Kn L1 L2 a d m lo R1 R2) (hp:Pre L1 (.levelL n x) s) (ha:a≤s.k) (hok:Ok m (zE L1 R1 (.levelL n x) s).2):zE L2 R2 (.levelL n x) (shP d s)=((zE L1 R1 (.levelL n x) s).1,shP d (zE L1 R1 (.levelL n x) s).2):=by
 have hn:n < 8:=hp.2
 unfold zE at hok⊢
 dsimp only at hok⊢
 by_cases c:zA5 (zM L1 s.k)=n
 · simp only[if_pos c]at hok⊢
   have hl:=S.l1.lt hp.1 (zCv (by omega))
   have p1:=(K.post (.level (n+1)) (stepP s) ⟨hl,(by show n+1≤8;omega)⟩).adv
   have p2:=(K.post (.levelL n (trN 46 (zM L1 s.k).text [x,(R1 (.level (n+1)) (stepP s)).1])) (R1 (.level (n+1)) (stepP s)).2 ⟨p1.hi,hn⟩).adv
   have ok1:=hok.back p2
   obtain⟨ok0,l0⟩:=(ok1.back p1).step
   have c':zA5 (zM L2 (shP d s).k)=n:=(zIA (S.tok _ ha l0)).trans c
   simp only[if_pos c',zl,S.text ha l0]
   rw[K.exact (q:=.level (n+1)) (s1:=stepP s) rfl rfl (fun _ h=>by cases h) ⟨hl,(by show n+1≤8;omega)⟩ (Nat.le_succ_of_le ha) ok1]
   dsimp only
   rw[K.exact (q:=.levelL n (trN 46 (zM L1 s.k).text [x,(R1 (.level (n+1)) (stepP s)).1])) (s1:=(R1 (.level (n+1)) (stepP s)).2) rfl rfl (fun _ h=>by cases h) ⟨p1.hi,hn⟩ (Nat.le_trans (Nat.le_succ_of_le ha) p1.le) hok]
 · simp only[if_neg c]at hok⊢
   have c':¬zA5 (zM L2 (shP d s).k)=n:=by
    rcases Nat.lt_or_ge s.k m with hl | hl
    · rw[show zA5 (zM L2 (shP d s).k)=zA5 (zM L1 s.k)from zIA (S.tok _ ha hl)];exact c
    · have:=hok.le
      show¬zA5 (zM L2 (s.k+d))=n
      rw[show s.k=m by omega,S.stop.binds]
      omega
   simp only[if_neg c']
theorem zM8 (S:Sim L1 L2 a d m lo) (K:Kn L1 L2 a d m lo R1 R2) (hp:Pre L1 .unary s) (ha:a≤s.k) (hok:Ok m (zE L1 R1 .unary s).2):zE L2 R2 .unary (shP d s)=((zE L1 R1 .unary s).1,shP d (zE L1 R1 .unary s).2):=by
 have hok0:=hok
 unfold zE at hok⊢
 dsimp only at hok⊢
 have l:s.k < m:=hok0.eat (zBA S K hp) hp.1
 rw[S.kind ha l,S.text ha l]
 by_cases c:((zM L1 s.k).kind=5∨(zM L1 s.k).kind=6)∧(zM L1 s.k).text∈zEm
 · simp only[if_pos c,zl]at hok⊢
   have hl:=S.l1.lt hp.1 (by omega)
   rw[K.exact (q:=.unary) (s1:=stepP s) rfl rfl (fun _ h=>by cases h) ⟨hl,trivial⟩ (Nat.le_succ_of_le ha) hok]
 simp only[if_neg c]at hok⊢
 by_cases c2:((zM L1 s.k).kind=5∨(zM L1 s.k).kind=6)∧(zM L1 s.k).text∈zCs
 · simp only[if_pos c2,zl]at hok⊢
   have hl:=S.l1.lt hp.1 (by omega)
   by_cases c3:(R1 .unary (stepP s)).2.bad=0∧zAQ (R1 .unary (stepP s)).1.nd.kind=false
   · simp only[if_pos c3]at hok
     exact absurd hok.bad zv
   simp only[if_neg c3]at hok⊢
   rw[K.exact (q:=.unary) (s1:=stepP s) rfl rfl (fun _ h=>by cases h) ⟨hl,trivial⟩ (Nat.le_succ_of_le ha) hok]
   dsimp only
   simp only[if_neg (show¬((shP d (R1 .unary (stepP s)).2).bad=0∧zAQ (R1 .unary (stepP s)).1.nd.kind=false)from c3)]
 simp only[if_neg c2]at hok⊢
 have x1:Eat L1 s (R1 .calls s).2:=K.post .calls s ⟨hp.1,trivial⟩
 have a1:=Nat.le_trans ha x1.adv.le
 by_cases c3:(zM L1 (R1 .calls s).2.k).kind=5∧(zM L1 (R1 .calls s).2.k).text∈zCs∧(zM L1 (R1 .calls s).2.k).nl=false
 · simp only[if_pos c3]at hok⊢
   by_cases c4:zAQ (R1 .calls s).1.nd.kind=false
   · simp only[if_pos c4]at hok
     exact absurd hok.bad zv
   simp only[if_neg c4]at hok⊢
   obtain⟨ok1,l1⟩:=hok.step
   have a2:=Nat.lt_of_le_of_lt ha (x1.lt hp.1 (fun hb=>hb ok1.bad))
   rw[K.exact (q:=.calls) (s1:=s) rfl rfl (fun _ h=>by cases h) ⟨hp.1,trivial⟩ ha ok1]
   dsimp only
   rw[S.kind a1 l1,S.text a1 l1,S.line a2 l1]
   simp only[if_pos c3,if_neg c4,zl]
 · simp only[if_neg c3]at hok⊢
   rw[K.exact (q:=.calls) (s1:=s) rfl rfl (fun _ h=>by cases h) ⟨hp.1,trivial⟩ ha hok]
   dsimp only
   have a2:=Nat.lt_of_le_of_lt ha (x1.lt hp.1 (fun hb=>hb hok.bad))
   have c3':¬((zM L2 (shP d (R1 .calls s).2).k).kind=5∧(zM L2 (shP d (R1 .calls s).2).k).text∈zCs∧(zM L2 (shP d (R1 .calls s).2).k).nl=false):=by
    rcases Nat.lt_or_ge (R1 .calls s).2.k m with hl | hl
    · rw[S.kind a1 hl,S.text a1 hl,S.line a2 hl];exact c3
    · have:=hok.le
      show¬((zM L2 ((R1 .calls s).2.k+d)).kind=5∧(zM L2 ((R1 .calls s).2.k+d)).text∈zCs∧(zM L2 ((R1 .calls s).2.k+d)).nl=false)
      rw[show(R1 .calls s).2.k=m by omega]
      rintro⟨h1,h2,h3⟩
      rw[S.stop.post h1 h2]at h3
      cases h3
   simp only[if_neg c3']
theorem zM9 (_S:Sim L1 L2 a d m lo) (K:Kn L1 L2 a d m lo R1 R2) (hp:Pre L1 .calls s) (ha:a≤s.k) (hok:Ok m (zE L1 R1 .calls s).2):zE L2 R2 .calls (shP d s)=((zE L1 R1 .calls s).1,shP d (zE L1 R1 .calls s).2):=by
 unfold zE at hok⊢
 dsimp only at hok⊢
 have x1:Eat L1 s (R1 .head s).2:=K.post .head s ⟨hp.1,trivial⟩
 have p2:=(K.post (.callsL (R1 .head s).1) (R1 .head s).2 ⟨x1.adv.hi,trivial⟩).adv
 rw[K.exact (q:=.head) (s1:=s) rfl rfl (fun _ h=>by cases h) ⟨hp.1,trivial⟩ ha (hok.back p2)]
 dsimp only
 rw[K.exact (q:=.callsL (R1 .head s).1) (s1:=(R1 .head s).2) rfl rfl (fun _ h=>by cases h) ⟨x1.adv.hi,trivial⟩ (Nat.le_trans ha x1.adv.le) hok]
theorem zKT {x:Tr} (S:Sim L1 L2 a d m lo) (K:Kn L1 L2 a d m lo R1 R2) (hp:Pre L1 (.callsL x) s) (ha:a≤s.k) (hok:Ok m (zE L1 R1 (.callsL x) s).2):zE L2 R2 (.callsL x) (shP d s)=((zE L1 R1 (.callsL x) s).1,shP d (zE L1 R1 (.callsL x) s).2):=by
 unfold zE at hok⊢
 dsimp only at hok⊢
 by_cases c:onP L1 [40] s=true
 · simp only[if_pos c]at hok⊢
   have hlt:=S.l1.on hp.1 c
   have x1:Eat L1 s (R1 .args s).2:=K.post .args s ⟨hp.1,hlt⟩
   have p2:=(K.post (.callsL (trK 50 (x::(R1 .args s).1.subs))) (R1 .args s).2 ⟨x1.adv.hi,trivial⟩).adv
   have ok1:=hok.back p2
   have l0:=ok1.eat x1 hp.1
   simp only[if_pos (S.yes ha l0 c)]
   rw[K.exact (q:=.args) (s1:=s) rfl rfl (fun _ h=>by cases h) ⟨hp.1,hlt⟩ ha ok1]
   dsimp only
   rw[K.exact (q:=.callsL (trK 50 (x::(R1 .args s).1.subs))) (s1:=(R1 .args s).2) rfl rfl (fun _ h=>by cases h) ⟨x1.adv.hi,trivial⟩ (Nat.le_trans ha x1.adv.le) hok]
 simp only[if_neg c]at hok⊢
 by_cases c2:onP L1 [46] s=true
 · simp only[if_pos c2]at hok⊢
   have hlt:=S.l1.on hp.1 c2
   by_cases c3:(zM L1 (stepP s).k).kind≠1∧(zM L1 (stepP s).k).kind≠6
   · simp only[if_pos c3]at hok
     exact absurd hok.bad zv
   simp only[if_neg c3]at hok⊢
   have hl2:(stepP s).k < L1.length - 1:=S.l1.lt hlt (by omega)
   have p:=(K.post (.callsL (trN 52 (zM L1 (stepP s).k).text [x])) (stepP (stepP s)) ⟨hl2,trivial⟩).adv
   obtain⟨ok1,l1⟩:=(hok.back p).step
   have l0:=ok1.step.2
   have a1:a≤(stepP s).k:=Nat.le_succ_of_le ha
   simp only[if_neg (S.no1 ha l0 c)]
   simp only[if_pos (S.yes ha l0 c2),zl,S.kind a1 l1,S.text a1 l1]
   simp only[if_neg c3]
   rw[K.exact (q:=.callsL (trN 52 (zM L1 (stepP s).k).text [x])) (s1:=stepP (stepP s)) rfl rfl (fun _ h=>by cases h) ⟨hl2,trivial⟩ (Nat.le_succ_of_le a1) hok]
 simp only[if_neg c2]at hok⊢
 by_cases c4:onP L1 [91] s=true
 · simp only[if_pos c4]at hok⊢
   have hlt:=S.l1.on hp.1 c4
   have p1:=(K.post .assign (stepP s) ⟨hlt,trivial⟩).adv
   have y:=zS (w:=[93]) S.l1 p1.hi
   have p2:=(K.post (.callsL (trK 53 [x,(R1 .assign (stepP s)).1])) (zO L1 [93] (R1 .assign (stepP s)).2) ⟨y.adv.hi,trivial⟩).adv
   obtain⟨n1,n2,ok2,l2⟩:=(hok.back p2).need
   obtain⟨ok0,l0⟩:=(ok2.back p1).step
   have a1:a≤(stepP s).k:=Nat.le_succ_of_le ha
   have a2:=Nat.le_trans a1 p1.le
   rw[n2]at hok⊢
   simp only[if_neg (S.no1 ha l0 c)]
   simp only[if_neg (S.no1 ha l0 c2),if_pos (S.yes ha l0 c4),zl]
   rw[K.exact (q:=.assign) (s1:=stepP s) rfl rfl (fun _ h=>by cases h) ⟨hlt,trivial⟩ a1 ok2]
   dsimp only
   rw[S.need a2 l2 n1,K.exact (q:=.callsL (trK 53 [x,(R1 .assign (stepP s)).1])) (s1:=stepP (R1 .assign (stepP s)).2) rfl rfl (fun _ h=>by cases h) ⟨(by have:=S.le1;show _+1≤_;omega),trivial⟩ (Nat.le_succ_of_le a2) hok]
 · simp only[if_neg c4]at hok⊢
   simp only[if_neg (S.no ha hok.le c (by decide))]
   simp only[if_neg (S.no ha hok.le c2 (by decide)),if_neg (S.no ha hok.le c4 (by decide))]
theorem zNA {x:Tr} (S:Sim L1 L2 a d m lo) (K:Kn L1 L2 a d m lo R1 R2) (hp:Pre L1 (.headL x) s) (ha:a≤s.k) (hok:Ok m (zE L1 R1 (.headL x) s).2):zE L2 R2 (.headL x) (shP d s)=((zE L1 R1 (.headL x) s).1,shP d (zE L1 R1 (.headL x) s).2):=by
 unfold zE at hok⊢
 dsimp only at hok⊢
 by_cases c2:onP L1 [46] s=true
 · simp only[if_pos c2]at hok⊢
   have hlt:=S.l1.on hp.1 c2
   by_cases c3:(zM L1 (stepP s).k).kind≠1∧(zM L1 (stepP s).k).kind≠6
   · simp only[if_pos c3]at hok
     exact absurd hok.bad zv
   simp only[if_neg c3]at hok⊢
   have hl2:(stepP s).k < L1.length - 1:=S.l1.lt hlt (by omega)
   have p:=(K.post (.headL (trN 52 (zM L1 (stepP s).k).text [x])) (stepP (stepP s)) ⟨hl2,trivial⟩).adv
   obtain⟨ok1,l1⟩:=(hok.back p).step
   have l0:=ok1.step.2
   have a1:a≤(stepP s).k:=Nat.le_succ_of_le ha
   simp only[if_pos (S.yes ha l0 c2),zl,S.kind a1 l1,S.text a1 l1]
   simp only[if_neg c3]
   rw[K.exact (q:=.headL (trN 52 (zM L1 (stepP s).k).text [x])) (s1:=stepP (stepP s)) rfl rfl (fun _ h=>by cases h) ⟨hl2,trivial⟩ (Nat.le_succ_of_le a1) hok]
 simp only[if_neg c2]at hok⊢
 by_cases c4:onP L1 [91] s=true
 · simp only[if_pos c4]at hok⊢
   have hlt:=S.l1.on hp.1 c4
   have p1:=(K.post .assign (stepP s) ⟨hlt,trivial⟩).adv
   have y:=zS (w:=[93]) S.l1 p1.hi
   have p2:=(K.post (.headL (trK 53 [x,(R1 .assign (stepP s)).1])) (zO L1 [93] (R1 .assign (stepP s)).2) ⟨y.adv.hi,trivial⟩).adv
   obtain⟨n1,n2,ok2,l2⟩:=(hok.back p2).need
   obtain⟨ok0,l0⟩:=(ok2.back p1).step
   have a1:a≤(stepP s).k:=Nat.le_succ_of_le ha
   have a2:=Nat.le_trans a1 p1.le
   rw[n2]at hok⊢
   simp only[if_neg (S.no1 ha l0 c2),if_pos (S.yes ha l0 c4),zl]
   rw[K.exact (q:=.assign) (s1:=stepP s) rfl rfl (fun _ h=>by cases h) ⟨hlt,trivial⟩ a1 ok2]
   dsimp only
   rw[S.need a2 l2 n1,K.exact (q:=.headL (trK 53 [x,(R1 .assign (stepP s)).1])) (s1:=stepP (R1 .assign (stepP s)).2) rfl rfl (fun _ h=>by cases h) ⟨(by have:=S.le1;show _+1≤_;omega),trivial⟩ (Nat.le_succ_of_le a2) hok]
 · simp only[if_neg c4]at hok⊢
   simp only[if_neg (S.no ha hok.le c2 (by decide)),if_neg (S.no ha hok.le c4 (by decide))]
theorem zPN (S:Sim L1 L2 a d m lo) (K:Kn L1 L2 a d m lo R1 R2) (hp:Pre L1 .head s) (ha:a≤s.k) (hok:Ok m (zE L1 R1 .head s).2):zE L2 R2 .head (shP d s)=((zE L1 R1 .head s).1,shP d (zE L1 R1 .head s).2):=by
 have hok0:=hok
 unfold zE at hok⊢
 dsimp only at hok⊢
 have l:s.k < m:=hok0.eat (zBA S K hp) hp.1
 by_cases c:onP L1 [110,101,119] s=true
 · simp only[if_pos c,if_pos (S.yes ha l c),zl]at hok⊢
   have hlt:=S.l1.on hp.1 c
   have p1:=(K.post .head (stepP s) ⟨hlt,trivial⟩).adv
   have p2:=(K.post (.headL (R1 .head (stepP s)).1) (R1 .head (stepP s)).2 ⟨p1.hi,trivial⟩).adv
   have a1:=Nat.le_trans (Nat.le_succ_of_le ha) p1.le
   have a2:=Nat.le_trans a1 p2.le
   by_cases c2:onP L1 [40] (R1 (.headL (R1 .head (stepP s)).1) (R1 .head (stepP s)).2).2=true
   · simp only[if_pos c2]at hok⊢
     have hl2:=S.l1.on p2.hi c2
     have x3:Eat L1 (R1 (.headL (R1 .head (stepP s)).1) (R1 .head (stepP s)).2).2 _:=K.post .args (R1 (.headL (R1 .head (stepP s)).1) (R1 .head (stepP s)).2).2 ⟨p2.hi,hl2⟩
     have ok2:=hok.back x3.adv
     have l2:=hok.eat x3 p2.hi
     rw[K.exact (q:=.head) (s1:=stepP s) rfl rfl (fun _ h=>by cases h) ⟨hlt,trivial⟩ (Nat.le_succ_of_le ha) (ok2.back p2)]
     dsimp only
     rw[K.exact (q:=.headL (R1 .head (stepP s)).1) (s1:=(R1 .head (stepP s)).2) rfl rfl (fun _ h=>by cases h) ⟨p1.hi,trivial⟩ a1 ok2]
     dsimp only
     simp only[if_pos (S.yes a2 l2 c2)]
     rw[K.exact (q:=.args) (s1:=(R1 (.headL (R1 .head (stepP s)).1) (R1 .head (stepP s)).2).2) rfl rfl (fun _ h=>by cases h) ⟨p2.hi,hl2⟩ a2 hok]
   · simp only[if_neg c2]at hok⊢
     rw[K.exact (q:=.head) (s1:=stepP s) rfl rfl (fun _ h=>by cases h) ⟨hlt,trivial⟩ (Nat.le_succ_of_le ha) (hok.back p2)]
     dsimp only
     rw[K.exact (q:=.headL (R1 .head (stepP s)).1) (s1:=(R1 .head (stepP s)).2) rfl rfl (fun _ h=>by cases h) ⟨p1.hi,trivial⟩ a1 hok]
     dsimp only
     simp only[if_neg (S.no a2 hok.le c2 (by decide))]
 · simp only[if_neg c,if_neg (S.no1 ha l c)]at hok⊢
   rw[K.exact (q:=.primary) (s1:=s) rfl rfl (fun _ h=>by cases h) ⟨hp.1,trivial⟩ ha hok]
theorem zPO (S:Sim L1 L2 a d m lo) (K:Kn L1 L2 a d m lo R1 R2) (hp:Pre L1 .args s) (ha:a≤s.k) (hok:Ok m (zE L1 R1 .args s).2):zE L2 R2 .args (shP d s)=((zE L1 R1 .args s).1,shP d (zE L1 R1 .args s).2):=by
 have hlt:s.k < L1.length - 1:=hp.2
 unfold zE at hok⊢
 dsimp only at hok⊢
 have x:=zS (w:=[40]) S.l1 hp.1
 have p:=(K.post (.list [41]) (zO L1 [40] s) ⟨x.adv.hi,trivial⟩).adv
 obtain⟨n1,n2,ok1,l1⟩:=(hok.back p).need
 rw[n2]at hok⊢
 rw[S.need ha l1 n1,K.exact (q:=.list [41]) (s1:=stepP s) rfl rfl (fun _ h=>by cases h) ⟨hlt,trivial⟩ (Nat.le_succ_of_le ha) hok]
theorem zPP (S:Sim L1 L2 a d m lo) (K:Kn L1 L2 a d m lo R1 R2) (hp:Pre L1 (.list w) s) (ha:a≤s.k) (hok:Ok m (zE L1 R1 (.list w) s).2):zE L2 R2 (.list w) (shP d s)=((zE L1 R1 (.list w) s).1,shP d (zE L1 R1 (.list w) s).2):=by
 have hok0:=hok
 unfold zE at hok⊢
 dsimp only at hok⊢
 have l:s.k < m:=hok0.eat (zBA S K hp) hp.1
 by_cases c:onP L1 w s=true
 · simp only[if_pos c,if_pos (S.yes ha l c),zl]
 · simp only[if_neg c,if_neg (S.no1 ha l c)]at hok⊢
   rw[K.exact (q:=.listL w []) (s1:=s) rfl rfl (fun _ h=>by cases h) ⟨hp.1,trivial⟩ ha hok]
theorem zNB {acc:List Tr} (S:Sim L1 L2 a d m lo) (K:Kn L1 L2 a d m lo R1 R2) (hp:Pre L1 (.listL w acc) s) (ha:a≤s.k) (hok:Ok m (zE L1 R1 (.listL w acc) s).2):zE L2 R2 (.listL w acc) (shP d s)=((zE L1 R1 (.listL w acc) s).1,shP d (zE L1 R1 (.listL w acc) s).2):=by
 unfold zE at hok⊢
 dsimp only at hok⊢
 have x1:Eat L1 s (R1 .assign s).2:=K.post .assign s ⟨hp.1,trivial⟩
 have a1:=Nat.le_trans ha x1.adv.le
 by_cases c:(R1 .assign s).2.bad≠0
 · simp only[if_pos c]at hok
   exact absurd hok.bad c
 simp only[if_neg c]at hok⊢
 by_cases c2:onP L1 w (R1 .assign s).2=true
 · simp only[if_pos c2]at hok⊢
   obtain⟨ok1,l1⟩:=hok.step
   rw[K.exact (q:=.assign) (s1:=s) rfl rfl (fun _ h=>by cases h) ⟨hp.1,trivial⟩ ha ok1]
   dsimp only
   simp only[if_neg (show¬(shP d (R1 .assign s).2).bad≠0 from c),if_pos (S.yes a1 l1 c2),zl]
 simp only[if_neg c2]at hok⊢
 have y:=zS (w:=[44]) S.l1 x1.adv.hi
 have p2:=(K.post (.listL w (acc++[(R1 .assign s).1])) (zO L1 [44] (R1 .assign s).2) ⟨y.adv.hi,trivial⟩).adv
 obtain⟨n1,n2,ok1,l1⟩:=(hok.back p2).need
 rw[n2]at hok⊢
 rw[K.exact (q:=.assign) (s1:=s) rfl rfl (fun _ h=>by cases h) ⟨hp.1,trivial⟩ ha ok1]
 dsimp only
 simp only[if_neg (show¬(shP d (R1 .assign s).2).bad≠0 from c),if_neg (S.no1 a1 l1 c2)]
 rw[S.need a1 l1 n1,K.exact (q:=.listL w (acc++[(R1 .assign s).1])) (s1:=stepP (R1 .assign s).2) rfl rfl (fun _ h=>by cases h) ⟨(by have:=S.le1;show _+1≤_;omega),trivial⟩ (Nat.le_succ_of_le a1) hok]
theorem zPQ {acc:List Tr} (S:Sim L1 L2 a d m lo) (K:Kn L1 L2 a d m lo R1 R2) (hp:Pre L1 (.objL acc) s) (ha:a≤s.k) (hok:Ok m (zE L1 R1 (.objL acc) s).2):zE L2 R2 (.objL acc) (shP d s)=((zE L1 R1 (.objL acc) s).1,shP d (zE L1 R1 (.objL acc) s).2):=by
 unfold zE at hok⊢
 dsimp only at hok⊢
 have x1:Eat L1 s (R1 .prop s).2:=K.post .prop s ⟨hp.1,trivial⟩
 have a1:=Nat.le_trans ha x1.adv.le
 by_cases c:(R1 .prop s).2.bad≠0
 · simp only[if_pos c]at hok
   exact absurd hok.bad c
 simp only[if_neg c]at hok⊢
 by_cases c2:onP L1 [125] (R1 .prop s).2=true
 · simp only[if_pos c2]at hok⊢
   obtain⟨ok1,l1⟩:=hok.step
   rw[K.exact (q:=.prop) (s1:=s) rfl rfl (fun _ h=>by cases h) ⟨hp.1,trivial⟩ ha ok1]
   dsimp only
   simp only[if_neg (show¬(shP d (R1 .prop s).2).bad≠0 from c),if_pos (S.yes a1 l1 c2),zl]
 simp only[if_neg c2]at hok⊢
 have y:=zS (w:=[44]) S.l1 x1.adv.hi
 have p2:=(K.post (.objL (acc++[(R1 .prop s).1])) (zO L1 [44] (R1 .prop s).2) ⟨y.adv.hi,trivial⟩).adv
 obtain⟨n1,n2,ok1,l1⟩:=(hok.back p2).need
 rw[n2]at hok⊢
 rw[K.exact (q:=.prop) (s1:=s) rfl rfl (fun _ h=>by cases h) ⟨hp.1,trivial⟩ ha ok1]
 dsimp only
 simp only[if_neg (show¬(shP d (R1 .prop s).2).bad≠0 from c),if_neg (S.no1 a1 l1 c2)]
 rw[S.need a1 l1 n1,K.exact (q:=.objL (acc++[(R1 .prop s).1])) (s1:=stepP (R1 .prop s).2) rfl rfl (fun _ h=>by cases h) ⟨(by have:=S.le1;show _+1≤_;omega),trivial⟩ (Nat.le_succ_of_le a1) hok]
theorem zKU (S:Sim L1 L2 a d m lo) (K:Kn L1 L2 a d m lo R1 R2) (hp:Pre L1 .object s) (ha:a≤s.k) (hok:Ok m (zE L1 R1 .object s).2):zE L2 R2 .object (shP d s)=((zE L1 R1 .object s).1,shP d (zE L1 R1 .object s).2):=by
 have hok0:=hok
 unfold zE at hok⊢
 dsimp only at hok⊢
 have l:s.k < m:=hok0.eat (zBA S K hp) hp.1
 by_cases c:onP L1 [125] s=true
 · simp only[if_pos c,if_pos (S.yes ha l c),zl]
 · simp only[if_neg c,if_neg (S.no1 ha l c)]at hok⊢
   rw[K.exact (q:=.objL []) (s1:=s) rfl rfl (fun _ h=>by cases h) ⟨hp.1,trivial⟩ ha hok]
theorem zKV {t u:Tok} (h:zMz t u):zAb u=zAb t:=by
 unfold zAb
 rw[h.1,h.2.1,h.2.2.1,h.2.2.2.2.1]
theorem zPR (S:Sim L1 L2 a d m lo) (K:Kn L1 L2 a d m lo R1 R2) (hp:Pre L1 .prop s) (ha:a≤s.k) (hok:Ok m (zE L1 R1 .prop s).2):zE L2 R2 .prop (shP d s)=((zE L1 R1 .prop s).1,shP d (zE L1 R1 .prop s).2):=by
 have hok0:=hok
 unfold zE at hok⊢
 dsimp only at hok⊢
 have l:s.k < m:=hok0.eat (zBA S K hp) hp.1
 rw[show zAb (zM L2 (shP d s).k)=zAb (zM L1 s.k)from zKV (S.tok _ ha l),S.kind ha l,S.text ha l]
 cases hs:zAb (zM L1 s.k)with
 | none=>
  rw[hs]at hok
  exact absurd hok.bad zv
 | some u=>
  rw[hs]at hok
  dsimp only at hok⊢
  have hlt:=S.l1.lt hp.1 (zCc hs)
  have a1:a≤(stepP s).k:=Nat.le_succ_of_le ha
  by_cases c:(zM L1 s.k).kind=1∧onP L1 [58] (stepP s)=false
  · simp only[if_pos c,zl]at hok⊢
    have c':(zM L1 s.k).kind=1∧onP L2 [58] (shP d (stepP s))=false:=⟨c.1,by
     have:=S.no (w:=[58]) a1 hok.le (by rw[c.2];decide) (by decide)
     simpa using this⟩
    simp only[if_pos c']
  simp only[if_neg c,zl]at hok⊢
  have y:=zS (w:=[58]) (s:=stepP s) S.l1 hlt
  have p1:=(K.post .assign (zO L1 [58] (stepP s)) ⟨y.adv.hi,trivial⟩).adv
  obtain⟨n1,n2,ok1,l1⟩:=(hok.back p1).need
  rw[n2]at hok⊢
  have c':¬((zM L1 s.k).kind=1∧onP L2 [58] (shP d (stepP s))=false):=fun h=>by
   rw[S.yes a1 l1 n1]at h
   cases h.2
  simp only[if_neg c']
  rw[S.need a1 l1 n1,K.exact (q:=.assign) (s1:=stepP (stepP s)) rfl rfl (fun _ h=>by cases h) ⟨(by have:=S.le1;show _+1≤_;omega),trivial⟩ (Nat.le_succ_of_le a1) hok]
theorem zHQ (S:Sim L1 L2 a d m lo) (K:Kn L1 L2 a d m lo R1 R2) (hp:Pre L1 .primary s) (ha:a≤s.k) (hok:Ok m (zE L1 R1 .primary s).2):zE L2 R2 .primary (shP d s)=((zE L1 R1 .primary s).1,shP d (zE L1 R1 .primary s).2):=by
 have hok0:=hok
 unfold zE at hok⊢
 dsimp only at hok⊢
 have l:s.k < m:=hok0.eat (zBA S K hp) hp.1
 have et:=S.tok _ ha l
 rw[S.kind ha l,S.text ha l,show(zM L2 (shP d s).k).nk=(zM L1 s.k).nk from et.2.2.2.1.symm,show(zM L2 (shP d s).k).nn=(zM L1 s.k).nn from et.2.2.2.2.1.symm,show(zM L2 (shP d s).k).mag=(zM L1 s.k).mag from et.2.2.2.2.2.symm,show(zM L2 (shP d s).k).str=(zM L1 s.k).str from et.2.2.1.symm]
 by_cases c0:(zM L1 s.k).kind=0
 · simp only[if_pos c0]at hok
   exact absurd hok.bad zv
 simp only[if_neg c0]at hok⊢
 have hlt:=S.l1.lt hp.1 c0
 have a1:a≤(stepP s).k:=Nat.le_succ_of_le ha
 by_cases k0:(zM L1 s.k).kind=2
 · simp only[if_pos k0,zl]
 simp only[if_neg k0]at hok⊢
 by_cases k1:(zM L1 s.k).kind=3
 · simp only[if_pos k1,zl]
 simp only[if_neg k1]at hok⊢
 by_cases k2:(zM L1 s.k).kind=4
 · simp only[if_pos k2,zl]
 simp only[if_neg k2]at hok⊢
 by_cases k3:(zM L1 s.k).kind=1
 · simp only[if_pos k3,zl]
 simp only[if_neg k3]at hok⊢
 by_cases k4:(zM L1 s.k).text=[116,114,117,101]
 · simp only[if_pos k4,zl]
 simp only[if_neg k4]at hok⊢
 by_cases k5:(zM L1 s.k).text=[102,97,108,115,101]
 · simp only[if_pos k5,zl]
 simp only[if_neg k5]at hok⊢
 by_cases k6:(zM L1 s.k).text=[110,117,108,108]
 · simp only[if_pos k6,zl]
 simp only[if_neg k6]at hok⊢
 by_cases k7:(zM L1 s.k).text=[116,104,105,115]
 · simp only[if_pos k7,zl]
 simp only[if_neg k7]at hok⊢
 by_cases c9:(zM L1 s.k).text=[91]
 · simp only[if_pos c9,zl]at hok⊢
   rw[K.exact (q:=.list [93]) (s1:=stepP s) rfl rfl (fun _ h=>by cases h) ⟨hlt,trivial⟩ a1 hok]
 simp only[if_neg c9]at hok⊢
 by_cases d0:(zM L1 s.k).text=[123]
 · simp only[if_pos d0,zl]at hok⊢
   rw[K.exact (q:=.object) (s1:=stepP s) rfl rfl (fun _ h=>by cases h) ⟨hlt,trivial⟩ a1 hok]
 simp only[if_neg d0]at hok⊢
 by_cases d1:(zM L1 s.k).text=[102,117,110,99,116,105,111,110]
 · simp only[if_pos d1,zl]at hok⊢
   by_cases d2:(zM L1 (stepP s).k).kind=1
   · simp only[if_pos d2]at hok⊢
     have y:=zAO (s:=stepP s) S.l1 hlt
     have p:=(K.post (.func 41 (zg L1 (stepP s)).1) (zg L1 (stepP s)).2 ⟨y.adv.hi,trivial⟩).adv
     obtain⟨m1,m2,ok1,l1⟩:=(hok.back p).name
     rw[m2]at hok⊢
     dsimp only at hok⊢
     have d2':(zM L2 (shP d (stepP s)).k).kind=1:=(S.kind a1 l1).trans d2
     simp only[if_pos d2']
     rw[S.name a1 l1 m1]
     dsimp only
     rw[K.exact (q:=.func 41 (zM L1 (stepP s).k).text) (s1:=stepP (stepP s)) rfl rfl (fun _ h=>by cases h) ⟨(by have:=S.le1;show _+1≤_;omega),trivial⟩ (Nat.le_succ_of_le a1) hok]
   · simp only[if_neg d2]at hok⊢
     have x:Eat L1 (stepP s) _:=K.post (.func 41 []) (stepP s) ⟨hlt,trivial⟩
     have l1:=hok.eat x hlt
     have d2':¬(zM L2 (shP d (stepP s)).k).kind=1:=by rw[S.kind a1 l1];exact d2
     simp only[if_neg d2']
     rw[K.exact (q:=.func 41 []) (s1:=stepP s) rfl rfl (fun _ h=>by cases h) ⟨hlt,trivial⟩ a1 hok]
 simp only[if_neg d1]at hok⊢
 by_cases d3:(zM L1 s.k).text=[40]
 · simp only[if_pos d3,zl]at hok⊢
   have p1:=(K.post .assign (stepP s) ⟨hlt,trivial⟩).adv
   obtain⟨n1,n2,ok1,l1⟩:=hok.need
   rw[K.exact (q:=.assign) (s1:=stepP s) rfl rfl (fun _ h=>by cases h) ⟨hlt,trivial⟩ a1 ok1,n2]
   dsimp only
   rw[S.need (Nat.le_trans a1 p1.le) l1 n1]
 simp only[if_neg d3]at hok
 refine absurd hok.bad ?_
 show(if _ then _ else _:Ps).bad≠0
 split
 · exact zA3 (by decide)
 · exact zv
def Loo (L2:List Tok) (d m:Nat) (lo:Bool) (r1 r2:Tr×Ps):Prop:=
 (r1.2.k < m→r2=(r1.1,shP d r1.2))∧(r1.2.k=m→lo=true→r2=(r1.1,shP d r1.2)∨(isT (zM L2 (m+d)) [59]=true∧r2=(r1.1,stepP (shP d r1.2))))
theorem Loo.same {r1 r2:Tr×Ps} (h:r2=(r1.1,shP d r1.2)):Loo L2 d m lo r1 r2:=⟨fun _=>h,fun _ _=>.inl h⟩
theorem Loo.map {r1 r2:Tr×Ps} (h:Loo L2 d m lo r1 r2) (F:Tr→Tr):Loo L2 d m lo (F r1.1,r1.2) (F r2.1,r2.2):=by
 refine⟨fun x=>?_,fun x y=>?_⟩
 · rw[h.1 x]
 · rcases h.2 x y with h2 | ⟨h2,h3⟩
   · left;rw[h2]
   · right;exact⟨h2,by rw[h3]⟩
theorem Kn.loo (K:Kn L1 L2 a d m lo R1 R2) {q:Ph} {s1:Ps} (h0:isS q=true) (h1:zH8 q=false) (h2:∀acc,q≠.program acc) (hp:Pre L1 q s1) (ha:a≤s1.k) (hok:Ok m (R1 q s1).2):Loo L2 d m lo (R1 q s1) (R2 q (shP d s1)):=by
 have:=K.clm q s1 h2 hp ha (fun h=>by rw[h1]at h;cases h) hok
 unfold zSb at this
 rwa [if_pos h0]at this
theorem Sim.ended (S:Sim L1 L2 a d m lo) (ha:a < s.k) (hm:s.k < m):zBu L2 (shP d s)=zBu L1 s:=by
 unfold zBu
 rw[S.line ha hm,S.kind (Nat.le_of_lt ha) hm,S.on (Nat.le_of_lt ha) hm,S.on (Nat.le_of_lt ha) hm]
theorem zCO (S:Sim L1 L2 a d m lo) (ha:a < s.k) (hok:Ok m (zBC L1 s)):Ok m s∧∀t:Tr,Loo L2 d m lo (t,zBC L1 s) (t,zBC L2 (shP d s)):=by
 have ha':=Nat.le_of_lt ha
 by_cases c:onP L1 [59] s=true
 · have e1:zBC L1 s=stepP s:=by unfold zBC;rw[if_pos c]
   rw[e1]at hok⊢
   obtain⟨ok1,l1⟩:=hok.step
   have e2:zBC L2 (shP d s)=shP d (stepP s):=by unfold zBC;rw[if_pos (S.yes ha' l1 c),zl]
   exact⟨ok1,fun t=>Loo.same (by rw[e2])⟩
 by_cases c2:(onP L1 [125] s || (zM L1 s.k).kind==0 || (zM L1 s.k).nl)=true
 · have e1:zBC L1 s=s:=by unfold zBC;rw[if_neg c,if_pos c2]
   rw[e1]at hok⊢
   refine⟨hok,fun t=>⟨fun hk=>?_,fun hk hlo=>?_⟩⟩
   · have hk':s.k < m:=hk
     have:zBC L2 (shP d s)=shP d s:=by
      unfold zBC
      rw[if_neg (S.no1 ha' hk' c),S.on ha' hk',S.kind ha' hk',S.line ha hk',if_pos c2]
     rw[this]
   · have hk':s.k=m:=hk
     have ek:(shP d s).k=m+d:=by show s.k+d=_;rw[hk']
     rcases S.loose hlo with⟨h1,_⟩ | ⟨h1,h2⟩
     · right
       refine⟨h1,?_⟩
       have:zBC L2 (shP d s)=stepP (shP d s):=by
        unfold zBC onP
        rw[ek,if_pos h1]
       rw[this]
     · left
       have:zBC L2 (shP d s)=shP d s:=by
        unfold zBC onP
        rw[ek,if_neg (by rw[h1];decide),if_pos]
        rcases h2 with h2 | h2 | h2<;>rw[h2]<;>simp
       rw[this]
 · have e1:zBC L1 s=zc L1 s:=by unfold zBC;rw[if_neg c,if_neg c2]
   rw[e1]at hok
   exact absurd hok.bad zv
theorem zPS (S:Sim L1 L2 a d m lo) (K:Kn L1 L2 a d m lo R1 R2) (hp:Pre L1 .item s) (ha:a≤s.k) (hok:Ok m (zE L1 R1 .item s).2):Loo L2 d m lo (zE L1 R1 .item s) (zE L2 R2 .item (shP d s)):=by
 have hok0:=hok
 unfold zE at hok⊢
 dsimp only at hok⊢
 have l:s.k < m:=by
  have:=zBA S K hp
  exact hok0.eat this hp.1
 by_cases c:(onP L1 [108,101,116] s || onP L1 [99,111,110,115,116] s)=true
 · simp only[if_pos c,S.on ha l]at hok⊢
   have x1:Eat L1 s (R1 .declares s).2:=K.post .declares s ⟨hp.1,trivial⟩
   have y:=zAd S.l1 x1.adv.hi
   have ok1:=hok.back y
   obtain⟨_,h⟩:=zCO S (Nat.lt_of_le_of_lt ha (x1.lt hp.1 (fun hb=>hb ok1.bad))) hok
   rw[K.exact (q:=.declares) (s1:=s) rfl rfl (fun _ h=>by cases h) ⟨hp.1,trivial⟩ ha ok1]
   exact h _
 simp only[if_neg c,S.on ha l]at hok⊢
 by_cases c2:onP L1 [102,117,110,99,116,105,111,110] s=true
 · simp only[if_pos c2,zl]at hok⊢
   have hlt:=S.l1.on hp.1 c2
   have y:=zAO (s:=stepP s) S.l1 hlt
   have p:=(K.post (.func 19 (zg L1 (stepP s)).1) (zg L1 (stepP s)).2 ⟨y.adv.hi,trivial⟩).adv
   obtain⟨m1,m2,ok1,l1⟩:=(hok.back p).name
   have a1:a≤(stepP s).k:=Nat.le_succ_of_le ha
   rw[m2]at hok⊢
   rw[S.name a1 l1 m1]
   dsimp only at hok⊢
   exact Loo.same (K.exact (q:=.func 19 (zM L1 (stepP s).k).text) (s1:=stepP (stepP s)) rfl rfl (fun _ h=>by cases h) ⟨(by have:=S.le1;show _+1≤_;omega),trivial⟩ (Nat.le_succ_of_le a1) hok)
 simp only[if_neg c2]at hok⊢
 exact K.loo (q:=.statement) (s1:=s) rfl rfl (fun _ h=>by cases h) ⟨hp.1,trivial⟩ ha hok
theorem zFp (S:Sim L1 L2 a d m lo) (K:Kn L1 L2 a d m lo R1 R2) (hp:Pre L1 .statement s) (ha:a≤s.k) (hok:Ok m (zE L1 R1 .statement s).2):Loo L2 d m lo (zE L1 R1 .statement s) (zE L2 R2 .statement (shP d s)):=by
 have hok0:=hok
 unfold zE at hok⊢
 dsimp only at hok⊢
 have l:s.k < m:=by
  have:=zBA S K hp
  exact hok0.eat this hp.1
 rw[S.kind ha l,S.text ha l,S.on ha l,S.on ha l]
 by_cases c:(zM L1 s.k).kind=1∧isT (zAC L1 s.k 1) [58]=true
 · simp only[if_pos c,zl]at hok⊢
   have hlt:=S.l1.lt hp.1 (by rw[c.1];decide)
   have h2:=zFY S.l1 hlt c.2
   have p:Eat L1 (stepP (stepP s)) _:=K.post .statement (stepP (stepP s)) ⟨h2,trivial⟩
   have l2:s.k+1+1 < m:=hok.eat p h2
   have c':(zM L1 s.k).kind=1∧isT (zAC L2 (shP d s).k 1) [58]=true:=⟨c.1,(S.ahead ha (by omega)).1.trans c.2⟩
   simp only[if_pos c']
   exact(K.loo (q:=.statement) (s1:=stepP (stepP s)) rfl rfl (fun _ h=>by cases h) ⟨h2,trivial⟩ (Nat.le_succ_of_le (Nat.le_succ_of_le ha)) hok).map (fun t=>trN 18 (zM L1 s.k).text [t])
 have c':¬((zM L1 s.k).kind=1∧isT (zAC L2 (shP d s).k 1) [58]=true):=by
  rintro⟨h1,h2⟩
  rcases Nat.lt_or_ge (s.k+1) m with hl | hl
  · exact c ⟨h1,(S.ahead ha hl).1.symm.trans h2⟩
  · rw[S.ahead_no (by omega) (by decide)]at h2
    cases h2
 simp only[if_neg c,if_neg c']at hok⊢
 by_cases c2:(zM L1 s.k).kind=6
 · simp only[if_pos c2]at hok⊢
   have hlt:=S.l1.lt hp.1 (by rw[c2];decide)
   exact K.loo (q:=.word (zM L1 s.k).text) (s1:=s) rfl rfl (fun _ h=>by cases h) ⟨hp.1,hlt⟩ ha hok
 simp only[if_neg c2]at hok⊢
 by_cases c3:onP L1 [59] s=true
 · simp only[if_pos c3,zl]at hok⊢
   exact Loo.same rfl
 simp only[if_neg c3]at hok⊢
 by_cases c4:onP L1 [123] s=true
 · simp only[if_pos c4]at hok⊢
   exact Loo.same (K.exact (q:=.block) (s1:=s) rfl rfl (fun _ h=>by cases h) ⟨hp.1,trivial⟩ ha hok)
 simp only[if_neg c4]at hok⊢
 exact K.loo (q:=.simple) (s1:=s) rfl rfl (fun _ h=>by cases h) ⟨hp.1,trivial⟩ ha hok
theorem zKW (S:Sim L1 L2 a d m lo) (K:Kn L1 L2 a d m lo R1 R2) (hp:Pre L1 .simple s) (ha:a≤s.k) (hok:Ok m (zE L1 R1 .simple s).2):Loo L2 d m lo (zE L1 R1 .simple s) (zE L2 R2 .simple (shP d s)):=by
 unfold zE at hok⊢
 dsimp only at hok⊢
 have x1:Eat L1 s (R1 .assign s).2:=K.post .assign s ⟨hp.1,trivial⟩
 have ok1:=hok.back (zAd S.l1 x1.adv.hi)
 obtain⟨_,h⟩:=zCO S (Nat.lt_of_le_of_lt ha (x1.lt hp.1 (fun hb=>hb ok1.bad))) hok
 rw[K.exact (q:=.assign) (s1:=s) rfl rfl (fun _ h=>by cases h) ⟨hp.1,trivial⟩ ha ok1]
 exact h _
theorem zPT {k:Int} (S:Sim L1 L2 a d m lo) (_K:Kn L1 L2 a d m lo R1 R2) (hp:Pre L1 (.jump k) s) (ha:a≤s.k) (hok:Ok m (zE L1 R1 (.jump k) s).2):Loo L2 d m lo (zE L1 R1 (.jump k) s) (zE L2 R2 (.jump k) (shP d s)):=by
 have hlt:s.k < L1.length - 1:=hp.2
 unfold zE at hok⊢
 dsimp only at hok⊢
 have a0:a < (stepP s).k:=Nat.lt_succ_of_le ha
 rw[zl]
 by_cases c:(zM L1 (stepP s).k).kind=1∧(zM L1 (stepP s).k).nl=false
 · simp only[if_pos c]at hok⊢
   have y:=zAO (s:=stepP s) S.l1 hlt
   obtain⟨m1,m2,ok1,l1⟩:=(hok.back (zAd S.l1 y.adv.hi)).name
   rw[m2]at hok⊢
   have c':(zM L2 (shP d (stepP s)).k).kind=1∧(zM L2 (shP d (stepP s)).k).nl=false:=⟨(S.kind (Nat.le_of_lt a0) l1).trans c.1,(S.line a0 l1).trans c.2⟩
   simp only[if_pos c']
   rw[S.name (Nat.le_of_lt a0) l1 m1]
   dsimp only at hok⊢
   exact(zCO S (s:=stepP (stepP s)) (Nat.lt_succ_of_lt a0) hok).2 _
 · simp only[if_neg c]at hok⊢
   obtain⟨ok1,h⟩:=zCO S (s:=stepP s) a0 hok
   have c':¬((zM L2 (shP d (stepP s)).k).kind=1∧(zM L2 (shP d (stepP s)).k).nl=false):=by
    rcases Nat.lt_or_ge (stepP s).k m with hl | hl
    · rw[S.kind (Nat.le_of_lt a0) hl,S.line a0 hl];exact c
    · have:=ok1.le
      show¬((zM L2 ((stepP s).k+d)).kind=1∧(zM L2 ((stepP s).k+d)).nl=false)
      rw[show(stepP s).k=m by omega]
      exact fun h=>S.stop.name h.1
   simp only[if_neg c']
   exact h _
theorem zIB (K:Kn L1 L2 a d m lo R1 R2) {e:Tr×Ps} (hi:e.2.k≤L1.length - 1) (ha:a≤e.2.k) (hok:Ok m (trK 10 [e.1,(R1 (.clause [59]) e.2).1,(R1 (.clause [41]) (R1 (.clause [59]) e.2).2).1,(R1 .statement (R1 (.clause [41]) (R1 (.clause [59]) e.2).2).2).1],(R1 .statement (R1 (.clause [41]) (R1 (.clause [59]) e.2).2).2).2).2):
 Ok m e.2∧Loo L2 d m lo (trK 10 [e.1,(R1 (.clause [59]) e.2).1,(R1 (.clause [41]) (R1 (.clause [59]) e.2).2).1,(R1 .statement (R1 (.clause [41]) (R1 (.clause [59]) e.2).2).2).1],(R1 .statement (R1 (.clause [41]) (R1 (.clause [59]) e.2).2).2).2) (trK 10 [(e.1,shP d e.2).1,(R2 (.clause [59]) (e.1,shP d e.2).2).1,(R2 (.clause [41]) (R2 (.clause [59]) (e.1,shP d e.2).2).2).1,(R2 .statement (R2 (.clause [41]) (R2 (.clause [59]) (e.1,shP d e.2).2).2).2).1],(R2 .statement (R2 (.clause [41]) (R2 (.clause [59]) (e.1,shP d e.2).2).2).2).2):=by
 dsimp only at hok⊢
 have p1:=(K.post (.clause [59]) e.2 ⟨hi,trivial⟩).adv
 have p2:=(K.post (.clause [41]) (R1 (.clause [59]) e.2).2 ⟨p1.hi,trivial⟩).adv
 have p3:=(K.post .statement (R1 (.clause [41]) (R1 (.clause [59]) e.2).2).2 ⟨p2.hi,trivial⟩).adv
 have ok2:=hok.back p3
 have ok1:=ok2.back p2
 have a1:=Nat.le_trans ha p1.le
 rw[K.exact (q:=.clause [59]) (s1:=e.2) rfl rfl (fun _ h=>by cases h) ⟨hi,trivial⟩ ha ok1]
 dsimp only
 rw[K.exact (q:=.clause [41]) (s1:=(R1 (.clause [59]) e.2).2) rfl rfl (fun _ h=>by cases h) ⟨p1.hi,trivial⟩ a1 ok2]
 dsimp only
 exact⟨ok1.back p1,(K.loo (q:=.statement) (s1:=(R1 (.clause [41]) (R1 (.clause [59]) e.2).2).2) rfl rfl (fun _ h=>by cases h) ⟨p2.hi,trivial⟩ (Nat.le_trans a1 p2.le) hok).map (fun t=>trK 10 [e.1,(R1 (.clause [59]) e.2).1,(R1 (.clause [41]) (R1 (.clause [59]) e.2).2).1,t])⟩
theorem zPU (S:Sim L1 L2 a d m lo) (K:Kn L1 L2 a d m lo R1 R2) (hp:Pre L1 .loop s) (ha:a≤s.k) (hok:Ok m (zE L1 R1 .loop s).2):Loo L2 d m lo (zE L1 R1 .loop s) (zE L2 R2 .loop (shP d s)):=by
 have hlt:s.k < L1.length - 1:=hp.2
 unfold zE at hok⊢
 dsimp only at hok⊢
 have x1:=zS (w:=[40]) (s:=stepP s) S.l1 hlt
 have a0:a≤(stepP s).k:=Nat.le_succ_of_le ha
 rw[zl]
 by_cases c:(onP L1 [108,101,116] (zO L1 [40] (stepP s)) || onP L1 [99,111,110,115,116] (zO L1 [40] (stepP s)))=true
 · simp only[if_pos c]at hok⊢
   have p1:Eat L1 (zO L1 [40] (stepP s)) _:=K.post .declares (zO L1 [40] (stepP s)) ⟨x1.adv.hi,trivial⟩
   have y:=zS (w:=[59]) S.l1 p1.adv.hi
   obtain⟨ok1,h⟩:=zIB K (e:=((R1 .declares (zO L1 [40] (stepP s))).1,zO L1 [59] (R1 .declares (zO L1 [40] (stepP s))).2)) y.adv.hi (Nat.le_trans a0 (Nat.le_trans x1.adv.le (Nat.le_trans p1.adv.le y.adv.le))) hok
   obtain⟨n1,n2,ok2,l2⟩:=ok1.need
   have l3:=ok2.eat p1 x1.adv.hi
   obtain⟨m1,m2,ok3,l4⟩:=(ok2.back p1.adv).need
   rw[n2]at h⊢
   rw[m2]at c h n1 ok2 l2 l3⊢
   have hs2:(stepP (stepP s)).k≤L1.length - 1:=by have:=S.le1;show(stepP s).k+1≤_;omega
   have p1':=(K.post .declares (stepP (stepP s)) ⟨hs2,trivial⟩).adv
   rw[S.need a0 l4 m1,S.on (Nat.le_succ_of_le a0) l3,S.on (Nat.le_succ_of_le a0) l3]
   simp only[if_pos c]
   rw[K.exact (q:=.declares) (s1:=stepP (stepP s)) rfl rfl (fun _ h=>by cases h) ⟨hs2,trivial⟩ (Nat.le_succ_of_le a0) ok2]
   dsimp only
   rw[S.need (Nat.le_trans (Nat.le_succ_of_le a0) p1'.le) l2 n1]
   exact h
 · simp only[if_neg c]at hok⊢
   have p1:Eat L1 (zO L1 [40] (stepP s)) _:=K.post (.clause [59]) (zO L1 [40] (stepP s)) ⟨x1.adv.hi,trivial⟩
   obtain⟨ok1,h⟩:=zIB K (e:=R1 (.clause [59]) (zO L1 [40] (stepP s))) p1.adv.hi (Nat.le_trans a0 (Nat.le_trans x1.adv.le p1.adv.le)) hok
   have l3:=ok1.eat p1 x1.adv.hi
   obtain⟨m1,m2,ok3,l4⟩:=(ok1.back p1.adv).need
   rw[m2]at c h ok1 l3⊢
   have hs2:(stepP (stepP s)).k≤L1.length - 1:=by have:=S.le1;show(stepP s).k+1≤_;omega
   rw[S.need a0 l4 m1,S.on (Nat.le_succ_of_le a0) l3,S.on (Nat.le_succ_of_le a0) l3]
   simp only[if_neg c]
   rw[K.exact (q:=.clause [59]) (s1:=stepP (stepP s)) rfl rfl (fun _ h=>by cases h) ⟨hs2,trivial⟩ (Nat.le_succ_of_le a0) ok1]
   exact h
theorem zPV (S:Sim L1 L2 a d m lo) (K:Kn L1 L2 a d m lo R1 R2) (hp:Pre L1 (.word w) s) (ha:a≤s.k) (hok:Ok m (zE L1 R1 (.word w) s).2):Loo L2 d m lo (zE L1 R1 (.word w) s) (zE L2 R2 (.word w) (shP d s)):=by
 have hlt:s.k < L1.length - 1:=hp.2
 have hok0:=hok
 unfold zE at hok⊢
 dsimp only at hok⊢
 have l:s.k < m:=by
  have:=zBA S K hp
  exact hok0.eat this hp.1
 have a0:a≤(stepP s).k:=Nat.le_succ_of_le ha
 rw[zl]
 by_cases c1:w=[105,102]
 · simp only[if_pos c1]at hok⊢
   have p1:=(K.post .within (stepP s) ⟨hlt,trivial⟩).adv
   have p2:=(K.post .statement (R1 .within (stepP s)).2 ⟨p1.hi,trivial⟩).adv
   have a1:=Nat.le_trans a0 p1.le
   have a2:=Nat.le_trans a1 p2.le
   by_cases c:onP L1 [101,108,115,101] (R1 .statement (R1 .within (stepP s)).2).2=true
   · simp only[if_pos c]at hok⊢
     have hl2:=S.l1.on p2.hi c
     have p3:=(K.post .statement (stepP (R1 .statement (R1 .within (stepP s)).2).2) ⟨hl2,trivial⟩).adv
     obtain⟨ok2,l2⟩:=(hok.back p3).step
     rw[K.exact (q:=.within) (s1:=stepP s) rfl rfl (fun _ h=>by cases h) ⟨hlt,trivial⟩ a0 (ok2.back p2)]
     dsimp only
     rw[(K.loo (q:=.statement) (s1:=(R1 .within (stepP s)).2) rfl rfl (fun _ h=>by cases h) ⟨p1.hi,trivial⟩ a1 ok2).1 l2]
     dsimp only
     simp only[if_pos (S.yes a2 l2 c),zl]
     exact(K.loo (q:=.statement) (s1:=stepP (R1 .statement (R1 .within (stepP s)).2).2) rfl rfl (fun _ h=>by cases h) ⟨hl2,trivial⟩ (Nat.le_succ_of_le a2) hok).map (fun t=>trK 8 [(R1 .within (stepP s)).1,(R1 .statement (R1 .within (stepP s)).2).1,t])
   · simp only[if_neg c]at hok⊢
     rw[K.exact (q:=.within) (s1:=stepP s) rfl rfl (fun _ h=>by cases h) ⟨hlt,trivial⟩ a0 (hok.back p2)]
     dsimp only
     have h:=K.loo (q:=.statement) (s1:=(R1 .within (stepP s)).2) rfl rfl (fun _ h=>by cases h) ⟨p1.hi,trivial⟩ a1 hok
     refine⟨fun x=>?_,fun x y=>?_⟩
     · rw[h.1 x]
       dsimp only
       simp only[if_neg (S.no1 a2 x c)]
     · rcases h.2 x y with h2 | ⟨h2,h3⟩
       · left
         rw[h2]
         dsimp only
         simp only[if_neg (S.no a2 hok.le c (by decide))]
       · right
         refine⟨h2,?_⟩
         rw[h3]
         dsimp only
         have hk:(R1 .statement (R1 .within (stepP s)).2).2.k=m:=x
         have hne:¬onP L2 [101,108,115,101] (stepP (shP d (R1 .statement (R1 .within (stepP s)).2).2))=true:=by
          unfold onP
          rw[show(stepP (shP d (R1 .statement (R1 .within (stepP s)).2).2)).k=m+d+1 by show(R1 .statement (R1 .within (stepP s)).2).2.k+d+1=_;rw[hk]]
          rcases S.loose y with⟨_,g2⟩ | ⟨g1,_⟩
          · rw[g2];decide
          · rw[g1]at h2;cases h2
         simp only[if_neg hne]
 simp only[if_neg c1]at hok⊢
 by_cases c2:w=[119,104,105,108,101]
 · simp only[if_pos c2]at hok⊢
   have p1:=(K.post .within (stepP s) ⟨hlt,trivial⟩).adv
   have p2:=(K.post .statement (R1 .within (stepP s)).2 ⟨p1.hi,trivial⟩).adv
   rw[K.exact (q:=.within) (s1:=stepP s) rfl rfl (fun _ h=>by cases h) ⟨hlt,trivial⟩ a0 (hok.back p2)]
   dsimp only
   exact(K.loo (q:=.statement) (s1:=(R1 .within (stepP s)).2) rfl rfl (fun _ h=>by cases h) ⟨p1.hi,trivial⟩ (Nat.le_trans a0 p1.le) hok).map (fun t=>trK 9 [(R1 .within (stepP s)).1,t])
 simp only[if_neg c2]at hok⊢
 by_cases c3:w=[102,111,114]
 · simp only[if_pos c3]at hok⊢
   exact K.loo (q:=.loop) (s1:=s) rfl rfl (fun _ h=>by cases h) ⟨hp.1,hlt⟩ ha hok
 simp only[if_neg c3]at hok⊢
 by_cases c4:w=[98,114,101,97,107]
 · simp only[if_pos c4]at hok⊢
   exact K.loo (q:=.jump 12) (s1:=s) rfl rfl (fun _ h=>by cases h) ⟨hp.1,hlt⟩ ha hok
 simp only[if_neg c4]at hok⊢
 by_cases c5:w=[99,111,110,116,105,110,117,101]
 · simp only[if_pos c5]at hok⊢
   exact K.loo (q:=.jump 13) (s1:=s) rfl rfl (fun _ h=>by cases h) ⟨hp.1,hlt⟩ ha hok
 simp only[if_neg c5]at hok⊢
 have a00:a < (stepP s).k:=Nat.lt_succ_of_le ha
 by_cases c6:w=[114,101,116,117,114,110]
 · simp only[if_pos c6]at hok⊢
   by_cases c:zBu L1 (stepP s)=true
   · simp only[if_pos c]at hok⊢
     obtain⟨ok1,h⟩:=zCO S (s:=stepP s) a00 hok
     refine⟨fun x=>?_,fun x y=>?_⟩
     · have hk:(stepP s).k < m:=Nat.lt_of_le_of_lt (zAd (s:=stepP s) S.l1 hlt).le x
       have c':zBu L2 (shP d (stepP s))=true:=(S.ended a00 hk).trans c
       simp only[if_pos c']
       exact(h (trK 14 [])).1 x
     · have c':zBu L2 (shP d (stepP s))=true:=by
        rcases Nat.lt_or_ge (stepP s).k m with hl | hl
        · exact(S.ended a00 hl).trans c
        · have:=ok1.le
          unfold zBu onP
          rw[show(shP d (stepP s)).k=m+d by show(stepP s).k+d=_;omega]
          rcases S.loose y with⟨g1,_⟩ | ⟨_,g2⟩
          · rw[g1];simp
          · rcases g2 with g2 | g2 | g2<;>rw[g2]<;>simp
       simp only[if_pos c']
       exact(h (trK 14 [])).2 x y
   · simp only[if_neg c]at hok⊢
     have x1:Eat L1 (stepP s) _:=K.post .assign (stepP s) ⟨hlt,trivial⟩
     have ok1:=hok.back (zAd S.l1 x1.adv.hi)
     have l1:=ok1.eat x1 hlt
     have c':¬zBu L2 (shP d (stepP s))=true:=by rw[S.ended a00 l1];exact c
     simp only[if_neg c']
     rw[K.exact (q:=.assign) (s1:=stepP s) rfl rfl (fun _ h=>by cases h) ⟨hlt,trivial⟩ a0 ok1]
     exact(zCO S (Nat.lt_of_lt_of_le a00 x1.adv.le) hok).2 _
 simp only[if_neg c6]at hok⊢
 by_cases c7:w=[116,104,114,111,119]
 · simp only[if_pos c7]at hok⊢
   by_cases c:(zM L1 (stepP s).k).nl=true
   · simp only[if_pos c]at hok
     have z:=zp (s:=stepP s) hlt
     have p:=(K.post .assign (zc L1 (stepP s)) ⟨z.adv.hi,trivial⟩).adv
     exact absurd ((hok.back (zAd S.l1 p.hi)).back p).bad zv
   simp only[if_neg c]at hok⊢
   have x1:Eat L1 (stepP s) _:=K.post .assign (stepP s) ⟨hlt,trivial⟩
   have ok1:=hok.back (zAd S.l1 x1.adv.hi)
   have l1:=ok1.eat x1 hlt
   have c':¬(zM L2 (shP d (stepP s)).k).nl=true:=by rw[S.line a00 l1];exact c
   simp only[if_neg c']
   rw[K.exact (q:=.assign) (s1:=stepP s) rfl rfl (fun _ h=>by cases h) ⟨hlt,trivial⟩ a0 ok1]
   exact(zCO S (Nat.lt_of_lt_of_le a00 x1.adv.le) hok).2 _
 simp only[if_neg c7]at hok⊢
 by_cases c8:w=[116,114,121]
 · simp only[if_pos c8]at hok⊢
   exact Loo.same (K.exact (q:=.tries) (s1:=s) rfl rfl (fun _ h=>by cases h) ⟨hp.1,hlt⟩ ha hok)
 simp only[if_neg c8]at hok⊢
 by_cases c9:w=[102,117,110,99,116,105,111,110]∨w=[108,101,116]∨w=[99,111,110,115,116]
 · simp only[if_pos c9]at hok
   exact absurd hok.bad zv
 simp only[if_neg c9]at hok⊢
 exact K.loo (q:=.simple) (s1:=s) rfl rfl (fun _ h=>by cases h) ⟨hp.1,trivial⟩ ha hok
theorem zPW (S:Sim L1 L2 a d m lo) (K:Kn L1 L2 a d m lo R1 R2) (p:Ph) (s:Ps):Clm L1 L2 a d m lo (zE L1 R1) (zE L2 R2) p s:=by
 intro hn hp ha hb hok
 cases p with
 | program acc=>exact absurd rfl (hn acc)
 | body l=>exact zPK S K hp (hb rfl) hok
 | block=>exact zM0 S K hp ha hok
 | blockL acc=>exact zKL S K hp ha hok
 | declares=>exact zGj S K hp ha hok
 | declL k acc=>exact zM1 S K hp ha hok
 | func k n=>exact zPI S K hp ha hok
 | params=>exact zKM S K hp ha hok
 | paramL acc=>exact zKN S K hp ha hok
 | within=>exact zKO S K hp ha hok
 | clause w=>exact zKP S K hp ha hok
 | tries=>exact zM2 S K hp ha hok
 | assign=>exact zKQ S K hp ha hok
 | cond=>exact zPL S K hp ha hok
 | either=>exact zKR S K hp ha hok
 | nullL x=>exact zM6 S K hp ha hok
 | orL x=>exact zRN S K hp ha hok
 | both x=>exact zPM S K hp ha hok
 | level n=>exact zM7 S K hp ha hok
 | levelL n x=>exact zKS S K hp ha hok
 | unary=>exact zM8 S K hp ha hok
 | calls=>exact zM9 S K hp ha hok
 | callsL x=>exact zKT S K hp ha hok
 | head=>exact zPN S K hp ha hok
 | headL x=>exact zNA S K hp ha hok
 | args=>exact zPO S K hp ha hok
 | list w=>exact zPP S K hp ha hok
 | listL w acc=>exact zNB S K hp ha hok
 | primary=>exact zHQ S K hp ha hok
 | object=>exact zKU S K hp ha hok
 | objL acc=>exact zPQ S K hp ha hok
 | prop=>exact zPR S K hp ha hok
 | item=>exact zPS S K hp ha hok
 | statement=>exact zFp S K hp ha hok
 | simple=>exact zKW S K hp ha hok
 | word w=>exact zPV S K hp ha hok
 | loop=>exact zPU S K hp ha hok
 | jump k=>exact zPT S K hp ha hok
end
theorem zNC {L:List Tok} (hL:Lst L):∀(f:Nat) (acc:List Tr) (s:Ps),Pre L (.blockL acc) s→(zB6 L f (.blockL acc) s).2.bad=0→s.k < (zB6 L f (.blockL acc) s).2.k:=by
 intro f
 induction f with
 | zero=>intro acc s _ h;exact absurd h (zA3 (by decide))
 | succ f ih=>
  intro acc s hp h
  have h':(zE L (zB6 L f) (.blockL acc) s).2.bad=0:=h
  show s.k < (zE L (zB6 L f) (.blockL acc) s).2.k
  unfold zE at h'⊢
  dsimp only at h'⊢
  by_cases c:s.bad≠0
  · simp only[if_pos c]at h'
    exact absurd h' c
  simp only[if_neg c]at h'⊢
  by_cases c2:onP L [125] s=true
  · simp only[if_pos c2]
    exact Nat.lt_succ_self _
  · simp only[if_neg c2]at h'⊢
    have p:=(zB4 hL f .item s ⟨hp.1,trivial⟩).adv
    exact Nat.lt_of_le_of_lt p.le (ih _ _ ⟨p.hi,trivial⟩ h')
theorem zND {L:List Tok} (hL:Lst L) (f:Nat) (x:Tr) (s:Ps) (hp:Pre L (.nullL x) s) (c:onP L [63,63] s=true) (h:(zB6 L f (.nullL x) s).2.bad=0):s.k < (zB6 L f (.nullL x) s).2.k:=by
 cases f with
 | zero=>exact absurd h (zA3 (by decide))
 | succ f=>
  show s.k < (zE L (zB6 L f) (.nullL x) s).2.k
  unfold zE
  dsimp only
  simp only[if_pos c]
  have hl:=hL.on hp.1 c
  have p1:=(zB4 hL f (.level 0) (stepP s) ⟨hl,Nat.zero_le _⟩).adv
  have p2:=(zB4 hL f (.nullL (trN 47 [63,63] [x,(zB6 L f (.level 0) (stepP s)).1])) (zB6 L f (.level 0) (stepP s)).2 ⟨p1.hi,trivial⟩).adv
  exact Nat.lt_of_lt_of_le (Nat.lt_succ_self s.k) (Nat.le_trans p1.le p2.le)
theorem zPX {L:List Tok} (hL:Lst L):∀(f:Nat) (acc:List Tr) (s:Ps),s.k≤L.length - 1→(zB6 L f (.paramL acc) s).2.bad=0→∀g,L.length≤g+s.k→∃j,zBE L g s.k=some j∧isT (zM L j) [41]=true∧(zB6 L f (.paramL acc) s).2.k=j+1:=by
 intro f
 induction f with
 | zero=>intro acc s _ h;exact absurd h (zA3 (by decide))
 | succ f ih=>
  intro acc s hp h g hg
  have hpos:=hL.pos
  obtain⟨g,rfl⟩:∃q,g=q+1:=⟨g - 1,by omega⟩
  have h':(zE L (zB6 L f) (.paramL acc) s).2.bad=0:=h
  show∃j,_∧_∧(zE L (zB6 L f) (.paramL acc) s).2.k=j+1
  unfold zE at h'⊢
  dsimp only at h'⊢
  have x:=zAO hL hp
  by_cases c:(zg L s).2.bad≠0
  · simp only[if_pos c]at h'
    exact absurd h' c
  simp only[if_neg c]at h'⊢
  obtain⟨m1,m2,_,_⟩:=Ok.name (L:=L) (m:=(zg L s).2.k) (x:=s) ⟨Decidable.not_not.1 c,Nat.le_refl _⟩
  have hlt:=hL.lt hp (by rw[m1];decide)
  rw[m2]at h'⊢
  dsimp only at h'⊢
  unfold zBE
  rw[if_pos m1]
  by_cases c2:onP L [41] (stepP s)=true
  · simp only[if_pos c2]
    have c3:¬isT (zM L (s.k+1)) [44]=true:=by
     intro h3
     have h4:isT (zM L (s.k+1)) [41]=true:=c2
     unfold isT at h3 h4
     rw[Bool.and_eq_true,decide_eq_true_eq]at h3 h4
     rw[h3.1]at h4
     exact absurd h4.1 (by decide)
    exact⟨s.k+1,by rw[if_neg c3],c2,rfl⟩
  · simp only[if_neg c2]at h'⊢
    have y:=zS (w:=[44]) (s:=stepP s) hL hlt
    have p:=(zB4 hL f (.paramL (acc++[trN 20 (zM L s.k).text []])) (zO L [44] (stepP s)) ⟨y.adv.hi,trivial⟩).adv
    obtain⟨n1,n2,_,_⟩:=Ok.need (L:=L) (m:=(zO L [44] (stepP s)).k) (x:=stepP s) (w:=[44]) ((Ok.mk h' (Nat.le_refl _)).back p |>.bad |> fun hb=>⟨hb,Nat.le_refl _⟩)
    rw[n2]at h'⊢
    have hl2:(stepP s).k < L.length - 1:=hL.on (s:=stepP s) hlt n1
    have c3:isT (zM L (s.k+1)) [44]=true:=n1
    rw[if_pos c3]
    exact ih _ (stepP (stepP s)) hl2 h' g (by show L.length≤g+(s.k+1+1);omega)
theorem zNE {L:List Tok} (hL:Lst L) (f:Nat) (s:Ps) (hp:Pre L .params s) (h:(zB6 L f .params s).2.bad=0):zSc L s (zB6 L f .params s).2:=by
 cases f with
 | zero=>exact absurd h (zA3 (by decide))
 | succ f=>
  have h':(zE L (zB6 L f) .params s).2.bad=0:=h
  show zSc L s (zE L (zB6 L f) .params s).2
  unfold zE at h'⊢
  dsimp only at h'⊢
  have x:=zS (w:=[40]) hL hp.1
  by_cases c:onP L [41] (zO L [40] s)=true
  · simp only[if_pos c]at h'⊢
    obtain⟨n1,n2,_,_⟩:=Ok.need (L:=L) (m:=(zO L [40] s).k) (x:=s) (w:=[40]) ⟨h',Nat.le_refl _⟩
    rw[n2]at c⊢
    exact .inl ⟨c,rfl⟩
  · simp only[if_neg c]at h'⊢
    have p:=(zB4 hL f (.paramL []) (zO L [40] s) ⟨x.adv.hi,trivial⟩).adv
    obtain⟨n1,n2,_,_⟩:=Ok.need (L:=L) (m:=(zO L [40] s).k) (x:=s) (w:=[40]) ((Ok.mk h' (Nat.le_refl _)).back p |>.bad |> fun hb=>⟨hb,Nat.le_refl _⟩)
    have hlt:=hL.on hp.1 n1
    rw[n2]at c h'⊢
    obtain⟨j,h1,h2,h3⟩:=zPX hL f [] (stepP s) hlt h' L.length (by omega)
    refine .inr ⟨?_,j,h1,h2,h3⟩
    cases hh:isT (zM L (s.k+1)) [41]with
    | false=>rfl
    | true=>exact absurd hh c
theorem zRO {L1 L2:List Tok} {a d m:Nat} {lo:Bool} (S:Sim L1 L2 a d m lo):∀f:Nat,Kn L1 L2 a d m lo (zB6 L1 f) (zB6 L2 f):=by
 intro f
 induction f with
 | zero=>exact⟨zB4 S.l1 0,fun q s1 _ _ _ _ hok=>absurd hok.bad (zA3 (by decide)),zNC S.l1 0,zND S.l1 0,zNE S.l1 0⟩
 | succ f ih=>exact⟨zB4 S.l1 (f+1),fun q s1=>zPW S ih q s1,zNC S.l1 (f+1),zND S.l1 (f+1),zNE S.l1 (f+1)⟩
end Go.Proofs.YtlohaclgbfhijaaGreatDoor
