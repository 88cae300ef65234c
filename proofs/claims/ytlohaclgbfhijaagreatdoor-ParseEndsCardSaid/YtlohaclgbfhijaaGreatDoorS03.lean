/- Joined for the claim ParseEnds: the parser, the lexer and the trees as they are walked, made short by a program of mine. -/
import Derived.Test.YtlohaclgbfhijaaGreatDoorS02
set_option maxHeartbeats 16000000
set_option maxRecDepth 1000000
namespace Go.Proofs.YtlohaclgbfhijaaGreatDoor
structure Lst (L:List Tok):Prop where
 pos:0 < L.length
 last:(zM L (L.length - 1)).kind=0
 mid:∀i,i < L.length - 1→(zM L i).kind≠0
structure Adv (L:List Tok) (s s':Ps):Prop where
 le:s.k≤s'.k
 hi:s'.k≤L.length - 1
 bad:s.bad≠0→s'.bad≠0
 far:s'.bad=0→s'.far=s.far
structure Eat (L:List Tok) (s s':Ps):Prop where
 adv:Adv L s s'
 more:s.k < L.length - 1→s.k < s'.k
 stop:s.k=L.length - 1→s'.bad≠0
section
variable {L:List Tok} {a b c s:Ps} {w:List UInt8}
theorem Adv.refl (h:s.k≤L.length - 1):Adv L s s:=⟨Nat.le_refl _,h,id,fun _=>rfl⟩
theorem Adv.trans (h:Adv L a b) (k:Adv L b c):Adv L a c:=⟨Nat.le_trans h.le k.le,k.hi,fun x=>k.bad (h.bad x),fun x=>(k.far x).trans (h.far (by
 rcases Nat.eq_zero_or_pos b.bad with hz | hz
 · exact hz
 · exact absurd x (k.bad (by omega))))⟩
theorem Eat.then (h:Eat L a b) (k:Adv L b c):Eat L a c:=⟨h.adv.trans k,fun x=>Nat.lt_of_lt_of_le (h.more x) k.le,fun x=>k.bad (h.stop x)⟩
theorem Adv.eat (h:Adv L a b) (k:Eat L b c):Eat L a c:=by
 have h1:=h.le
 have h2:=h.hi
 have h3:=k.adv.le
 refine⟨h.trans k.adv,fun x=>?_,fun x=>k.stop (by omega)⟩
 rcases Nat.lt_or_ge b.k (L.length - 1)with h4 | h4
 · have:=k.more h4;omega
 · omega
theorem Lst.lt (hL:Lst L) (h:s.k≤L.length - 1) (hk:(zM L s.k).kind≠0):s.k < L.length - 1:=by
 rcases Nat.lt_or_ge s.k (L.length - 1)with h4 | h4
 · exact h4
 · exact absurd (by rw[show s.k=L.length - 1 by omega];exact hL.last) hk
theorem zCu {t:Tok} (h:isT t w=true):t.kind≠0:=by
 unfold isT at h
 intro h0
 rw[h0]at h
 simp at h
theorem Lst.on (hL:Lst L) (h:s.k≤L.length - 1) (ho:onP L w s=true):s.k < L.length - 1:=hL.lt h (zCu ho)
theorem zAD (h:s.k < L.length - 1):Adv L s (stepP s):=⟨Nat.le_succ _,h,id,fun _=>rfl⟩
theorem zAa (h:s.k < L.length - 1):Eat L s (stepP s):=⟨zAD h,fun _=>Nat.lt_succ_self _,fun x=>by omega⟩
theorem zA3 {e:Nat} (he:e≠0):(zB8 L e s).bad≠0:=by
 unfold zB8
 simp only
 split
 · exact he
 · assumption
theorem zD7 {e:Nat} (he:e≠0) (h:s.k≤L.length - 1):Eat L s (zB8 L e s):=⟨⟨h,Nat.le_refl _,fun _=>zA3 he,fun x=>absurd x (zA3 he)⟩,fun x=>x,fun _=>zA3 he⟩
theorem zp (h:s.k≤L.length - 1):Eat L s (zc L s):=zD7 (by split<;>decide) h
theorem zv:(zc L s).bad≠0:=zA3 (by split<;>decide)
theorem zDU:(zc L s).k=L.length - 1:=rfl
theorem zS (hL:Lst L) (h:s.k≤L.length - 1):Eat L s (zO L w s):=by
 unfold zO
 split
 · rename_i ho;exact zAa (hL.on h ho)
 · exact zp h
theorem zAO (hL:Lst L) (h:s.k≤L.length - 1):Eat L s (zg L s).2:=by
 unfold zg
 split
 · rename_i ho;exact zAa (hL.lt h (by rw[ho];decide))
 · exact zp h
theorem zAd (hL:Lst L) (h:s.k≤L.length - 1):Adv L s (zBC L s):=by
 unfold zBC
 split
 · rename_i ho;exact zAD (hL.on h ho)
 · split
   · exact Adv.refl h
   · exact(zp h).adv
end
def Pre (L:List Tok) (p:Ph) (s:Ps):Prop:=s.k≤L.length - 1∧match p with
 | .word _=>s.k < L.length - 1
 | .loop=>s.k < L.length - 1
 | .jump _=>s.k < L.length - 1
 | .tries=>s.k < L.length - 1
 | .args=>s.k < L.length - 1
 | .level n=>n≤8
 | .levelL n _=>n < 8
 | _=>True
def zSv:Ph→Bool
 | .program _=>false
 | .blockL _=>false
 | .nullL _=>false
 | .orL _=>false
 | .both _=>false
 | .levelL _ _=>false
 | .callsL _=>false
 | .headL _=>false
 | _=>true
def Post (L:List Tok) (p:Ph) (s s':Ps):Prop:=if zSv p=true then Eat L s s' else Adv L s s'
theorem Post.adv {L:List Tok} {p:Ph} {s s':Ps} (h:Post L p s s'):Adv L s s':=by
 unfold Post at h
 split at h
 · exact h.adv
 · exact h
theorem zQc (p:Ph) (s:Ps):zn p s≤60:=by
 cases p<;>simp only[zn]<;>(try split)<;>omega
theorem zF4 {L:List Tok} {p q:Ph} {s s':Ps} (h:s.k < s'.k) (h2:s'.k≤L.length - 1) (h0:0 < L.length):zh L q s' < zh L p s:=by
 unfold zh
 have:=zQc q s'
 omega
theorem zF5 {L:List Tok} {p q:Ph} {s s':Ps} (h:s.k≤s'.k) (hr:zn q s' < zn p s):zh L q s' < zh L p s:=by
 unfold zh
 omega
section
variable {L:List Tok} {R R':Ph→Ps→Tr×Ps} {s:Ps}
def Hyp (L:List Tok) (R R':Ph→Ps→Tr×Ps) (p:Ph) (s:Ps):Prop:=∀q s1,Pre L q s1→zh L q s1 < zh L p s→Post L q s1 (R q s1).2∧R q s1=R' q s1
def Con (L:List Tok) (R R':Ph→Ps→Tr×Ps) (p:Ph) (s:Ps):Prop:=Post L p s (zE L R p s).2∧zE L R p s=zE L R' p s
theorem Hyp.rank {p:Ph} (H:Hyp L R R' p s) {q:Ph} {s1:Ps} (h:Pre L q s1) (h1:s.k≤s1.k) (h2:zn q s1 < zn p s):Post L q s1 (R q s1).2∧R' q s1=R q s1:=by
 have:=H q s1 h (zF5 h1 h2)
 exact⟨this.1,this.2.symm⟩
theorem Hyp.more {p:Ph} (hL:Lst L) (H:Hyp L R R' p s) {q:Ph} {s1:Ps} (h:Pre L q s1) (h1:s.k < s1.k):Post L q s1 (R q s1).2∧R' q s1=R q s1:=by
 have:=H q s1 h (zF4 h1 h.1 hL.pos)
 exact⟨this.1,this.2.symm⟩
theorem zIa {acc:List Tr} (hL:Lst L) (hp:Pre L (.program acc) s) (H:Hyp L R R' (.program acc) s):Con L R R' (.program acc) s:=by
 unfold Con zE
 dsimp only
 by_cases c:(zM L s.k).kind=0
 · simp only[if_pos c]
   exact⟨Adv.refl hp.1,trivial⟩
 · simp only[if_neg c]
   have hlt:=hL.lt hp.1 c
   obtain⟨p1,e1⟩:=H.rank (q:=.item) (s1:=s) ⟨hp.1,trivial⟩ (Nat.le_refl _) (by simp only[zn];omega)
   have x1:Eat L s _:=p1
   obtain⟨p2,e2⟩:=H.more hL (q:=.program (acc++[(R .item s).1])) (s1:=(R .item s).2) ⟨x1.adv.hi,trivial⟩ (x1.more hlt)
   rw[e1,e2]
   exact⟨x1.adv.trans p2,rfl⟩
theorem zN5 (hL:Lst L) (hp:Pre L .block s) (H:Hyp L R R' .block s):Con L R R' .block s:=by
 unfold Con zE
 dsimp only
 have e:=zS (w:=[123]) hL hp.1
 have h1:Post L (.blockL []) (zO L [123] s) (R (.blockL []) (zO L [123] s)).2∧R' (.blockL []) (zO L [123] s)=R (.blockL []) (zO L [123] s):=by
  by_cases c:onP L [123] s=true
  · exact H.more hL ⟨e.adv.hi,trivial⟩ (e.more (hL.on hp.1 c))
  · refine H.rank ⟨e.adv.hi,trivial⟩ e.adv.le ?_
    have hb:(zO L [123] s).bad≠0:=by unfold zO;rw[if_neg c];exact zv
    simp only[zn]
    rw[if_pos hb]
    omega
 rw[h1.2]
 exact⟨e.then h1.1.adv,rfl⟩
theorem zLG {acc:List Tr} (hL:Lst L) (hp:Pre L (.blockL acc) s) (H:Hyp L R R' (.blockL acc) s):Con L R R' (.blockL acc) s:=by
 unfold Con zE
 dsimp only
 by_cases c:s.bad≠0
 · simp only[if_pos c]
   exact⟨Adv.refl hp.1,trivial⟩
 simp only[if_neg c]
 by_cases c2:onP L [125] s=true
 · simp only[if_pos c2]
   exact⟨zAD (hL.on hp.1 c2),trivial⟩
 simp only[if_neg c2]
 have hr:zn (.blockL acc) s=60:=by simp only[zn];rw[if_neg c]
 obtain⟨p1,e1⟩:=H.rank (q:=.item) (s1:=s) ⟨hp.1,trivial⟩ (Nat.le_refl _) (by rw[hr];simp only[zn];omega)
 have x1:Eat L s _:=p1
 have h2:Post L (.blockL (acc++[(R .item s).1])) (R .item s).2 (R (.blockL (acc++[(R .item s).1])) (R .item s).2).2∧R' (.blockL (acc++[(R .item s).1])) (R .item s).2=R (.blockL (acc++[(R .item s).1])) (R .item s).2:=by
  rcases Nat.lt_or_ge s.k (L.length - 1)with hlt | hge
  · exact H.more hL ⟨x1.adv.hi,trivial⟩ (x1.more hlt)
  · refine H.rank ⟨x1.adv.hi,trivial⟩ x1.adv.le ?_
    rw[hr]
    simp only[zn]
    rw[if_pos (x1.stop (by have:=hp.1;omega))]
    omega
 rw[e1,h2.2]
 exact⟨x1.adv.trans h2.1.adv,rfl⟩
theorem zQd (hL:Lst L) (hp:Pre L .item s) (H:Hyp L R R' .item s):Con L R R' .item s:=by
 unfold Con zE
 dsimp only
 by_cases c:(onP L [108,101,116] s || onP L [99,111,110,115,116] s)=true
 · simp only[if_pos c]
   obtain⟨p1,e1⟩:=H.rank (q:=.declares) (s1:=s) ⟨hp.1,trivial⟩ (Nat.le_refl _) (by simp only[zn];omega)
   rw[e1]
   exact⟨Eat.then (b:=(R .declares s).2) p1 (zAd hL p1.adv.hi),rfl⟩
 simp only[if_neg c]
 by_cases c2:onP L [102,117,110,99,116,105,111,110] s=true
 · simp only[if_pos c2]
   have hlt:=hL.on hp.1 c2
   have x1:=(zAa hlt).then (zAO (s:=stepP s) hL hlt).adv
   obtain⟨p2,e2⟩:=H.more hL (q:=.func 19 (zg L (stepP s)).1) (s1:=(zg L (stepP s)).2) ⟨x1.adv.hi,trivial⟩ (x1.more hlt)
   rw[e2]
   exact⟨x1.then p2.adv,rfl⟩
 simp only[if_neg c2]
 obtain⟨p1,e1⟩:=H.rank (q:=.statement) (s1:=s) ⟨hp.1,trivial⟩ (Nat.le_refl _) (by simp only[zn];omega)
 rw[e1]
 exact⟨p1,rfl⟩
theorem zG1 (hL:Lst L) (hp:Pre L .declares s) (H:Hyp L R R' .declares s):Con L R R' .declares s:=by
 unfold Con zE
 dsimp only
 by_cases c:onP L [99,111,110,115,116] s=true
 · simp only[if_pos c]
   have hlt:=hL.on hp.1 c
   obtain⟨p1,e1⟩:=H.more hL (q:=.declL 6 []) (s1:=stepP s) ⟨hlt,trivial⟩ (Nat.lt_succ_self _)
   rw[e1]
   exact⟨(zAa hlt).then p1.adv,rfl⟩
 simp only[if_neg c]
 have x:=zS (w:=[108,101,116]) hL hp.1
 obtain⟨p1,e1⟩:=H.rank (q:=.declL 5 []) (s1:=zO L [108,101,116] s) ⟨x.adv.hi,trivial⟩ x.adv.le (by simp only[zn];omega)
 rw[e1]
 exact⟨x.then p1.adv,rfl⟩
theorem zF6 {k:Int} {acc:List Tr} (hL:Lst L) (H:Hyp L R R' (.declL k acc) s) {d:Tr×Ps} (x:Eat L s d.2):
 Post L (.declL k acc) s (if d.2.bad≠0 then(trK k (acc++[d.1]),d.2)else if onP L [44] d.2=true then R (.declL k (acc++[d.1])) (stepP d.2)else(trK k (acc++[d.1]),d.2)).2∧
 (if d.2.bad≠0 then(trK k (acc++[d.1]),d.2)else if onP L [44] d.2=true then R (.declL k (acc++[d.1])) (stepP d.2)else(trK k (acc++[d.1]),d.2))=(if d.2.bad≠0 then(trK k (acc++[d.1]),d.2)else if onP L [44] d.2=true then R' (.declL k (acc++[d.1])) (stepP d.2)else(trK k (acc++[d.1]),d.2)):=by
 by_cases c:d.2.bad≠0
 · simp only[if_pos c]
   exact⟨x,trivial⟩
 simp only[if_neg c]
 by_cases c2:onP L [44] d.2=true
 · simp only[if_pos c2]
   have hlt:=hL.on x.adv.hi c2
   obtain⟨p1,e1⟩:=H.more hL (q:=.declL k (acc++[d.1])) (s1:=stepP d.2) ⟨hlt,trivial⟩ (Nat.lt_succ_of_le x.adv.le)
   rw[e1]
   exact⟨x.then ((zAD hlt).trans p1.adv),rfl⟩
 · simp only[if_neg c2]
   exact⟨x,trivial⟩
theorem zN6 {k:Int} {acc:List Tr} (hL:Lst L) (hp:Pre L (.declL k acc) s) (H:Hyp L R R' (.declL k acc) s):Con L R R' (.declL k acc) s:=by
 unfold Con zE
 dsimp only
 have x:=zAO hL hp.1
 by_cases c:onP L [61] (zg L s).2=true
 · have hlt:=hL.on x.adv.hi c
   obtain⟨p1,e1⟩:=H.more hL (q:=.assign) (s1:=stepP (zg L s).2) ⟨hlt,trivial⟩ (Nat.lt_succ_of_le x.adv.le)
   simp only[if_pos c]
   rw[e1]
   exact zF6 hL H (d:=(trN 7 (zg L s).1 [(R .assign (stepP (zg L s).2)).1],(R .assign (stepP (zg L s).2)).2)) (x.then ((zAD hlt).trans p1.adv))
 · simp only[if_neg c]
   exact zF6 hL H (d:=(trN 7 (zg L s).1 [],(zg L s).2)) x
theorem zQe {k:Int} {n:List UInt8} (_hL:Lst L) (hp:Pre L (.func k n) s) (H:Hyp L R R' (.func k n) s):Con L R R' (.func k n) s:=by
 unfold Con zE
 dsimp only
 obtain⟨p1,e1⟩:=H.rank (q:=.params) (s1:=s) ⟨hp.1,trivial⟩ (Nat.le_refl _) (by simp only[zn];omega)
 obtain⟨p2,e2⟩:=H.rank (q:=.block) (s1:=(R .params s).2) ⟨p1.adv.hi,trivial⟩ p1.adv.le (by simp only[zn];omega)
 rw[e1,e2]
 have x1:Eat L s (R .params s).2:=p1
 exact⟨x1.then p2.adv,rfl⟩
theorem zLH (hL:Lst L) (hp:Pre L .params s) (H:Hyp L R R' .params s):Con L R R' .params s:=by
 unfold Con zE
 dsimp only
 have x:=zS (w:=[40]) hL hp.1
 by_cases c:onP L [41] (zO L [40] s)=true
 · simp only[if_pos c]
   exact⟨x.then (zAD (hL.on x.adv.hi c)),trivial⟩
 simp only[if_neg c]
 obtain⟨p1,e1⟩:=H.rank (q:=.paramL []) (s1:=zO L [40] s) ⟨x.adv.hi,trivial⟩ x.adv.le (by simp only[zn];omega)
 rw[e1]
 exact⟨x.then p1.adv,rfl⟩
theorem Eat.lt {s':Ps} (h:Eat L s s') (hs:s.k≤L.length - 1) (hb:¬s'.bad≠0):s.k < s'.k:=by
 rcases Nat.lt_or_ge s.k (L.length - 1)with hlt | hge
 · exact h.more hlt
 · exact absurd (h.stop (by omega)) hb
theorem zLI {acc:List Tr} (hL:Lst L) (hp:Pre L (.paramL acc) s) (H:Hyp L R R' (.paramL acc) s):Con L R R' (.paramL acc) s:=by
 unfold Con zE
 dsimp only
 have x:=zAO hL hp.1
 by_cases c:(zg L s).2.bad≠0
 · simp only[if_pos c]
   exact⟨x,trivial⟩
 simp only[if_neg c]
 by_cases c2:onP L [41] (zg L s).2=true
 · simp only[if_pos c2]
   exact⟨x.then (zAD (hL.on x.adv.hi c2)),trivial⟩
 simp only[if_neg c2]
 have y:=zS (w:=[44]) hL x.adv.hi
 obtain⟨p1,e1⟩:=H.more hL (q:=.paramL (acc++[trN 20 (zg L s).1 []])) (s1:=zO L [44] (zg L s).2) ⟨y.adv.hi,trivial⟩ (Nat.lt_of_lt_of_le (x.lt hp.1 c) y.adv.le)
 rw[e1]
 exact⟨x.then (y.adv.trans p1.adv),rfl⟩
theorem zFY (hL:Lst L) {w:List UInt8} (hlt:s.k < L.length - 1) (h:isT (zAC L s.k 1) w=true):s.k+1 < L.length - 1:=
 hL.lt (s:=stepP s) hlt (zCu h)
theorem zF7 (hL:Lst L) (hp:Pre L .statement s) (H:Hyp L R R' .statement s):Con L R R' .statement s:=by
 unfold Con zE
 dsimp only
 by_cases c:(zM L s.k).kind=1∧isT (zAC L s.k 1) [58]=true
 · simp only[if_pos c]
   have hlt:=hL.lt hp.1 (by rw[c.1];decide)
   have h2:=zFY hL hlt c.2
   have y:Adv L (stepP s) (stepP (stepP s)):=zAD (s:=stepP s) h2
   obtain⟨p1,e1⟩:=H.more hL (q:=.statement) (s1:=stepP (stepP s)) ⟨y.hi,trivial⟩ (by show s.k < s.k+1+1;omega)
   rw[e1]
   exact⟨(zAa hlt).then (y.trans p1.adv),rfl⟩
 simp only[if_neg c]
 by_cases c2:(zM L s.k).kind=6
 · simp only[if_pos c2]
   have hlt:=hL.lt hp.1 (by rw[c2];decide)
   obtain⟨p1,e1⟩:=H.rank (q:=.word (zM L s.k).text) (s1:=s) ⟨hp.1,hlt⟩ (Nat.le_refl _) (by simp only[zn];omega)
   rw[e1]
   exact⟨p1,rfl⟩
 simp only[if_neg c2]
 by_cases c3:onP L [59] s=true
 · simp only[if_pos c3]
   exact⟨zAa (hL.on hp.1 c3),trivial⟩
 simp only[if_neg c3]
 by_cases c4:onP L [123] s=true
 · simp only[if_pos c4]
   obtain⟨p1,e1⟩:=H.rank (q:=.block) (s1:=s) ⟨hp.1,trivial⟩ (Nat.le_refl _) (by simp only[zn];omega)
   rw[e1]
   exact⟨p1,rfl⟩
 simp only[if_neg c4]
 obtain⟨p1,e1⟩:=H.rank (q:=.simple) (s1:=s) ⟨hp.1,trivial⟩ (Nat.le_refl _) (by simp only[zn];omega)
 rw[e1]
 exact⟨p1,rfl⟩
theorem zLJ (hL:Lst L) (hp:Pre L .simple s) (H:Hyp L R R' .simple s):Con L R R' .simple s:=by
 unfold Con zE
 dsimp only
 obtain⟨p1,e1⟩:=H.rank (q:=.assign) (s1:=s) ⟨hp.1,trivial⟩ (Nat.le_refl _) (by simp only[zn];omega)
 rw[e1]
 exact⟨Eat.then (b:=(R .assign s).2) p1 (zAd hL p1.adv.hi),rfl⟩
theorem zQf {w:List UInt8} (hL:Lst L) (hp:Pre L (.word w) s) (H:Hyp L R R' (.word w) s):Con L R R' (.word w) s:=by
 have hlt:s.k < L.length - 1:=hp.2
 have x0:=zAa hlt
 have h0:s.k < (stepP s).k:=Nat.lt_succ_self _
 unfold Con zE
 dsimp only
 by_cases c1:w=[105,102]
 · simp only[if_pos c1]
   obtain⟨p1,e1⟩:=H.more hL (q:=.within) (s1:=stepP s) ⟨hlt,trivial⟩ h0
   obtain⟨p2,e2⟩:=H.more hL (q:=.statement) (s1:=(R .within (stepP s)).2) ⟨p1.adv.hi,trivial⟩ (Nat.lt_of_lt_of_le h0 p1.adv.le)
   rw[e1,e2]
   have y:=p1.adv.trans p2.adv
   by_cases c:onP L [101,108,115,101] (R .statement (R .within (stepP s)).2).2=true
   · simp only[if_pos c]
     have hl2:=hL.on p2.adv.hi c
     obtain⟨p3,e3⟩:=H.more hL (q:=.statement) (s1:=stepP (R .statement (R .within (stepP s)).2).2) ⟨hl2,trivial⟩ (Nat.lt_of_lt_of_le h0 (Nat.le_succ_of_le y.le))
     rw[e3]
     exact⟨x0.then (y.trans ((zAD hl2).trans p3.adv)),rfl⟩
   · simp only[if_neg c]
     exact⟨x0.then y,trivial⟩
 simp only[if_neg c1]
 by_cases c2:w=[119,104,105,108,101]
 · simp only[if_pos c2]
   obtain⟨p1,e1⟩:=H.more hL (q:=.within) (s1:=stepP s) ⟨hlt,trivial⟩ h0
   obtain⟨p2,e2⟩:=H.more hL (q:=.statement) (s1:=(R .within (stepP s)).2) ⟨p1.adv.hi,trivial⟩ (Nat.lt_of_lt_of_le h0 p1.adv.le)
   rw[e1,e2]
   exact⟨x0.then (p1.adv.trans p2.adv),rfl⟩
 simp only[if_neg c2]
 by_cases c3:w=[102,111,114]
 · simp only[if_pos c3]
   obtain⟨p1,e1⟩:=H.rank (q:=.loop) (s1:=s) ⟨hp.1,hlt⟩ (Nat.le_refl _) (by simp only[zn];omega)
   rw[e1]
   exact⟨p1,rfl⟩
 simp only[if_neg c3]
 by_cases c4:w=[98,114,101,97,107]
 · simp only[if_pos c4]
   obtain⟨p1,e1⟩:=H.rank (q:=.jump 12) (s1:=s) ⟨hp.1,hlt⟩ (Nat.le_refl _) (by simp only[zn];omega)
   rw[e1]
   exact⟨p1,rfl⟩
 simp only[if_neg c4]
 by_cases c5:w=[99,111,110,116,105,110,117,101]
 · simp only[if_pos c5]
   obtain⟨p1,e1⟩:=H.rank (q:=.jump 13) (s1:=s) ⟨hp.1,hlt⟩ (Nat.le_refl _) (by simp only[zn];omega)
   rw[e1]
   exact⟨p1,rfl⟩
 simp only[if_neg c5]
 by_cases c6:w=[114,101,116,117,114,110]
 · simp only[if_pos c6]
   by_cases c:zBu L (stepP s)=true
   · simp only[if_pos c]
     exact⟨x0.then (zAd (s:=stepP s) hL hlt),trivial⟩
   · simp only[if_neg c]
     obtain⟨p1,e1⟩:=H.more hL (q:=.assign) (s1:=stepP s) ⟨hlt,trivial⟩ h0
     rw[e1]
     exact⟨x0.then (p1.adv.trans (zAd hL p1.adv.hi)),rfl⟩
 simp only[if_neg c6]
 by_cases c7:w=[116,104,114,111,119]
 · simp only[if_pos c7]
   have y:Adv L (stepP s) (if(zM L (stepP s).k).nl=true then zc L (stepP s)else stepP s):=by
    split
    · exact(zp (s:=stepP s) hlt).adv
    · exact Adv.refl hlt
   obtain⟨p1,e1⟩:=H.more hL (q:=.assign) (s1:=if(zM L (stepP s).k).nl=true then zc L (stepP s)else stepP s) ⟨y.hi,trivial⟩ (Nat.lt_of_lt_of_le h0 y.le)
   rw[e1]
   exact⟨x0.then (y.trans (p1.adv.trans (zAd hL p1.adv.hi))),rfl⟩
 simp only[if_neg c7]
 by_cases c8:w=[116,114,121]
 · simp only[if_pos c8]
   obtain⟨p1,e1⟩:=H.rank (q:=.tries) (s1:=s) ⟨hp.1,hlt⟩ (Nat.le_refl _) (by simp only[zn];omega)
   rw[e1]
   exact⟨p1,rfl⟩
 simp only[if_neg c8]
 by_cases c9:w=[102,117,110,99,116,105,111,110]∨w=[108,101,116]∨w=[99,111,110,115,116]
 · simp only[if_pos c9]
   exact⟨zp hp.1,trivial⟩
 simp only[if_neg c9]
 obtain⟨p1,e1⟩:=H.rank (q:=.simple) (s1:=s) ⟨hp.1,trivial⟩ (Nat.le_refl _) (by simp only[zn];omega)
 rw[e1]
 exact⟨p1,rfl⟩
theorem zLK (hL:Lst L) (hp:Pre L .within s) (H:Hyp L R R' .within s):Con L R R' .within s:=by
 unfold Con zE
 dsimp only
 have x:=zS (w:=[40]) hL hp.1
 obtain⟨p1,e1⟩:=H.rank (q:=.assign) (s1:=zO L [40] s) ⟨x.adv.hi,trivial⟩ x.adv.le (by simp only[zn];omega)
 rw[e1]
 exact⟨x.then (p1.adv.trans (zS hL p1.adv.hi).adv),rfl⟩
theorem zLL {w:List UInt8} (hL:Lst L) (hp:Pre L (.clause w) s) (H:Hyp L R R' (.clause w) s):Con L R R' (.clause w) s:=by
 unfold Con zE
 dsimp only
 by_cases c:onP L w s=true
 · simp only[if_pos c]
   exact⟨zS hL hp.1,trivial⟩
 simp only[if_neg c]
 obtain⟨p1,e1⟩:=H.rank (q:=.assign) (s1:=s) ⟨hp.1,trivial⟩ (Nat.le_refl _) (by simp only[zn];omega)
 rw[e1]
 exact⟨Eat.then (b:=(R .assign s).2) p1 (zS hL p1.adv.hi).adv,rfl⟩
theorem zF8 (hL:Lst L) (H:Hyp L R R' .loop s) {a:Tr×Ps} (x:Eat L s a.2) (h0:s.k < a.2.k):
 Post L .loop s (trK 10 [a.1,(R (.clause [59]) a.2).1,(R (.clause [41]) (R (.clause [59]) a.2).2).1,(R .statement (R (.clause [41]) (R (.clause [59]) a.2).2).2).1],(R .statement (R (.clause [41]) (R (.clause [59]) a.2).2).2).2).2∧
 (trK 10 [a.1,(R (.clause [59]) a.2).1,(R (.clause [41]) (R (.clause [59]) a.2).2).1,(R .statement (R (.clause [41]) (R (.clause [59]) a.2).2).2).1],(R .statement (R (.clause [41]) (R (.clause [59]) a.2).2).2).2)=(trK 10 [a.1,(R' (.clause [59]) a.2).1,(R' (.clause [41]) (R' (.clause [59]) a.2).2).1,(R' .statement (R' (.clause [41]) (R' (.clause [59]) a.2).2).2).1],(R' .statement (R' (.clause [41]) (R' (.clause [59]) a.2).2).2).2):=by
 obtain⟨p1,e1⟩:=H.more hL (q:=.clause [59]) (s1:=a.2) ⟨x.adv.hi,trivial⟩ h0
 have h1:=Nat.lt_of_lt_of_le h0 p1.adv.le
 obtain⟨p2,e2⟩:=H.more hL (q:=.clause [41]) (s1:=(R (.clause [59]) a.2).2) ⟨p1.adv.hi,trivial⟩ h1
 have h2:=Nat.lt_of_lt_of_le h1 p2.adv.le
 obtain⟨p3,e3⟩:=H.more hL (q:=.statement) (s1:=(R (.clause [41]) (R (.clause [59]) a.2).2).2) ⟨p2.adv.hi,trivial⟩ h2
 rw[e1,e2,e3]
 exact⟨x.then (p1.adv.trans (p2.adv.trans p3.adv)),rfl⟩
theorem zQg (hL:Lst L) (hp:Pre L .loop s) (H:Hyp L R R' .loop s):Con L R R' .loop s:=by
 have hlt:s.k < L.length - 1:=hp.2
 have x0:=zAa hlt
 have x1:=zS (w:=[40]) (s:=stepP s) hL hlt
 have h0:s.k < (zO L [40] (stepP s)).k:=Nat.lt_of_lt_of_le (Nat.lt_succ_self s.k) x1.adv.le
 unfold Con zE
 dsimp only
 by_cases c:(onP L [108,101,116] (zO L [40] (stepP s)) || onP L [99,111,110,115,116] (zO L [40] (stepP s)))=true
 · simp only[if_pos c]
   obtain⟨p1,e1⟩:=H.more hL (q:=.declares) (s1:=zO L [40] (stepP s)) ⟨x1.adv.hi,trivial⟩ h0
   have y:=zS (w:=[59]) hL p1.adv.hi
   rw[e1]
   exact zF8 hL H (a:=((R .declares (zO L [40] (stepP s))).1,zO L [59] (R .declares (zO L [40] (stepP s))).2)) (x0.then (x1.adv.trans (p1.adv.trans y.adv))) (Nat.lt_of_lt_of_le h0 (Nat.le_trans p1.adv.le y.adv.le))
 · simp only[if_neg c]
   obtain⟨p1,e1⟩:=H.more hL (q:=.clause [59]) (s1:=zO L [40] (stepP s)) ⟨x1.adv.hi,trivial⟩ h0
   rw[e1]
   exact zF8 hL H (a:=R (.clause [59]) (zO L [40] (stepP s))) (x0.then (x1.adv.trans p1.adv)) (Nat.lt_of_lt_of_le h0 p1.adv.le)
theorem zQh {k:Int} (hL:Lst L) (hp:Pre L (.jump k) s) (_H:Hyp L R R' (.jump k) s):Con L R R' (.jump k) s:=by
 have hlt:s.k < L.length - 1:=hp.2
 have x0:=zAa hlt
 unfold Con zE
 dsimp only
 have y:=zAO (s:=stepP s) hL hlt
 by_cases c:(zM L (stepP s).k).kind=1∧(zM L (stepP s).k).nl=false
 · simp only[if_pos c]
   exact⟨x0.then (y.adv.trans (zAd hL y.adv.hi)),trivial⟩
 · simp only[if_neg c]
   exact⟨x0.then (zAd (s:=stepP s) hL hlt),trivial⟩
theorem zE5 (hL:Lst L) (H:Hyp L R R' .tries s) {b0:Tr} {c:Tr×Ps} (x:Eat L s c.2) (h0:s.k < c.2.k):
 Post L .tries s (if onP L [102,105,110,97,108,108,121] c.2=true then(trK 16 [b0,c.1,(R .block (stepP c.2)).1],(R .block (stepP c.2)).2)else(trK 16 [b0,c.1,trK 11 []],c.2)).2∧
 (if onP L [102,105,110,97,108,108,121] c.2=true then(trK 16 [b0,c.1,(R .block (stepP c.2)).1],(R .block (stepP c.2)).2)else(trK 16 [b0,c.1,trK 11 []],c.2))=(if onP L [102,105,110,97,108,108,121] c.2=true then(trK 16 [b0,c.1,(R' .block (stepP c.2)).1],(R' .block (stepP c.2)).2)else(trK 16 [b0,c.1,trK 11 []],c.2)):=by
 by_cases d:onP L [102,105,110,97,108,108,121] c.2=true
 · simp only[if_pos d]
   have hlt:=hL.on x.adv.hi d
   obtain⟨p1,e1⟩:=H.more hL (q:=.block) (s1:=stepP c.2) ⟨hlt,trivial⟩ (Nat.lt_succ_of_lt h0)
   rw[e1]
   exact⟨x.then ((zAD hlt).trans p1.adv),rfl⟩
 · simp only[if_neg d]
   exact⟨x,trivial⟩
theorem zEK (hL:Lst L) (H:Hyp L R R' .tries s) {b0:Tr} {s1:Ps} (x:Eat L s s1) (h0:s.k < s1.k) {n:List UInt8×Ps} (y:Adv L s1 n.2):
 Post L .tries s (if onP L [102,105,110,97,108,108,121] (R .block n.2).2=true then(trK 16 [b0,trN 17 n.1 [(R .block n.2).1],(R .block (stepP (R .block n.2).2)).1],(R .block (stepP (R .block n.2).2)).2)else(trK 16 [b0,trN 17 n.1 [(R .block n.2).1],trK 11 []],(R .block n.2).2)).2∧
 (if onP L [102,105,110,97,108,108,121] (R .block n.2).2=true then(trK 16 [b0,trN 17 n.1 [(R .block n.2).1],(R .block (stepP (R .block n.2).2)).1],(R .block (stepP (R .block n.2).2)).2)else(trK 16 [b0,trN 17 n.1 [(R .block n.2).1],trK 11 []],(R .block n.2).2))=(if onP L [102,105,110,97,108,108,121] (R' .block n.2).2=true then(trK 16 [b0,trN 17 n.1 [(R' .block n.2).1],(R' .block (stepP (R' .block n.2).2)).1],(R' .block (stepP (R' .block n.2).2)).2)else(trK 16 [b0,trN 17 n.1 [(R' .block n.2).1],trK 11 []],(R' .block n.2).2)):=by
 obtain⟨p1,e1⟩:=H.more hL (q:=.block) (s1:=n.2) ⟨y.hi,trivial⟩ (Nat.lt_of_lt_of_le h0 y.le)
 rw[e1]
 exact zE5 hL H (c:=(trN 17 n.1 [(R .block n.2).1],(R .block n.2).2)) (x.then (y.trans p1.adv)) (Nat.lt_of_lt_of_le h0 (Nat.le_trans y.le p1.adv.le))
theorem zN7 (hL:Lst L) (hp:Pre L .tries s) (H:Hyp L R R' .tries s):Con L R R' .tries s:=by
 have hlt:s.k < L.length - 1:=hp.2
 have x0:=zAa hlt
 unfold Con zE
 dsimp only
 obtain⟨p1,e1⟩:=H.more hL (q:=.block) (s1:=stepP s) ⟨hlt,trivial⟩ (Nat.lt_succ_self _)
 rw[e1]
 have y:Adv L (stepP s) (if(onP L [99,97,116,99,104] (R .block (stepP s)).2 || onP L [102,105,110,97,108,108,121] (R .block (stepP s)).2)=true then(R .block (stepP s)).2 else zc L (R .block (stepP s)).2):=by
  split
  · exact p1.adv
  · exact p1.adv.trans (zp p1.adv.hi).adv
 obtain⟨s1,hs1⟩:∃s1,(if(onP L [99,97,116,99,104] (R .block (stepP s)).2 || onP L [102,105,110,97,108,108,121] (R .block (stepP s)).2)=true then(R .block (stepP s)).2 else zc L (R .block (stepP s)).2)=s1:=⟨_,rfl⟩
 rw[hs1]at y⊢
 have h0:s.k < s1.k:=y.le
 by_cases c:onP L [99,97,116,99,104] s1=true
 · simp only[if_pos c]
   have hl1:=hL.on y.hi c
   have z:=zAD hl1
   by_cases c2:onP L [40] (stepP s1)=true
   · simp only[if_pos c2]
     have hl2:=hL.on (s:=stepP s1) hl1 c2
     have u:=zAO (s:=stepP (stepP s1)) hL hl2
     have v:=zS (w:=[41]) hL u.adv.hi
     exact zEK hL H (n:=((zg L (stepP (stepP s1))).1,zO L [41] (zg L (stepP (stepP s1))).2)) (x0.then y) h0 (z.trans ((zAD hl2).trans (u.adv.trans v.adv)))
   · simp only[if_neg c2]
     exact zEK hL H (n:=([],stepP s1)) (x0.then y) h0 z
 · simp only[if_neg c]
   exact zE5 hL H (c:=(trK 11 [],s1)) (x0.then y) h0
theorem zLM (hL:Lst L) (hp:Pre L .assign s) (H:Hyp L R R' .assign s):Con L R R' .assign s:=by
 unfold Con zE
 dsimp only
 by_cases c:(zM L s.k).kind=1∧isT (zAC L s.k 1) [61,62]=true∧(zAC L s.k 1).nl=false
 · simp only[if_pos c]
   have hlt:=hL.lt hp.1 (by rw[c.1];decide)
   obtain⟨p1,e1⟩:=H.more hL (q:=.body [trN 20 (zM L s.k).text []]) (s1:=stepP s) ⟨hlt,trivial⟩ (Nat.lt_succ_self _)
   rw[e1]
   exact⟨(zAa hlt).then p1.adv,rfl⟩
 simp only[if_neg c]
 by_cases c2:zAN L s=true
 · simp only[if_pos c2]
   have hlt:s.k < L.length - 1:=hL.on (w:=[40]) hp.1 (by
    unfold zAN at c2
    rw[Bool.and_eq_true]at c2
    exact c2.1)
   obtain⟨p1,e1⟩:=H.rank (q:=.params) (s1:=s) ⟨hp.1,trivial⟩ (Nat.le_refl _) (by simp only[zn];omega)
   have x1:Eat L s (R .params s).2:=p1
   obtain⟨p2,e2⟩:=H.more hL (q:=.body (R .params s).1.subs) (s1:=(R .params s).2) ⟨x1.adv.hi,trivial⟩ (x1.more hlt)
   rw[e1,e2]
   exact⟨x1.then p2.adv,rfl⟩
 simp only[if_neg c2]
 obtain⟨p1,e1⟩:=H.rank (q:=.cond) (s1:=s) ⟨hp.1,trivial⟩ (Nat.le_refl _) (by simp only[zn];omega)
 have x1:Eat L s (R .cond s).2:=p1
 rw[e1]
 by_cases c3:(zM L (R .cond s).2.k).kind≠5∨¬(zM L (R .cond s).2.k).text∈zKx
 · simp only[if_pos c3]
   exact⟨x1,trivial⟩
 simp only[if_neg c3]
 have hl2:(R .cond s).2.k < L.length - 1:=hL.lt x1.adv.hi (by
  intro h0
  exact c3 (.inl (by rw[h0];decide)))
 by_cases c4:zAQ (R .cond s).1.nd.kind=false
 · simp only[if_pos c4]
   exact⟨x1.then (zD7 (by decide) x1.adv.hi).adv,trivial⟩
 simp only[if_neg c4]
 obtain⟨p2,e2⟩:=H.more hL (q:=.assign) (s1:=stepP (R .cond s).2) ⟨hl2,trivial⟩ (Nat.lt_succ_of_le x1.adv.le)
 rw[e2]
 exact⟨x1.then ((zAD hl2).trans p2.adv),rfl⟩
theorem zQi {l:List Tr} (hL:Lst L) (hp:Pre L (.body l) s) (H:Hyp L R R' (.body l) s):Con L R R' (.body l) s:=by
 unfold Con zE
 dsimp only
 have y:Adv L s (if(zM L s.k).nl=true then zc L s else s):=by
  split
  · exact(zp hp.1).adv
  · exact Adv.refl hp.1
 obtain⟨s0,hs0⟩:∃s0,(if(zM L s.k).nl=true then zc L s else s)=s0:=⟨_,rfl⟩
 rw[hs0]at y⊢
 have x1:=zS (w:=[61,62]) hL y.hi
 have x:=y.eat x1
 by_cases c:onP L [123] (zO L [61,62] s0)=true
 · simp only[if_pos c]
   have h2:s0.k < (zO L [61,62] s0).k:=by
    by_cases c2:onP L [61,62] s0=true
    · unfold zO;rw[if_pos c2];exact Nat.lt_succ_self _
    · have hr:zO L [61,62] s0=zc L s0:=by unfold zO;rw[if_neg c2]
      have:=hL.on x1.adv.hi c
      rw[hr,zDU]at this
      omega
   obtain⟨p1,e1⟩:=H.more hL (q:=.block) (s1:=zO L [61,62] s0) ⟨x.adv.hi,trivial⟩ (Nat.lt_of_le_of_lt y.le h2)
   rw[e1]
   exact⟨x.then p1.adv,rfl⟩
 · simp only[if_neg c]
   obtain⟨p1,e1⟩:=H.rank (q:=.assign) (s1:=zO L [61,62] s0) ⟨x.adv.hi,trivial⟩ x.adv.le (by simp only[zn];omega)
   rw[e1]
   exact⟨x.then p1.adv,rfl⟩
theorem zQj (hL:Lst L) (hp:Pre L .cond s) (H:Hyp L R R' .cond s):Con L R R' .cond s:=by
 unfold Con zE
 dsimp only
 obtain⟨p1,e1⟩:=H.rank (q:=.either) (s1:=s) ⟨hp.1,trivial⟩ (Nat.le_refl _) (by simp only[zn];omega)
 have x1:Eat L s (R .either s).2:=p1
 rw[e1]
 by_cases c:onP L [63] (R .either s).2=true
 · simp only[if_pos c]
   have hl:=hL.on x1.adv.hi c
   have h0:s.k < (stepP (R .either s).2).k:=Nat.lt_succ_of_le x1.adv.le
   obtain⟨p2,e2⟩:=H.more hL (q:=.assign) (s1:=stepP (R .either s).2) ⟨hl,trivial⟩ h0
   have y:=zS (w:=[58]) hL p2.adv.hi
   obtain⟨p3,e3⟩:=H.more hL (q:=.assign) (s1:=zO L [58] (R .assign (stepP (R .either s).2)).2) ⟨y.adv.hi,trivial⟩ (Nat.lt_of_lt_of_le h0 (Nat.le_trans p2.adv.le y.adv.le))
   rw[e2,e3]
   exact⟨x1.then ((zAD hl).trans (p2.adv.trans (y.adv.trans p3.adv))),rfl⟩
 · simp only[if_neg c]
   exact⟨x1,trivial⟩
theorem zLN (hL:Lst L) (hp:Pre L .either s) (H:Hyp L R R' .either s):Con L R R' .either s:=by
 unfold Con zE
 dsimp only
 obtain⟨p1,e1⟩:=H.rank (q:=.level 0) (s1:=s) ⟨hp.1,Nat.zero_le _⟩ (Nat.le_refl _) (by simp only[zn];omega)
 have x1:Eat L s (R (.level 0) s).2:=p1
 have _:=hL.pos
 rw[e1]
 have fin:∀{q:Ps} {c:Bool},q.k≤L.length - 1→Adv L q (if c=true then zc L q else q):=by
  intro q c hq
  split
  · exact(zp hq).adv
  · exact Adv.refl hq
 by_cases c:onP L [63,63] (R (.level 0) s).2=true
 · simp only[if_pos c]
   obtain⟨p2,e2⟩:=H.rank (q:=.nullL (R (.level 0) s).1) (s1:=(R (.level 0) s).2) ⟨x1.adv.hi,trivial⟩ x1.adv.le (by simp only[zn];omega)
   rw[e2]
   exact⟨x1.then (p2.adv.trans (fin p2.adv.hi)),rfl⟩
 · simp only[if_neg c]
   obtain⟨p2,e2⟩:=H.rank (q:=.both (R (.level 0) s).1) (s1:=(R (.level 0) s).2) ⟨x1.adv.hi,trivial⟩ x1.adv.le (by simp only[zn];omega)
   rw[e2]
   obtain⟨p3,e3⟩:=H.rank (q:=.orL (R (.both (R (.level 0) s).1) (R (.level 0) s).2).1) (s1:=(R (.both (R (.level 0) s).1) (R (.level 0) s).2).2) ⟨p2.adv.hi,trivial⟩ (Nat.le_trans x1.adv.le p2.adv.le) (by simp only[zn];omega)
   rw[e3]
   exact⟨x1.then (p2.adv.trans (p3.adv.trans (fin p3.adv.hi))),rfl⟩
theorem zN8 {x:Tr} (hL:Lst L) (hp:Pre L (.nullL x) s) (H:Hyp L R R' (.nullL x) s):Con L R R' (.nullL x) s:=by
 unfold Con zE
 dsimp only
 by_cases c:onP L [63,63] s=true
 · simp only[if_pos c]
   have hl:=hL.on hp.1 c
   obtain⟨p1,e1⟩:=H.more hL (q:=.level 0) (s1:=stepP s) ⟨hl,Nat.zero_le _⟩ (Nat.lt_succ_self _)
   obtain⟨p2,e2⟩:=H.more hL (q:=.nullL (trN 47 [63,63] [x,(R (.level 0) (stepP s)).1])) (s1:=(R (.level 0) (stepP s)).2) ⟨p1.adv.hi,trivial⟩ (Nat.lt_of_lt_of_le (Nat.lt_succ_self _) p1.adv.le)
   rw[e1,e2]
   exact⟨(zAD hl).trans (p1.adv.trans p2.adv),rfl⟩
 · simp only[if_neg c]
   exact⟨Adv.refl hp.1,trivial⟩
theorem zQk {x:Tr} (hL:Lst L) (hp:Pre L (.both x) s) (H:Hyp L R R' (.both x) s):Con L R R' (.both x) s:=by
 unfold Con zE
 dsimp only
 by_cases c:onP L [38,38] s=true
 · simp only[if_pos c]
   have hl:=hL.on hp.1 c
   obtain⟨p1,e1⟩:=H.more hL (q:=.level 0) (s1:=stepP s) ⟨hl,Nat.zero_le _⟩ (Nat.lt_succ_self _)
   obtain⟨p2,e2⟩:=H.more hL (q:=.both (trN 47 [38,38] [x,(R (.level 0) (stepP s)).1])) (s1:=(R (.level 0) (stepP s)).2) ⟨p1.adv.hi,trivial⟩ (Nat.lt_of_lt_of_le (Nat.lt_succ_self _) p1.adv.le)
   rw[e1,e2]
   exact⟨(zAD hl).trans (p1.adv.trans p2.adv),rfl⟩
 · simp only[if_neg c]
   exact⟨Adv.refl hp.1,trivial⟩
theorem zRs {x:Tr} (hL:Lst L) (hp:Pre L (.orL x) s) (H:Hyp L R R' (.orL x) s):Con L R R' (.orL x) s:=by
 unfold Con zE
 dsimp only
 by_cases c:onP L [124,124] s=true
 · simp only[if_pos c]
   have hl:=hL.on hp.1 c
   obtain⟨p1,e1⟩:=H.more hL (q:=.level 0) (s1:=stepP s) ⟨hl,Nat.zero_le _⟩ (Nat.lt_succ_self _)
   have h1:s.k < (R (.level 0) (stepP s)).2.k:=p1.adv.le
   rw[e1]
   obtain⟨p2,e2⟩:=H.more hL (q:=.both (R (.level 0) (stepP s)).1) (s1:=(R (.level 0) (stepP s)).2) ⟨p1.adv.hi,trivial⟩ h1
   rw[e2]
   obtain⟨p3,e3⟩:=H.more hL (q:=.orL (trN 47 [124,124] [x,(R (.both (R (.level 0) (stepP s)).1) (R (.level 0) (stepP s)).2).1])) (s1:=(R (.both (R (.level 0) (stepP s)).1) (R (.level 0) (stepP s)).2).2) ⟨p2.adv.hi,trivial⟩ (Nat.lt_of_lt_of_le h1 p2.adv.le)
   rw[e3]
   exact⟨(zAD hl).trans (p1.adv.trans (p2.adv.trans p3.adv)),rfl⟩
 · simp only[if_neg c]
   exact⟨Adv.refl hp.1,trivial⟩
theorem zN9 {n:Nat} (hL:Lst L) (hp:Pre L (.level n) s) (H:Hyp L R R' (.level n) s):Con L R R' (.level n) s:=by
 have hn:n≤8:=hp.2
 have _:=hL.pos
 unfold Con zE
 dsimp only
 by_cases c:n=8
 · simp only[if_pos c]
   obtain⟨p1,e1⟩:=H.rank (q:=.unary) (s1:=s) ⟨hp.1,trivial⟩ (Nat.le_refl _) (by simp only[zn];omega)
   rw[e1]
   exact⟨p1,rfl⟩
 · simp only[if_neg c]
   obtain⟨p1,e1⟩:=H.rank (q:=.level (n+1)) (s1:=s) ⟨hp.1,(by show n+1≤8;omega)⟩ (Nat.le_refl _) (by simp only[zn];omega)
   have x1:Eat L s (R (.level (n+1)) s).2:=p1
   obtain⟨p2,e2⟩:=H.rank (q:=.levelL n (R (.level (n+1)) s).1) (s1:=(R (.level (n+1)) s).2) ⟨x1.adv.hi,(by show n < 8;omega)⟩ x1.adv.le (by simp only[zn];omega)
   rw[e1,e2]
   exact⟨x1.then p2.adv,rfl⟩
theorem zCv {t:Tok} (h:zA5 t≠9):t.kind≠0:=by
 unfold zA5 at h
 intro h0
 apply h
 rw[if_neg]
 intro h2
 rcases h2 with h2 | h2
 · omega
 · exact zCu h2 h0
theorem zLO {n:Nat} {x:Tr} (hL:Lst L) (hp:Pre L (.levelL n x) s) (H:Hyp L R R' (.levelL n x) s):Con L R R' (.levelL n x) s:=by
 have hn:n < 8:=hp.2
 unfold Con zE
 dsimp only
 by_cases c:zA5 (zM L s.k)=n
 · simp only[if_pos c]
   have hl:=hL.lt hp.1 (zCv (by omega))
   obtain⟨p1,e1⟩:=H.more hL (q:=.level (n+1)) (s1:=stepP s) ⟨hl,(by show n+1≤8;omega)⟩ (Nat.lt_succ_self _)
   obtain⟨p2,e2⟩:=H.more hL (q:=.levelL n (trN 46 (zM L s.k).text [x,(R (.level (n+1)) (stepP s)).1])) (s1:=(R (.level (n+1)) (stepP s)).2) ⟨p1.adv.hi,hn⟩ (Nat.lt_of_lt_of_le (Nat.lt_succ_self _) p1.adv.le)
   rw[e1,e2]
   exact⟨(zAD hl).trans (p1.adv.trans p2.adv),rfl⟩
 · simp only[if_neg c]
   exact⟨Adv.refl hp.1,trivial⟩
theorem zOA (hL:Lst L) (hp:Pre L .unary s) (H:Hyp L R R' .unary s):Con L R R' .unary s:=by
 unfold Con zE
 dsimp only
 by_cases c:((zM L s.k).kind=5∨(zM L s.k).kind=6)∧(zM L s.k).text∈zEm
 · simp only[if_pos c]
   have hl:=hL.lt hp.1 (by omega)
   obtain⟨p1,e1⟩:=H.more hL (q:=.unary) (s1:=stepP s) ⟨hl,trivial⟩ (Nat.lt_succ_self _)
   rw[e1]
   exact⟨(zAa hl).then p1.adv,rfl⟩
 simp only[if_neg c]
 by_cases c2:((zM L s.k).kind=5∨(zM L s.k).kind=6)∧(zM L s.k).text∈zCs
 · simp only[if_pos c2]
   have hl:=hL.lt hp.1 (by omega)
   obtain⟨p1,e1⟩:=H.more hL (q:=.unary) (s1:=stepP s) ⟨hl,trivial⟩ (Nat.lt_succ_self _)
   rw[e1]
   refine⟨(zAa hl).then (p1.adv.trans ?_),rfl⟩
   show Adv L _ (if _ then _ else _)
   split
   · exact(zp p1.adv.hi).adv
   · exact Adv.refl p1.adv.hi
 simp only[if_neg c2]
 obtain⟨p1,e1⟩:=H.rank (q:=.calls) (s1:=s) ⟨hp.1,trivial⟩ (Nat.le_refl _) (by simp only[zn];omega)
 have x1:Eat L s (R .calls s).2:=p1
 rw[e1]
 by_cases c3:(zM L (R .calls s).2.k).kind=5∧(zM L (R .calls s).2.k).text∈zCs∧(zM L (R .calls s).2.k).nl=false
 · simp only[if_pos c3]
   by_cases c4:zAQ (R .calls s).1.nd.kind=false
   · simp only[if_pos c4]
     exact⟨x1.then (zp x1.adv.hi).adv,trivial⟩
   · simp only[if_neg c4]
     exact⟨x1.then (zAD (hL.lt x1.adv.hi (by omega))),trivial⟩
 · simp only[if_neg c3]
   exact⟨x1,trivial⟩
theorem zOB (hL:Lst L) (hp:Pre L .calls s) (H:Hyp L R R' .calls s):Con L R R' .calls s:=by
 have _:=hL.pos
 unfold Con zE
 dsimp only
 obtain⟨p1,e1⟩:=H.rank (q:=.head) (s1:=s) ⟨hp.1,trivial⟩ (Nat.le_refl _) (by simp only[zn];omega)
 have x1:Eat L s (R .head s).2:=p1
 obtain⟨p2,e2⟩:=H.rank (q:=.callsL (R .head s).1) (s1:=(R .head s).2) ⟨x1.adv.hi,trivial⟩ x1.adv.le (by simp only[zn];omega)
 rw[e1,e2]
 exact⟨x1.then p2.adv,rfl⟩
theorem zLP {x:Tr} (hL:Lst L) (hp:Pre L (.callsL x) s) (H:Hyp L R R' (.callsL x) s):Con L R R' (.callsL x) s:=by
 unfold Con zE
 dsimp only
 by_cases c:onP L [40] s=true
 · simp only[if_pos c]
   have hlt:=hL.on hp.1 c
   obtain⟨p1,e1⟩:=H.rank (q:=.args) (s1:=s) ⟨hp.1,hlt⟩ (Nat.le_refl _) (by simp only[zn];omega)
   have x1:Eat L s (R .args s).2:=p1
   obtain⟨p2,e2⟩:=H.more hL (q:=.callsL (trK 50 (x::(R .args s).1.subs))) (s1:=(R .args s).2) ⟨x1.adv.hi,trivial⟩ (x1.more hlt)
   rw[e1,e2]
   exact⟨x1.adv.trans p2.adv,rfl⟩
 simp only[if_neg c]
 by_cases c2:onP L [46] s=true
 · simp only[if_pos c2]
   have hlt:=hL.on hp.1 c2
   have x0:=zAD hlt
   by_cases c3:(zM L (stepP s).k).kind≠1∧(zM L (stepP s).k).kind≠6
   · simp only[if_pos c3]
     exact⟨x0.trans (zp (s:=stepP s) hlt).adv,trivial⟩
   · simp only[if_neg c3]
     have hl2:(stepP s).k < L.length - 1:=hL.lt hlt (by omega)
     obtain⟨p1,e1⟩:=H.more hL (q:=.callsL (trN 52 (zM L (stepP s).k).text [x])) (s1:=stepP (stepP s)) ⟨hl2,trivial⟩ (by show s.k < s.k+1+1;omega)
     rw[e1]
     exact⟨x0.trans ((zAD hl2).trans p1.adv),rfl⟩
 simp only[if_neg c2]
 by_cases c4:onP L [91] s=true
 · simp only[if_pos c4]
   have hlt:=hL.on hp.1 c4
   obtain⟨p1,e1⟩:=H.more hL (q:=.assign) (s1:=stepP s) ⟨hlt,trivial⟩ (Nat.lt_succ_self _)
   have y:=zS (w:=[93]) hL p1.adv.hi
   have z:=p1.adv.trans y.adv
   obtain⟨p2,e2⟩:=H.more hL (q:=.callsL (trK 53 [x,(R .assign (stepP s)).1])) (s1:=zO L [93] (R .assign (stepP s)).2) ⟨y.adv.hi,trivial⟩ (Nat.lt_of_lt_of_le (Nat.lt_succ_self _) z.le)
   rw[e1,e2]
   exact⟨(zAD hlt).trans (z.trans p2.adv),rfl⟩
 · simp only[if_neg c4]
   exact⟨Adv.refl hp.1,trivial⟩
theorem zOC {x:Tr} (hL:Lst L) (hp:Pre L (.headL x) s) (H:Hyp L R R' (.headL x) s):Con L R R' (.headL x) s:=by
 unfold Con zE
 dsimp only
 by_cases c2:onP L [46] s=true
 · simp only[if_pos c2]
   have hlt:=hL.on hp.1 c2
   have x0:=zAD hlt
   by_cases c3:(zM L (stepP s).k).kind≠1∧(zM L (stepP s).k).kind≠6
   · simp only[if_pos c3]
     exact⟨x0.trans (zp (s:=stepP s) hlt).adv,trivial⟩
   · simp only[if_neg c3]
     have hl2:(stepP s).k < L.length - 1:=hL.lt hlt (by omega)
     obtain⟨p1,e1⟩:=H.more hL (q:=.headL (trN 52 (zM L (stepP s).k).text [x])) (s1:=stepP (stepP s)) ⟨hl2,trivial⟩ (by show s.k < s.k+1+1;omega)
     rw[e1]
     exact⟨x0.trans ((zAD hl2).trans p1.adv),rfl⟩
 simp only[if_neg c2]
 by_cases c4:onP L [91] s=true
 · simp only[if_pos c4]
   have hlt:=hL.on hp.1 c4
   obtain⟨p1,e1⟩:=H.more hL (q:=.assign) (s1:=stepP s) ⟨hlt,trivial⟩ (Nat.lt_succ_self _)
   have y:=zS (w:=[93]) hL p1.adv.hi
   have z:=p1.adv.trans y.adv
   obtain⟨p2,e2⟩:=H.more hL (q:=.headL (trK 53 [x,(R .assign (stepP s)).1])) (s1:=zO L [93] (R .assign (stepP s)).2) ⟨y.adv.hi,trivial⟩ (Nat.lt_of_lt_of_le (Nat.lt_succ_self _) z.le)
   rw[e1,e2]
   exact⟨(zAD hlt).trans (z.trans p2.adv),rfl⟩
 · simp only[if_neg c4]
   exact⟨Adv.refl hp.1,trivial⟩
theorem zQl (hL:Lst L) (hp:Pre L .head s) (H:Hyp L R R' .head s):Con L R R' .head s:=by
 unfold Con zE
 dsimp only
 by_cases c:onP L [110,101,119] s=true
 · simp only[if_pos c]
   have hlt:=hL.on hp.1 c
   have x0:=zAa hlt
   obtain⟨p1,e1⟩:=H.more hL (q:=.head) (s1:=stepP s) ⟨hlt,trivial⟩ (Nat.lt_succ_self _)
   have h1:s.k < (R .head (stepP s)).2.k:=p1.adv.le
   obtain⟨p2,e2⟩:=H.more hL (q:=.headL (R .head (stepP s)).1) (s1:=(R .head (stepP s)).2) ⟨p1.adv.hi,trivial⟩ h1
   rw[e1,e2]
   have y:=p1.adv.trans p2.adv
   by_cases c2:onP L [40] (R (.headL (R .head (stepP s)).1) (R .head (stepP s)).2).2=true
   · simp only[if_pos c2]
     have hl2:=hL.on y.hi c2
     obtain⟨p3,e3⟩:=H.more hL (q:=.args) (s1:=(R (.headL (R .head (stepP s)).1) (R .head (stepP s)).2).2) ⟨y.hi,hl2⟩ (Nat.lt_of_lt_of_le h1 p2.adv.le)
     rw[e3]
     exact⟨x0.then (y.trans p3.adv),rfl⟩
   · simp only[if_neg c2]
     exact⟨x0.then y,trivial⟩
 · simp only[if_neg c]
   obtain⟨p1,e1⟩:=H.rank (q:=.primary) (s1:=s) ⟨hp.1,trivial⟩ (Nat.le_refl _) (by simp only[zn];omega)
   rw[e1]
   exact⟨p1,rfl⟩
theorem zQm (hL:Lst L) (hp:Pre L .args s) (H:Hyp L R R' .args s):Con L R R' .args s:=by
 have hlt:s.k < L.length - 1:=hp.2
 unfold Con zE
 dsimp only
 have x:=zS (w:=[40]) hL hp.1
 obtain⟨p1,e1⟩:=H.more hL (q:=.list [41]) (s1:=zO L [40] s) ⟨x.adv.hi,trivial⟩ (x.more hlt)
 rw[e1]
 exact⟨x.then p1.adv,rfl⟩
theorem zQn {w:List UInt8} (hL:Lst L) (hp:Pre L (.list w) s) (H:Hyp L R R' (.list w) s):Con L R R' (.list w) s:=by
 unfold Con zE
 dsimp only
 by_cases c:onP L w s=true
 · simp only[if_pos c]
   exact⟨zAa (hL.on hp.1 c),trivial⟩
 · simp only[if_neg c]
   obtain⟨p1,e1⟩:=H.rank (q:=.listL w []) (s1:=s) ⟨hp.1,trivial⟩ (Nat.le_refl _) (by simp only[zn];omega)
   rw[e1]
   exact⟨p1,rfl⟩
theorem zOD {w:List UInt8} {acc:List Tr} (hL:Lst L) (hp:Pre L (.listL w acc) s) (H:Hyp L R R' (.listL w acc) s):Con L R R' (.listL w acc) s:=by
 unfold Con zE
 dsimp only
 obtain⟨p1,e1⟩:=H.rank (q:=.assign) (s1:=s) ⟨hp.1,trivial⟩ (Nat.le_refl _) (by simp only[zn];omega)
 have x1:Eat L s (R .assign s).2:=p1
 rw[e1]
 by_cases c:(R .assign s).2.bad≠0
 · simp only[if_pos c]
   exact⟨x1,trivial⟩
 simp only[if_neg c]
 by_cases c2:onP L w (R .assign s).2=true
 · simp only[if_pos c2]
   exact⟨x1.then (zAD (hL.on x1.adv.hi c2)),trivial⟩
 simp only[if_neg c2]
 have y:=zS (w:=[44]) hL x1.adv.hi
 obtain⟨p2,e2⟩:=H.more hL (q:=.listL w (acc++[(R .assign s).1])) (s1:=zO L [44] (R .assign s).2) ⟨y.adv.hi,trivial⟩ (Nat.lt_of_lt_of_le (x1.lt hp.1 c) y.adv.le)
 rw[e2]
 exact⟨x1.then (y.adv.trans p2.adv),rfl⟩
theorem zLQ (hL:Lst L) (hp:Pre L .object s) (H:Hyp L R R' .object s):Con L R R' .object s:=by
 unfold Con zE
 dsimp only
 by_cases c:onP L [125] s=true
 · simp only[if_pos c]
   exact⟨zAa (hL.on hp.1 c),trivial⟩
 · simp only[if_neg c]
   obtain⟨p1,e1⟩:=H.rank (q:=.objL []) (s1:=s) ⟨hp.1,trivial⟩ (Nat.le_refl _) (by simp only[zn];omega)
   rw[e1]
   exact⟨p1,rfl⟩
theorem zQo {acc:List Tr} (hL:Lst L) (hp:Pre L (.objL acc) s) (H:Hyp L R R' (.objL acc) s):Con L R R' (.objL acc) s:=by
 unfold Con zE
 dsimp only
 obtain⟨p1,e1⟩:=H.rank (q:=.prop) (s1:=s) ⟨hp.1,trivial⟩ (Nat.le_refl _) (by simp only[zn];omega)
 have x1:Eat L s (R .prop s).2:=p1
 rw[e1]
 by_cases c:(R .prop s).2.bad≠0
 · simp only[if_pos c]
   exact⟨x1,trivial⟩
 simp only[if_neg c]
 by_cases c2:onP L [125] (R .prop s).2=true
 · simp only[if_pos c2]
   exact⟨x1.then (zAD (hL.on x1.adv.hi c2)),trivial⟩
 simp only[if_neg c2]
 have y:=zS (w:=[44]) hL x1.adv.hi
 obtain⟨p2,e2⟩:=H.more hL (q:=.objL (acc++[(R .prop s).1])) (s1:=zO L [44] (R .prop s).2) ⟨y.adv.hi,trivial⟩ (Nat.lt_of_lt_of_le (x1.lt hp.1 c) y.adv.le)
 rw[e2]
 exact⟨x1.then (y.adv.trans p2.adv),rfl⟩
theorem zCc {t:Tok} {u:List UInt16} (h:zAb t=some u):t.kind≠0:=by
 unfold zAb at h
 intro h0
 rw[h0]at h
 simp at h
theorem zQp (hL:Lst L) (hp:Pre L .prop s) (H:Hyp L R R' .prop s):Con L R R' .prop s:=by
 unfold Con zE
 dsimp only
 cases hs:zAb (zM L s.k)with
 | none=>exact⟨zp hp.1,by first | rfl | trivial⟩
 | some u=>
  have hlt:=hL.lt hp.1 (zCc hs)
  have x0:=zAa hlt
  dsimp only
  by_cases c:(zM L s.k).kind=1∧onP L [58] (stepP s)=false
  · simp only[if_pos c]
    exact⟨x0,trivial⟩
  simp only[if_neg c]
  have y:=zS (w:=[58]) (s:=stepP s) hL hlt
  obtain⟨p1,e1⟩:=H.more hL (q:=.assign) (s1:=zO L [58] (stepP s)) ⟨y.adv.hi,trivial⟩ (Nat.lt_of_lt_of_le (Nat.lt_succ_self s.k) y.adv.le)
  rw[e1]
  exact⟨x0.then (y.adv.trans p1.adv),rfl⟩
theorem zIb (hL:Lst L) (hp:Pre L .primary s) (H:Hyp L R R' .primary s):Con L R R' .primary s:=by
 unfold Con zE
 dsimp only
 by_cases c0:(zM L s.k).kind=0
 · simp only[if_pos c0]
   exact⟨zp hp.1,trivial⟩
 simp only[if_neg c0]
 have hlt:=hL.lt hp.1 c0
 have x0:=zAa hlt
 by_cases c1:(zM L s.k).kind=2
 · simp only[if_pos c1];exact⟨x0,trivial⟩
 simp only[if_neg c1]
 by_cases c2:(zM L s.k).kind=3
 · simp only[if_pos c2];exact⟨x0,trivial⟩
 simp only[if_neg c2]
 by_cases c3:(zM L s.k).kind=4
 · simp only[if_pos c3];exact⟨x0,trivial⟩
 simp only[if_neg c3]
 by_cases c4:(zM L s.k).kind=1
 · simp only[if_pos c4];exact⟨x0,trivial⟩
 simp only[if_neg c4]
 by_cases c5:(zM L s.k).text=[116,114,117,101]
 · simp only[if_pos c5];exact⟨x0,trivial⟩
 simp only[if_neg c5]
 by_cases c6:(zM L s.k).text=[102,97,108,115,101]
 · simp only[if_pos c6];exact⟨x0,trivial⟩
 simp only[if_neg c6]
 by_cases c7:(zM L s.k).text=[110,117,108,108]
 · simp only[if_pos c7];exact⟨x0,trivial⟩
 simp only[if_neg c7]
 by_cases c8:(zM L s.k).text=[116,104,105,115]
 · simp only[if_pos c8];exact⟨x0,trivial⟩
 simp only[if_neg c8]
 by_cases c9:(zM L s.k).text=[91]
 · simp only[if_pos c9]
   obtain⟨p1,e1⟩:=H.more hL (q:=.list [93]) (s1:=stepP s) ⟨hlt,trivial⟩ (Nat.lt_succ_self _)
   rw[e1]
   exact⟨x0.then p1.adv,rfl⟩
 simp only[if_neg c9]
 by_cases d0:(zM L s.k).text=[123]
 · simp only[if_pos d0]
   obtain⟨p1,e1⟩:=H.more hL (q:=.object) (s1:=stepP s) ⟨hlt,trivial⟩ (Nat.lt_succ_self _)
   rw[e1]
   exact⟨x0.then p1.adv,rfl⟩
 simp only[if_neg d0]
 by_cases d1:(zM L s.k).text=[102,117,110,99,116,105,111,110]
 · simp only[if_pos d1]
   by_cases d2:(zM L (stepP s).k).kind=1
   · simp only[if_pos d2]
     have y:=zAO (s:=stepP s) hL hlt
     obtain⟨p1,e1⟩:=H.more hL (q:=.func 41 (zg L (stepP s)).1) (s1:=(zg L (stepP s)).2) ⟨y.adv.hi,trivial⟩ (Nat.lt_of_lt_of_le (Nat.lt_succ_self s.k) y.adv.le)
     rw[e1]
     exact⟨x0.then (y.adv.trans p1.adv),rfl⟩
   · simp only[if_neg d2]
     obtain⟨p1,e1⟩:=H.more hL (q:=.func 41 []) (s1:=stepP s) ⟨hlt,trivial⟩ (Nat.lt_succ_self _)
     rw[e1]
     exact⟨x0.then p1.adv,rfl⟩
 simp only[if_neg d1]
 by_cases d3:(zM L s.k).text=[40]
 · simp only[if_pos d3]
   obtain⟨p1,e1⟩:=H.more hL (q:=.assign) (s1:=stepP s) ⟨hlt,trivial⟩ (Nat.lt_succ_self _)
   rw[e1]
   exact⟨x0.then (p1.adv.trans (zS hL p1.adv.hi).adv),rfl⟩
 simp only[if_neg d3]
 refine⟨?_,by first | rfl | trivial⟩
 show Eat L s (if _ then _ else _)
 split
 · exact zD7 (by decide) hp.1
 · exact zp hp.1
theorem zD8 {p:Ph} (hL:Lst L) (hp:Pre L p s) (H:Hyp L R R' p s):Con L R R' p s:=by
 cases p with
 | program acc=>exact zIa hL hp H
 | block=>exact zN5 hL hp H
 | blockL acc=>exact zLG hL hp H
 | item=>exact zQd hL hp H
 | declares=>exact zG1 hL hp H
 | declL k acc=>exact zN6 hL hp H
 | func k n=>exact zQe hL hp H
 | params=>exact zLH hL hp H
 | paramL acc=>exact zLI hL hp H
 | statement=>exact zF7 hL hp H
 | simple=>exact zLJ hL hp H
 | word w=>exact zQf hL hp H
 | within=>exact zLK hL hp H
 | clause w=>exact zLL hL hp H
 | loop=>exact zQg hL hp H
 | jump k=>exact zQh hL hp H
 | tries=>exact zN7 hL hp H
 | assign=>exact zLM hL hp H
 | body l=>exact zQi hL hp H
 | cond=>exact zQj hL hp H
 | either=>exact zLN hL hp H
 | nullL x=>exact zN8 hL hp H
 | orL x=>exact zRs hL hp H
 | both x=>exact zQk hL hp H
 | level n=>exact zN9 hL hp H
 | levelL n x=>exact zLO hL hp H
 | unary=>exact zOA hL hp H
 | calls=>exact zOB hL hp H
 | callsL x=>exact zLP hL hp H
 | head=>exact zQl hL hp H
 | headL x=>exact zOC hL hp H
 | args=>exact zQm hL hp H
 | list w=>exact zQn hL hp H
 | listL w acc=>exact zOD hL hp H
 | primary=>exact zIb hL hp H
 | object=>exact zLQ hL hp H
 | objL acc=>exact zQo hL hp H
 | prop=>exact zQp hL hp H
end
theorem zFZ {L:List Tok} (hL:Lst L):∀(f g:Nat) (p:Ph) (s:Ps),Pre L p s→zh L p s < f→zh L p s < g→Post L p s (zB6 L f p s).2∧zB6 L f p s=zB6 L g p s:=by
 intro f
 induction f with
 | zero=>intro g p s _ h _;omega
 | succ f ih=>
  intro g p s hp hf hg
  obtain⟨g,rfl⟩:∃m,g=m+1:=⟨g - 1,by omega⟩
  exact zD8 (R:=zB6 L f) (R':=zB6 L g) hL hp (fun q s1 hq hl=>ih g q s1 hq (by omega) (by omega))
theorem zV {L:List Tok} (hL:Lst L) {p:Ph} {s:Ps} (hp:Pre L p s):Post L p s (zI L p s).2:=(zFZ hL _ _ p s hp (Nat.lt_succ_self _) (Nat.lt_succ_self _)).1
theorem zt {L:List Tok} (hL:Lst L) {p:Ph} {s:Ps} (hp:Pre L p s):zI L p s=zE L (zI L) p s:=by
 have h:=zD8 (R:=zB6 L (zh L p s)) (R':=zI L) hL hp (fun q s1 hq hl=>zFZ hL _ _ q s1 hq hl (Nat.lt_succ_self _))
 exact h.2
theorem zB4 {L:List Tok} (hL:Lst L):∀(f:Nat) (p:Ph) (s:Ps),Pre L p s→Post L p s (zB6 L f p s).2:=by
 intro f
 induction f with
 | zero=>
  intro p s hp
  have:=zD7 (L:=L) (e:=99) (s:=s) (by decide) hp.1
  unfold Post
  split
  · exact this
  · exact this.adv
 | succ f ih=>exact fun p s hp=>(zD8 (R:=zB6 L f) (R':=zB6 L f) hL hp (fun q s1 hq _=>⟨ih q s1 hq,rfl⟩)).1
theorem zOE:∀(k n:Nat),n < 10^(k+1)→(zEG n).length≤k+1:=by
 intro k
 induction k with
 | zero=>intro n h;rw[zEG];rw[if_pos (by omega)];simp
 | succ k ih=>
  intro n h
  rw[zEG]
  split
  · simp
  · have h2:n / 10 < 10^(k+1):=by rw[Nat.div_lt_iff_lt_mul (by omega)];rwa [Nat.pow_succ]at h
    have:=ih (n / 10) h2
    rw[List.length_append,List.length_singleton]
    omega
theorem zQq:∀(m:List Nat),(∀x∈m,x < 4294967296)→zRr m < 4294967296^m.length:=by
 intro m
 induction m with
 | nil=>intro _;simp[zRr]
 | cons x r ih=>
  intro h
  have h1:=ih fun y hy=>h y (List.mem_cons_of_mem _ hy)
  have h2:=h x (List.mem_cons_self ..)
  simp only[zRr,List.length_cons,Nat.pow_succ]
  omega
structure Short (x:Nd):Prop where
 name:x.name.length≤4096
 str:x.str.length≤4096
 mag:x.mag.length≤8
 limb:∀y∈x.mag,y < 4294967296
 nn:x.nn≤9007199254740991
theorem Short.big {x:Nd} (h:Short x):(zEG (zRr x.mag)).length≤78:=by
 refine zOE 77 _ (Nat.lt_of_lt_of_le (zQq x.mag h.limb) (Nat.le_trans (Nat.pow_le_pow_right (by omega) h.mag) (by decide+kernel)))
structure May (ts:List Nd) (t:Tr):Prop where
 flat:ts=flatT 0 t
 len:ts.length≤4096
 each:zRo ts 0 ts=true
 nest:depT t≤48
 kind:t.nd.kind=1
theorem May.at_ {ts:List Nd} {t:Tr} (h:May ts t):At ts 0 t:=by rw[h.flat];exact At.whole t
theorem Short.laid {x:Nd} {ks:List Int} (h:Short {x with kids:=ks}):Short x:=⟨h.name,h.str,h.mag,h.limb,h.nn⟩
mutual
def dangT:Tr→Bool
 | .mk x l=>if x.kind=8∧l.length=2 then true else if x.kind=8∨x.kind=9∨x.kind=10∨x.kind=18 then dangL l else false
def dangL:List Tr→Bool
 | []=>false
 | t::r=>match r with | []=>dangT t | _::_=>dangL r
end
def zQP (l:List Tr):List Int:=l.map (·.nd.kind)
def zSh:List Nat→Nat→List Int→Bool
 | _,_,[]=>true
 | [],r,k::ks=>zIO r k&&zSh [] r ks
 | s::l,r,k::ks=>zIO s k&&zSh l r ks
def zSw (l:List Tr) (i:Nat):Int:=(zQP l).getD i 0
def zSi (l:List Tr) (i:Nat):Bool:=match l[i]? with | none=>false | some t=>dangT t
def zSj (k:Int) (l:List Tr):Bool:=
 zQN k&&decide ((zE2 k l.length).1.length≤l.length)
 &&zSh (zE2 k l.length).1 (zE2 k l.length).2 (zQP l)
 &&(if k=16 then(zSw l 1==17 || zSw l 2==4)else if k=8∧l.length=3 then !(zSi l 1)else true)
mutual
def goodT:Tr→Bool
 | .mk x l=>zK5 x&&zSj x.kind l&&goodL l
def goodL:List Tr→Bool
 | []=>true
 | t::r=>goodT t&&goodL r
end
theorem zCw {P:Tr→Prop}:∀t∈([]:List Tr),P t:=fun t h=>by cases h
theorem zF9 {P:Tr→Prop} {a:Tr} (h:P a):∀t∈[a],P t:=fun t ht=>by rw[List.mem_singleton.1 ht];exact h
theorem zNp {P:Tr→Prop} {a b:Tr} (h:P a) (h2:P b):∀t∈[a,b],P t:=fun t ht=>by
 rcases List.mem_cons.1 ht with rfl | ht
 · exact h
 · exact zF9 h2 t ht
theorem zRt {P:Tr→Prop} {a b c:Tr} (h:P a) (h2:P b) (h3:P c):∀t∈[a,b,c],P t:=fun t ht=>by
 rcases List.mem_cons.1 ht with rfl | ht
 · exact h
 · exact zNp h2 h3 t ht
theorem zS0 {P:Tr→Prop} {a b c d:Tr} (h:P a) (h2:P b) (h3:P c) (h4:P d):∀t∈[a,b,c,d],P t:=fun t ht=>by
 rcases List.mem_cons.1 ht with rfl | ht
 · exact h
 · exact zRt h2 h3 h4 t ht
theorem zBV {P:Tr→Prop} {l:List Tr} {a:Tr} (h:∀t∈l,P t) (h2:P a):∀t∈l++[a],P t:=fun t ht=>by
 rcases List.mem_append.1 ht with h3 | h3
 · exact h t h3
 · exact zF9 h2 t h3
def GE (t:Tr):Prop:=goodT t=true∧zFz t.nd.kind=true
def GU (t:Tr):Prop:=goodT t=true∧zRk t.nd.kind=true
def GC (t:Tr):Prop:=goodT t=true∧zIO 9 t.nd.kind=true
theorem GE.clause {t:Tr} (h:GE t):GC t:=⟨h.1,by unfold zIO;simp[h.2]⟩
end Go.Proofs.YtlohaclgbfhijaaGreatDoor
