/- Joined for the claim ParseBlocks: the parser, the lexer and the trees as they are walked, made short by a program of mine. -/
import Derived.Test.YtlohaclgbfhijaaGreatDoorS02
import Derived.Test.YtlohaclgbfhijaaGreatDoorS01
set_option maxHeartbeats 16000000
set_option maxRecDepth 1000000
namespace Go.Proofs.YtlohaclgbfhijaaGreatDoor
structure Lst (L:List Tok):Prop where
 pos:0 < L.length
 last:(zH L (L.length - 1)).kind=0
 mid:∀i,i < L.length - 1→(zH L i).kind≠0
structure Adv (L:List Tok) (s s':Ps):Prop where
 le:s.k≤s'.k
 hi:s'.k≤L.length - 1
 bad:s.bad≠0→s'.bad≠0
 far:s'.bad=0→s'.far=s.far
structure Eat (L:List Tok) (s s':Ps):Prop where
 adv:Adv L s s'
 more:s.k < L.length - 1→s.k < s'.k
 stop:s.k=L.length - 1→s'.bad≠0
section
variable {L:List Tok} {a b c s:Ps} {w:List UInt8}
theorem Adv.refl (h:s.k≤L.length - 1):Adv L s s:=⟨yAD _,h,id,fun _=>rfl⟩
theorem Adv.trans (h:Adv L a b) (k:Adv L b c):Adv L a c:=⟨yAE h.le k.le,k.hi,fun x=>k.bad (h.bad x),fun x=>(k.far x).trans (h.far (by
 rcases Nat.eq_zero_or_pos b.bad with hz | hz
 · exact hz
 · exact absurd x (k.bad (by omega))))⟩
theorem Eat.then (h:Eat L a b) (k:Adv L b c):Eat L a c:=⟨h.adv.trans k,fun x=>yAA (h.more x) k.le,fun x=>k.bad (h.stop x)⟩
theorem Adv.eat (h:Adv L a b) (k:Eat L b c):Eat L a c:=by
 have h1:=h.le;have h2:=h.hi;have h3:=k.adv.le;refine⟨h.trans k.adv,fun x=>?_,fun x=>k.stop (by omega)⟩;rcases Nat.lt_or_ge b.k (L.length - 1)with h4 | h4
 · have:=k.more h4;omega
 · omega
theorem Lst.lt (hL:Lst L) (h:s.k≤L.length - 1) (hk:(zH L s.k).kind≠0):s.k < L.length - 1:=by
 rcases Nat.lt_or_ge s.k (L.length - 1)with h4 | h4
 · exact h4
 · exact absurd (by rw[show s.k=L.length - 1 by omega];exact hL.last) hk
theorem zDz {t:Tok} (h:isT t w=true):t.kind≠0:=by
 unfold isT at h;intro h0;rw[h0]at h;simp at h
theorem Lst.on (hL:Lst L) (h:s.k≤L.length - 1) (ho:onP L w s=true):s.k < L.length - 1:=hL.lt h (zDz ho)
theorem zAC (h:s.k < L.length - 1):Adv L s (zB s):=⟨Nat.le_succ _,h,id,fun _=>rfl⟩
theorem zAm (h:s.k < L.length - 1):Eat L s (zB s):=⟨zAC h,fun _=>yAG _,fun x=>by omega⟩
theorem zAt {e:Nat} (he:e≠0):(zCV L e s).bad≠0:=by
 unfold zCV;simp only;split
 · exact he
 · assumption
theorem zEr {e:Nat} (he:e≠0) (h:s.k≤L.length - 1):Eat L s (zCV L e s):=⟨⟨h,yAD _,fun _=>zAt he,fun x=>absurd x (zAt he)⟩,fun x=>x,fun _=>zAt he⟩
theorem zl (h:s.k≤L.length - 1):Eat L s (zV L s):=zEr (by split<;>decide) h
theorem ze:(zV L s).bad≠0:=zAt (by split<;>decide)
theorem zD0:(zV L s).k=L.length - 1:=rfl
theorem zN (hL:Lst L) (h:s.k≤L.length - 1):Eat L s (zM L w s):=by
 unfold zM;split
 · rename_i ho;exact zAm (hL.on h ho)
 · exact zl h
theorem zAD (hL:Lst L) (h:s.k≤L.length - 1):Eat L s (zW L s).2:=by
 unfold zW;split
 · rename_i ho;exact zAm (hL.lt h (by rw[ho];decide))
 · exact zl h
theorem zAV (hL:Lst L) (h:s.k≤L.length - 1):Adv L s (zBR L s):=by
 unfold zBR;split
 · rename_i ho;exact zAC (hL.on h ho)
 · split
   · exact Adv.refl h
   · exact(zl h).adv
end
def Pre (L:List Tok) (p:Ph) (s:Ps):Prop:=s.k≤L.length - 1∧match p with
 | .word _=>s.k < L.length - 1
 | .loop=>s.k < L.length - 1
 | .jump _=>s.k < L.length - 1
 | .tries=>s.k < L.length - 1
 | .args=>s.k < L.length - 1
 | .level n=>n≤8
 | .levelL n _=>n < 8
 | _=>True
def zUz:Ph→Bool
 | .program _=>false
 | .blockL _=>false
 | .nullL _=>false
 | .orL _=>false
 | .both _=>false
 | .levelL _ _=>false
 | .callsL _=>false
 | .headL _=>false
 | _=>true
def Post (L:List Tok) (p:Ph) (s s':Ps):Prop:=if zUz p=true then Eat L s s' else Adv L s s'
theorem Post.adv {L:List Tok} {p:Ph} {s s':Ps} (h:Post L p s s'):Adv L s s':=by
 unfold Post at h;split at h
 · exact h.adv
 · exact h
theorem zR8 (p:Ph) (s:Ps):zn p s≤60:=by
 cases p<;>simp only[zn]<;>(try split)<;>omega
theorem zG3 {L:List Tok} {p q:Ph} {s s':Ps} (h:s.k < s'.k) (h2:s'.k≤L.length - 1) (h0:0 < L.length):zf L q s' < zf L p s:=by
 unfold zf;have:=zR8 q s';omega
theorem zG4 {L:List Tok} {p q:Ph} {s s':Ps} (h:s.k≤s'.k) (hr:zn q s' < zn p s):zf L q s' < zf L p s:=by
 unfold zf;omega
section
variable {L:List Tok} {R R':Ph→Ps→Tr×Ps} {s:Ps}
def Hyp (L:List Tok) (R R':Ph→Ps→Tr×Ps) (p:Ph) (s:Ps):Prop:=∀q s1,Pre L q s1→zf L q s1 < zf L p s→Post L q s1 (R q s1).2∧R q s1=R' q s1
def Con (L:List Tok) (R R':Ph→Ps→Tr×Ps) (p:Ph) (s:Ps):Prop:=Post L p s (zF L R p s).2∧zF L R p s=zF L R' p s
theorem Hyp.rank {p:Ph} (H:Hyp L R R' p s) {q:Ph} {s1:Ps} (h:Pre L q s1) (h1:s.k≤s1.k) (h2:zn q s1 < zn p s):Post L q s1 (R q s1).2∧R' q s1=R q s1:=by
 have:=H q s1 h (zG4 h1 h2);exact⟨this.1,this.2.symm⟩
theorem Hyp.more {p:Ph} (hL:Lst L) (H:Hyp L R R' p s) {q:Ph} {s1:Ps} (h:Pre L q s1) (h1:s.k < s1.k):Post L q s1 (R q s1).2∧R' q s1=R q s1:=by
 have:=H q s1 h (zG3 h1 h.1 hL.pos);exact⟨this.1,this.2.symm⟩
theorem zKA {acc:List Tr} (hL:Lst L) (hp:Pre L (.program acc) s) (H:Hyp L R R' (.program acc) s):Con L R R' (.program acc) s:=by
 unfold Con zF;dsimp only
 by_cases c:(zH L s.k).kind=0
 · simp only[if_pos c];exact⟨Adv.refl hp.1,trivial⟩
 · simp only[if_neg c];have hlt:=hL.lt hp.1 c;obtain⟨p1,e1⟩:=H.rank (q:=.item) (s1:=s) ⟨hp.1,trivial⟩ (yAD _) (by simp only[zn];omega);have x1:Eat L s _:=p1;obtain⟨p2,e2⟩:=H.more hL (q:=.program (acc++[(R .item s).1])) (s1:=(R .item s).2) ⟨x1.adv.hi,trivial⟩ (x1.more hlt);rw[e1,e2];exact⟨x1.adv.trans p2,rfl⟩
theorem zO0 (hL:Lst L) (hp:Pre L .block s) (H:Hyp L R R' .block s):Con L R R' .block s:=by
 unfold Con zF;dsimp only;have e:=zN (w:=[123]) hL hp.1;have h1:Post L (.blockL []) (zM L [123] s) (R (.blockL []) (zM L [123] s)).2∧R' (.blockL []) (zM L [123] s)=R (.blockL []) (zM L [123] s):=by
  by_cases c:onP L [123] s=true
  · exact H.more hL ⟨e.adv.hi,trivial⟩ (e.more (hL.on hp.1 c))
  · refine H.rank ⟨e.adv.hi,trivial⟩ e.adv.le ?_;have hb:(zM L [123] s).bad≠0:=by unfold zM;rw[if_neg c];exact ze
    simp only[zn];rw[if_pos hb];omega
 rw[h1.2];exact⟨e.then h1.1.adv,rfl⟩
theorem zL3 {acc:List Tr} (hL:Lst L) (hp:Pre L (.blockL acc) s) (H:Hyp L R R' (.blockL acc) s):Con L R R' (.blockL acc) s:=by
 unfold Con zF;dsimp only
 by_cases c:s.bad≠0
 · simp only[if_pos c];exact⟨Adv.refl hp.1,trivial⟩
 simp only[if_neg c]
 by_cases c2:onP L [125] s=true
 · simp only[if_pos c2];exact⟨zAC (hL.on hp.1 c2),trivial⟩
 simp only[if_neg c2];have hr:zn (.blockL acc) s=60:=by simp only[zn];rw[if_neg c]
 obtain⟨p1,e1⟩:=H.rank (q:=.item) (s1:=s) ⟨hp.1,trivial⟩ (yAD _) (by rw[hr];simp only[zn];omega);have x1:Eat L s _:=p1;have h2:Post L (.blockL (acc++[(R .item s).1])) (R .item s).2 (R (.blockL (acc++[(R .item s).1])) (R .item s).2).2∧R' (.blockL (acc++[(R .item s).1])) (R .item s).2=R (.blockL (acc++[(R .item s).1])) (R .item s).2:=by
  rcases Nat.lt_or_ge s.k (L.length - 1)with hlt | hge
  · exact H.more hL ⟨x1.adv.hi,trivial⟩ (x1.more hlt)
  · refine H.rank ⟨x1.adv.hi,trivial⟩ x1.adv.le ?_;rw[hr];simp only[zn];rw[if_pos (x1.stop (by have:=hp.1;omega))];omega
 rw[e1,h2.2];exact⟨x1.adv.trans h2.1.adv,rfl⟩
theorem zR9 (hL:Lst L) (hp:Pre L .item s) (H:Hyp L R R' .item s):Con L R R' .item s:=by
 unfold Con zF;dsimp only
 by_cases c:(onP L [108,101,116] s || onP L [99,111,110,115,116] s)=true
 · simp only[if_pos c];obtain⟨p1,e1⟩:=H.rank (q:=.declares) (s1:=s) ⟨hp.1,trivial⟩ (yAD _) (by simp only[zn];omega);rw[e1];exact⟨Eat.then (b:=(R .declares s).2) p1 (zAV hL p1.adv.hi),rfl⟩
 simp only[if_neg c]
 by_cases c2:onP L [102,117,110,99,116,105,111,110] s=true
 · simp only[if_pos c2];have hlt:=hL.on hp.1 c2;have x1:=(zAm hlt).then (zAD (s:=zB s) hL hlt).adv;obtain⟨p2,e2⟩:=H.more hL (q:=.func 19 (zW L (zB s)).1) (s1:=(zW L (zB s)).2) ⟨x1.adv.hi,trivial⟩ (x1.more hlt);rw[e2];exact⟨x1.then p2.adv,rfl⟩
 simp only[if_neg c2];obtain⟨p1,e1⟩:=H.rank (q:=.statement) (s1:=s) ⟨hp.1,trivial⟩ (yAD _) (by simp only[zn];omega);rw[e1];exact⟨p1,rfl⟩
theorem zIF (hL:Lst L) (hp:Pre L .declares s) (H:Hyp L R R' .declares s):Con L R R' .declares s:=by
 unfold Con zF;dsimp only
 by_cases c:onP L [99,111,110,115,116] s=true
 · simp only[if_pos c];have hlt:=hL.on hp.1 c;obtain⟨p1,e1⟩:=H.more hL (q:=.declL 6 []) (s1:=zB s) ⟨hlt,trivial⟩ (yAG _);rw[e1];exact⟨(zAm hlt).then p1.adv,rfl⟩
 simp only[if_neg c];have x:=zN (w:=[108,101,116]) hL hp.1;obtain⟨p1,e1⟩:=H.rank (q:=.declL 5 []) (s1:=zM L [108,101,116] s) ⟨x.adv.hi,trivial⟩ x.adv.le (by simp only[zn];omega);rw[e1];exact⟨x.then p1.adv,rfl⟩
theorem zG5 {k:Int} {acc:List Tr} (hL:Lst L) (H:Hyp L R R' (.declL k acc) s) {d:Tr×Ps} (x:Eat L s d.2):
 Post L (.declL k acc) s (if d.2.bad≠0 then(trK k (acc++[d.1]),d.2)else if onP L [44] d.2=true then R (.declL k (acc++[d.1])) (zB d.2)else(trK k (acc++[d.1]),d.2)).2∧
 (if d.2.bad≠0 then(trK k (acc++[d.1]),d.2)else if onP L [44] d.2=true then R (.declL k (acc++[d.1])) (zB d.2)else(trK k (acc++[d.1]),d.2))=(if d.2.bad≠0 then(trK k (acc++[d.1]),d.2)else if onP L [44] d.2=true then R' (.declL k (acc++[d.1])) (zB d.2)else(trK k (acc++[d.1]),d.2)):=by
 by_cases c:d.2.bad≠0
 · simp only[if_pos c];exact⟨x,trivial⟩
 simp only[if_neg c]
 by_cases c2:onP L [44] d.2=true
 · simp only[if_pos c2];have hlt:=hL.on x.adv.hi c2;obtain⟨p1,e1⟩:=H.more hL (q:=.declL k (acc++[d.1])) (s1:=zB d.2) ⟨hlt,trivial⟩ (Nat.lt_succ_of_le x.adv.le);rw[e1];exact⟨x.then ((zAC hlt).trans p1.adv),rfl⟩
 · simp only[if_neg c2];exact⟨x,trivial⟩
theorem zO1 {k:Int} {acc:List Tr} (hL:Lst L) (hp:Pre L (.declL k acc) s) (H:Hyp L R R' (.declL k acc) s):Con L R R' (.declL k acc) s:=by
 unfold Con zF;dsimp only;have x:=zAD hL hp.1
 by_cases c:onP L [61] (zW L s).2=true
 · have hlt:=hL.on x.adv.hi c;obtain⟨p1,e1⟩:=H.more hL (q:=.assign) (s1:=zB (zW L s).2) ⟨hlt,trivial⟩ (Nat.lt_succ_of_le x.adv.le);simp only[if_pos c];rw[e1];exact zG5 hL H (d:=(trN 7 (zW L s).1 [(R .assign (zB (zW L s).2)).1],(R .assign (zB (zW L s).2)).2)) (x.then ((zAC hlt).trans p1.adv))
 · simp only[if_neg c];exact zG5 hL H (d:=(trN 7 (zW L s).1 [],(zW L s).2)) x
theorem zSA {k:Int} {n:List UInt8} (_hL:Lst L) (hp:Pre L (.func k n) s) (H:Hyp L R R' (.func k n) s):Con L R R' (.func k n) s:=by
 unfold Con zF;dsimp only;obtain⟨p1,e1⟩:=H.rank (q:=.params) (s1:=s) ⟨hp.1,trivial⟩ (yAD _) (by simp only[zn];omega);obtain⟨p2,e2⟩:=H.rank (q:=.block) (s1:=(R .params s).2) ⟨p1.adv.hi,trivial⟩ p1.adv.le (by simp only[zn];omega);rw[e1,e2];have x1:Eat L s (R .params s).2:=p1;exact⟨x1.then p2.adv,rfl⟩
theorem zL4 (hL:Lst L) (hp:Pre L .params s) (H:Hyp L R R' .params s):Con L R R' .params s:=by
 unfold Con zF;dsimp only;have x:=zN (w:=[40]) hL hp.1
 by_cases c:onP L [41] (zM L [40] s)=true
 · simp only[if_pos c];exact⟨x.then (zAC (hL.on x.adv.hi c)),trivial⟩
 simp only[if_neg c];obtain⟨p1,e1⟩:=H.rank (q:=.paramL []) (s1:=zM L [40] s) ⟨x.adv.hi,trivial⟩ x.adv.le (by simp only[zn];omega);rw[e1];exact⟨x.then p1.adv,rfl⟩
theorem Eat.lt {s':Ps} (h:Eat L s s') (hs:s.k≤L.length - 1) (hb:¬s'.bad≠0):s.k < s'.k:=by
 rcases Nat.lt_or_ge s.k (L.length - 1)with hlt | hge
 · exact h.more hlt
 · exact absurd (h.stop (by omega)) hb
theorem zL5 {acc:List Tr} (hL:Lst L) (hp:Pre L (.paramL acc) s) (H:Hyp L R R' (.paramL acc) s):Con L R R' (.paramL acc) s:=by
 unfold Con zF;dsimp only;have x:=zAD hL hp.1
 by_cases c:(zW L s).2.bad≠0
 · simp only[if_pos c];exact⟨x,trivial⟩
 simp only[if_neg c]
 by_cases c2:onP L [41] (zW L s).2=true
 · simp only[if_pos c2];exact⟨x.then (zAC (hL.on x.adv.hi c2)),trivial⟩
 simp only[if_neg c2];have y:=zN (w:=[44]) hL x.adv.hi;obtain⟨p1,e1⟩:=H.more hL (q:=.paramL (acc++[trN 20 (zW L s).1 []])) (s1:=zM L [44] (zW L s).2) ⟨y.adv.hi,trivial⟩ (yAA (x.lt hp.1 c) y.adv.le);rw[e1];exact⟨x.then (y.adv.trans p1.adv),rfl⟩
theorem zEs (hL:Lst L) {w:List UInt8} (hlt:s.k < L.length - 1) (h:isT (zx L s.k 1) w=true):s.k+1 < L.length - 1:=
 hL.lt (s:=zB s) hlt (zDz h)
theorem zG6 (hL:Lst L) (hp:Pre L .statement s) (H:Hyp L R R' .statement s):Con L R R' .statement s:=by
 unfold Con zF;dsimp only
 by_cases c:(zH L s.k).kind=1∧isT (zx L s.k 1) [58]=true
 · simp only[if_pos c];have hlt:=hL.lt hp.1 (by rw[c.1];decide);have h2:=zEs hL hlt c.2;have y:Adv L (zB s) (zB (zB s)):=zAC (s:=zB s) h2;obtain⟨p1,e1⟩:=H.more hL (q:=.statement) (s1:=zB (zB s)) ⟨y.hi,trivial⟩ (by show s.k < s.k+1+1;omega);rw[e1];exact⟨(zAm hlt).then (y.trans p1.adv),rfl⟩
 simp only[if_neg c]
 by_cases c2:(zH L s.k).kind=6
 · simp only[if_pos c2];have hlt:=hL.lt hp.1 (by rw[c2];decide);obtain⟨p1,e1⟩:=H.rank (q:=.word (zH L s.k).text) (s1:=s) ⟨hp.1,hlt⟩ (yAD _) (by simp only[zn];omega);rw[e1];exact⟨p1,rfl⟩
 simp only[if_neg c2]
 by_cases c3:onP L [59] s=true
 · simp only[if_pos c3];exact⟨zAm (hL.on hp.1 c3),trivial⟩
 simp only[if_neg c3]
 by_cases c4:onP L [123] s=true
 · simp only[if_pos c4];obtain⟨p1,e1⟩:=H.rank (q:=.block) (s1:=s) ⟨hp.1,trivial⟩ (yAD _) (by simp only[zn];omega);rw[e1];exact⟨p1,rfl⟩
 simp only[if_neg c4];obtain⟨p1,e1⟩:=H.rank (q:=.simple) (s1:=s) ⟨hp.1,trivial⟩ (yAD _) (by simp only[zn];omega);rw[e1];exact⟨p1,rfl⟩
theorem zL6 (hL:Lst L) (hp:Pre L .simple s) (H:Hyp L R R' .simple s):Con L R R' .simple s:=by
 unfold Con zF;dsimp only;obtain⟨p1,e1⟩:=H.rank (q:=.assign) (s1:=s) ⟨hp.1,trivial⟩ (yAD _) (by simp only[zn];omega);rw[e1];exact⟨Eat.then (b:=(R .assign s).2) p1 (zAV hL p1.adv.hi),rfl⟩
theorem zSB {w:List UInt8} (hL:Lst L) (hp:Pre L (.word w) s) (H:Hyp L R R' (.word w) s):Con L R R' (.word w) s:=by
 have hlt:s.k < L.length - 1:=hp.2;have x0:=zAm hlt;have h0:s.k < (zB s).k:=yAG _;unfold Con zF;dsimp only
 by_cases c1:w=[105,102]
 · simp only[if_pos c1];obtain⟨p1,e1⟩:=H.more hL (q:=.within) (s1:=zB s) ⟨hlt,trivial⟩ h0;obtain⟨p2,e2⟩:=H.more hL (q:=.statement) (s1:=(R .within (zB s)).2) ⟨p1.adv.hi,trivial⟩ (yAA h0 p1.adv.le);rw[e1,e2];have y:=p1.adv.trans p2.adv
   by_cases c:onP L [101,108,115,101] (R .statement (R .within (zB s)).2).2=true
   · simp only[if_pos c];have hl2:=hL.on p2.adv.hi c;obtain⟨p3,e3⟩:=H.more hL (q:=.statement) (s1:=zB (R .statement (R .within (zB s)).2).2) ⟨hl2,trivial⟩ (yAA h0 (yAB y.le));rw[e3];exact⟨x0.then (y.trans ((zAC hl2).trans p3.adv)),rfl⟩
   · simp only[if_neg c];exact⟨x0.then y,trivial⟩
 simp only[if_neg c1]
 by_cases c2:w=[119,104,105,108,101]
 · simp only[if_pos c2];obtain⟨p1,e1⟩:=H.more hL (q:=.within) (s1:=zB s) ⟨hlt,trivial⟩ h0;obtain⟨p2,e2⟩:=H.more hL (q:=.statement) (s1:=(R .within (zB s)).2) ⟨p1.adv.hi,trivial⟩ (yAA h0 p1.adv.le);rw[e1,e2];exact⟨x0.then (p1.adv.trans p2.adv),rfl⟩
 simp only[if_neg c2]
 by_cases c3:w=[102,111,114]
 · simp only[if_pos c3];obtain⟨p1,e1⟩:=H.rank (q:=.loop) (s1:=s) ⟨hp.1,hlt⟩ (yAD _) (by simp only[zn];omega);rw[e1];exact⟨p1,rfl⟩
 simp only[if_neg c3]
 by_cases c4:w=[98,114,101,97,107]
 · simp only[if_pos c4];obtain⟨p1,e1⟩:=H.rank (q:=.jump 12) (s1:=s) ⟨hp.1,hlt⟩ (yAD _) (by simp only[zn];omega);rw[e1];exact⟨p1,rfl⟩
 simp only[if_neg c4]
 by_cases c5:w=[99,111,110,116,105,110,117,101]
 · simp only[if_pos c5];obtain⟨p1,e1⟩:=H.rank (q:=.jump 13) (s1:=s) ⟨hp.1,hlt⟩ (yAD _) (by simp only[zn];omega);rw[e1];exact⟨p1,rfl⟩
 simp only[if_neg c5]
 by_cases c6:w=[114,101,116,117,114,110]
 · simp only[if_pos c6]
   by_cases c:zB1 L (zB s)=true
   · simp only[if_pos c];exact⟨x0.then (zAV (s:=zB s) hL hlt),trivial⟩
   · simp only[if_neg c];obtain⟨p1,e1⟩:=H.more hL (q:=.assign) (s1:=zB s) ⟨hlt,trivial⟩ h0;rw[e1];exact⟨x0.then (p1.adv.trans (zAV hL p1.adv.hi)),rfl⟩
 simp only[if_neg c6]
 by_cases c7:w=[116,104,114,111,119]
 · simp only[if_pos c7];have y:Adv L (zB s) (if(zH L (zB s).k).nl=true then zV L (zB s)else zB s):=by
    split
    · exact(zl (s:=zB s) hlt).adv
    · exact Adv.refl hlt
   obtain⟨p1,e1⟩:=H.more hL (q:=.assign) (s1:=if(zH L (zB s).k).nl=true then zV L (zB s)else zB s) ⟨y.hi,trivial⟩ (yAA h0 y.le);rw[e1];exact⟨x0.then (y.trans (p1.adv.trans (zAV hL p1.adv.hi))),rfl⟩
 simp only[if_neg c7]
 by_cases c8:w=[116,114,121]
 · simp only[if_pos c8];obtain⟨p1,e1⟩:=H.rank (q:=.tries) (s1:=s) ⟨hp.1,hlt⟩ (yAD _) (by simp only[zn];omega);rw[e1];exact⟨p1,rfl⟩
 simp only[if_neg c8]
 by_cases c9:w=[102,117,110,99,116,105,111,110]∨w=[108,101,116]∨w=[99,111,110,115,116]
 · simp only[if_pos c9];exact⟨zl hp.1,trivial⟩
 simp only[if_neg c9];obtain⟨p1,e1⟩:=H.rank (q:=.simple) (s1:=s) ⟨hp.1,trivial⟩ (yAD _) (by simp only[zn];omega);rw[e1];exact⟨p1,rfl⟩
theorem zL7 (hL:Lst L) (hp:Pre L .within s) (H:Hyp L R R' .within s):Con L R R' .within s:=by
 unfold Con zF;dsimp only;have x:=zN (w:=[40]) hL hp.1;obtain⟨p1,e1⟩:=H.rank (q:=.assign) (s1:=zM L [40] s) ⟨x.adv.hi,trivial⟩ x.adv.le (by simp only[zn];omega);rw[e1];exact⟨x.then (p1.adv.trans (zN hL p1.adv.hi).adv),rfl⟩
theorem zL8 {w:List UInt8} (hL:Lst L) (hp:Pre L (.clause w) s) (H:Hyp L R R' (.clause w) s):Con L R R' (.clause w) s:=by
 unfold Con zF;dsimp only
 by_cases c:onP L w s=true
 · simp only[if_pos c];exact⟨zN hL hp.1,trivial⟩
 simp only[if_neg c];obtain⟨p1,e1⟩:=H.rank (q:=.assign) (s1:=s) ⟨hp.1,trivial⟩ (yAD _) (by simp only[zn];omega);rw[e1];exact⟨Eat.then (b:=(R .assign s).2) p1 (zN hL p1.adv.hi).adv,rfl⟩
theorem zG7 (hL:Lst L) (H:Hyp L R R' .loop s) {a:Tr×Ps} (x:Eat L s a.2) (h0:s.k < a.2.k):
 Post L .loop s (trK 10 [a.1,(R (.clause [59]) a.2).1,(R (.clause [41]) (R (.clause [59]) a.2).2).1,(R .statement (R (.clause [41]) (R (.clause [59]) a.2).2).2).1],(R .statement (R (.clause [41]) (R (.clause [59]) a.2).2).2).2).2∧
 (trK 10 [a.1,(R (.clause [59]) a.2).1,(R (.clause [41]) (R (.clause [59]) a.2).2).1,(R .statement (R (.clause [41]) (R (.clause [59]) a.2).2).2).1],(R .statement (R (.clause [41]) (R (.clause [59]) a.2).2).2).2)=(trK 10 [a.1,(R' (.clause [59]) a.2).1,(R' (.clause [41]) (R' (.clause [59]) a.2).2).1,(R' .statement (R' (.clause [41]) (R' (.clause [59]) a.2).2).2).1],(R' .statement (R' (.clause [41]) (R' (.clause [59]) a.2).2).2).2):=by
 obtain⟨p1,e1⟩:=H.more hL (q:=.clause [59]) (s1:=a.2) ⟨x.adv.hi,trivial⟩ h0;have h1:=yAA h0 p1.adv.le;obtain⟨p2,e2⟩:=H.more hL (q:=.clause [41]) (s1:=(R (.clause [59]) a.2).2) ⟨p1.adv.hi,trivial⟩ h1;have h2:=yAA h1 p2.adv.le;obtain⟨p3,e3⟩:=H.more hL (q:=.statement) (s1:=(R (.clause [41]) (R (.clause [59]) a.2).2).2) ⟨p2.adv.hi,trivial⟩ h2;rw[e1,e2,e3];exact⟨x.then (p1.adv.trans (p2.adv.trans p3.adv)),rfl⟩
theorem zSC (hL:Lst L) (hp:Pre L .loop s) (H:Hyp L R R' .loop s):Con L R R' .loop s:=by
 have hlt:s.k < L.length - 1:=hp.2;have x0:=zAm hlt;have x1:=zN (w:=[40]) (s:=zB s) hL hlt;have h0:s.k < (zM L [40] (zB s)).k:=yAA (yAG s.k) x1.adv.le;unfold Con zF;dsimp only
 by_cases c:(onP L [108,101,116] (zM L [40] (zB s)) || onP L [99,111,110,115,116] (zM L [40] (zB s)))=true
 · simp only[if_pos c];obtain⟨p1,e1⟩:=H.more hL (q:=.declares) (s1:=zM L [40] (zB s)) ⟨x1.adv.hi,trivial⟩ h0;have y:=zN (w:=[59]) hL p1.adv.hi;rw[e1];exact zG7 hL H (a:=((R .declares (zM L [40] (zB s))).1,zM L [59] (R .declares (zM L [40] (zB s))).2)) (x0.then (x1.adv.trans (p1.adv.trans y.adv))) (yAA h0 (yAE p1.adv.le y.adv.le))
 · simp only[if_neg c];obtain⟨p1,e1⟩:=H.more hL (q:=.clause [59]) (s1:=zM L [40] (zB s)) ⟨x1.adv.hi,trivial⟩ h0;rw[e1];exact zG7 hL H (a:=R (.clause [59]) (zM L [40] (zB s))) (x0.then (x1.adv.trans p1.adv)) (yAA h0 p1.adv.le)
theorem zSD {k:Int} (hL:Lst L) (hp:Pre L (.jump k) s) (_H:Hyp L R R' (.jump k) s):Con L R R' (.jump k) s:=by
 have hlt:s.k < L.length - 1:=hp.2;have x0:=zAm hlt;unfold Con zF;dsimp only;have y:=zAD (s:=zB s) hL hlt
 by_cases c:(zH L (zB s).k).kind=1∧(zH L (zB s).k).nl=false
 · simp only[if_pos c];exact⟨x0.then (y.adv.trans (zAV hL y.adv.hi)),trivial⟩
 · simp only[if_neg c];exact⟨x0.then (zAV (s:=zB s) hL hlt),trivial⟩
theorem zF3 (hL:Lst L) (H:Hyp L R R' .tries s) {b0:Tr} {c:Tr×Ps} (x:Eat L s c.2) (h0:s.k < c.2.k):
 Post L .tries s (if onP L [102,105,110,97,108,108,121] c.2=true then(trK 16 [b0,c.1,(R .block (zB c.2)).1],(R .block (zB c.2)).2)else(trK 16 [b0,c.1,trK 11 []],c.2)).2∧
 (if onP L [102,105,110,97,108,108,121] c.2=true then(trK 16 [b0,c.1,(R .block (zB c.2)).1],(R .block (zB c.2)).2)else(trK 16 [b0,c.1,trK 11 []],c.2))=(if onP L [102,105,110,97,108,108,121] c.2=true then(trK 16 [b0,c.1,(R' .block (zB c.2)).1],(R' .block (zB c.2)).2)else(trK 16 [b0,c.1,trK 11 []],c.2)):=by
 by_cases d:onP L [102,105,110,97,108,108,121] c.2=true
 · simp only[if_pos d];have hlt:=hL.on x.adv.hi d;obtain⟨p1,e1⟩:=H.more hL (q:=.block) (s1:=zB c.2) ⟨hlt,trivial⟩ (Nat.lt_succ_of_lt h0);rw[e1];exact⟨x.then ((zAC hlt).trans p1.adv),rfl⟩
 · simp only[if_neg d];exact⟨x,trivial⟩
theorem zE8 (hL:Lst L) (H:Hyp L R R' .tries s) {b0:Tr} {s1:Ps} (x:Eat L s s1) (h0:s.k < s1.k) {n:List UInt8×Ps} (y:Adv L s1 n.2):
 Post L .tries s (if onP L [102,105,110,97,108,108,121] (R .block n.2).2=true then(trK 16 [b0,trN 17 n.1 [(R .block n.2).1],(R .block (zB (R .block n.2).2)).1],(R .block (zB (R .block n.2).2)).2)else(trK 16 [b0,trN 17 n.1 [(R .block n.2).1],trK 11 []],(R .block n.2).2)).2∧
 (if onP L [102,105,110,97,108,108,121] (R .block n.2).2=true then(trK 16 [b0,trN 17 n.1 [(R .block n.2).1],(R .block (zB (R .block n.2).2)).1],(R .block (zB (R .block n.2).2)).2)else(trK 16 [b0,trN 17 n.1 [(R .block n.2).1],trK 11 []],(R .block n.2).2))=(if onP L [102,105,110,97,108,108,121] (R' .block n.2).2=true then(trK 16 [b0,trN 17 n.1 [(R' .block n.2).1],(R' .block (zB (R' .block n.2).2)).1],(R' .block (zB (R' .block n.2).2)).2)else(trK 16 [b0,trN 17 n.1 [(R' .block n.2).1],trK 11 []],(R' .block n.2).2)):=by
 obtain⟨p1,e1⟩:=H.more hL (q:=.block) (s1:=n.2) ⟨y.hi,trivial⟩ (yAA h0 y.le);rw[e1];exact zF3 hL H (c:=(trN 17 n.1 [(R .block n.2).1],(R .block n.2).2)) (x.then (y.trans p1.adv)) (yAA h0 (yAE y.le p1.adv.le))
theorem zO2 (hL:Lst L) (hp:Pre L .tries s) (H:Hyp L R R' .tries s):Con L R R' .tries s:=by
 have hlt:s.k < L.length - 1:=hp.2;have x0:=zAm hlt;unfold Con zF;dsimp only;obtain⟨p1,e1⟩:=H.more hL (q:=.block) (s1:=zB s) ⟨hlt,trivial⟩ (yAG _);rw[e1];have y:Adv L (zB s) (if(onP L [99,97,116,99,104] (R .block (zB s)).2 || onP L [102,105,110,97,108,108,121] (R .block (zB s)).2)=true then(R .block (zB s)).2 else zV L (R .block (zB s)).2):=by
  split
  · exact p1.adv
  · exact p1.adv.trans (zl p1.adv.hi).adv
 obtain⟨s1,hs1⟩:∃s1,(if(onP L [99,97,116,99,104] (R .block (zB s)).2 || onP L [102,105,110,97,108,108,121] (R .block (zB s)).2)=true then(R .block (zB s)).2 else zV L (R .block (zB s)).2)=s1:=⟨_,rfl⟩;rw[hs1]at y⊢;have h0:s.k < s1.k:=y.le
 by_cases c:onP L [99,97,116,99,104] s1=true
 · simp only[if_pos c];have hl1:=hL.on y.hi c;have z:=zAC hl1
   by_cases c2:onP L [40] (zB s1)=true
   · simp only[if_pos c2];have hl2:=hL.on (s:=zB s1) hl1 c2;have u:=zAD (s:=zB (zB s1)) hL hl2;have v:=zN (w:=[41]) hL u.adv.hi;exact zE8 hL H (n:=((zW L (zB (zB s1))).1,zM L [41] (zW L (zB (zB s1))).2)) (x0.then y) h0 (z.trans ((zAC hl2).trans (u.adv.trans v.adv)))
   · simp only[if_neg c2];exact zE8 hL H (n:=([],zB s1)) (x0.then y) h0 z
 · simp only[if_neg c];exact zF3 hL H (c:=(trK 11 [],s1)) (x0.then y) h0
theorem zL9 (hL:Lst L) (hp:Pre L .assign s) (H:Hyp L R R' .assign s):Con L R R' .assign s:=by
 unfold Con zF;dsimp only
 by_cases c:(zH L s.k).kind=1∧isT (zx L s.k 1) [61,62]=true∧(zx L s.k 1).nl=false
 · simp only[if_pos c];have hlt:=hL.lt hp.1 (by rw[c.1];decide);obtain⟨p1,e1⟩:=H.more hL (q:=.body [trN 20 (zH L s.k).text []]) (s1:=zB s) ⟨hlt,trivial⟩ (yAG _);rw[e1];exact⟨(zAm hlt).then p1.adv,rfl⟩
 simp only[if_neg c]
 by_cases c2:zAR L s=true
 · simp only[if_pos c2];have hlt:s.k < L.length - 1:=hL.on (w:=[40]) hp.1 (by
    unfold zAR at c2;rw[Bool.and_eq_true]at c2;exact c2.1)
   obtain⟨p1,e1⟩:=H.rank (q:=.params) (s1:=s) ⟨hp.1,trivial⟩ (yAD _) (by simp only[zn];omega);have x1:Eat L s (R .params s).2:=p1;obtain⟨p2,e2⟩:=H.more hL (q:=.body (R .params s).1.subs) (s1:=(R .params s).2) ⟨x1.adv.hi,trivial⟩ (x1.more hlt);rw[e1,e2];exact⟨x1.then p2.adv,rfl⟩
 simp only[if_neg c2];obtain⟨p1,e1⟩:=H.rank (q:=.cond) (s1:=s) ⟨hp.1,trivial⟩ (yAD _) (by simp only[zn];omega);have x1:Eat L s (R .cond s).2:=p1;rw[e1]
 by_cases c3:(zH L (R .cond s).2.k).kind≠5∨¬(zH L (R .cond s).2.k).text∈zIB
 · simp only[if_pos c3];exact⟨x1,trivial⟩
 simp only[if_neg c3];have hl2:(R .cond s).2.k < L.length - 1:=hL.lt x1.adv.hi (by
  intro h0;exact c3 (.inl (by rw[h0];decide)))
 by_cases c4:zAH (R .cond s).1.nd.kind=false
 · simp only[if_pos c4];exact⟨x1.then (zEr (by decide) x1.adv.hi).adv,trivial⟩
 simp only[if_neg c4];obtain⟨p2,e2⟩:=H.more hL (q:=.assign) (s1:=zB (R .cond s).2) ⟨hl2,trivial⟩ (Nat.lt_succ_of_le x1.adv.le);rw[e2];exact⟨x1.then ((zAC hl2).trans p2.adv),rfl⟩
theorem zSE {l:List Tr} (hL:Lst L) (hp:Pre L (.body l) s) (H:Hyp L R R' (.body l) s):Con L R R' (.body l) s:=by
 unfold Con zF;dsimp only;have y:Adv L s (if(zH L s.k).nl=true then zV L s else s):=by
  split
  · exact(zl hp.1).adv
  · exact Adv.refl hp.1
 obtain⟨s0,hs0⟩:∃s0,(if(zH L s.k).nl=true then zV L s else s)=s0:=⟨_,rfl⟩;rw[hs0]at y⊢;have x1:=zN (w:=[61,62]) hL y.hi;have x:=y.eat x1
 by_cases c:onP L [123] (zM L [61,62] s0)=true
 · simp only[if_pos c];have h2:s0.k < (zM L [61,62] s0).k:=by
    by_cases c2:onP L [61,62] s0=true
    · unfold zM;rw[if_pos c2];exact yAG _
    · have hr:zM L [61,62] s0=zV L s0:=by unfold zM;rw[if_neg c2]
      have:=hL.on x1.adv.hi c;rw[hr,zD0]at this;omega
   obtain⟨p1,e1⟩:=H.more hL (q:=.block) (s1:=zM L [61,62] s0) ⟨x.adv.hi,trivial⟩ (Nat.lt_of_le_of_lt y.le h2);rw[e1];exact⟨x.then p1.adv,rfl⟩
 · simp only[if_neg c];obtain⟨p1,e1⟩:=H.rank (q:=.assign) (s1:=zM L [61,62] s0) ⟨x.adv.hi,trivial⟩ x.adv.le (by simp only[zn];omega);rw[e1];exact⟨x.then p1.adv,rfl⟩
theorem zSF (hL:Lst L) (hp:Pre L .cond s) (H:Hyp L R R' .cond s):Con L R R' .cond s:=by
 unfold Con zF;dsimp only;obtain⟨p1,e1⟩:=H.rank (q:=.either) (s1:=s) ⟨hp.1,trivial⟩ (yAD _) (by simp only[zn];omega);have x1:Eat L s (R .either s).2:=p1;rw[e1]
 by_cases c:onP L [63] (R .either s).2=true
 · simp only[if_pos c];have hl:=hL.on x1.adv.hi c;have h0:s.k < (zB (R .either s).2).k:=Nat.lt_succ_of_le x1.adv.le;obtain⟨p2,e2⟩:=H.more hL (q:=.assign) (s1:=zB (R .either s).2) ⟨hl,trivial⟩ h0;have y:=zN (w:=[58]) hL p2.adv.hi;obtain⟨p3,e3⟩:=H.more hL (q:=.assign) (s1:=zM L [58] (R .assign (zB (R .either s).2)).2) ⟨y.adv.hi,trivial⟩ (yAA h0 (yAE p2.adv.le y.adv.le));rw[e2,e3];exact⟨x1.then ((zAC hl).trans (p2.adv.trans (y.adv.trans p3.adv))),rfl⟩
 · simp only[if_neg c];exact⟨x1,trivial⟩
theorem zMA (hL:Lst L) (hp:Pre L .either s) (H:Hyp L R R' .either s):Con L R R' .either s:=by
 unfold Con zF;dsimp only;obtain⟨p1,e1⟩:=H.rank (q:=.level 0) (s1:=s) ⟨hp.1,yAF _⟩ (yAD _) (by simp only[zn];omega);have x1:Eat L s (R (.level 0) s).2:=p1;have _:=hL.pos;rw[e1];have fin:∀{q:Ps} {c:Bool},q.k≤L.length - 1→Adv L q (if c=true then zV L q else q):=by
  intro q c hq;split
  · exact(zl hq).adv
  · exact Adv.refl hq
 by_cases c:onP L [63,63] (R (.level 0) s).2=true
 · simp only[if_pos c];obtain⟨p2,e2⟩:=H.rank (q:=.nullL (R (.level 0) s).1) (s1:=(R (.level 0) s).2) ⟨x1.adv.hi,trivial⟩ x1.adv.le (by simp only[zn];omega);rw[e2];exact⟨x1.then (p2.adv.trans (fin p2.adv.hi)),rfl⟩
 · simp only[if_neg c];obtain⟨p2,e2⟩:=H.rank (q:=.both (R (.level 0) s).1) (s1:=(R (.level 0) s).2) ⟨x1.adv.hi,trivial⟩ x1.adv.le (by simp only[zn];omega);rw[e2];obtain⟨p3,e3⟩:=H.rank (q:=.orL (R (.both (R (.level 0) s).1) (R (.level 0) s).2).1) (s1:=(R (.both (R (.level 0) s).1) (R (.level 0) s).2).2) ⟨p2.adv.hi,trivial⟩ (yAE x1.adv.le p2.adv.le) (by simp only[zn];omega);rw[e3];exact⟨x1.then (p2.adv.trans (p3.adv.trans (fin p3.adv.hi))),rfl⟩
theorem zO3 {x:Tr} (hL:Lst L) (hp:Pre L (.nullL x) s) (H:Hyp L R R' (.nullL x) s):Con L R R' (.nullL x) s:=by
 unfold Con zF;dsimp only
 by_cases c:onP L [63,63] s=true
 · simp only[if_pos c];have hl:=hL.on hp.1 c;obtain⟨p1,e1⟩:=H.more hL (q:=.level 0) (s1:=zB s) ⟨hl,yAF _⟩ (yAG _);obtain⟨p2,e2⟩:=H.more hL (q:=.nullL (trN 47 [63,63] [x,(R (.level 0) (zB s)).1])) (s1:=(R (.level 0) (zB s)).2) ⟨p1.adv.hi,trivial⟩ (yAA (yAG _) p1.adv.le);rw[e1,e2];exact⟨(zAC hl).trans (p1.adv.trans p2.adv),rfl⟩
 · simp only[if_neg c];exact⟨Adv.refl hp.1,trivial⟩
theorem zSG {x:Tr} (hL:Lst L) (hp:Pre L (.both x) s) (H:Hyp L R R' (.both x) s):Con L R R' (.both x) s:=by
 unfold Con zF;dsimp only
 by_cases c:onP L [38,38] s=true
 · simp only[if_pos c];have hl:=hL.on hp.1 c;obtain⟨p1,e1⟩:=H.more hL (q:=.level 0) (s1:=zB s) ⟨hl,yAF _⟩ (yAG _);obtain⟨p2,e2⟩:=H.more hL (q:=.both (trN 47 [38,38] [x,(R (.level 0) (zB s)).1])) (s1:=(R (.level 0) (zB s)).2) ⟨p1.adv.hi,trivial⟩ (yAA (yAG _) p1.adv.le);rw[e1,e2];exact⟨(zAC hl).trans (p1.adv.trans p2.adv),rfl⟩
 · simp only[if_neg c];exact⟨Adv.refl hp.1,trivial⟩
theorem zTo {x:Tr} (hL:Lst L) (hp:Pre L (.orL x) s) (H:Hyp L R R' (.orL x) s):Con L R R' (.orL x) s:=by
 unfold Con zF;dsimp only
 by_cases c:onP L [124,124] s=true
 · simp only[if_pos c];have hl:=hL.on hp.1 c;obtain⟨p1,e1⟩:=H.more hL (q:=.level 0) (s1:=zB s) ⟨hl,yAF _⟩ (yAG _);have h1:s.k < (R (.level 0) (zB s)).2.k:=p1.adv.le;rw[e1];obtain⟨p2,e2⟩:=H.more hL (q:=.both (R (.level 0) (zB s)).1) (s1:=(R (.level 0) (zB s)).2) ⟨p1.adv.hi,trivial⟩ h1;rw[e2];obtain⟨p3,e3⟩:=H.more hL (q:=.orL (trN 47 [124,124] [x,(R (.both (R (.level 0) (zB s)).1) (R (.level 0) (zB s)).2).1])) (s1:=(R (.both (R (.level 0) (zB s)).1) (R (.level 0) (zB s)).2).2) ⟨p2.adv.hi,trivial⟩ (yAA h1 p2.adv.le);rw[e3];exact⟨(zAC hl).trans (p1.adv.trans (p2.adv.trans p3.adv)),rfl⟩
 · simp only[if_neg c];exact⟨Adv.refl hp.1,trivial⟩
theorem zO4 {n:Nat} (hL:Lst L) (hp:Pre L (.level n) s) (H:Hyp L R R' (.level n) s):Con L R R' (.level n) s:=by
 have hn:n≤8:=hp.2;have _:=hL.pos;unfold Con zF;dsimp only
 by_cases c:n=8
 · simp only[if_pos c];obtain⟨p1,e1⟩:=H.rank (q:=.unary) (s1:=s) ⟨hp.1,trivial⟩ (yAD _) (by simp only[zn];omega);rw[e1];exact⟨p1,rfl⟩
 · simp only[if_neg c];obtain⟨p1,e1⟩:=H.rank (q:=.level (n+1)) (s1:=s) ⟨hp.1,(by show n+1≤8;omega)⟩ (yAD _) (by simp only[zn];omega);have x1:Eat L s (R (.level (n+1)) s).2:=p1;obtain⟨p2,e2⟩:=H.rank (q:=.levelL n (R (.level (n+1)) s).1) (s1:=(R (.level (n+1)) s).2) ⟨x1.adv.hi,(by show n < 8;omega)⟩ x1.adv.le (by simp only[zn];omega);rw[e1,e2];exact⟨x1.then p2.adv,rfl⟩
theorem zCZ {t:Tok} (h:zA9 t≠9):t.kind≠0:=by
 unfold zA9 at h;intro h0;apply h;rw[if_neg];intro h2;rcases h2 with h2 | h2
 · omega
 · exact zDz h2 h0
theorem zMB {n:Nat} {x:Tr} (hL:Lst L) (hp:Pre L (.levelL n x) s) (H:Hyp L R R' (.levelL n x) s):Con L R R' (.levelL n x) s:=by
 have hn:n < 8:=hp.2;unfold Con zF;dsimp only
 by_cases c:zA9 (zH L s.k)=n
 · simp only[if_pos c];have hl:=hL.lt hp.1 (zCZ (by omega));obtain⟨p1,e1⟩:=H.more hL (q:=.level (n+1)) (s1:=zB s) ⟨hl,(by show n+1≤8;omega)⟩ (yAG _);obtain⟨p2,e2⟩:=H.more hL (q:=.levelL n (trN 46 (zH L s.k).text [x,(R (.level (n+1)) (zB s)).1])) (s1:=(R (.level (n+1)) (zB s)).2) ⟨p1.adv.hi,hn⟩ (yAA (yAG _) p1.adv.le);rw[e1,e2];exact⟨(zAC hl).trans (p1.adv.trans p2.adv),rfl⟩
 · simp only[if_neg c];exact⟨Adv.refl hp.1,trivial⟩
theorem zO5 (hL:Lst L) (hp:Pre L .unary s) (H:Hyp L R R' .unary s):Con L R R' .unary s:=by
 unfold Con zF;dsimp only
 by_cases c:((zH L s.k).kind=5∨(zH L s.k).kind=6)∧(zH L s.k).text∈zH7
 · simp only[if_pos c];have hl:=hL.lt hp.1 (by omega);obtain⟨p1,e1⟩:=H.more hL (q:=.unary) (s1:=zB s) ⟨hl,trivial⟩ (yAG _);rw[e1];exact⟨(zAm hl).then p1.adv,rfl⟩
 simp only[if_neg c]
 by_cases c2:((zH L s.k).kind=5∨(zH L s.k).kind=6)∧(zH L s.k).text∈zDv
 · simp only[if_pos c2];have hl:=hL.lt hp.1 (by omega);obtain⟨p1,e1⟩:=H.more hL (q:=.unary) (s1:=zB s) ⟨hl,trivial⟩ (yAG _);rw[e1];refine⟨(zAm hl).then (p1.adv.trans ?_),rfl⟩;show Adv L _ (if _ then _ else _);split
   · exact(zl p1.adv.hi).adv
   · exact Adv.refl p1.adv.hi
 simp only[if_neg c2];obtain⟨p1,e1⟩:=H.rank (q:=.calls) (s1:=s) ⟨hp.1,trivial⟩ (yAD _) (by simp only[zn];omega);have x1:Eat L s (R .calls s).2:=p1;rw[e1]
 by_cases c3:(zH L (R .calls s).2.k).kind=5∧(zH L (R .calls s).2.k).text∈zDv∧(zH L (R .calls s).2.k).nl=false
 · simp only[if_pos c3]
   by_cases c4:zAH (R .calls s).1.nd.kind=false
   · simp only[if_pos c4];exact⟨x1.then (zl x1.adv.hi).adv,trivial⟩
   · simp only[if_neg c4];exact⟨x1.then (zAC (hL.lt x1.adv.hi (by omega))),trivial⟩
 · simp only[if_neg c3];exact⟨x1,trivial⟩
theorem zO6 (hL:Lst L) (hp:Pre L .calls s) (H:Hyp L R R' .calls s):Con L R R' .calls s:=by
 have _:=hL.pos;unfold Con zF;dsimp only;obtain⟨p1,e1⟩:=H.rank (q:=.head) (s1:=s) ⟨hp.1,trivial⟩ (yAD _) (by simp only[zn];omega);have x1:Eat L s (R .head s).2:=p1;obtain⟨p2,e2⟩:=H.rank (q:=.callsL (R .head s).1) (s1:=(R .head s).2) ⟨x1.adv.hi,trivial⟩ x1.adv.le (by simp only[zn];omega);rw[e1,e2];exact⟨x1.then p2.adv,rfl⟩
theorem zMC {x:Tr} (hL:Lst L) (hp:Pre L (.callsL x) s) (H:Hyp L R R' (.callsL x) s):Con L R R' (.callsL x) s:=by
 unfold Con zF;dsimp only
 by_cases c:onP L [40] s=true
 · simp only[if_pos c];have hlt:=hL.on hp.1 c;obtain⟨p1,e1⟩:=H.rank (q:=.args) (s1:=s) ⟨hp.1,hlt⟩ (yAD _) (by simp only[zn];omega);have x1:Eat L s (R .args s).2:=p1;obtain⟨p2,e2⟩:=H.more hL (q:=.callsL (trK 50 (x::(R .args s).1.subs))) (s1:=(R .args s).2) ⟨x1.adv.hi,trivial⟩ (x1.more hlt);rw[e1,e2];exact⟨x1.adv.trans p2.adv,rfl⟩
 simp only[if_neg c]
 by_cases c2:onP L [46] s=true
 · simp only[if_pos c2];have hlt:=hL.on hp.1 c2;have x0:=zAC hlt
   by_cases c3:(zH L (zB s).k).kind≠1∧(zH L (zB s).k).kind≠6
   · simp only[if_pos c3];exact⟨x0.trans (zl (s:=zB s) hlt).adv,trivial⟩
   · simp only[if_neg c3];have hl2:(zB s).k < L.length - 1:=hL.lt hlt (by omega);obtain⟨p1,e1⟩:=H.more hL (q:=.callsL (trN 52 (zH L (zB s).k).text [x])) (s1:=zB (zB s)) ⟨hl2,trivial⟩ (by show s.k < s.k+1+1;omega);rw[e1];exact⟨x0.trans ((zAC hl2).trans p1.adv),rfl⟩
 simp only[if_neg c2]
 by_cases c4:onP L [91] s=true
 · simp only[if_pos c4];have hlt:=hL.on hp.1 c4;obtain⟨p1,e1⟩:=H.more hL (q:=.assign) (s1:=zB s) ⟨hlt,trivial⟩ (yAG _);have y:=zN (w:=[93]) hL p1.adv.hi;have z:=p1.adv.trans y.adv;obtain⟨p2,e2⟩:=H.more hL (q:=.callsL (trK 53 [x,(R .assign (zB s)).1])) (s1:=zM L [93] (R .assign (zB s)).2) ⟨y.adv.hi,trivial⟩ (yAA (yAG _) z.le);rw[e1,e2];exact⟨(zAC hlt).trans (z.trans p2.adv),rfl⟩
 · simp only[if_neg c4];exact⟨Adv.refl hp.1,trivial⟩
theorem zO7 {x:Tr} (hL:Lst L) (hp:Pre L (.headL x) s) (H:Hyp L R R' (.headL x) s):Con L R R' (.headL x) s:=by
 unfold Con zF;dsimp only
 by_cases c2:onP L [46] s=true
 · simp only[if_pos c2];have hlt:=hL.on hp.1 c2;have x0:=zAC hlt
   by_cases c3:(zH L (zB s).k).kind≠1∧(zH L (zB s).k).kind≠6
   · simp only[if_pos c3];exact⟨x0.trans (zl (s:=zB s) hlt).adv,trivial⟩
   · simp only[if_neg c3];have hl2:(zB s).k < L.length - 1:=hL.lt hlt (by omega);obtain⟨p1,e1⟩:=H.more hL (q:=.headL (trN 52 (zH L (zB s).k).text [x])) (s1:=zB (zB s)) ⟨hl2,trivial⟩ (by show s.k < s.k+1+1;omega);rw[e1];exact⟨x0.trans ((zAC hl2).trans p1.adv),rfl⟩
 simp only[if_neg c2]
 by_cases c4:onP L [91] s=true
 · simp only[if_pos c4];have hlt:=hL.on hp.1 c4;obtain⟨p1,e1⟩:=H.more hL (q:=.assign) (s1:=zB s) ⟨hlt,trivial⟩ (yAG _);have y:=zN (w:=[93]) hL p1.adv.hi;have z:=p1.adv.trans y.adv;obtain⟨p2,e2⟩:=H.more hL (q:=.headL (trK 53 [x,(R .assign (zB s)).1])) (s1:=zM L [93] (R .assign (zB s)).2) ⟨y.adv.hi,trivial⟩ (yAA (yAG _) z.le);rw[e1,e2];exact⟨(zAC hlt).trans (z.trans p2.adv),rfl⟩
 · simp only[if_neg c4];exact⟨Adv.refl hp.1,trivial⟩
theorem zSH (hL:Lst L) (hp:Pre L .head s) (H:Hyp L R R' .head s):Con L R R' .head s:=by
 unfold Con zF;dsimp only
 by_cases c:onP L [110,101,119] s=true
 · simp only[if_pos c];have hlt:=hL.on hp.1 c;have x0:=zAm hlt;obtain⟨p1,e1⟩:=H.more hL (q:=.head) (s1:=zB s) ⟨hlt,trivial⟩ (yAG _);have h1:s.k < (R .head (zB s)).2.k:=p1.adv.le;obtain⟨p2,e2⟩:=H.more hL (q:=.headL (R .head (zB s)).1) (s1:=(R .head (zB s)).2) ⟨p1.adv.hi,trivial⟩ h1;rw[e1,e2];have y:=p1.adv.trans p2.adv
   by_cases c2:onP L [40] (R (.headL (R .head (zB s)).1) (R .head (zB s)).2).2=true
   · simp only[if_pos c2];have hl2:=hL.on y.hi c2;obtain⟨p3,e3⟩:=H.more hL (q:=.args) (s1:=(R (.headL (R .head (zB s)).1) (R .head (zB s)).2).2) ⟨y.hi,hl2⟩ (yAA h1 p2.adv.le);rw[e3];exact⟨x0.then (y.trans p3.adv),rfl⟩
   · simp only[if_neg c2];exact⟨x0.then y,trivial⟩
 · simp only[if_neg c];obtain⟨p1,e1⟩:=H.rank (q:=.primary) (s1:=s) ⟨hp.1,trivial⟩ (yAD _) (by simp only[zn];omega);rw[e1];exact⟨p1,rfl⟩
theorem zSI (hL:Lst L) (hp:Pre L .args s) (H:Hyp L R R' .args s):Con L R R' .args s:=by
 have hlt:s.k < L.length - 1:=hp.2;unfold Con zF;dsimp only;have x:=zN (w:=[40]) hL hp.1;obtain⟨p1,e1⟩:=H.more hL (q:=.list [41]) (s1:=zM L [40] s) ⟨x.adv.hi,trivial⟩ (x.more hlt);rw[e1];exact⟨x.then p1.adv,rfl⟩
theorem zSJ {w:List UInt8} (hL:Lst L) (hp:Pre L (.list w) s) (H:Hyp L R R' (.list w) s):Con L R R' (.list w) s:=by
 unfold Con zF;dsimp only
 by_cases c:onP L w s=true
 · simp only[if_pos c];exact⟨zAm (hL.on hp.1 c),trivial⟩
 · simp only[if_neg c];obtain⟨p1,e1⟩:=H.rank (q:=.listL w []) (s1:=s) ⟨hp.1,trivial⟩ (yAD _) (by simp only[zn];omega);rw[e1];exact⟨p1,rfl⟩
theorem zO8 {w:List UInt8} {acc:List Tr} (hL:Lst L) (hp:Pre L (.listL w acc) s) (H:Hyp L R R' (.listL w acc) s):Con L R R' (.listL w acc) s:=by
 unfold Con zF;dsimp only;obtain⟨p1,e1⟩:=H.rank (q:=.assign) (s1:=s) ⟨hp.1,trivial⟩ (yAD _) (by simp only[zn];omega);have x1:Eat L s (R .assign s).2:=p1;rw[e1]
 by_cases c:(R .assign s).2.bad≠0
 · simp only[if_pos c];exact⟨x1,trivial⟩
 simp only[if_neg c]
 by_cases c2:onP L w (R .assign s).2=true
 · simp only[if_pos c2];exact⟨x1.then (zAC (hL.on x1.adv.hi c2)),trivial⟩
 simp only[if_neg c2];have y:=zN (w:=[44]) hL x1.adv.hi;obtain⟨p2,e2⟩:=H.more hL (q:=.listL w (acc++[(R .assign s).1])) (s1:=zM L [44] (R .assign s).2) ⟨y.adv.hi,trivial⟩ (yAA (x1.lt hp.1 c) y.adv.le);rw[e2];exact⟨x1.then (y.adv.trans p2.adv),rfl⟩
theorem zMD (hL:Lst L) (hp:Pre L .object s) (H:Hyp L R R' .object s):Con L R R' .object s:=by
 unfold Con zF;dsimp only
 by_cases c:onP L [125] s=true
 · simp only[if_pos c];exact⟨zAm (hL.on hp.1 c),trivial⟩
 · simp only[if_neg c];obtain⟨p1,e1⟩:=H.rank (q:=.objL []) (s1:=s) ⟨hp.1,trivial⟩ (yAD _) (by simp only[zn];omega);rw[e1];exact⟨p1,rfl⟩
theorem zSK {acc:List Tr} (hL:Lst L) (hp:Pre L (.objL acc) s) (H:Hyp L R R' (.objL acc) s):Con L R R' (.objL acc) s:=by
 unfold Con zF;dsimp only;obtain⟨p1,e1⟩:=H.rank (q:=.prop) (s1:=s) ⟨hp.1,trivial⟩ (yAD _) (by simp only[zn];omega);have x1:Eat L s (R .prop s).2:=p1;rw[e1]
 by_cases c:(R .prop s).2.bad≠0
 · simp only[if_pos c];exact⟨x1,trivial⟩
 simp only[if_neg c]
 by_cases c2:onP L [125] (R .prop s).2=true
 · simp only[if_pos c2];exact⟨x1.then (zAC (hL.on x1.adv.hi c2)),trivial⟩
 simp only[if_neg c2];have y:=zN (w:=[44]) hL x1.adv.hi;obtain⟨p2,e2⟩:=H.more hL (q:=.objL (acc++[(R .prop s).1])) (s1:=zM L [44] (R .prop s).2) ⟨y.adv.hi,trivial⟩ (yAA (x1.lt hp.1 c) y.adv.le);rw[e2];exact⟨x1.then (y.adv.trans p2.adv),rfl⟩
theorem zCM {t:Tok} {u:List UInt16} (h:zAb t=some u):t.kind≠0:=by
 unfold zAb at h;intro h0;rw[h0]at h;simp at h
theorem zSL (hL:Lst L) (hp:Pre L .prop s) (H:Hyp L R R' .prop s):Con L R R' .prop s:=by
 unfold Con zF;dsimp only;cases hs:zAb (zH L s.k)with
 | none=>exact⟨zl hp.1,by first | rfl | trivial⟩
 | some u=>
  have hlt:=hL.lt hp.1 (zCM hs);have x0:=zAm hlt;dsimp only
  by_cases c:(zH L s.k).kind=1∧onP L [58] (zB s)=false
  · simp only[if_pos c];exact⟨x0,trivial⟩
  simp only[if_neg c];have y:=zN (w:=[58]) (s:=zB s) hL hlt;obtain⟨p1,e1⟩:=H.more hL (q:=.assign) (s1:=zM L [58] (zB s)) ⟨y.adv.hi,trivial⟩ (yAA (yAG s.k) y.adv.le);rw[e1];exact⟨x0.then (y.adv.trans p1.adv),rfl⟩
theorem zKB (hL:Lst L) (hp:Pre L .primary s) (H:Hyp L R R' .primary s):Con L R R' .primary s:=by
 unfold Con zF;dsimp only
 by_cases c0:(zH L s.k).kind=0
 · simp only[if_pos c0];exact⟨zl hp.1,trivial⟩
 simp only[if_neg c0];have hlt:=hL.lt hp.1 c0;have x0:=zAm hlt
 by_cases c1:(zH L s.k).kind=2
 · simp only[if_pos c1];exact⟨x0,trivial⟩
 simp only[if_neg c1]
 by_cases c2:(zH L s.k).kind=3
 · simp only[if_pos c2];exact⟨x0,trivial⟩
 simp only[if_neg c2]
 by_cases c3:(zH L s.k).kind=4
 · simp only[if_pos c3];exact⟨x0,trivial⟩
 simp only[if_neg c3]
 by_cases c4:(zH L s.k).kind=1
 · simp only[if_pos c4];exact⟨x0,trivial⟩
 simp only[if_neg c4]
 by_cases c5:(zH L s.k).text=[116,114,117,101]
 · simp only[if_pos c5];exact⟨x0,trivial⟩
 simp only[if_neg c5]
 by_cases c6:(zH L s.k).text=[102,97,108,115,101]
 · simp only[if_pos c6];exact⟨x0,trivial⟩
 simp only[if_neg c6]
 by_cases c7:(zH L s.k).text=[110,117,108,108]
 · simp only[if_pos c7];exact⟨x0,trivial⟩
 simp only[if_neg c7]
 by_cases c8:(zH L s.k).text=[116,104,105,115]
 · simp only[if_pos c8];exact⟨x0,trivial⟩
 simp only[if_neg c8]
 by_cases c9:(zH L s.k).text=[91]
 · simp only[if_pos c9];obtain⟨p1,e1⟩:=H.more hL (q:=.list [93]) (s1:=zB s) ⟨hlt,trivial⟩ (yAG _);rw[e1];exact⟨x0.then p1.adv,rfl⟩
 simp only[if_neg c9]
 by_cases d0:(zH L s.k).text=[123]
 · simp only[if_pos d0];obtain⟨p1,e1⟩:=H.more hL (q:=.object) (s1:=zB s) ⟨hlt,trivial⟩ (yAG _);rw[e1];exact⟨x0.then p1.adv,rfl⟩
 simp only[if_neg d0]
 by_cases d1:(zH L s.k).text=[102,117,110,99,116,105,111,110]
 · simp only[if_pos d1]
   by_cases d2:(zH L (zB s).k).kind=1
   · simp only[if_pos d2];have y:=zAD (s:=zB s) hL hlt;obtain⟨p1,e1⟩:=H.more hL (q:=.func 41 (zW L (zB s)).1) (s1:=(zW L (zB s)).2) ⟨y.adv.hi,trivial⟩ (yAA (yAG s.k) y.adv.le);rw[e1];exact⟨x0.then (y.adv.trans p1.adv),rfl⟩
   · simp only[if_neg d2];obtain⟨p1,e1⟩:=H.more hL (q:=.func 41 []) (s1:=zB s) ⟨hlt,trivial⟩ (yAG _);rw[e1];exact⟨x0.then p1.adv,rfl⟩
 simp only[if_neg d1]
 by_cases d3:(zH L s.k).text=[40]
 · simp only[if_pos d3];obtain⟨p1,e1⟩:=H.more hL (q:=.assign) (s1:=zB s) ⟨hlt,trivial⟩ (yAG _);rw[e1];exact⟨x0.then (p1.adv.trans (zN hL p1.adv.hi).adv),rfl⟩
 simp only[if_neg d3];refine⟨?_,by first | rfl | trivial⟩;show Eat L s (if _ then _ else _);split
 · exact zEr (by decide) hp.1
 · exact zl hp.1
theorem zEt {p:Ph} (hL:Lst L) (hp:Pre L p s) (H:Hyp L R R' p s):Con L R R' p s:=by
 cases p with
 | program acc=>exact zKA hL hp H
 | block=>exact zO0 hL hp H
 | blockL acc=>exact zL3 hL hp H
 | item=>exact zR9 hL hp H
 | declares=>exact zIF hL hp H
 | declL k acc=>exact zO1 hL hp H
 | func k n=>exact zSA hL hp H
 | params=>exact zL4 hL hp H
 | paramL acc=>exact zL5 hL hp H
 | statement=>exact zG6 hL hp H
 | simple=>exact zL6 hL hp H
 | word w=>exact zSB hL hp H
 | within=>exact zL7 hL hp H
 | clause w=>exact zL8 hL hp H
 | loop=>exact zSC hL hp H
 | jump k=>exact zSD hL hp H
 | tries=>exact zO2 hL hp H
 | assign=>exact zL9 hL hp H
 | body l=>exact zSE hL hp H
 | cond=>exact zSF hL hp H
 | either=>exact zMA hL hp H
 | nullL x=>exact zO3 hL hp H
 | orL x=>exact zTo hL hp H
 | both x=>exact zSG hL hp H
 | level n=>exact zO4 hL hp H
 | levelL n x=>exact zMB hL hp H
 | unary=>exact zO5 hL hp H
 | calls=>exact zO6 hL hp H
 | callsL x=>exact zMC hL hp H
 | head=>exact zSH hL hp H
 | headL x=>exact zO7 hL hp H
 | args=>exact zSI hL hp H
 | list w=>exact zSJ hL hp H
 | listL w acc=>exact zO8 hL hp H
 | primary=>exact zKB hL hp H
 | object=>exact zMD hL hp H
 | objL acc=>exact zSK hL hp H
 | prop=>exact zSL hL hp H
end
theorem zGX {L:List Tok} (hL:Lst L):∀(f g:Nat) (p:Ph) (s:Ps),Pre L p s→zf L p s < f→zf L p s < g→Post L p s (zCL L f p s).2∧zCL L f p s=zCL L g p s:=by
 intro f
 induction f with
 | zero=>intro g p s _ h _;omega
 | succ f ih=>
  intro g p s hp hf hg;obtain⟨g,rfl⟩:∃m,g=m+1:=⟨g - 1,by omega⟩;exact zEt (R:=zCL L f) (R':=zCL L g) hL hp (fun q s1 hq hl=>ih g q s1 hq (by omega) (by omega))
theorem zS {L:List Tok} (hL:Lst L) {p:Ph} {s:Ps} (hp:Pre L p s):Post L p s (zG L p s).2:=(zGX hL _ _ p s hp (yAG _) (yAG _)).1
theorem zt {L:List Tok} (hL:Lst L) {p:Ph} {s:Ps} (hp:Pre L p s):zG L p s=zF L (zG L) p s:=by
 have h:=zEt (R:=zCL L (zf L p s)) (R':=zG L) hL hp (fun q s1 hq hl=>zGX hL _ _ q s1 hq hl (yAG _));exact h.2
theorem zCB {L:List Tok} (hL:Lst L):∀(f:Nat) (p:Ph) (s:Ps),Pre L p s→Post L p s (zCL L f p s).2:=by
 intro f
 induction f with
 | zero=>
  intro p s hp;have:=zEr (L:=L) (e:=99) (s:=s) (by decide) hp.1;unfold Post;split
  · exact this
  · exact this.adv
 | succ f ih=>exact fun p s hp=>(zEt (R:=zCL L f) (R':=zCL L f) hL hp (fun q s1 hq _=>⟨ih q s1 hq,rfl⟩)).1
structure May (ts:List Nd) (t:Tr):Prop where
 flat:ts=flatT 0 t
 len:ts.length≤4096
 each:zCU ts 0 ts=true
 nest:depT t≤48
 kind:t.nd.kind=1
theorem zC7 (n:Nat) (t:Tr):(t.laid n).kind=t.nd.kind:=by cases t;rfl
theorem zO9 {ts:List Nd} (h:zJ1 ts=true):∃t,May ts t:=by
 unfold zJ1 at h;cases ts with
 | nil=>cases h
 | cons x r=>
  simp only[Bool.and_eq_true,decide_eq_true_eq,beq_iff_eq]at h;obtain⟨⟨⟨⟨h1,h2⟩,h3⟩,h4⟩,h5⟩:=h;obtain⟨t,ht⟩:=zF1 h3;have hx:=zEL 0 t;rw[←ht]at hx;have hx:x=t.laid 0:=Option.some.inj hx;rw[ht,zC6]at h5;exact⟨t,ht,h1,h4,h5,by rw[←zC7 0 t,←hx];exact h2⟩
theorem zTp {ts:List Nd} {t:Tr} (h:May ts t):zJ1 ts=true:=by
 have hx:=zEL 0 t;rw[←h.flat]at hx;unfold zJ1;cases ts with
 | nil=>cases hx
 | cons x r=>
  have hx:x=t.laid 0:=Option.some.inj hx;simp only[Bool.and_eq_true,decide_eq_true_eq,beq_iff_eq];refine⟨⟨⟨⟨h.len,by rw[hx,zC7];exact h.kind⟩,?_⟩,h.each⟩,?_⟩
  · rw[h.flat];exact zF2 t
  · rw[h.flat,zC6];exact h.nest
theorem zG8 {ts:List Nd} {n:Nat} {t:Tr} (h:At ts n t):atN ts (n:Int)=t.laid n:=by
 unfold atN;rw[yAH,Int.toNat_natCast,h.get];rfl
theorem zME {ts:List Nd}:∀(ks:List Int) (l:List Nat),zBZ ts l 0 ks=true→ks.length≤l.length:=by
 intro ks
 induction ks with
 | nil=>intro l _;simp
 | cons k r ih=>
  intro l h;cases l with
  | nil=>
   unfold zBZ at h;simp[zAS]at h
  | cons s l=>
   unfold zBZ at h;rw[Bool.and_eq_true]at h;have:=ih l h.2;simp only[List.length_cons];omega
mutual
def dangT:Tr→Bool
 | .mk x l=>if x.kind=8∧l.length=2 then true else if x.kind=8∨x.kind=9∨x.kind=10∨x.kind=18 then dangL l else false
def dangL:List Tr→Bool
 | []=>false
 | t::r=>match r with | []=>dangT t | _::_=>dangL r
end
theorem zDR (x:Nd) (l:List Tr):dangT (.mk x l)=if x.kind=8∧l.length=2 then true else if x.kind=8∨x.kind=9∨x.kind=10∨x.kind=18 then dangL l else false:=by rw[dangT]
theorem zMF:dangL []=false:=by rw[dangL]
theorem zC9 (t:Tr):dangL [t]=dangT t:=by rw[dangL]
theorem zCC (t s:Tr) (r:List Tr):dangL (t::s::r)=dangL (s::r):=by rw[dangL]
def zAi (l:List Tr):List Int:=l.map (·.nd.kind)
def zDZ:List Nat→Nat→List Int→Bool
 | _,_,[]=>true
 | [],r,k::ks=>zAS r k&&zDZ [] r ks
 | s::l,r,k::ks=>zAS s k&&zDZ l r ks
def zTq (l:List Tr) (i:Nat):Int:=(zAi l).getD i 0
def zSM (l:List Tr) (i:Nat):Bool:=match l[i]? with | none=>false | some t=>dangT t
def zBD (k:Int) (l:List Tr):Bool:=
 zAs k&&decide ((zo k l.length).1.length≤l.length)
 &&zDZ (zo k l.length).1 (zo k l.length).2 (zAi l)
 &&(if k=16 then(zTq l 1==17 || zTq l 2==4)else if k=8∧l.length=3 then !(zSM l 1)else true)
mutual
def goodT:Tr→Bool
 | .mk x l=>zh x&&zBD x.kind l&&goodL l
def goodL:List Tr→Bool
 | []=>true
 | t::r=>goodT t&&goodL r
end
theorem zJB (x:Nd) (l:List Tr):goodT (.mk x l)=(zh x&&zBD x.kind l&&goodL l):=by rw[goodT]
theorem zG9:goodL []=true:=by rw[goodL]
theorem zF4 (t:Tr) (r:List Tr):goodL (t::r)=(goodT t&&goodL r):=by rw[goodL]
theorem zMG {l:List Tr}:goodL l=true↔∀t∈l,goodT t=true:=by
 induction l with
 | nil=>rw[zG9];simp
 | cons t r ih=>rw[zF4,Bool.and_eq_true,ih];simp
theorem zKC:∀(l:List Tr),dangL l=match l.getLast? with | none=>false | some t=>dangT t:=by
 intro l
 induction l with
 | nil=>rw[zMF];rfl
 | cons t r ih=>
  cases r with
  | nil=>rw[zC9];rfl
  | cons s r=>rw[zCC,ih,List.getLast?_cons_cons]
theorem zIG:∀{ts:List Nd} {l:List Tr} {n:Nat} (_:AtL ts n l),(l=[]∧(zv n l).getLast? =none)∨∃(p:Nat) (t:Tr),(zv n l).getLast? =some (p:Int)∧l.getLast? =some t∧At ts p t∧t.size≤sizes l:=by
 intro ts l
 induction l with
 | nil=>intro n _;exact .inl ⟨rfl,rfl⟩
 | cons t r ih=>
  intro n h;right;rcases ih h.tail with⟨hr,_⟩ | ⟨p,s,h1,h2,h3,h4⟩
  · subst hr;exact⟨n,t,rfl,rfl,h.head,by rw[zL];omega⟩
  · cases r with
    | nil=>cases h2
    | cons s' r'=>
     refine⟨p,s,?_,by rw[List.getLast?_cons_cons];exact h2,h3,by rw[zL];omega⟩;show((n:Int)::zv (n+t.size) (s'::r')).getLast? =_;rw[show zv (n+t.size) (s'::r')=((n+t.size:Nat):Int)::zv (n+t.size+s'.size) r' from rfl]at h1⊢;rw[List.getLast?_cons_cons];exact h1
theorem zSN {ts:List Nd}:∀(f:Nat) (n:Nat) (t:Tr),At ts n t→t.size≤f→zJ0 f ts (n:Int)=dangT t:=by
 intro f
 induction f with
 | zero=>intro n t _ h;have:=zBm t;omega
 | succ f ih=>
  intro n t h hf;cases t with
  | mk x l=>
   rw[zd]at hf;rw[zDR];unfold zJ0;have e1:(atN ts (n:Int)).kind=x.kind:=by rw[zG8 h];rfl
   have e2:(atN ts (n:Int)).kids=zv (n+1) l:=by rw[zG8 h];rfl
   rw[e1,e2,zBg];congr 1;congr 1;rw[zKC];rcases zIG h.subs with⟨hl,h1⟩ | ⟨p,s,h1,h2,h3,h4⟩
   · rw[h1,hl];rfl
   · rw[h1,h2];exact ih p s h3 (by omega)
theorem zMH {ts:List Nd} {n:Nat} {t:Tr} (h:At ts n t):zC2 ts (n:Int)=dangT t:=zSN _ n t h (by have:=h.le;omega)
theorem zTr {ts:List Nd}:∀(l:List Tr) (n:Nat) (s:List Nat) (r:Nat),AtL ts n l→zBZ ts s r (zv n l)=zDZ s r (zAi l):=by
 intro l
 induction l with
 | nil=>intro n s r _;cases s<;>rfl
 | cons t l ih=>
  intro n s r h;have h1:(atN ts (n:Int)).kind=t.nd.kind:=by rw[zG8 h.head,zC7]
  cases s with
  | nil=>
   show(zAS r (atN ts (n:Int)).kind&&zBZ ts [] r (zv (n+t.size) l))=(zAS r t.nd.kind&&zDZ [] r (zAi l));rw[h1,ih _ _ _ h.tail]
  | cons a s=>
   show(zAS a (atN ts (n:Int)).kind&&zBZ ts s r (zv (n+t.size) l))=(zAS a t.nd.kind&&zDZ s r (zAi l));rw[h1,ih _ _ _ h.tail]
theorem zPA:∀(ks:List Int) (l:List Nat),zDZ l 0 ks=true→ks.length≤l.length:=by
 intro ks
 induction ks with
 | nil=>intro l _;simp
 | cons k r ih=>
  intro l h;cases l with
  | nil=>
   unfold zDZ at h;simp[zAS]at h
  | cons s l=>
   unfold zDZ at h;rw[Bool.and_eq_true]at h;have:=ih l h.2;simp only[List.length_cons];omega
theorem zDj {ts:List Nd} {n:Nat} {l:List Tr} (h:AtL ts n l) {i:Nat} (hi:i < l.length):∃p:Nat,(zv n l).getD i 0=(p:Int)∧At ts p l[i]:=by
 obtain⟨p,h1,h2,_⟩:=h.kid i hi;exact⟨p,by rw[yAH,h1];rfl,h2⟩
theorem zMI {l:List Tr} {i:Nat} (hi:i < l.length):zTq l i=l[i].nd.kind:=by
 unfold zTq zAi;rw[yAH,List.getElem?_map,yAC hi];rfl
theorem zSO {ts:List Nd} {n:Nat} {x:Nd} {l:List Tr} (h:At ts n (.mk x l)):zDh ts ((Tr.mk x l).laid n)=zBD x.kind l:=by
 have hk:((Tr.mk x l).laid n).kind=x.kind:=rfl;have hs:((Tr.mk x l).laid n).kids=zv (n+1) l:=rfl;unfold zDh zBD;rw[hk,hs,zBg,zTr l (n+1) _ _ h.subs]
 by_cases h1:decide ((zo x.kind l.length).1.length≤l.length)=true
 · rw[h1]
   by_cases h2:zDZ (zo x.kind l.length).1 (zo x.kind l.length).2 (zAi l)=true
   · rw[h2];congr 1
     by_cases h16:x.kind=16
     · rw[if_pos h16,if_pos h16];have hl:l.length=3:=by
        rw[h16]at h1 h2;have h3:3≤l.length:=of_decide_eq_true h1;have h4:=zPA _ _ h2;unfold zAi at h4;rw[List.length_map]at h4;exact Nat.le_antisymm h4 h3
       obtain⟨p,e1,a1⟩:=zDj h.subs (i:=1) (by omega);obtain⟨q,e2,a2⟩:=zDj h.subs (i:=2) (by omega);rw[e1,e2,zG8 a1,zG8 a2,zC7,zC7,zMI (by omega),zMI (by omega)]
     · rw[if_neg h16,if_neg h16]
       by_cases h8:x.kind=8∧l.length=3
       · rw[if_pos h8,if_pos h8];obtain⟨p,e1,a1⟩:=zDj h.subs (i:=1) (by omega);rw[e1,zMH a1];unfold zSM;rw[yAC (by omega)]
       · rw[if_neg h8,if_neg h8]
   · rw[Bool.not_eq_true]at h2;rw[h2];simp
 · rw[Bool.not_eq_true]at h1;rw[h1];simp
theorem zPB {ts:List Nd} (a b:List Nd) (n:Nat):zCU ts n (a++b)=(zCU ts n a&&zCU ts (n+a.length) b):=by
 induction a generalizing n with
 | nil=>simp[zCU]
 | cons x r ih=>
  show(_&&zCU ts (n+1) (r++b))=_;rw[ih];show _=((_&&zCU ts (n+1) r)&&zCU ts (n+(r.length+1)) b);rw[show n+1+r.length=n+(r.length+1) by omega];simp only[Bool.and_assoc]
theorem zHA (x:Nd) (ks:List Int):zh {x with kids:=ks}=zh x:=rfl
theorem zJC (s:Nat):zAS s 1=false:=by
 have f:∀{p:Prop} [Decidable p] {a b:Bool},a=false→b=false→(if p then a else b)=false:=fun h1 h2=>by split<;>assumption
 unfold zAS
 repeat' refine f ?_ ?_
 all_goals rfl
theorem zPC:∀(ks:List Int) (s:List Nat) (r:Nat),zDZ s r ks=true→∀k∈ks,k≠1:=by
 intro ks
 induction ks with
 | nil=>intro s r _ k hk;cases hk
 | cons a ks ih=>
  intro s r h k hk;cases s with
  | nil=>
   unfold zDZ at h;rw[Bool.and_eq_true]at h;rcases List.mem_cons.1 hk with rfl | hk
   · intro e;rw[e,zJC]at h;cases h.1
   · exact ih _ _ h.2 k hk
  | cons b s=>
   unfold zDZ at h;rw[Bool.and_eq_true]at h;rcases List.mem_cons.1 hk with rfl | hk
   · intro e;rw[e,zJC]at h;cases h.1
   · exact ih _ _ h.2 k hk
mutual
theorem eachT {ts:List Nd} (n:Nat) (t:Tr) (h:At ts n t) (h1:n=0∨t.nd.kind≠1):zCU ts n (flatT n t)=goodT t:=by
 cases t with
 | mk x l=>
  rw[zAZ,zJB];show(!(decide (0 < n)&&x.kind==1)&&zh {x with kids:=zv (n+1) l}&&zDh ts ((Tr.mk x l).laid n)&&zCU ts (n+1) (flatL (n+1) l))=_;have e:(decide (0 < n)&&x.kind==1)=false:=by
   rcases h1 with h1 | h1
   · subst h1;rfl
   · have:(x.kind==1)=false:=yA.2 h1;rw[this,Bool.and_false]
  rw[e,zHA,zSO h,Bool.not_false,Bool.true_and]
  by_cases h2:zBD x.kind l=true
  · rw[eachL (n+1) l h.subs (by omega) (by
     unfold zBD at h2;simp only[Bool.and_eq_true]at h2;intro t ht;exact zPC _ _ _ h2.1.2 _ (List.mem_map_of_mem ht))]
  · rw[Bool.not_eq_true]at h2;rw[h2];simp
theorem eachL {ts:List Nd} (n:Nat) (l:List Tr) (h:AtL ts n l) (h0:0 < n) (h1:∀t∈l,t.nd.kind≠1):zCU ts n (flatL n l)=goodL l:=by
 cases l with
 | nil=>rw[zAX,zG9];rfl
 | cons t r=>
  rw[zAI,zF4,zPB,flatT_len,eachT n t h.head (.inr (h1 t (List.mem_cons_self ..))),eachL (n+t.size) r h.tail (by omega) fun s hs=>h1 s (List.mem_cons_of_mem _ hs)]
end
structure Good (t:Tr):Prop where
 size:t.size≤4096
 kind:t.nd.kind=1
 good:goodT t=true
 nest:depT t≤48
theorem zJD {t:Tr}:May (flatT 0 t) t↔Good t:=by
 have he:=eachT (ts:=flatT 0 t) 0 t (At.whole t) (.inl rfl);constructor
 · intro h;exact⟨by have:=h.len;rw[flatT_len]at this;exact this,h.kind,by rw[←he];exact h.each,h.nest⟩
 · intro h;exact⟨rfl,by rw[flatT_len];exact h.size,by rw[he];exact h.good,h.nest,h.kind⟩
theorem zPD {ts:List Nd} {t:Tr} (h:May ts t):Good t:=by
 have e:=h.flat
 subst e;exact zJD.1 h
theorem zJE {ts:List Nd}:zJ1 ts=true↔∃t,ts=flatT 0 t∧Good t:=by
 constructor
 · intro h;obtain⟨t,ht⟩:=zO9 h;exact⟨t,ht.flat,zPD ht⟩
 · rintro⟨t,rfl,h⟩;exact zTp (zJD.2 h)
end Go.Proofs.YtlohaclgbfhijaaGreatDoor
