/- Joined for the claim EarlyRoot: the parser, the lexer and the trees as they are walked, made short by a program of mine. -/
import Derived.Test.YtlohaclgbfhijaaGreatDoorE07
import Derived.Test.YtlohaclgbfhijaaGreatDoorE02
import Derived.Deep.AppendLies
import Derived.Test.YtlohaclgbfhijaaGreatDoorE01
set_option maxHeartbeats 16000000
set_option maxRecDepth 1000000
namespace Go.Proofs.YtlohaclgbfhijaaGreatDoor
open Go.Proofs.Tryz
structure Lst (L:List Tok):Prop where
 pos:0 < L.length
 last:(zL L (L.length - 1)).kind=0
 mid:∀i,i < L.length - 1→(zL L i).kind≠0
structure Adv (L:List Tok) (s s':Ps):Prop where
 le:s.k≤s'.k
 hi:s'.k≤L.length - 1
 bad:s.bad≠0→s'.bad≠0
 far:s'.bad=0→s'.far=s.far
structure Eat (L:List Tok) (s s':Ps):Prop where
 adv:Adv L s s'
 more:s.k < L.length - 1→s.k < s'.k
 stop:s.k=L.length - 1→s'.bad≠0
section
variable {L:List Tok} {a b c s:Ps} {w:List UInt8}
theorem Adv.refl (h:s.k≤L.length - 1):Adv L s s:=⟨yAC _,h,id,fun _=>rfl⟩
theorem Adv.trans (h:Adv L a b) (k:Adv L b c):Adv L a c:=⟨yAD h.le k.le,k.hi,fun x=>k.bad (h.bad x),fun x=>(k.far x).trans (h.far (by
 rcases Nat.eq_zero_or_pos b.bad with hz | hz
 · exact hz
 · exact absurd x (k.bad (by omega))))⟩
theorem Eat.then (h:Eat L a b) (k:Adv L b c):Eat L a c:=⟨h.adv.trans k,fun x=>yAA (h.more x) k.le,fun x=>k.bad (h.stop x)⟩
theorem Adv.eat (h:Adv L a b) (k:Eat L b c):Eat L a c:=by
 have h1:=h.le;have h2:=h.hi;have h3:=k.adv.le;refine⟨h.trans k.adv,fun x=>?_,fun x=>k.stop (by omega)⟩;rcases Nat.lt_or_ge b.k (L.length - 1)with h4 | h4
 · have:=k.more h4;omega
 · omega
theorem Lst.lt (hL:Lst L) (h:s.k≤L.length - 1) (hk:(zL L s.k).kind≠0):s.k < L.length - 1:=by
 rcases Nat.lt_or_ge s.k (L.length - 1)with h4 | h4
 · exact h4
 · exact absurd (by rw[show s.k=L.length - 1 by omega];exact hL.last) hk
theorem zDx {t:Tok} (h:isT t w=true):t.kind≠0:=by
 unfold isT at h;intro h0;rw[h0]at h;simp at h
theorem Lst.on (hL:Lst L) (h:s.k≤L.length - 1) (ho:onP L w s=true):s.k < L.length - 1:=hL.lt h (zDx ho)
theorem zv (h:s.k < L.length - 1):Adv L s (zB s):=⟨Nat.le_succ _,h,id,fun _=>rfl⟩
theorem zAT (h:s.k < L.length - 1):Eat L s (zB s):=⟨zv h,fun _=>yAF _,fun x=>by omega⟩
theorem zDy {e:Nat} (he:e≠0):(zBw L e s).bad≠0:=by
 unfold zBw;simp only;split
 · exact he
 · assumption
theorem zDz {e:Nat} (he:e≠0) (h:s.k≤L.length - 1):Eat L s (zBw L e s):=⟨⟨h,yAC _,fun _=>zDy he,fun x=>absurd x (zDy he)⟩,fun x=>x,fun _=>zDy he⟩
theorem zm (h:s.k≤L.length - 1):Eat L s (zY L s):=zDz (by split<;>decide) h
theorem zFF:(zY L s).bad≠0:=zDy (by split<;>decide)
theorem zK2:(zY L s).k=L.length - 1:=rfl
theorem zU (hL:Lst L) (h:s.k≤L.length - 1):Eat L s (zN L w s):=by
 unfold zN;split
 · rename_i ho;exact zAT (hL.on h ho)
 · exact zm h
theorem zAY (hL:Lst L) (h:s.k≤L.length - 1):Eat L s (zd L s).2:=by
 unfold zd;split
 · rename_i ho;exact zAT (hL.lt h (by rw[ho];decide))
 · exact zm h
theorem zBW (hL:Lst L) (h:s.k≤L.length - 1):Adv L s (zC9 L s):=by
 unfold zC9;split
 · rename_i ho;exact zv (hL.on h ho)
 · split
   · exact Adv.refl h
   · exact(zm h).adv
end
def Pre (L:List Tok) (p:Ph) (s:Ps):Prop:=s.k≤L.length - 1∧match p with
 | .word _=>s.k < L.length - 1
 | .loop=>s.k < L.length - 1
 | .jump _=>s.k < L.length - 1
 | .tries=>s.k < L.length - 1
 | .args=>s.k < L.length - 1
 | .level n=>n≤8
 | .levelL n _=>n < 8
 | _=>True
def zRs:Ph→Bool
 | .program _=>false
 | .blockL _=>false
 | .nullL _=>false
 | .orL _=>false
 | .both _=>false
 | .levelL _ _=>false
 | .callsL _=>false
 | .headL _=>false
 | _=>true
def Post (L:List Tok) (p:Ph) (s s':Ps):Prop:=if zRs p=true then Eat L s s' else Adv L s s'
theorem Post.adv {L:List Tok} {p:Ph} {s s':Ps} (h:Post L p s s'):Adv L s s':=by
 unfold Post at h;split at h
 · exact h.adv
 · exact h
theorem zPk (p:Ph) (s:Ps):ze p s≤60:=by
 cases p<;>simp only[ze]<;>(try split)<;>omega
theorem zGI {L:List Tok} {p q:Ph} {s s':Ps} (h:s.k < s'.k) (h2:s'.k≤L.length - 1) (h0:0 < L.length):zZ L q s' < zZ L p s:=by
 unfold zZ;have:=zPk q s';omega
theorem zGJ {L:List Tok} {p q:Ph} {s s':Ps} (h:s.k≤s'.k) (hr:ze q s' < ze p s):zZ L q s' < zZ L p s:=by
 unfold zZ;omega
section
variable {L:List Tok} {R R':Ph→Ps→Tr×Ps} {s:Ps}
def Hyp (L:List Tok) (R R':Ph→Ps→Tr×Ps) (p:Ph) (s:Ps):Prop:=∀q s1,Pre L q s1→zZ L q s1 < zZ L p s→Post L q s1 (R q s1).2∧R q s1=R' q s1
def Con (L:List Tok) (R R':Ph→Ps→Tr×Ps) (p:Ph) (s:Ps):Prop:=Post L p s (zE L R p s).2∧zE L R p s=zE L R' p s
theorem Hyp.rank {p:Ph} (H:Hyp L R R' p s) {q:Ph} {s1:Ps} (h:Pre L q s1) (h1:s.k≤s1.k) (h2:ze q s1 < ze p s):Post L q s1 (R q s1).2∧R' q s1=R q s1:=by
 have:=H q s1 h (zGJ h1 h2);exact⟨this.1,this.2.symm⟩
theorem Hyp.more {p:Ph} (hL:Lst L) (H:Hyp L R R' p s) {q:Ph} {s1:Ps} (h:Pre L q s1) (h1:s.k < s1.k):Post L q s1 (R q s1).2∧R' q s1=R q s1:=by
 have:=H q s1 h (zGI h1 h.1 hL.pos);exact⟨this.1,this.2.symm⟩
theorem zJE {acc:List Tr} (hL:Lst L) (hp:Pre L (.program acc) s) (H:Hyp L R R' (.program acc) s):Con L R R' (.program acc) s:=by
 unfold Con zE;dsimp only
 by_cases c:(zL L s.k).kind=0
 · simp only[if_pos c];exact⟨Adv.refl hp.1,trivial⟩
 · simp only[if_neg c];have hlt:=hL.lt hp.1 c;obtain⟨p1,e1⟩:=H.rank (q:=.item) (s1:=s) ⟨hp.1,trivial⟩ (yAC _) (by simp only[ze];omega);have x1:Eat L s _:=p1;obtain⟨p2,e2⟩:=H.more hL (q:=.program (acc++[(R .item s).1])) (s1:=(R .item s).2) ⟨x1.adv.hi,trivial⟩ (x1.more hlt);rw[e1,e2];exact⟨x1.adv.trans p2,rfl⟩
theorem zNN (hL:Lst L) (hp:Pre L .block s) (H:Hyp L R R' .block s):Con L R R' .block s:=by
 unfold Con zE;dsimp only;have e:=zU (w:=[123]) hL hp.1;have h1:Post L (.blockL []) (zN L [123] s) (R (.blockL []) (zN L [123] s)).2∧R' (.blockL []) (zN L [123] s)=R (.blockL []) (zN L [123] s):=by
  by_cases c:onP L [123] s=true
  · exact H.more hL ⟨e.adv.hi,trivial⟩ (e.more (hL.on hp.1 c))
  · refine H.rank ⟨e.adv.hi,trivial⟩ e.adv.le ?_;have hb:(zN L [123] s).bad≠0:=by unfold zN;rw[if_neg c];exact zFF
    simp only[ze];rw[if_pos hb];omega
 rw[h1.2];exact⟨e.then h1.1.adv,rfl⟩
theorem zK3 {acc:List Tr} (hL:Lst L) (hp:Pre L (.blockL acc) s) (H:Hyp L R R' (.blockL acc) s):Con L R R' (.blockL acc) s:=by
 unfold Con zE;dsimp only
 by_cases c:s.bad≠0
 · simp only[if_pos c];exact⟨Adv.refl hp.1,trivial⟩
 simp only[if_neg c]
 by_cases c2:onP L [125] s=true
 · simp only[if_pos c2];exact⟨zv (hL.on hp.1 c2),trivial⟩
 simp only[if_neg c2];have hr:ze (.blockL acc) s=60:=by simp only[ze];rw[if_neg c]
 obtain⟨p1,e1⟩:=H.rank (q:=.item) (s1:=s) ⟨hp.1,trivial⟩ (yAC _) (by rw[hr];simp only[ze];omega);have x1:Eat L s _:=p1;have h2:Post L (.blockL (acc++[(R .item s).1])) (R .item s).2 (R (.blockL (acc++[(R .item s).1])) (R .item s).2).2∧R' (.blockL (acc++[(R .item s).1])) (R .item s).2=R (.blockL (acc++[(R .item s).1])) (R .item s).2:=by
  rcases Nat.lt_or_ge s.k (L.length - 1)with hlt | hge
  · exact H.more hL ⟨x1.adv.hi,trivial⟩ (x1.more hlt)
  · refine H.rank ⟨x1.adv.hi,trivial⟩ x1.adv.le ?_;rw[hr];simp only[ze];rw[if_pos (x1.stop (by have:=hp.1;omega))];omega
 rw[e1,h2.2];exact⟨x1.adv.trans h2.1.adv,rfl⟩
theorem zPl (hL:Lst L) (hp:Pre L .item s) (H:Hyp L R R' .item s):Con L R R' .item s:=by
 unfold Con zE;dsimp only
 by_cases c:(onP L [108,101,116] s || onP L [99,111,110,115,116] s)=true
 · simp only[if_pos c];obtain⟨p1,e1⟩:=H.rank (q:=.declares) (s1:=s) ⟨hp.1,trivial⟩ (yAC _) (by simp only[ze];omega);rw[e1];exact⟨Eat.then (b:=(R .declares s).2) p1 (zBW hL p1.adv.hi),rfl⟩
 simp only[if_neg c]
 by_cases c2:onP L [102,117,110,99,116,105,111,110] s=true
 · simp only[if_pos c2];have hlt:=hL.on hp.1 c2;have x1:=(zAT hlt).then (zAY (s:=zB s) hL hlt).adv;obtain⟨p2,e2⟩:=H.more hL (q:=.func 19 (zd L (zB s)).1) (s1:=(zd L (zB s)).2) ⟨x1.adv.hi,trivial⟩ (x1.more hlt);rw[e2];exact⟨x1.then p2.adv,rfl⟩
 simp only[if_neg c2];obtain⟨p1,e1⟩:=H.rank (q:=.statement) (s1:=s) ⟨hp.1,trivial⟩ (yAC _) (by simp only[ze];omega);rw[e1];exact⟨p1,rfl⟩
theorem zHM (hL:Lst L) (hp:Pre L .declares s) (H:Hyp L R R' .declares s):Con L R R' .declares s:=by
 unfold Con zE;dsimp only
 by_cases c:onP L [99,111,110,115,116] s=true
 · simp only[if_pos c];have hlt:=hL.on hp.1 c;obtain⟨p1,e1⟩:=H.more hL (q:=.declL 6 []) (s1:=zB s) ⟨hlt,trivial⟩ (yAF _);rw[e1];exact⟨(zAT hlt).then p1.adv,rfl⟩
 simp only[if_neg c];have x:=zU (w:=[108,101,116]) hL hp.1;obtain⟨p1,e1⟩:=H.rank (q:=.declL 5 []) (s1:=zN L [108,101,116] s) ⟨x.adv.hi,trivial⟩ x.adv.le (by simp only[ze];omega);rw[e1];exact⟨x.then p1.adv,rfl⟩
theorem zGK {k:Int} {acc:List Tr} (hL:Lst L) (H:Hyp L R R' (.declL k acc) s) {d:Tr×Ps} (x:Eat L s d.2):
 Post L (.declL k acc) s (if d.2.bad≠0 then(trK k (acc++[d.1]),d.2)else if onP L [44] d.2=true then R (.declL k (acc++[d.1])) (zB d.2)else(trK k (acc++[d.1]),d.2)).2∧
 (if d.2.bad≠0 then(trK k (acc++[d.1]),d.2)else if onP L [44] d.2=true then R (.declL k (acc++[d.1])) (zB d.2)else(trK k (acc++[d.1]),d.2))=(if d.2.bad≠0 then(trK k (acc++[d.1]),d.2)else if onP L [44] d.2=true then R' (.declL k (acc++[d.1])) (zB d.2)else(trK k (acc++[d.1]),d.2)):=by
 by_cases c:d.2.bad≠0
 · simp only[if_pos c];exact⟨x,trivial⟩
 simp only[if_neg c]
 by_cases c2:onP L [44] d.2=true
 · simp only[if_pos c2];have hlt:=hL.on x.adv.hi c2;obtain⟨p1,e1⟩:=H.more hL (q:=.declL k (acc++[d.1])) (s1:=zB d.2) ⟨hlt,trivial⟩ (Nat.lt_succ_of_le x.adv.le);rw[e1];exact⟨x.then ((zv hlt).trans p1.adv),rfl⟩
 · simp only[if_neg c2];exact⟨x,trivial⟩
theorem zNO {k:Int} {acc:List Tr} (hL:Lst L) (hp:Pre L (.declL k acc) s) (H:Hyp L R R' (.declL k acc) s):Con L R R' (.declL k acc) s:=by
 unfold Con zE;dsimp only;have x:=zAY hL hp.1
 by_cases c:onP L [61] (zd L s).2=true
 · have hlt:=hL.on x.adv.hi c;obtain⟨p1,e1⟩:=H.more hL (q:=.assign) (s1:=zB (zd L s).2) ⟨hlt,trivial⟩ (Nat.lt_succ_of_le x.adv.le);simp only[if_pos c];rw[e1];exact zGK hL H (d:=(trN 7 (zd L s).1 [(R .assign (zB (zd L s).2)).1],(R .assign (zB (zd L s).2)).2)) (x.then ((zv hlt).trans p1.adv))
 · simp only[if_neg c];exact zGK hL H (d:=(trN 7 (zd L s).1 [],(zd L s).2)) x
theorem zPm {k:Int} {n:List UInt8} (_hL:Lst L) (hp:Pre L (.func k n) s) (H:Hyp L R R' (.func k n) s):Con L R R' (.func k n) s:=by
 unfold Con zE;dsimp only;obtain⟨p1,e1⟩:=H.rank (q:=.params) (s1:=s) ⟨hp.1,trivial⟩ (yAC _) (by simp only[ze];omega);obtain⟨p2,e2⟩:=H.rank (q:=.block) (s1:=(R .params s).2) ⟨p1.adv.hi,trivial⟩ p1.adv.le (by simp only[ze];omega);rw[e1,e2];have x1:Eat L s (R .params s).2:=p1;exact⟨x1.then p2.adv,rfl⟩
theorem zK4 (hL:Lst L) (hp:Pre L .params s) (H:Hyp L R R' .params s):Con L R R' .params s:=by
 unfold Con zE;dsimp only;have x:=zU (w:=[40]) hL hp.1
 by_cases c:onP L [41] (zN L [40] s)=true
 · simp only[if_pos c];exact⟨x.then (zv (hL.on x.adv.hi c)),trivial⟩
 simp only[if_neg c];obtain⟨p1,e1⟩:=H.rank (q:=.paramL []) (s1:=zN L [40] s) ⟨x.adv.hi,trivial⟩ x.adv.le (by simp only[ze];omega);rw[e1];exact⟨x.then p1.adv,rfl⟩
theorem Eat.lt {s':Ps} (h:Eat L s s') (hs:s.k≤L.length - 1) (hb:¬s'.bad≠0):s.k < s'.k:=by
 rcases Nat.lt_or_ge s.k (L.length - 1)with hlt | hge
 · exact h.more hlt
 · exact absurd (h.stop (by omega)) hb
theorem zK5 {acc:List Tr} (hL:Lst L) (hp:Pre L (.paramL acc) s) (H:Hyp L R R' (.paramL acc) s):Con L R R' (.paramL acc) s:=by
 unfold Con zE;dsimp only;have x:=zAY hL hp.1
 by_cases c:(zd L s).2.bad≠0
 · simp only[if_pos c];exact⟨x,trivial⟩
 simp only[if_neg c]
 by_cases c2:onP L [41] (zd L s).2=true
 · simp only[if_pos c2];exact⟨x.then (zv (hL.on x.adv.hi c2)),trivial⟩
 simp only[if_neg c2];have y:=zU (w:=[44]) hL x.adv.hi;obtain⟨p1,e1⟩:=H.more hL (q:=.paramL (acc++[trN 20 (zd L s).1 []])) (s1:=zN L [44] (zd L s).2) ⟨y.adv.hi,trivial⟩ (yAA (x.lt hp.1 c) y.adv.le);rw[e1];exact⟨x.then (y.adv.trans p1.adv),rfl⟩
theorem zIF (hL:Lst L) {w:List UInt8} (hlt:s.k < L.length - 1) (h:isT (zAN L s.k 1) w=true):s.k+1 < L.length - 1:=
 hL.lt (s:=zB s) hlt (zDx h)
theorem zGL (hL:Lst L) (hp:Pre L .statement s) (H:Hyp L R R' .statement s):Con L R R' .statement s:=by
 unfold Con zE;dsimp only
 by_cases c:(zL L s.k).kind=1∧isT (zAN L s.k 1) [58]=true
 · simp only[if_pos c];have hlt:=hL.lt hp.1 (by rw[c.1];decide);have h2:=zIF hL hlt c.2;have y:Adv L (zB s) (zB (zB s)):=zv (s:=zB s) h2;obtain⟨p1,e1⟩:=H.more hL (q:=.statement) (s1:=zB (zB s)) ⟨y.hi,trivial⟩ (by show s.k < s.k+1+1;omega);rw[e1];exact⟨(zAT hlt).then (y.trans p1.adv),rfl⟩
 simp only[if_neg c]
 by_cases c2:(zL L s.k).kind=6
 · simp only[if_pos c2];have hlt:=hL.lt hp.1 (by rw[c2];decide);obtain⟨p1,e1⟩:=H.rank (q:=.word (zL L s.k).text) (s1:=s) ⟨hp.1,hlt⟩ (yAC _) (by simp only[ze];omega);rw[e1];exact⟨p1,rfl⟩
 simp only[if_neg c2]
 by_cases c3:onP L [59] s=true
 · simp only[if_pos c3];exact⟨zAT (hL.on hp.1 c3),trivial⟩
 simp only[if_neg c3]
 by_cases c4:onP L [123] s=true
 · simp only[if_pos c4];obtain⟨p1,e1⟩:=H.rank (q:=.block) (s1:=s) ⟨hp.1,trivial⟩ (yAC _) (by simp only[ze];omega);rw[e1];exact⟨p1,rfl⟩
 simp only[if_neg c4];obtain⟨p1,e1⟩:=H.rank (q:=.simple) (s1:=s) ⟨hp.1,trivial⟩ (yAC _) (by simp only[ze];omega);rw[e1];exact⟨p1,rfl⟩
theorem zK6 (hL:Lst L) (hp:Pre L .simple s) (H:Hyp L R R' .simple s):Con L R R' .simple s:=by
 unfold Con zE;dsimp only;obtain⟨p1,e1⟩:=H.rank (q:=.assign) (s1:=s) ⟨hp.1,trivial⟩ (yAC _) (by simp only[ze];omega);rw[e1];exact⟨Eat.then (b:=(R .assign s).2) p1 (zBW hL p1.adv.hi),rfl⟩
theorem zPn {w:List UInt8} (hL:Lst L) (hp:Pre L (.word w) s) (H:Hyp L R R' (.word w) s):Con L R R' (.word w) s:=by
 have hlt:s.k < L.length - 1:=hp.2;have x0:=zAT hlt;have h0:s.k < (zB s).k:=yAF _;unfold Con zE;dsimp only
 by_cases c1:w=[105,102]
 · simp only[if_pos c1];obtain⟨p1,e1⟩:=H.more hL (q:=.within) (s1:=zB s) ⟨hlt,trivial⟩ h0;obtain⟨p2,e2⟩:=H.more hL (q:=.statement) (s1:=(R .within (zB s)).2) ⟨p1.adv.hi,trivial⟩ (yAA h0 p1.adv.le);rw[e1,e2];have y:=p1.adv.trans p2.adv
   by_cases c:onP L [101,108,115,101] (R .statement (R .within (zB s)).2).2=true
   · simp only[if_pos c];have hl2:=hL.on p2.adv.hi c;obtain⟨p3,e3⟩:=H.more hL (q:=.statement) (s1:=zB (R .statement (R .within (zB s)).2).2) ⟨hl2,trivial⟩ (yAA h0 (Nat.le_succ_of_le y.le));rw[e3];exact⟨x0.then (y.trans ((zv hl2).trans p3.adv)),rfl⟩
   · simp only[if_neg c];exact⟨x0.then y,trivial⟩
 simp only[if_neg c1]
 by_cases c2:w=[119,104,105,108,101]
 · simp only[if_pos c2];obtain⟨p1,e1⟩:=H.more hL (q:=.within) (s1:=zB s) ⟨hlt,trivial⟩ h0;obtain⟨p2,e2⟩:=H.more hL (q:=.statement) (s1:=(R .within (zB s)).2) ⟨p1.adv.hi,trivial⟩ (yAA h0 p1.adv.le);rw[e1,e2];exact⟨x0.then (p1.adv.trans p2.adv),rfl⟩
 simp only[if_neg c2]
 by_cases c3:w=[102,111,114]
 · simp only[if_pos c3];obtain⟨p1,e1⟩:=H.rank (q:=.loop) (s1:=s) ⟨hp.1,hlt⟩ (yAC _) (by simp only[ze];omega);rw[e1];exact⟨p1,rfl⟩
 simp only[if_neg c3]
 by_cases c4:w=[98,114,101,97,107]
 · simp only[if_pos c4];obtain⟨p1,e1⟩:=H.rank (q:=.jump 12) (s1:=s) ⟨hp.1,hlt⟩ (yAC _) (by simp only[ze];omega);rw[e1];exact⟨p1,rfl⟩
 simp only[if_neg c4]
 by_cases c5:w=[99,111,110,116,105,110,117,101]
 · simp only[if_pos c5];obtain⟨p1,e1⟩:=H.rank (q:=.jump 13) (s1:=s) ⟨hp.1,hlt⟩ (yAC _) (by simp only[ze];omega);rw[e1];exact⟨p1,rfl⟩
 simp only[if_neg c5]
 by_cases c6:w=[114,101,116,117,114,110]
 · simp only[if_pos c6]
   by_cases c:zEN L (zB s)=true
   · simp only[if_pos c];exact⟨x0.then (zBW (s:=zB s) hL hlt),trivial⟩
   · simp only[if_neg c];obtain⟨p1,e1⟩:=H.more hL (q:=.assign) (s1:=zB s) ⟨hlt,trivial⟩ h0;rw[e1];exact⟨x0.then (p1.adv.trans (zBW hL p1.adv.hi)),rfl⟩
 simp only[if_neg c6]
 by_cases c7:w=[116,104,114,111,119]
 · simp only[if_pos c7];have y:Adv L (zB s) (if(zL L (zB s).k).nl=true then zY L (zB s)else zB s):=by
    split
    · exact(zm (s:=zB s) hlt).adv
    · exact Adv.refl hlt
   obtain⟨p1,e1⟩:=H.more hL (q:=.assign) (s1:=if(zL L (zB s).k).nl=true then zY L (zB s)else zB s) ⟨y.hi,trivial⟩ (yAA h0 y.le);rw[e1];exact⟨x0.then (y.trans (p1.adv.trans (zBW hL p1.adv.hi))),rfl⟩
 simp only[if_neg c7]
 by_cases c8:w=[116,114,121]
 · simp only[if_pos c8];obtain⟨p1,e1⟩:=H.rank (q:=.tries) (s1:=s) ⟨hp.1,hlt⟩ (yAC _) (by simp only[ze];omega);rw[e1];exact⟨p1,rfl⟩
 simp only[if_neg c8]
 by_cases c9:w=[102,117,110,99,116,105,111,110]∨w=[108,101,116]∨w=[99,111,110,115,116]
 · simp only[if_pos c9];exact⟨zm hp.1,trivial⟩
 simp only[if_neg c9];obtain⟨p1,e1⟩:=H.rank (q:=.simple) (s1:=s) ⟨hp.1,trivial⟩ (yAC _) (by simp only[ze];omega);rw[e1];exact⟨p1,rfl⟩
theorem zK7 (hL:Lst L) (hp:Pre L .within s) (H:Hyp L R R' .within s):Con L R R' .within s:=by
 unfold Con zE;dsimp only;have x:=zU (w:=[40]) hL hp.1;obtain⟨p1,e1⟩:=H.rank (q:=.assign) (s1:=zN L [40] s) ⟨x.adv.hi,trivial⟩ x.adv.le (by simp only[ze];omega);rw[e1];exact⟨x.then (p1.adv.trans (zU hL p1.adv.hi).adv),rfl⟩
theorem zK8 {w:List UInt8} (hL:Lst L) (hp:Pre L (.clause w) s) (H:Hyp L R R' (.clause w) s):Con L R R' (.clause w) s:=by
 unfold Con zE;dsimp only
 by_cases c:onP L w s=true
 · simp only[if_pos c];exact⟨zU hL hp.1,trivial⟩
 simp only[if_neg c];obtain⟨p1,e1⟩:=H.rank (q:=.assign) (s1:=s) ⟨hp.1,trivial⟩ (yAC _) (by simp only[ze];omega);rw[e1];exact⟨Eat.then (b:=(R .assign s).2) p1 (zU hL p1.adv.hi).adv,rfl⟩
theorem zGM (hL:Lst L) (H:Hyp L R R' .loop s) {a:Tr×Ps} (x:Eat L s a.2) (h0:s.k < a.2.k):
 Post L .loop s (trK 10 [a.1,(R (.clause [59]) a.2).1,(R (.clause [41]) (R (.clause [59]) a.2).2).1,(R .statement (R (.clause [41]) (R (.clause [59]) a.2).2).2).1],(R .statement (R (.clause [41]) (R (.clause [59]) a.2).2).2).2).2∧
 (trK 10 [a.1,(R (.clause [59]) a.2).1,(R (.clause [41]) (R (.clause [59]) a.2).2).1,(R .statement (R (.clause [41]) (R (.clause [59]) a.2).2).2).1],(R .statement (R (.clause [41]) (R (.clause [59]) a.2).2).2).2)=(trK 10 [a.1,(R' (.clause [59]) a.2).1,(R' (.clause [41]) (R' (.clause [59]) a.2).2).1,(R' .statement (R' (.clause [41]) (R' (.clause [59]) a.2).2).2).1],(R' .statement (R' (.clause [41]) (R' (.clause [59]) a.2).2).2).2):=by
 obtain⟨p1,e1⟩:=H.more hL (q:=.clause [59]) (s1:=a.2) ⟨x.adv.hi,trivial⟩ h0;have h1:=yAA h0 p1.adv.le;obtain⟨p2,e2⟩:=H.more hL (q:=.clause [41]) (s1:=(R (.clause [59]) a.2).2) ⟨p1.adv.hi,trivial⟩ h1;have h2:=yAA h1 p2.adv.le;obtain⟨p3,e3⟩:=H.more hL (q:=.statement) (s1:=(R (.clause [41]) (R (.clause [59]) a.2).2).2) ⟨p2.adv.hi,trivial⟩ h2;rw[e1,e2,e3];exact⟨x.then (p1.adv.trans (p2.adv.trans p3.adv)),rfl⟩
theorem zPo (hL:Lst L) (hp:Pre L .loop s) (H:Hyp L R R' .loop s):Con L R R' .loop s:=by
 have hlt:s.k < L.length - 1:=hp.2;have x0:=zAT hlt;have x1:=zU (w:=[40]) (s:=zB s) hL hlt;have h0:s.k < (zN L [40] (zB s)).k:=yAA (yAF s.k) x1.adv.le;unfold Con zE;dsimp only
 by_cases c:(onP L [108,101,116] (zN L [40] (zB s)) || onP L [99,111,110,115,116] (zN L [40] (zB s)))=true
 · simp only[if_pos c];obtain⟨p1,e1⟩:=H.more hL (q:=.declares) (s1:=zN L [40] (zB s)) ⟨x1.adv.hi,trivial⟩ h0;have y:=zU (w:=[59]) hL p1.adv.hi;rw[e1];exact zGM hL H (a:=((R .declares (zN L [40] (zB s))).1,zN L [59] (R .declares (zN L [40] (zB s))).2)) (x0.then (x1.adv.trans (p1.adv.trans y.adv))) (yAA h0 (yAD p1.adv.le y.adv.le))
 · simp only[if_neg c];obtain⟨p1,e1⟩:=H.more hL (q:=.clause [59]) (s1:=zN L [40] (zB s)) ⟨x1.adv.hi,trivial⟩ h0;rw[e1];exact zGM hL H (a:=R (.clause [59]) (zN L [40] (zB s))) (x0.then (x1.adv.trans p1.adv)) (yAA h0 p1.adv.le)
theorem zPp {k:Int} (hL:Lst L) (hp:Pre L (.jump k) s) (_H:Hyp L R R' (.jump k) s):Con L R R' (.jump k) s:=by
 have hlt:s.k < L.length - 1:=hp.2;have x0:=zAT hlt;unfold Con zE;dsimp only;have y:=zAY (s:=zB s) hL hlt
 by_cases c:(zL L (zB s).k).kind=1∧(zL L (zB s).k).nl=false
 · simp only[if_pos c];exact⟨x0.then (y.adv.trans (zBW hL y.adv.hi)),trivial⟩
 · simp only[if_neg c];exact⟨x0.then (zBW (s:=zB s) hL hlt),trivial⟩
theorem zFG (hL:Lst L) (H:Hyp L R R' .tries s) {b0:Tr} {c:Tr×Ps} (x:Eat L s c.2) (h0:s.k < c.2.k):
 Post L .tries s (if onP L [102,105,110,97,108,108,121] c.2=true then(trK 16 [b0,c.1,(R .block (zB c.2)).1],(R .block (zB c.2)).2)else(trK 16 [b0,c.1,trK 11 []],c.2)).2∧
 (if onP L [102,105,110,97,108,108,121] c.2=true then(trK 16 [b0,c.1,(R .block (zB c.2)).1],(R .block (zB c.2)).2)else(trK 16 [b0,c.1,trK 11 []],c.2))=(if onP L [102,105,110,97,108,108,121] c.2=true then(trK 16 [b0,c.1,(R' .block (zB c.2)).1],(R' .block (zB c.2)).2)else(trK 16 [b0,c.1,trK 11 []],c.2)):=by
 by_cases d:onP L [102,105,110,97,108,108,121] c.2=true
 · simp only[if_pos d];have hlt:=hL.on x.adv.hi d;obtain⟨p1,e1⟩:=H.more hL (q:=.block) (s1:=zB c.2) ⟨hlt,trivial⟩ (Nat.lt_succ_of_lt h0);rw[e1];exact⟨x.then ((zv hlt).trans p1.adv),rfl⟩
 · simp only[if_neg d];exact⟨x,trivial⟩
theorem zEP (hL:Lst L) (H:Hyp L R R' .tries s) {b0:Tr} {s1:Ps} (x:Eat L s s1) (h0:s.k < s1.k) {n:List UInt8×Ps} (y:Adv L s1 n.2):
 Post L .tries s (if onP L [102,105,110,97,108,108,121] (R .block n.2).2=true then(trK 16 [b0,trN 17 n.1 [(R .block n.2).1],(R .block (zB (R .block n.2).2)).1],(R .block (zB (R .block n.2).2)).2)else(trK 16 [b0,trN 17 n.1 [(R .block n.2).1],trK 11 []],(R .block n.2).2)).2∧
 (if onP L [102,105,110,97,108,108,121] (R .block n.2).2=true then(trK 16 [b0,trN 17 n.1 [(R .block n.2).1],(R .block (zB (R .block n.2).2)).1],(R .block (zB (R .block n.2).2)).2)else(trK 16 [b0,trN 17 n.1 [(R .block n.2).1],trK 11 []],(R .block n.2).2))=(if onP L [102,105,110,97,108,108,121] (R' .block n.2).2=true then(trK 16 [b0,trN 17 n.1 [(R' .block n.2).1],(R' .block (zB (R' .block n.2).2)).1],(R' .block (zB (R' .block n.2).2)).2)else(trK 16 [b0,trN 17 n.1 [(R' .block n.2).1],trK 11 []],(R' .block n.2).2)):=by
 obtain⟨p1,e1⟩:=H.more hL (q:=.block) (s1:=n.2) ⟨y.hi,trivial⟩ (yAA h0 y.le);rw[e1];exact zFG hL H (c:=(trN 17 n.1 [(R .block n.2).1],(R .block n.2).2)) (x.then (y.trans p1.adv)) (yAA h0 (yAD y.le p1.adv.le))
theorem zNP (hL:Lst L) (hp:Pre L .tries s) (H:Hyp L R R' .tries s):Con L R R' .tries s:=by
 have hlt:s.k < L.length - 1:=hp.2;have x0:=zAT hlt;unfold Con zE;dsimp only;obtain⟨p1,e1⟩:=H.more hL (q:=.block) (s1:=zB s) ⟨hlt,trivial⟩ (yAF _);rw[e1];have y:Adv L (zB s) (if(onP L [99,97,116,99,104] (R .block (zB s)).2 || onP L [102,105,110,97,108,108,121] (R .block (zB s)).2)=true then(R .block (zB s)).2 else zY L (R .block (zB s)).2):=by
  split
  · exact p1.adv
  · exact p1.adv.trans (zm p1.adv.hi).adv
 obtain⟨s1,hs1⟩:∃s1,(if(onP L [99,97,116,99,104] (R .block (zB s)).2 || onP L [102,105,110,97,108,108,121] (R .block (zB s)).2)=true then(R .block (zB s)).2 else zY L (R .block (zB s)).2)=s1:=⟨_,rfl⟩;rw[hs1]at y⊢;have h0:s.k < s1.k:=y.le
 by_cases c:onP L [99,97,116,99,104] s1=true
 · simp only[if_pos c];have hl1:=hL.on y.hi c;have z:=zv hl1
   by_cases c2:onP L [40] (zB s1)=true
   · simp only[if_pos c2];have hl2:=hL.on (s:=zB s1) hl1 c2;have u:=zAY (s:=zB (zB s1)) hL hl2;have v:=zU (w:=[41]) hL u.adv.hi;exact zEP hL H (n:=((zd L (zB (zB s1))).1,zN L [41] (zd L (zB (zB s1))).2)) (x0.then y) h0 (z.trans ((zv hl2).trans (u.adv.trans v.adv)))
   · simp only[if_neg c2];exact zEP hL H (n:=([],zB s1)) (x0.then y) h0 z
 · simp only[if_neg c];exact zFG hL H (c:=(trK 11 [],s1)) (x0.then y) h0
theorem zK9 (hL:Lst L) (hp:Pre L .assign s) (H:Hyp L R R' .assign s):Con L R R' .assign s:=by
 unfold Con zE;dsimp only
 by_cases c:(zL L s.k).kind=1∧isT (zAN L s.k 1) [61,62]=true∧(zAN L s.k 1).nl=false
 · simp only[if_pos c];have hlt:=hL.lt hp.1 (by rw[c.1];decide);obtain⟨p1,e1⟩:=H.more hL (q:=.body [trN 20 (zL L s.k).text []]) (s1:=zB s) ⟨hlt,trivial⟩ (yAF _);rw[e1];exact⟨(zAT hlt).then p1.adv,rfl⟩
 simp only[if_neg c]
 by_cases c2:zAX L s=true
 · simp only[if_pos c2];have hlt:s.k < L.length - 1:=hL.on (w:=[40]) hp.1 (by
    unfold zAX at c2;rw[Bool.and_eq_true]at c2;exact c2.1)
   obtain⟨p1,e1⟩:=H.rank (q:=.params) (s1:=s) ⟨hp.1,trivial⟩ (yAC _) (by simp only[ze];omega);have x1:Eat L s (R .params s).2:=p1;obtain⟨p2,e2⟩:=H.more hL (q:=.body (R .params s).1.subs) (s1:=(R .params s).2) ⟨x1.adv.hi,trivial⟩ (x1.more hlt);rw[e1,e2];exact⟨x1.then p2.adv,rfl⟩
 simp only[if_neg c2];obtain⟨p1,e1⟩:=H.rank (q:=.cond) (s1:=s) ⟨hp.1,trivial⟩ (yAC _) (by simp only[ze];omega);have x1:Eat L s (R .cond s).2:=p1;rw[e1]
 by_cases c3:(zL L (R .cond s).2.k).kind≠5∨¬(zL L (R .cond s).2.k).text∈zO2
 · simp only[if_pos c3];exact⟨x1,trivial⟩
 simp only[if_neg c3];have hl2:(R .cond s).2.k < L.length - 1:=hL.lt x1.adv.hi (by
  intro h0;exact c3 (.inl (by rw[h0];decide)))
 by_cases c4:zAf (R .cond s).1.nd.kind=false
 · simp only[if_pos c4];exact⟨x1.then (zDz (by decide) x1.adv.hi).adv,trivial⟩
 simp only[if_neg c4];obtain⟨p2,e2⟩:=H.more hL (q:=.assign) (s1:=zB (R .cond s).2) ⟨hl2,trivial⟩ (Nat.lt_succ_of_le x1.adv.le);rw[e2];exact⟨x1.then ((zv hl2).trans p2.adv),rfl⟩
theorem zPq {l:List Tr} (hL:Lst L) (hp:Pre L (.body l) s) (H:Hyp L R R' (.body l) s):Con L R R' (.body l) s:=by
 unfold Con zE;dsimp only;have y:Adv L s (if(zL L s.k).nl=true then zY L s else s):=by
  split
  · exact(zm hp.1).adv
  · exact Adv.refl hp.1
 obtain⟨s0,hs0⟩:∃s0,(if(zL L s.k).nl=true then zY L s else s)=s0:=⟨_,rfl⟩;rw[hs0]at y⊢;have x1:=zU (w:=[61,62]) hL y.hi;have x:=y.eat x1
 by_cases c:onP L [123] (zN L [61,62] s0)=true
 · simp only[if_pos c];have h2:s0.k < (zN L [61,62] s0).k:=by
    by_cases c2:onP L [61,62] s0=true
    · unfold zN;rw[if_pos c2];exact yAF _
    · have hr:zN L [61,62] s0=zY L s0:=by unfold zN;rw[if_neg c2]
      have:=hL.on x1.adv.hi c;rw[hr,zK2]at this;omega
   obtain⟨p1,e1⟩:=H.more hL (q:=.block) (s1:=zN L [61,62] s0) ⟨x.adv.hi,trivial⟩ (Nat.lt_of_le_of_lt y.le h2);rw[e1];exact⟨x.then p1.adv,rfl⟩
 · simp only[if_neg c];obtain⟨p1,e1⟩:=H.rank (q:=.assign) (s1:=zN L [61,62] s0) ⟨x.adv.hi,trivial⟩ x.adv.le (by simp only[ze];omega);rw[e1];exact⟨x.then p1.adv,rfl⟩
theorem zPr (hL:Lst L) (hp:Pre L .cond s) (H:Hyp L R R' .cond s):Con L R R' .cond s:=by
 unfold Con zE;dsimp only;obtain⟨p1,e1⟩:=H.rank (q:=.either) (s1:=s) ⟨hp.1,trivial⟩ (yAC _) (by simp only[ze];omega);have x1:Eat L s (R .either s).2:=p1;rw[e1]
 by_cases c:onP L [63] (R .either s).2=true
 · simp only[if_pos c];have hl:=hL.on x1.adv.hi c;have h0:s.k < (zB (R .either s).2).k:=Nat.lt_succ_of_le x1.adv.le;obtain⟨p2,e2⟩:=H.more hL (q:=.assign) (s1:=zB (R .either s).2) ⟨hl,trivial⟩ h0;have y:=zU (w:=[58]) hL p2.adv.hi;obtain⟨p3,e3⟩:=H.more hL (q:=.assign) (s1:=zN L [58] (R .assign (zB (R .either s).2)).2) ⟨y.adv.hi,trivial⟩ (yAA h0 (yAD p2.adv.le y.adv.le));rw[e2,e3];exact⟨x1.then ((zv hl).trans (p2.adv.trans (y.adv.trans p3.adv))),rfl⟩
 · simp only[if_neg c];exact⟨x1,trivial⟩
theorem zLA (hL:Lst L) (hp:Pre L .either s) (H:Hyp L R R' .either s):Con L R R' .either s:=by
 unfold Con zE;dsimp only;obtain⟨p1,e1⟩:=H.rank (q:=.level 0) (s1:=s) ⟨hp.1,yAE _⟩ (yAC _) (by simp only[ze];omega);have x1:Eat L s (R (.level 0) s).2:=p1;have _:=hL.pos;rw[e1];have fin:∀{q:Ps} {c:Bool},q.k≤L.length - 1→Adv L q (if c=true then zY L q else q):=by
  intro q c hq;split
  · exact(zm hq).adv
  · exact Adv.refl hq
 by_cases c:onP L [63,63] (R (.level 0) s).2=true
 · simp only[if_pos c];obtain⟨p2,e2⟩:=H.rank (q:=.nullL (R (.level 0) s).1) (s1:=(R (.level 0) s).2) ⟨x1.adv.hi,trivial⟩ x1.adv.le (by simp only[ze];omega);rw[e2];exact⟨x1.then (p2.adv.trans (fin p2.adv.hi)),rfl⟩
 · simp only[if_neg c];obtain⟨p2,e2⟩:=H.rank (q:=.both (R (.level 0) s).1) (s1:=(R (.level 0) s).2) ⟨x1.adv.hi,trivial⟩ x1.adv.le (by simp only[ze];omega);rw[e2];obtain⟨p3,e3⟩:=H.rank (q:=.orL (R (.both (R (.level 0) s).1) (R (.level 0) s).2).1) (s1:=(R (.both (R (.level 0) s).1) (R (.level 0) s).2).2) ⟨p2.adv.hi,trivial⟩ (yAD x1.adv.le p2.adv.le) (by simp only[ze];omega);rw[e3];exact⟨x1.then (p2.adv.trans (p3.adv.trans (fin p3.adv.hi))),rfl⟩
theorem zNQ {x:Tr} (hL:Lst L) (hp:Pre L (.nullL x) s) (H:Hyp L R R' (.nullL x) s):Con L R R' (.nullL x) s:=by
 unfold Con zE;dsimp only
 by_cases c:onP L [63,63] s=true
 · simp only[if_pos c];have hl:=hL.on hp.1 c;obtain⟨p1,e1⟩:=H.more hL (q:=.level 0) (s1:=zB s) ⟨hl,yAE _⟩ (yAF _);obtain⟨p2,e2⟩:=H.more hL (q:=.nullL (trN 47 [63,63] [x,(R (.level 0) (zB s)).1])) (s1:=(R (.level 0) (zB s)).2) ⟨p1.adv.hi,trivial⟩ (yAA (yAF _) p1.adv.le);rw[e1,e2];exact⟨(zv hl).trans (p1.adv.trans p2.adv),rfl⟩
 · simp only[if_neg c];exact⟨Adv.refl hp.1,trivial⟩
theorem zPs {x:Tr} (hL:Lst L) (hp:Pre L (.both x) s) (H:Hyp L R R' (.both x) s):Con L R R' (.both x) s:=by
 unfold Con zE;dsimp only
 by_cases c:onP L [38,38] s=true
 · simp only[if_pos c];have hl:=hL.on hp.1 c;obtain⟨p1,e1⟩:=H.more hL (q:=.level 0) (s1:=zB s) ⟨hl,yAE _⟩ (yAF _);obtain⟨p2,e2⟩:=H.more hL (q:=.both (trN 47 [38,38] [x,(R (.level 0) (zB s)).1])) (s1:=(R (.level 0) (zB s)).2) ⟨p1.adv.hi,trivial⟩ (yAA (yAF _) p1.adv.le);rw[e1,e2];exact⟨(zv hl).trans (p1.adv.trans p2.adv),rfl⟩
 · simp only[if_neg c];exact⟨Adv.refl hp.1,trivial⟩
theorem zQt {x:Tr} (hL:Lst L) (hp:Pre L (.orL x) s) (H:Hyp L R R' (.orL x) s):Con L R R' (.orL x) s:=by
 unfold Con zE;dsimp only
 by_cases c:onP L [124,124] s=true
 · simp only[if_pos c];have hl:=hL.on hp.1 c;obtain⟨p1,e1⟩:=H.more hL (q:=.level 0) (s1:=zB s) ⟨hl,yAE _⟩ (yAF _);have h1:s.k < (R (.level 0) (zB s)).2.k:=p1.adv.le;rw[e1];obtain⟨p2,e2⟩:=H.more hL (q:=.both (R (.level 0) (zB s)).1) (s1:=(R (.level 0) (zB s)).2) ⟨p1.adv.hi,trivial⟩ h1;rw[e2];obtain⟨p3,e3⟩:=H.more hL (q:=.orL (trN 47 [124,124] [x,(R (.both (R (.level 0) (zB s)).1) (R (.level 0) (zB s)).2).1])) (s1:=(R (.both (R (.level 0) (zB s)).1) (R (.level 0) (zB s)).2).2) ⟨p2.adv.hi,trivial⟩ (yAA h1 p2.adv.le);rw[e3];exact⟨(zv hl).trans (p1.adv.trans (p2.adv.trans p3.adv)),rfl⟩
 · simp only[if_neg c];exact⟨Adv.refl hp.1,trivial⟩
theorem zNR {n:Nat} (hL:Lst L) (hp:Pre L (.level n) s) (H:Hyp L R R' (.level n) s):Con L R R' (.level n) s:=by
 have hn:n≤8:=hp.2;have _:=hL.pos;unfold Con zE;dsimp only
 by_cases c:n=8
 · simp only[if_pos c];obtain⟨p1,e1⟩:=H.rank (q:=.unary) (s1:=s) ⟨hp.1,trivial⟩ (yAC _) (by simp only[ze];omega);rw[e1];exact⟨p1,rfl⟩
 · simp only[if_neg c];obtain⟨p1,e1⟩:=H.rank (q:=.level (n+1)) (s1:=s) ⟨hp.1,(by show n+1≤8;omega)⟩ (yAC _) (by simp only[ze];omega);have x1:Eat L s (R (.level (n+1)) s).2:=p1;obtain⟨p2,e2⟩:=H.rank (q:=.levelL n (R (.level (n+1)) s).1) (s1:=(R (.level (n+1)) s).2) ⟨x1.adv.hi,(by show n < 8;omega)⟩ x1.adv.le (by simp only[ze];omega);rw[e1,e2];exact⟨x1.then p2.adv,rfl⟩
theorem zDU {t:Tok} (h:zCi t≠9):t.kind≠0:=by
 unfold zCi at h;intro h0;apply h;rw[if_neg];intro h2;rcases h2 with h2 | h2
 · omega
 · exact zDx h2 h0
theorem zLB {n:Nat} {x:Tr} (hL:Lst L) (hp:Pre L (.levelL n x) s) (H:Hyp L R R' (.levelL n x) s):Con L R R' (.levelL n x) s:=by
 have hn:n < 8:=hp.2;unfold Con zE;dsimp only
 by_cases c:zCi (zL L s.k)=n
 · simp only[if_pos c];have hl:=hL.lt hp.1 (zDU (by omega));obtain⟨p1,e1⟩:=H.more hL (q:=.level (n+1)) (s1:=zB s) ⟨hl,(by show n+1≤8;omega)⟩ (yAF _);obtain⟨p2,e2⟩:=H.more hL (q:=.levelL n (trN 46 (zL L s.k).text [x,(R (.level (n+1)) (zB s)).1])) (s1:=(R (.level (n+1)) (zB s)).2) ⟨p1.adv.hi,hn⟩ (yAA (yAF _) p1.adv.le);rw[e1,e2];exact⟨(zv hl).trans (p1.adv.trans p2.adv),rfl⟩
 · simp only[if_neg c];exact⟨Adv.refl hp.1,trivial⟩
theorem zNS (hL:Lst L) (hp:Pre L .unary s) (H:Hyp L R R' .unary s):Con L R R' .unary s:=by
 unfold Con zE;dsimp only
 by_cases c:((zL L s.k).kind=5∨(zL L s.k).kind=6)∧(zL L s.k).text∈zJ4
 · simp only[if_pos c];have hl:=hL.lt hp.1 (by omega);obtain⟨p1,e1⟩:=H.more hL (q:=.unary) (s1:=zB s) ⟨hl,trivial⟩ (yAF _);rw[e1];exact⟨(zAT hl).then p1.adv,rfl⟩
 simp only[if_neg c]
 by_cases c2:((zL L s.k).kind=5∨(zL L s.k).kind=6)∧(zL L s.k).text∈zFT
 · simp only[if_pos c2];have hl:=hL.lt hp.1 (by omega);obtain⟨p1,e1⟩:=H.more hL (q:=.unary) (s1:=zB s) ⟨hl,trivial⟩ (yAF _);rw[e1];refine⟨(zAT hl).then (p1.adv.trans ?_),rfl⟩;show Adv L _ (if _ then _ else _);split
   · exact(zm p1.adv.hi).adv
   · exact Adv.refl p1.adv.hi
 simp only[if_neg c2];obtain⟨p1,e1⟩:=H.rank (q:=.calls) (s1:=s) ⟨hp.1,trivial⟩ (yAC _) (by simp only[ze];omega);have x1:Eat L s (R .calls s).2:=p1;rw[e1]
 by_cases c3:(zL L (R .calls s).2.k).kind=5∧(zL L (R .calls s).2.k).text∈zFT∧(zL L (R .calls s).2.k).nl=false
 · simp only[if_pos c3]
   by_cases c4:zAf (R .calls s).1.nd.kind=false
   · simp only[if_pos c4];exact⟨x1.then (zm x1.adv.hi).adv,trivial⟩
   · simp only[if_neg c4];exact⟨x1.then (zv (hL.lt x1.adv.hi (by omega))),trivial⟩
 · simp only[if_neg c3];exact⟨x1,trivial⟩
theorem zNT (hL:Lst L) (hp:Pre L .calls s) (H:Hyp L R R' .calls s):Con L R R' .calls s:=by
 have _:=hL.pos;unfold Con zE;dsimp only;obtain⟨p1,e1⟩:=H.rank (q:=.head) (s1:=s) ⟨hp.1,trivial⟩ (yAC _) (by simp only[ze];omega);have x1:Eat L s (R .head s).2:=p1;obtain⟨p2,e2⟩:=H.rank (q:=.callsL (R .head s).1) (s1:=(R .head s).2) ⟨x1.adv.hi,trivial⟩ x1.adv.le (by simp only[ze];omega);rw[e1,e2];exact⟨x1.then p2.adv,rfl⟩
theorem zLC {x:Tr} (hL:Lst L) (hp:Pre L (.callsL x) s) (H:Hyp L R R' (.callsL x) s):Con L R R' (.callsL x) s:=by
 unfold Con zE;dsimp only
 by_cases c:onP L [40] s=true
 · simp only[if_pos c];have hlt:=hL.on hp.1 c;obtain⟨p1,e1⟩:=H.rank (q:=.args) (s1:=s) ⟨hp.1,hlt⟩ (yAC _) (by simp only[ze];omega);have x1:Eat L s (R .args s).2:=p1;obtain⟨p2,e2⟩:=H.more hL (q:=.callsL (trK 50 (x::(R .args s).1.subs))) (s1:=(R .args s).2) ⟨x1.adv.hi,trivial⟩ (x1.more hlt);rw[e1,e2];exact⟨x1.adv.trans p2.adv,rfl⟩
 simp only[if_neg c]
 by_cases c2:onP L [46] s=true
 · simp only[if_pos c2];have hlt:=hL.on hp.1 c2;have x0:=zv hlt
   by_cases c3:(zL L (zB s).k).kind≠1∧(zL L (zB s).k).kind≠6
   · simp only[if_pos c3];exact⟨x0.trans (zm (s:=zB s) hlt).adv,trivial⟩
   · simp only[if_neg c3];have hl2:(zB s).k < L.length - 1:=hL.lt hlt (by omega);obtain⟨p1,e1⟩:=H.more hL (q:=.callsL (trN 52 (zL L (zB s).k).text [x])) (s1:=zB (zB s)) ⟨hl2,trivial⟩ (by show s.k < s.k+1+1;omega);rw[e1];exact⟨x0.trans ((zv hl2).trans p1.adv),rfl⟩
 simp only[if_neg c2]
 by_cases c4:onP L [91] s=true
 · simp only[if_pos c4];have hlt:=hL.on hp.1 c4;obtain⟨p1,e1⟩:=H.more hL (q:=.assign) (s1:=zB s) ⟨hlt,trivial⟩ (yAF _);have y:=zU (w:=[93]) hL p1.adv.hi;have z:=p1.adv.trans y.adv;obtain⟨p2,e2⟩:=H.more hL (q:=.callsL (trK 53 [x,(R .assign (zB s)).1])) (s1:=zN L [93] (R .assign (zB s)).2) ⟨y.adv.hi,trivial⟩ (yAA (yAF _) z.le);rw[e1,e2];exact⟨(zv hlt).trans (z.trans p2.adv),rfl⟩
 · simp only[if_neg c4];exact⟨Adv.refl hp.1,trivial⟩
theorem zNU {x:Tr} (hL:Lst L) (hp:Pre L (.headL x) s) (H:Hyp L R R' (.headL x) s):Con L R R' (.headL x) s:=by
 unfold Con zE;dsimp only
 by_cases c2:onP L [46] s=true
 · simp only[if_pos c2];have hlt:=hL.on hp.1 c2;have x0:=zv hlt
   by_cases c3:(zL L (zB s).k).kind≠1∧(zL L (zB s).k).kind≠6
   · simp only[if_pos c3];exact⟨x0.trans (zm (s:=zB s) hlt).adv,trivial⟩
   · simp only[if_neg c3];have hl2:(zB s).k < L.length - 1:=hL.lt hlt (by omega);obtain⟨p1,e1⟩:=H.more hL (q:=.headL (trN 52 (zL L (zB s).k).text [x])) (s1:=zB (zB s)) ⟨hl2,trivial⟩ (by show s.k < s.k+1+1;omega);rw[e1];exact⟨x0.trans ((zv hl2).trans p1.adv),rfl⟩
 simp only[if_neg c2]
 by_cases c4:onP L [91] s=true
 · simp only[if_pos c4];have hlt:=hL.on hp.1 c4;obtain⟨p1,e1⟩:=H.more hL (q:=.assign) (s1:=zB s) ⟨hlt,trivial⟩ (yAF _);have y:=zU (w:=[93]) hL p1.adv.hi;have z:=p1.adv.trans y.adv;obtain⟨p2,e2⟩:=H.more hL (q:=.headL (trK 53 [x,(R .assign (zB s)).1])) (s1:=zN L [93] (R .assign (zB s)).2) ⟨y.adv.hi,trivial⟩ (yAA (yAF _) z.le);rw[e1,e2];exact⟨(zv hlt).trans (z.trans p2.adv),rfl⟩
 · simp only[if_neg c4];exact⟨Adv.refl hp.1,trivial⟩
theorem zPt (hL:Lst L) (hp:Pre L .head s) (H:Hyp L R R' .head s):Con L R R' .head s:=by
 unfold Con zE;dsimp only
 by_cases c:onP L [110,101,119] s=true
 · simp only[if_pos c];have hlt:=hL.on hp.1 c;have x0:=zAT hlt;obtain⟨p1,e1⟩:=H.more hL (q:=.head) (s1:=zB s) ⟨hlt,trivial⟩ (yAF _);have h1:s.k < (R .head (zB s)).2.k:=p1.adv.le;obtain⟨p2,e2⟩:=H.more hL (q:=.headL (R .head (zB s)).1) (s1:=(R .head (zB s)).2) ⟨p1.adv.hi,trivial⟩ h1;rw[e1,e2];have y:=p1.adv.trans p2.adv
   by_cases c2:onP L [40] (R (.headL (R .head (zB s)).1) (R .head (zB s)).2).2=true
   · simp only[if_pos c2];have hl2:=hL.on y.hi c2;obtain⟨p3,e3⟩:=H.more hL (q:=.args) (s1:=(R (.headL (R .head (zB s)).1) (R .head (zB s)).2).2) ⟨y.hi,hl2⟩ (yAA h1 p2.adv.le);rw[e3];exact⟨x0.then (y.trans p3.adv),rfl⟩
   · simp only[if_neg c2];exact⟨x0.then y,trivial⟩
 · simp only[if_neg c];obtain⟨p1,e1⟩:=H.rank (q:=.primary) (s1:=s) ⟨hp.1,trivial⟩ (yAC _) (by simp only[ze];omega);rw[e1];exact⟨p1,rfl⟩
theorem zPu (hL:Lst L) (hp:Pre L .args s) (H:Hyp L R R' .args s):Con L R R' .args s:=by
 have hlt:s.k < L.length - 1:=hp.2;unfold Con zE;dsimp only;have x:=zU (w:=[40]) hL hp.1;obtain⟨p1,e1⟩:=H.more hL (q:=.list [41]) (s1:=zN L [40] s) ⟨x.adv.hi,trivial⟩ (x.more hlt);rw[e1];exact⟨x.then p1.adv,rfl⟩
theorem zPv {w:List UInt8} (hL:Lst L) (hp:Pre L (.list w) s) (H:Hyp L R R' (.list w) s):Con L R R' (.list w) s:=by
 unfold Con zE;dsimp only
 by_cases c:onP L w s=true
 · simp only[if_pos c];exact⟨zAT (hL.on hp.1 c),trivial⟩
 · simp only[if_neg c];obtain⟨p1,e1⟩:=H.rank (q:=.listL w []) (s1:=s) ⟨hp.1,trivial⟩ (yAC _) (by simp only[ze];omega);rw[e1];exact⟨p1,rfl⟩
theorem zNV {w:List UInt8} {acc:List Tr} (hL:Lst L) (hp:Pre L (.listL w acc) s) (H:Hyp L R R' (.listL w acc) s):Con L R R' (.listL w acc) s:=by
 unfold Con zE;dsimp only;obtain⟨p1,e1⟩:=H.rank (q:=.assign) (s1:=s) ⟨hp.1,trivial⟩ (yAC _) (by simp only[ze];omega);have x1:Eat L s (R .assign s).2:=p1;rw[e1]
 by_cases c:(R .assign s).2.bad≠0
 · simp only[if_pos c];exact⟨x1,trivial⟩
 simp only[if_neg c]
 by_cases c2:onP L w (R .assign s).2=true
 · simp only[if_pos c2];exact⟨x1.then (zv (hL.on x1.adv.hi c2)),trivial⟩
 simp only[if_neg c2];have y:=zU (w:=[44]) hL x1.adv.hi;obtain⟨p2,e2⟩:=H.more hL (q:=.listL w (acc++[(R .assign s).1])) (s1:=zN L [44] (R .assign s).2) ⟨y.adv.hi,trivial⟩ (yAA (x1.lt hp.1 c) y.adv.le);rw[e2];exact⟨x1.then (y.adv.trans p2.adv),rfl⟩
theorem zLD (hL:Lst L) (hp:Pre L .object s) (H:Hyp L R R' .object s):Con L R R' .object s:=by
 unfold Con zE;dsimp only
 by_cases c:onP L [125] s=true
 · simp only[if_pos c];exact⟨zAT (hL.on hp.1 c),trivial⟩
 · simp only[if_neg c];obtain⟨p1,e1⟩:=H.rank (q:=.objL []) (s1:=s) ⟨hp.1,trivial⟩ (yAC _) (by simp only[ze];omega);rw[e1];exact⟨p1,rfl⟩
theorem zPw {acc:List Tr} (hL:Lst L) (hp:Pre L (.objL acc) s) (H:Hyp L R R' (.objL acc) s):Con L R R' (.objL acc) s:=by
 unfold Con zE;dsimp only;obtain⟨p1,e1⟩:=H.rank (q:=.prop) (s1:=s) ⟨hp.1,trivial⟩ (yAC _) (by simp only[ze];omega);have x1:Eat L s (R .prop s).2:=p1;rw[e1]
 by_cases c:(R .prop s).2.bad≠0
 · simp only[if_pos c];exact⟨x1,trivial⟩
 simp only[if_neg c]
 by_cases c2:onP L [125] (R .prop s).2=true
 · simp only[if_pos c2];exact⟨x1.then (zv (hL.on x1.adv.hi c2)),trivial⟩
 simp only[if_neg c2];have y:=zU (w:=[44]) hL x1.adv.hi;obtain⟨p2,e2⟩:=H.more hL (q:=.objL (acc++[(R .prop s).1])) (s1:=zN L [44] (R .prop s).2) ⟨y.adv.hi,trivial⟩ (yAA (x1.lt hp.1 c) y.adv.le);rw[e2];exact⟨x1.then (y.adv.trans p2.adv),rfl⟩
theorem zDk {t:Tok} {u:List UInt16} (h:zAx t=some u):t.kind≠0:=by
 unfold zAx at h;intro h0;rw[h0]at h;simp at h
theorem zPx (hL:Lst L) (hp:Pre L .prop s) (H:Hyp L R R' .prop s):Con L R R' .prop s:=by
 unfold Con zE;dsimp only;cases hs:zAx (zL L s.k)with
 | none=>exact⟨zm hp.1,by first | rfl | trivial⟩
 | some u=>
  have hlt:=hL.lt hp.1 (zDk hs);have x0:=zAT hlt;dsimp only
  by_cases c:(zL L s.k).kind=1∧onP L [58] (zB s)=false
  · simp only[if_pos c];exact⟨x0,trivial⟩
  simp only[if_neg c];have y:=zU (w:=[58]) (s:=zB s) hL hlt;obtain⟨p1,e1⟩:=H.more hL (q:=.assign) (s1:=zN L [58] (zB s)) ⟨y.adv.hi,trivial⟩ (yAA (yAF s.k) y.adv.le);rw[e1];exact⟨x0.then (y.adv.trans p1.adv),rfl⟩
theorem zJF (hL:Lst L) (hp:Pre L .primary s) (H:Hyp L R R' .primary s):Con L R R' .primary s:=by
 unfold Con zE;dsimp only
 by_cases c0:(zL L s.k).kind=0
 · simp only[if_pos c0];exact⟨zm hp.1,trivial⟩
 simp only[if_neg c0];have hlt:=hL.lt hp.1 c0;have x0:=zAT hlt
 by_cases c1:(zL L s.k).kind=2
 · simp only[if_pos c1];exact⟨x0,trivial⟩
 simp only[if_neg c1]
 by_cases c2:(zL L s.k).kind=3
 · simp only[if_pos c2];exact⟨x0,trivial⟩
 simp only[if_neg c2]
 by_cases c3:(zL L s.k).kind=4
 · simp only[if_pos c3];exact⟨x0,trivial⟩
 simp only[if_neg c3]
 by_cases c4:(zL L s.k).kind=1
 · simp only[if_pos c4];exact⟨x0,trivial⟩
 simp only[if_neg c4]
 by_cases c5:(zL L s.k).text=[116,114,117,101]
 · simp only[if_pos c5];exact⟨x0,trivial⟩
 simp only[if_neg c5]
 by_cases c6:(zL L s.k).text=[102,97,108,115,101]
 · simp only[if_pos c6];exact⟨x0,trivial⟩
 simp only[if_neg c6]
 by_cases c7:(zL L s.k).text=[110,117,108,108]
 · simp only[if_pos c7];exact⟨x0,trivial⟩
 simp only[if_neg c7]
 by_cases c8:(zL L s.k).text=[116,104,105,115]
 · simp only[if_pos c8];exact⟨x0,trivial⟩
 simp only[if_neg c8]
 by_cases c9:(zL L s.k).text=[91]
 · simp only[if_pos c9];obtain⟨p1,e1⟩:=H.more hL (q:=.list [93]) (s1:=zB s) ⟨hlt,trivial⟩ (yAF _);rw[e1];exact⟨x0.then p1.adv,rfl⟩
 simp only[if_neg c9]
 by_cases d0:(zL L s.k).text=[123]
 · simp only[if_pos d0];obtain⟨p1,e1⟩:=H.more hL (q:=.object) (s1:=zB s) ⟨hlt,trivial⟩ (yAF _);rw[e1];exact⟨x0.then p1.adv,rfl⟩
 simp only[if_neg d0]
 by_cases d1:(zL L s.k).text=[102,117,110,99,116,105,111,110]
 · simp only[if_pos d1]
   by_cases d2:(zL L (zB s).k).kind=1
   · simp only[if_pos d2];have y:=zAY (s:=zB s) hL hlt;obtain⟨p1,e1⟩:=H.more hL (q:=.func 41 (zd L (zB s)).1) (s1:=(zd L (zB s)).2) ⟨y.adv.hi,trivial⟩ (yAA (yAF s.k) y.adv.le);rw[e1];exact⟨x0.then (y.adv.trans p1.adv),rfl⟩
   · simp only[if_neg d2];obtain⟨p1,e1⟩:=H.more hL (q:=.func 41 []) (s1:=zB s) ⟨hlt,trivial⟩ (yAF _);rw[e1];exact⟨x0.then p1.adv,rfl⟩
 simp only[if_neg d1]
 by_cases d3:(zL L s.k).text=[40]
 · simp only[if_pos d3];obtain⟨p1,e1⟩:=H.more hL (q:=.assign) (s1:=zB s) ⟨hlt,trivial⟩ (yAF _);rw[e1];exact⟨x0.then (p1.adv.trans (zU hL p1.adv.hi).adv),rfl⟩
 simp only[if_neg d3];refine⟨?_,by first | rfl | trivial⟩;show Eat L s (if _ then _ else _);split
 · exact zDz (by decide) hp.1
 · exact zm hp.1
theorem zFf {p:Ph} (hL:Lst L) (hp:Pre L p s) (H:Hyp L R R' p s):Con L R R' p s:=by
 cases p with
 | program acc=>exact zJE hL hp H
 | block=>exact zNN hL hp H
 | blockL acc=>exact zK3 hL hp H
 | item=>exact zPl hL hp H
 | declares=>exact zHM hL hp H
 | declL k acc=>exact zNO hL hp H
 | func k n=>exact zPm hL hp H
 | params=>exact zK4 hL hp H
 | paramL acc=>exact zK5 hL hp H
 | statement=>exact zGL hL hp H
 | simple=>exact zK6 hL hp H
 | word w=>exact zPn hL hp H
 | within=>exact zK7 hL hp H
 | clause w=>exact zK8 hL hp H
 | loop=>exact zPo hL hp H
 | jump k=>exact zPp hL hp H
 | tries=>exact zNP hL hp H
 | assign=>exact zK9 hL hp H
 | body l=>exact zPq hL hp H
 | cond=>exact zPr hL hp H
 | either=>exact zLA hL hp H
 | nullL x=>exact zNQ hL hp H
 | orL x=>exact zQt hL hp H
 | both x=>exact zPs hL hp H
 | level n=>exact zNR hL hp H
 | levelL n x=>exact zLB hL hp H
 | unary=>exact zNS hL hp H
 | calls=>exact zNT hL hp H
 | callsL x=>exact zLC hL hp H
 | head=>exact zPt hL hp H
 | headL x=>exact zNU hL hp H
 | args=>exact zPu hL hp H
 | list w=>exact zPv hL hp H
 | listL w acc=>exact zNV hL hp H
 | primary=>exact zJF hL hp H
 | object=>exact zLD hL hp H
 | objL acc=>exact zPw hL hp H
 | prop=>exact zPx hL hp H
end
theorem zIG {L:List Tok} (hL:Lst L):∀(f g:Nat) (p:Ph) (s:Ps),Pre L p s→zZ L p s < f→zZ L p s < g→Post L p s (zEl L f p s).2∧zEl L f p s=zEl L g p s:=by
 intro f
 induction f with
 | zero=>intro g p s _ h _;omega
 | succ f ih=>
  intro g p s hp hf hg;obtain⟨g,rfl⟩:∃m,g=m+1:=⟨g - 1,by omega⟩;exact zFf (R:=zEl L f) (R':=zEl L g) hL hp (fun q s1 hq hl=>ih g q s1 hq (by omega) (by omega))
theorem zV {L:List Tok} (hL:Lst L) {p:Ph} {s:Ps} (hp:Pre L p s):Post L p s (zF L p s).2:=(zIG hL _ _ p s hp (yAF _) (yAF _)).1
theorem zAH {L:List Tok} (hL:Lst L) {p:Ph} {s:Ps} (hp:Pre L p s):zF L p s=zE L (zF L) p s:=by
 have h:=zFf (R:=zEl L (zZ L p s)) (R':=zF L) hL hp (fun q s1 hq hl=>zIG hL _ _ q s1 hq hl (yAF _));exact h.2
theorem zHN {L:List Tok} (hL:Lst L):∀(f:Nat) (p:Ph) (s:Ps),Pre L p s→Post L p s (zEl L f p s).2:=by
 intro f
 induction f with
 | zero=>
  intro p s hp;have:=zDz (L:=L) (e:=99) (s:=s) (by decide) hp.1;unfold Post;split
  · exact this
  · exact this.adv
 | succ f ih=>exact fun p s hp=>(zFf (R:=zEl L f) (R':=zEl L f) hL hp (fun q s1 hq _=>⟨ih q s1 hq,rfl⟩)).1
theorem zCY {P:Tr→Prop}:∀t∈([]:List Tr),P t:=fun t h=>by cases h
theorem zGN {P:Tr→Prop} {a:Tr} (h:P a):∀t∈[a],P t:=fun t ht=>by rw[List.mem_singleton.1 ht];exact h
theorem zMW {P:Tr→Prop} {a b:Tr} (h:P a) (h2:P b):∀t∈[a,b],P t:=fun t ht=>by
 rcases List.mem_cons.1 ht with rfl | ht
 · exact h
 · exact zGN h2 t ht
theorem zQu {P:Tr→Prop} {a b c:Tr} (h:P a) (h2:P b) (h3:P c):∀t∈[a,b,c],P t:=fun t ht=>by
 rcases List.mem_cons.1 ht with rfl | ht
 · exact h
 · exact zMW h2 h3 t ht
theorem zR1 {P:Tr→Prop} {a b c d:Tr} (h:P a) (h2:P b) (h3:P c) (h4:P d):∀t∈[a,b,c,d],P t:=fun t ht=>by
 rcases List.mem_cons.1 ht with rfl | ht
 · exact h
 · exact zQu h2 h3 h4 t ht
theorem zBI {P:Tr→Prop} {l:List Tr} {a:Tr} (h:∀t∈l,P t) (h2:P a):∀t∈l++[a],P t:=fun t ht=>by
 rcases List.mem_append.1 ht with h3 | h3
 · exact h t h3
 · exact zGN h2 t h3
open Go.RowKit
def zPy (x:Nd) (vs vm vo:Value):List Value:=[.int .i64 x.kind,.string ⟨x.name.toArray⟩,vs,.int .i64 x.nk,.int .i64 x.nn,.bool x.neg,vm,.slice none 0 0,vo]
mutual
def TrC (w:World) (F:Nat→Prop):Tr→List Value→Prop
 | .mk x l,cs=>∃vs vm vo ks,cs=zPy x vs vm vo∧x.kids=[]∧w.ownsRow 0 24 1 vs x.str.length (zAD x.str)∧w.ownsRow 0 87 1 vm x.mag.length (zBm x.mag)∧w.ownsRow 0 72 9 vo l.length ks∧(∀b,vo.ownBlock=some b→F b)∧TrsC w F l ks
def TrsC (w:World) (F:Nat→Prop):List Tr→List Value→Prop
 | [],cs=>cs=[]
 | t::r,cs=>∃c0 rest,cs=c0++rest∧TrC w F t c0∧TrsC w F r rest
end
theorem zDC {w:World} {F:Nat→Prop} {x:Nd} {l:List Tr} {cs:List Value}:TrC w F (.mk x l) cs↔∃vs vm vo ks,cs=zPy x vs vm vo∧x.kids=[]∧w.ownsRow 0 24 1 vs x.str.length (zAD x.str)∧w.ownsRow 0 87 1 vm x.mag.length (zBm x.mag)∧w.ownsRow 0 72 9 vo l.length ks∧(∀b,vo.ownBlock=some b→F b)∧TrsC w F l ks:=by rw[TrC]
theorem zBn {w:World} {F:Nat→Prop} {cs:List Value}:TrsC w F [] cs↔cs=[]:=by rw[TrsC]
theorem zBB {w:World} {F:Nat→Prop} {t:Tr} {r:List Tr} {cs:List Value}:TrsC w F (t::r) cs↔∃c0 rest,cs=c0++rest∧TrC w F t c0∧TrsC w F r rest:=by rw[TrsC]
def Bx (w:World) (R:Nat) (T:TypeId) (cs:List Value):Prop:=w.heap[R]? =some (.cells cs.toArray T (0,0))
def Fz (w:World) (P:Nat→Prop) (r:Option Nat):Prop:=∀b,r=some b→¬P b∧∃cur T,w.heap[b]? =some (.cells cur T (0,0))∧T≠24∧T≠87
section
variable {w w':World} {P Q F G:Nat→Prop} {r:Option Nat} {R:Nat} {T:TypeId} {cs:List Value}
theorem Bx.lt (h:Bx w R T cs):R < w.heap.size:=by
 rcases Nat.lt_or_ge R w.heap.size with h1 | h1
 · exact h1
 · unfold Bx at h;rw[Array.getElem?_eq_none h1]at h;cases h
theorem Bx.cell (h:Bx w R T cs) (j:Nat):w.cell? ⟨R,j,none⟩=cs[j]? :=by
 unfold World.cell?;have h':w.heap[(⟨R,j,none⟩:Addr).block]? =_:=h;rw[h'];simp
theorem Bx.frozen (h:Bx w R T cs) (j:Nat):w.frozen? ⟨R,j,none⟩=false:=by
 unfold World.frozen?;have h':w.heap[(⟨R,j,none⟩:Addr).block]? =_:=h;rw[h'];simp
theorem Bx.new (w:World) (cs:List Value) (T:TypeId):Bx (w.alloc (.cells cs.toArray T)) w.heap.size T cs:=by
 unfold Bx World.alloc;simp
theorem Bx.grown (h:Bx w R T cs) (hg:w.grownBy w' r) (hr:r≠some R):Bx w' R T cs:=(hg.block R h.lt (fun e=>hr e.symm)).trans h
theorem Bx.alloc (h:Bx w R T cs) (o:Obj):Bx (w.alloc o) R T cs:=h.grown (zG w o none) (by simp)
theorem Bx.set (h:Bx w R T cs) (j:Nat) (v:Value):Bx (w.setCell ⟨R,j,none⟩ v) R T (cs.set j v):=by
 unfold Bx at h⊢;unfold World.setCell;show(w.heap.modify R _)[R]? =_;rw[Array.getElem?_modify,if_pos rfl,h];simp
theorem Fz.none_ (w:World) (P:Nat→Prop):Fz w P none:=fun b h=>by cases h
theorem Fz.box (h:Bx w R T cs) (h1:T≠24) (h2:T≠87) (hP:¬P R):Fz w P (some R):=fun b e=>by
 injection e with e;subst e;exact⟨hP,_,_,h,h1,h2⟩
theorem Fz.own {base n:Nat} {v:Value} {xs:List Value} (h:w.ownsRow base 72 9 v n xs) (hP:∀b,v.ownBlock=some b→¬P b):Fz w P v.ownBlock:=fun b e=>by
 refine⟨hP b e,?_⟩;rcases h.2 with⟨rfl,_⟩ | ⟨g,cap,cur,rfl,_,hg,_⟩
 · cases e
 · simp only[Value.ownBlock,Option.some.injEq]at e;subst e;exact⟨cur,_,hg,by decide,by decide⟩
theorem zA0 {base n s:Nat} {e:TypeId} {v:Value} {xs:List Value} (h:w.ownsRow base e s v n xs) {b:Nat} (hb:v.ownBlock=some b):∃cur,w.heap[b]? =some (.cells cur e (0,0)):=by
 rcases h.2 with⟨rfl,_⟩ | ⟨g,cap,cur,rfl,_,hg,_⟩
 · cases hb
 · simp only[Value.ownBlock,Option.some.injEq]at hb;subst hb;exact⟨cur,hg⟩
theorem zBO {base n:Nat} {e:TypeId} {v:Value} {xs:List Value} (h:w.ownsRow base e 1 v n xs) (he:e=24∨e=87) (hg:w.grownBy w' r) (hz:Fz w P r):w'.ownsRow base e 1 v n xs:=by
 refine h.kept hg ?_;cases hb:v.ownBlock with
 | none=>exact .inl rfl
 | some b=>
  right;intro e2;obtain⟨_,cur,T,h1,h2,h3⟩:=hz b e2.symm;obtain⟨cur2,h4⟩:=zA0 h hb;rw[h1]at h4;injection h4 with h4;injection h4 with _ h5 _;subst h5;rcases he with he | he
  · exact h2 he
  · exact h3 he
theorem zIH {base n s:Nat} {e:TypeId} {v:Value} {xs:List Value} (h:w.ownsRow base e s v n xs) (hF:∀b,v.ownBlock=some b→P b) (hg:w.grownBy w' r) (hz:Fz w P r):w'.ownsRow base e s v n xs:=by
 refine h.kept hg ?_;cases hb:v.ownBlock with
 | none=>exact .inl rfl
 | some b=>exact .inr (fun e2=>(hz b e2.symm).1 (hF b hb))
mutual
theorem TrC.keep {w w':World} {P:Nat→Prop} {r:Option Nat} (hg:w.grownBy w' r) (hz:Fz w P r) (t:Tr) (cs:List Value) (h:TrC w P t cs):TrC w' P t cs:=by
 cases t with
 | mk x l=>
  rw[zDC]at h⊢;obtain⟨vs,vm,vo,ks,h1,h2,h3,h4,h5,h6,h7⟩:=h;exact⟨vs,vm,vo,ks,h1,h2,zBO h3 (.inl rfl) hg hz,zBO h4 (.inr rfl) hg hz,zIH h5 h6 hg hz,h6,TrsC.keep hg hz l ks h7⟩
theorem TrsC.keep {w w':World} {P:Nat→Prop} {r:Option Nat} (hg:w.grownBy w' r) (hz:Fz w P r) (l:List Tr) (cs:List Value) (h:TrsC w P l cs):TrsC w' P l cs:=by
 cases l with
 | nil=>rw[zBn]at h⊢;exact h
 | cons t q=>
  rw[zBB]at h⊢;obtain⟨c0,rest,h1,h2,h3⟩:=h;exact⟨c0,rest,h1,TrC.keep hg hz t c0 h2,TrsC.keep hg hz q rest h3⟩
end
mutual
theorem TrC.sub {w:World} {P Q:Nat→Prop} (hs:∀b,P b→b < w.heap.size→Q b) (t:Tr) (cs:List Value) (h:TrC w P t cs):TrC w Q t cs:=by
 cases t with
 | mk x l=>
  rw[zDC]at h⊢;obtain⟨vs,vm,vo,ks,h1,h2,h3,h4,h5,h6,h7⟩:=h;exact⟨vs,vm,vo,ks,h1,h2,h3,h4,h5,fun b hb=>hs b (h6 b hb) (h5.lt b hb).2,TrsC.sub hs l ks h7⟩
theorem TrsC.sub {w:World} {P Q:Nat→Prop} (hs:∀b,P b→b < w.heap.size→Q b) (l:List Tr) (cs:List Value) (h:TrsC w P l cs):TrsC w Q l cs:=by
 cases l with
 | nil=>rw[zBn]at h⊢;exact h
 | cons t q=>
  rw[zBB]at h⊢;obtain⟨c0,rest,h1,h2,h3⟩:=h;exact⟨c0,rest,h1,TrC.sub hs t c0 h2,TrsC.sub hs q rest h3⟩
end
theorem TrC.len {t:Tr} (h:TrC w F t cs):cs.length=9:=by
 cases t with
 | mk x l=>
  rw[zDC]at h;obtain⟨vs,vm,vo,ks,rfl,_⟩:=h;rfl
theorem TrC.one {t:Tr} (h:TrC w F t cs):(cs.all fun u=>u.oneCell')=true:=by
 cases t with
 | mk x l=>
  rw[zDC]at h;obtain⟨vs,vm,vo,ks,rfl,_,h3,h4,h5,_⟩:=h;obtain⟨_,_,rfl,_⟩:=zR h3;obtain⟨_,_,rfl,_⟩:=zR h4;obtain⟨_,_,rfl,_⟩:=zR h5;rfl
end
section
variable {w w':World} {P Q F G:Nat→Prop} {r:Option Nat}
theorem TrsC.len:∀{l:List Tr} {cs:List Value},TrsC w F l cs→cs.length=l.length*9:=by
 intro l
 induction l with
 | nil=>intro cs h;rw[zBn]at h;rw[h];rfl
 | cons t r ih=>
  intro cs h;rw[zBB]at h;obtain⟨c0,rest,rfl,h1,h2⟩:=h;rw[List.length_append,h1.len,ih h2,List.length_cons];omega
theorem TrsC.one:∀{l:List Tr} {cs:List Value},TrsC w F l cs→(cs.all fun u=>u.oneCell')=true:=by
 intro l
 induction l with
 | nil=>intro cs h;rw[zBn]at h;rw[h];rfl
 | cons t r ih=>
  intro cs h;rw[zBB]at h;obtain⟨c0,rest,rfl,h1,h2⟩:=h;rw[List.all_append,h1.one,ih h2];rfl
theorem TrsC.app:∀{l r:List Tr} {cs ds:List Value},TrsC w F l cs→TrsC w F r ds→TrsC w F (l++r) (cs++ds):=by
 intro l
 induction l with
 | nil=>intro r cs ds h h2;rw[zBn]at h;subst h;exact h2
 | cons t l ih=>
  intro r cs ds h h2;rw[zBB]at h;obtain⟨c0,rest,rfl,h3,h4⟩:=h;rw[List.cons_append,zBB];exact⟨c0,rest++ds,by rw[List.append_assoc],h3,ih h4 h2⟩
theorem TrsC.cons {t:Tr} {l:List Tr} {c cs:List Value} (h:TrC w F t c) (h2:TrsC w F l cs):TrsC w F (t::l) (c++cs):=by
 rw[zBB];exact⟨c,cs,rfl,h,h2⟩
theorem TrsC.nil (w:World) (F:Nat→Prop):TrsC w F [] []:=by rw[zBn]
theorem TrsC.single {t:Tr} {c:List Value} (h:TrC w F t c):TrsC w F [t] c:=by
 have:=TrsC.cons h (.nil w F);rwa [List.append_nil]at this
theorem TrsC.snoc {l:List Tr} {t:Tr} {cs c:List Value} (h:TrsC w F l cs) (h2:TrC w F t c):TrsC w F (l++[t]) (cs++c):=h.app (.single h2)
structure RowK (w:World) (P:Nat→Prop) (v:Value) (l:List Tr) (ks:List Value) (F:Nat→Prop):Prop where
 own:w.ownsRow 0 72 9 v l.length ks
 blk:∀b,v.ownBlock=some b→P b
 subs:TrsC w F l ks
 off:∀b,v.ownBlock=some b→¬F b
 low:∀b,F b→P b∧b < w.heap.size
def RowP (w:World) (P:Nat→Prop) (v:Value) (l:List Tr):Prop:=∃ks F,RowK w P v l ks F
theorem RowP.nil (w:World) (P:Nat→Prop):RowP w P (.slice none 0 0) []:=⟨[],fun _=>False,yAJ _ _ _ _,(fun _ h=>by cases h),.nil _ _,(fun _ h=>by cases h),fun _ h=>h.elim⟩
theorem Fz.less (h:Fz w P r) (hs:∀b,F b→P b):Fz w F r:=fun b e=>⟨fun hb=>(h b e).1 (hs b hb),(h b e).2⟩
theorem RowK.keep {v:Value} {l:List Tr} {ks:List Value} (h:RowK w P v l ks F) (hg:w.grownBy w' r) (hz:Fz w P r):RowK w' P v l ks F:=
 ⟨zIH h.own h.blk hg hz,h.blk,.keep hg (hz.less fun b hb=>(h.low b hb).1) l ks h.subs,h.off,fun b hb=>⟨(h.low b hb).1,yAA (h.low b hb).2 hg.size⟩⟩
theorem RowP.keep {v:Value} {l:List Tr} (h:RowP w P v l) (hg:w.grownBy w' r) (hz:Fz w P r):RowP w' P v l:=by
 obtain⟨ks,F,h⟩:=h;exact⟨ks,F,h.keep hg hz⟩
theorem RowP.new {v:Value} {l:List Tr} (h:RowP w P v l) (hg:w.grownBy w' none):RowP w' P v l:=h.keep hg (.none_ w P)
theorem RowP.sub {v:Value} {l:List Tr} (h:RowP w P v l) (hs:∀b,P b→b < w.heap.size→Q b):RowP w Q v l:=by
 obtain⟨ks,F,h⟩:=h;exact⟨ks,F,h.own,fun b hb=>hs b (h.blk b hb) (h.own.lt b hb).2,h.subs,h.off,fun b hb=>⟨hs b (h.low b hb).1 (h.low b hb).2,(h.low b hb).2⟩⟩
theorem RowP.shape {v:Value} {l:List Tr} (h:RowP w P v l):∃A c,v=.slice A l.length c∧l.length≤c∧c≤maxLen:=by
 obtain⟨ks,F,h⟩:=h;exact zR h.own
theorem RowP.tree {x:Nd} {l:List Tr} {v vs vm:Value} (h:RowP w P v l) (hk:x.kids=[]) (h1:w.ownsRow 0 24 1 vs x.str.length (zAD x.str)) (h2:w.ownsRow 0 87 1 vm x.mag.length (zBm x.mag)):TrC w P (.mk x l) (zPy x vs vm v):=by
 obtain⟨ks,F,h⟩:=h;rw[zDC];exact⟨vs,vm,v,ks,rfl,hk,h1,h2,h.own,h.blk,.sub (fun b hb _=>(h.low b hb).1) l ks h.subs⟩
def zRe (k:Int) (n:List UInt8) (v:Value):List Value:=[.int .i64 k,.string ⟨n.toArray⟩,.slice none 0 0,.int .i64 0,.int .i64 0,.bool false,.slice none 0 0,.slice none 0 0,v]
theorem RowP.treeN {k:Int} {n:List UInt8} {l:List Tr} {v:Value} (h:RowP w P v l):TrC w P (trN k n l) (zRe k n v):=h.tree (x:={zBg with kind:=k,name:=n}) rfl (yAJ _ _ _ _) (yAJ _ _ _ _)
theorem RowP.treeK {k:Int} {l:List Tr} {v:Value} (h:RowP w P v l):TrC w P (trK k l) (zRe k [] v):=h.tree (x:={zBg with kind:=k}) rfl (yAJ _ _ _ _) (yAJ _ _ _ _)
theorem RowK.snoc {w1:World} {v v':Value} {l:List Tr} {ks:List Value} {t:Tr} {c:List Value} (h:RowK w1 P v l ks F) (ht:TrC w1 Q t c) (hQ:∀b,Q b→b < w1.heap.size→P b) (hQv:∀b,v.ownBlock=some b→¬Q b) (hP:P w1.heap.size)
 (ho:w'.ownsRow 0 72 9 v' (l.length+1) (ks++c)) (hg:w1.grownBy w' v.ownBlock) (hw:v'.ownBlock=v.ownBlock∨v'.ownBlock=some w1.heap.size):RowP w' P v' (l++[t]):=by
 have hsz:=hg.size;refine⟨ks++c,fun b=>F b∨(Q b∧b < w1.heap.size),by rw[List.length_append];exact ho,?_,?_,?_,?_⟩
 · intro b hb;rcases hw with e | e
   · rw[e]at hb;exact h.blk b hb
   · rw[e]at hb;injection hb with hb;subst hb;exact hP
 · refine .snoc (.sub (fun b hb _=>.inl hb) l ks (.keep hg (.own h.own h.off) l ks h.subs)) ?_;have h1:TrC w1 (fun b=>Q b∧b < w1.heap.size) t c:=.sub (fun b hb hl=>⟨hb,hl⟩) t c ht;exact .sub (fun b hb _=>.inr hb) t c (.keep hg (.own h.own fun b hb h2=>hQv b hb h2.1) t c h1)
 · intro b hb h2;rcases hw with e | e
   · rw[e]at hb;rcases h2 with h2 | h2
     · exact h.off b hb h2
     · exact hQv b hb h2.1
   · rw[e]at hb;injection hb with hb;subst hb;rcases h2 with h2 | h2
     · have:=(h.low _ h2).2;omega
     · omega
 · intro b hb;rcases hb with hb | hb
   · exact⟨(h.low b hb).1,yAA (h.low b hb).2 hsz⟩
   · exact⟨hQ b hb.1 hb.2,by omega⟩
theorem RowP.lit {l:List Tr} {cs:List Value} {n:Nat} (hn:n=l.length) (h:TrsC w P l cs) (hP:P w.heap.size) (hl:l.length≤maxLen):RowP (w.alloc (.cells cs.toArray 72)) P (.slice (some ⟨w.heap.size,0,none⟩) n n) l:=by
 subst hn;have hb:=Bx.new w cs 72;have h2:TrsC w (fun b=>P b∧b < w.heap.size) l cs:=.sub (fun b hb hl=>⟨hb,hl⟩) l cs h;have h3:=TrsC.keep (zG w (.cells cs.toArray 72) none) (.none_ w _) l cs h2;refine⟨cs,_,⟨h.len,.inr ⟨w.heap.size,l.length,cs.toArray,rfl,yAE _,hb,yAC _,hl,?_,?_⟩⟩,?_,h3,?_,?_⟩
 · simp[h.len]
 · rw[←h.len];simp
 · intro b e;simp only[Value.ownBlock,Option.some.injEq]at e;subst e;exact hP
 · intro b e h4;simp only[Value.ownBlock,Option.some.injEq]at e;subst e;omega
 · intro b h4;exact⟨h4.1,by simp;omega⟩
end
theorem zBx (x:UInt16) (w:World):Calls prog 156 #[.int .u16 (x.toNat:Int)] w fun e w'=>e=.returned (.bool (zO x))∧w=w':=by
 have h1:=x.toNat_lt;go_enter func156,ntmps156;go_wp2
 all_goals go_ret
 all_goals refine⟨zD ?_,rfl⟩
 all_goals (rw[Bool.eq_iff_iff];simp only[zO,Bool.and_eq_true,decide_eq_true_eq,Bool.false_eq_true,false_iff];omega)
theorem zDD (x:UInt16) (w:World):Calls prog 151 #[.int .u16 (x.toNat:Int)] w fun e w'=>e=.returned (.bool (zAQ x))∧w=w':=by
 have h1:=x.toNat_lt;go_enter func151,ntmps151;go_wp2
 all_goals go_ret
 all_goals refine⟨zD ?_,rfl⟩
 all_goals (rw[Bool.eq_iff_iff];simp[zAQ];omega)
theorem zPz (w:World):Calls prog 158 #[.agg #[.int .i64 2,.int .i64 0]] w fun e w'=>e=.returned (.agg #[.int .i64 2,.int .i64 0])∧Below w.heap.size w w':=by
 go_enter func158,ntmps158;go_wp2
 go_returns
 exact⟨rfl,by go_grown⟩
theorem zP0 (w:World):Calls prog 158 #[.agg #[.int .i64 3,.int .i64 0]] w fun e w'=>e=.returned (.agg #[.int .i64 4,.int .i64 0])∧Below w.heap.size w w':=by
 go_enter func158,ntmps158;go_wp2
 go_returns
 exact⟨rfl,by go_grown⟩
theorem zJG (w:World):Calls prog 158 #[.agg #[.int .i64 0,.int .i64 0]] w fun e w'=>e=.returned (.agg #[.int .i64 1,.int .i64 0])∧Below w.heap.size w w':=by
 go_enter func158,ntmps158;go_wp2
 go_returns
 exact⟨rfl,by go_grown⟩
theorem zLE (n:Int) (h0:0 < n) (h1:n≤9007199254740991) (w:World):Calls prog 158 #[.agg #[.int .i64 0,.int .i64 n]] w fun e w'=>e=.returned (.agg #[.int .i64 0,.int .i64 (-n)])∧Below w.heap.size w w':=by
 have e0:(n==0)=false:=yA.2 (by omega);have e1:(-9007199254740991:Int)≤n:=by omega
 go_enter func158,ntmps158;go_wp2
 go_returns
 exact⟨rfl,by go_grown⟩
end Go.Proofs.YtlohaclgbfhijaaGreatDoor
