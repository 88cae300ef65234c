/- Joined for the claim ParseBack: the parser, the lexer and the trees as they are walked, made short by a program of mine. -/
import Derived.Test.YtlnbbaehihgigaaGreatDoorB01
import Derived.Deep.RegionWith
set_option maxHeartbeats 16000000
set_option maxRecDepth 1000000
namespace Go.Proofs.YtlnbbaehihgigaaGreatDoor
open Go.Proofs.Tryz
variable {ts:List Nd} {n v B e:Nat} {l:List Tr} {x:Nd} {u:List UInt16} {t:Tr} {p q:Ph} {A:Option Addr} {k:Int} {s' s1:Ps}
structure Lst (L:List Tok):Prop where
 pos:0 < L.length
 last:(zI L (L.length - 1)).kind=0
 mid:∀i,i < L.length - 1→(zI L i).kind≠0
structure Adv (L:List Tok) (s s':Ps):Prop where
 le:s.k≤s'.k
 hi:s'.k≤L.length - 1
 bad:s.bad≠0→s'.bad≠0
 far:s'.bad=0→s'.far=s.far
structure Eat (L:List Tok) (s s':Ps):Prop where
 adv:Adv L s s'
 more:s.k < L.length - 1→s.k < s'.k
 stop:s.k=L.length - 1→s'.bad≠0
section
variable {L:List Tok} {a b c s:Ps} {w:List UInt8}
theorem Adv.refl (h:s.k≤L.length - 1):Adv L s s:=⟨yAC _,h,id,fun _=>rfl⟩
theorem Adv.trans (h:Adv L a b) (k:Adv L b c):Adv L a c:=⟨yAD h.le k.le,k.hi,fun x=>k.bad (h.bad x),fun x=>(k.far x).trans (h.far (by
 rcases Nat.eq_zero_or_pos b.bad with d | d
 · exact d
 · exact absurd x (k.bad jo)))⟩
theorem Eat.then (h:Eat L a b) (k:Adv L b c):Eat L a c:=⟨h.adv.trans k,fun x=>yAA (h.more x) k.le,fun x=>k.bad (h.stop x)⟩
theorem Adv.eat (h:Adv L a b) (k:Eat L b c):Eat L a c:=by
 have h1:=h.le;have e:=h.hi;have f:=k.adv.le;refine⟨h.trans k.adv,fun x=>?_,fun x=>k.stop jo⟩;rcases Nat.lt_or_ge b.k (L.length - 1)with d | d
 · have:=k.more d;omega
 · omega
theorem Lst.lt (c:Lst L) (h:s.k≤L.length - 1) (hk:(zI L s.k).kind≠0):s.k < L.length - 1:=by
 rcases Nat.lt_or_ge s.k (L.length - 1)with b | b
 · exact b
 · exact absurd (by rw[show s.k=L.length - 1 by omega];exact c.last) hk
theorem zFu {t:Tok} (h:isT t w=true):t.kind≠0:=by
 unfold isT at h;intro b;rw[b]at h;simp at h
theorem Lst.on (b:Lst L) (h:s.k≤L.length - 1) (c:onP L w s=true):s.k < L.length - 1:=b.lt h (zFu c)
theorem zAO (h:s.k < L.length - 1):Adv L s (zB s):=⟨Nat.le_succ _,h,id,fun _=>rfl⟩
theorem zAw (h:s.k < L.length - 1):Eat L s (zB s):=⟨zAO h,fun _=>yAF _,fun x=>by omega⟩
theorem zFv (b:e≠0):(zCx L e s).bad≠0:=by
 unfold zCx;simp only;split
 · exact b
 · assumption
theorem zFw (b:e≠0) (h:s.k≤L.length - 1):Eat L s (zCx L e s):=⟨⟨h,yAC _,fun _=>zFv b,fun x=>absurd x (zFv b)⟩,fun x=>x,fun _=>zFv b⟩
theorem zAD (h:s.k≤L.length - 1):Eat L s (ze L s):=zFw (by split<;>decide) h
theorem zHQ:(ze L s).bad≠0:=zFv (by split<;>decide)
theorem zN4:(ze L s).k=L.length - 1:=rfl
theorem zc (b:Lst L) (h:s.k≤L.length - 1):Eat L s (zP L w s):=by
 unfold zP;split
 · rename_i c;exact zAw (b.on h c)
 · exact zAD h
theorem zA8 (b:Lst L) (h:s.k≤L.length - 1):Eat L s (zo L s).2:=by
 unfold zo;split
 · rename_i c;exact zAw (b.lt h (by rw[c];decide))
 · exact zAD h
theorem zCP (b:Lst L) (h:s.k≤L.length - 1):Adv L s (zEF L s):=by
 unfold zEF;split
 · rename_i c;exact zAO (b.on h c)
 · split
   · exact Adv.refl h
   · exact(zAD h).adv
end
def Pre (L:List Tok) (p:Ph) (s:Ps):Prop:=s.k≤L.length - 1∧match p with
 | .word _=>s.k < L.length - 1
 | .loop=>s.k < L.length - 1
 | .jump _=>s.k < L.length - 1
 | .tries=>s.k < L.length - 1
 | .args=>s.k < L.length - 1
 | .level n=>n≤8
 | .levelL n _=>n < 8
 | _=>True
def zYs:Ph→Bool
 | .program _=>false
 | .blockL _=>false
 | .nullL _=>false
 | .orL _=>false
 | .both _=>false
 | .levelL _ _=>false
 | .callsL _=>false
 | .headL _=>false
 | _=>true
def Post (L:List Tok) (p:Ph) (s s':Ps):Prop:=if zYs p=true then Eat L s s' else Adv L s s'
theorem Post.adv {L:List Tok} {s:Ps} (h:Post L p s s'):Adv L s s':=by
 unfold Post at h;split at h
 · exact h.adv
 · exact h
theorem zUs (p:Ph) (s:Ps):zt p s≤60:=by
 cases p<;>simp only[zt]<;>(try split)<;>omega
theorem zIm {L:List Tok} {s:Ps} (h:s.k < s'.k) (b:s'.k≤L.length - 1) (c:0 < L.length):zj L q s' < zj L p s:=by
 unfold zj;have:=zUs q s';omega
theorem zIn {L:List Tok} {s:Ps} (h:s.k≤s'.k) (b:zt q s' < zt p s):zj L q s' < zj L p s:=by
 unfold zj;omega
section
variable {L:List Tok} {R R':Ph→Ps→Tr×Ps} {s:Ps}
def Hyp (L:List Tok) (R R':Ph→Ps→Tr×Ps) (p:Ph) (s:Ps):Prop:=∀q s1,Pre L q s1→zj L q s1 < zj L p s→Post L q s1 (R q s1).2∧R q s1=R' q s1
def Con (L:List Tok) (R R':Ph→Ps→Tr×Ps) (p:Ph) (s:Ps):Prop:=Post L p s (zD L R p s).2∧zD L R p s=zD L R' p s
theorem Hyp.rank (H:Hyp L R R' p s) (h:Pre L q s1) (h1:s.k≤s1.k) (b:zt q s1 < zt p s):Post L q s1 (R q s1).2∧R' q s1=R q s1:=by
 have:=H q s1 h (zIn h1 b);exact⟨this.1,this.2.symm⟩
theorem Hyp.more (b:Lst L) (H:Hyp L R R' p s) (h:Pre L q s1) (h1:s.k < s1.k):Post L q s1 (R q s1).2∧R' q s1=R q s1:=by
 have:=H q s1 h (zIm h1 h.1 b.pos);exact⟨this.1,this.2.symm⟩
theorem zMO {b:List Tr} (e:Lst L) (d:Pre L (.program b) s) (H:Hyp L R R' (.program b) s):Con L R R' (.program b) s:=by
 unfold Con zD;dsimp only
 by_cases c:(zI L s.k).kind=0
 · simp only[if_pos c];exact⟨Adv.refl d.1,trivial⟩
 · simp only[if_neg c];have f:=e.lt d.1 c;obtain⟨p1,e1⟩:=H.rank (q:=.item) (s1:=s) ⟨d.1,trivial⟩ (yAC _) (by simp only[zt];omega);have x1:Eat L s _:=p1;obtain⟨p2,e2⟩:=H.more e (q:=.program (b++[(R .item s).1])) (s1:=(R .item s).2) ⟨x1.adv.hi,trivial⟩ (x1.more f);rw[e1,e2];exact⟨x1.adv.trans p2,rfl⟩
theorem zRT (b:Lst L) (d:Pre L .block s) (H:Hyp L R R' .block s):Con L R R' .block s:=by
 unfold Con zD;dsimp only;have e:=zc (w:=[123]) b d.1;have h1:Post L (.blockL []) (zP L [123] s) (R (.blockL []) (zP L [123] s)).2∧R' (.blockL []) (zP L [123] s)=R (.blockL []) (zP L [123] s):=by
  by_cases c:onP L [123] s=true
  · exact H.more b ⟨e.adv.hi,trivial⟩ (e.more (b.on d.1 c))
  · refine H.rank ⟨e.adv.hi,trivial⟩ e.adv.le ?_;have hb:(zP L [123] s).bad≠0:=by unfold zP;rw[if_neg c];exact zHQ
    simp only[zt];rw[if_pos hb];omega
 rw[h1.2];exact⟨e.then h1.1.adv,rfl⟩
theorem zN5 {b:List Tr} (e:Lst L) (d:Pre L (.blockL b) s) (H:Hyp L R R' (.blockL b) s):Con L R R' (.blockL b) s:=by
 unfold Con zD;dsimp only
 by_cases c:s.bad≠0
 · simp only[if_pos c];exact⟨Adv.refl d.1,trivial⟩
 simp only[if_neg c]
 by_cases c2:onP L [125] s=true
 · simp only[if_pos c2];exact⟨zAO (e.on d.1 c2),trivial⟩
 simp only[if_neg c2];have f:zt (.blockL b) s=60:=by simp only[zt];rw[if_neg c]
 obtain⟨p1,e1⟩:=H.rank (q:=.item) (s1:=s) ⟨d.1,trivial⟩ (yAC _) (by rw[f];simp only[zt];omega);have x1:Eat L s _:=p1;have g:Post L (.blockL (b++[(R .item s).1])) (R .item s).2 (R (.blockL (b++[(R .item s).1])) (R .item s).2).2∧R' (.blockL (b++[(R .item s).1])) (R .item s).2=R (.blockL (b++[(R .item s).1])) (R .item s).2:=by
  rcases Nat.lt_or_ge s.k (L.length - 1)with j | l
  · exact H.more e ⟨x1.adv.hi,trivial⟩ (x1.more j)
  · refine H.rank ⟨x1.adv.hi,trivial⟩ x1.adv.le ?_;rw[f];simp only[zt];rw[if_pos (x1.stop (by have:=d.1;omega))];omega
 rw[e1,g.2];exact⟨x1.adv.trans g.1.adv,rfl⟩
theorem zUt (e:Lst L) (f:Pre L .item s) (H:Hyp L R R' .item s):Con L R R' .item s:=by
 unfold Con zD;dsimp only
 by_cases c:(onP L [108,101,116] s || onP L [99,111,110,115,116] s)=true
 · simp only[if_pos c];obtain⟨p1,e1⟩:=H.rank (q:=.declares) (s1:=s) ⟨f.1,trivial⟩ (yAC _) (by simp only[zt];omega);rw[e1];exact⟨Eat.then (b:=(R .declares s).2) p1 (zCP e p1.adv.hi),rfl⟩
 simp only[if_neg c]
 by_cases c2:onP L [102,117,110,99,116,105,111,110] s=true
 · simp only[if_pos c2];have d:=e.on f.1 c2;have x1:=(zAw d).then (zA8 (s:=zB s) e d).adv;obtain⟨p2,e2⟩:=H.more e (q:=.func 19 (zo L (zB s)).1) (s1:=(zo L (zB s)).2) ⟨x1.adv.hi,trivial⟩ (x1.more d);rw[e2];exact⟨x1.then p2.adv,rfl⟩
 simp only[if_neg c2];obtain⟨p1,e1⟩:=H.rank (q:=.statement) (s1:=s) ⟨f.1,trivial⟩ (yAC _) (by simp only[zt];omega);rw[e1];exact⟨p1,rfl⟩
theorem zJ8 (d:Lst L) (e:Pre L .declares s) (H:Hyp L R R' .declares s):Con L R R' .declares s:=by
 unfold Con zD;dsimp only
 by_cases c:onP L [99,111,110,115,116] s=true
 · simp only[if_pos c];have b:=d.on e.1 c;obtain⟨p1,e1⟩:=H.more d (q:=.declL 6 []) (s1:=zB s) ⟨b,trivial⟩ (yAF _);rw[e1];exact⟨(zAw b).then p1.adv,rfl⟩
 simp only[if_neg c];have x:=zc (w:=[108,101,116]) d e.1;obtain⟨p1,e1⟩:=H.rank (q:=.declL 5 []) (s1:=zP L [108,101,116] s) ⟨x.adv.hi,trivial⟩ x.adv.le (by simp only[zt];omega);rw[e1];exact⟨x.then p1.adv,rfl⟩
theorem zIo {b:List Tr} (f:Lst L) (H:Hyp L R R' (.declL k b) s) {d:Tr×Ps} (x:Eat L s d.2):
 Post L (.declL k b) s (if d.2.bad≠0 then(trK k (b++[d.1]),d.2)else if onP L [44] d.2=true then R (.declL k (b++[d.1])) (zB d.2)else(trK k (b++[d.1]),d.2)).2∧
 (if d.2.bad≠0 then(trK k (b++[d.1]),d.2)else if onP L [44] d.2=true then R (.declL k (b++[d.1])) (zB d.2)else(trK k (b++[d.1]),d.2))=(if d.2.bad≠0 then(trK k (b++[d.1]),d.2)else if onP L [44] d.2=true then R' (.declL k (b++[d.1])) (zB d.2)else(trK k (b++[d.1]),d.2)):=by
 by_cases c:d.2.bad≠0
 · simp only[if_pos c];exact⟨x,trivial⟩
 simp only[if_neg c]
 by_cases c2:onP L [44] d.2=true
 · simp only[if_pos c2];have e:=f.on x.adv.hi c2;obtain⟨p1,e1⟩:=H.more f (q:=.declL k (b++[d.1])) (s1:=zB d.2) ⟨e,trivial⟩ (Nat.lt_succ_of_le x.adv.le);rw[e1];exact⟨x.then ((zAO e).trans p1.adv),rfl⟩
 · simp only[if_neg c2];exact⟨x,trivial⟩
theorem zRU {b:List Tr} (e:Lst L) (g:Pre L (.declL k b) s) (H:Hyp L R R' (.declL k b) s):Con L R R' (.declL k b) s:=by
 unfold Con zD;dsimp only;have x:=zA8 e g.1
 by_cases c:onP L [61] (zo L s).2=true
 · have f:=e.on x.adv.hi c;obtain⟨p1,e1⟩:=H.more e (q:=.assign) (s1:=zB (zo L s).2) ⟨f,trivial⟩ (Nat.lt_succ_of_le x.adv.le);simp only[if_pos c];rw[e1];exact zIo e H (d:=(trN 7 (zo L s).1 [(R .assign (zB (zo L s).2)).1],(R .assign (zB (zo L s).2)).2)) (x.then ((zAO f).trans p1.adv))
 · simp only[if_neg c];exact zIo e H (d:=(trN 7 (zo L s).1 [],(zo L s).2)) x
theorem zUu {n:List UInt8} (_b:Lst L) (b:Pre L (.func k n) s) (H:Hyp L R R' (.func k n) s):Con L R R' (.func k n) s:=by
 unfold Con zD;dsimp only;obtain⟨p1,e1⟩:=H.rank (q:=.params) (s1:=s) ⟨b.1,trivial⟩ (yAC _) (by simp only[zt];omega);obtain⟨p2,e2⟩:=H.rank (q:=.block) (s1:=(R .params s).2) ⟨p1.adv.hi,trivial⟩ p1.adv.le (by simp only[zt];omega);rw[e1,e2];have x1:Eat L s (R .params s).2:=p1;exact⟨x1.then p2.adv,rfl⟩
theorem zN6 (b:Lst L) (d:Pre L .params s) (H:Hyp L R R' .params s):Con L R R' .params s:=by
 unfold Con zD;dsimp only;have x:=zc (w:=[40]) b d.1
 by_cases c:onP L [41] (zP L [40] s)=true
 · simp only[if_pos c];exact⟨x.then (zAO (b.on x.adv.hi c)),trivial⟩
 simp only[if_neg c];obtain⟨p1,e1⟩:=H.rank (q:=.paramL []) (s1:=zP L [40] s) ⟨x.adv.hi,trivial⟩ x.adv.le (by simp only[zt];omega);rw[e1];exact⟨x.then p1.adv,rfl⟩
theorem Eat.lt (h:Eat L s s') (hs:s.k≤L.length - 1) (hb:¬s'.bad≠0):s.k < s'.k:=by
 rcases Nat.lt_or_ge s.k (L.length - 1)with b | c
 · exact h.more b
 · exact absurd (h.stop jo) hb
theorem zN7 {b:List Tr} (d:Lst L) (e:Pre L (.paramL b) s) (H:Hyp L R R' (.paramL b) s):Con L R R' (.paramL b) s:=by
 unfold Con zD;dsimp only;have x:=zA8 d e.1
 by_cases c:(zo L s).2.bad≠0
 · simp only[if_pos c];exact⟨x,trivial⟩
 simp only[if_neg c]
 by_cases c2:onP L [41] (zo L s).2=true
 · simp only[if_pos c2];exact⟨x.then (zAO (d.on x.adv.hi c2)),trivial⟩
 simp only[if_neg c2];have y:=zc (w:=[44]) d x.adv.hi;obtain⟨p1,e1⟩:=H.more d (q:=.paramL (b++[trN 20 (zo L s).1 []])) (s1:=zP L [44] (zo L s).2) ⟨y.adv.hi,trivial⟩ (yAA (x.lt e.1 c) y.adv.le);rw[e1];exact⟨x.then (y.adv.trans p1.adv),rfl⟩
theorem zK7 (c:Lst L) {w:List UInt8} (b:s.k < L.length - 1) (h:isT (zAp L s.k 1) w=true):s.k+1 < L.length - 1:=
 c.lt (s:=zB s) b (zFu h)
theorem zIp (e:Lst L) (d:Pre L .statement s) (H:Hyp L R R' .statement s):Con L R R' .statement s:=by
 unfold Con zD;dsimp only
 by_cases c:(zI L s.k).kind=1∧isT (zAp L s.k 1) [58]=true
 · simp only[if_pos c];have b:=e.lt d.1 (by rw[c.1];decide);have f:=zK7 e b c.2;have y:Adv L (zB s) (zB (zB s)):=zAO (s:=zB s) f;obtain⟨p1,e1⟩:=H.more e (q:=.statement) (s1:=zB (zB s)) ⟨y.hi,trivial⟩ (by show s.k < s.k+1+1;omega);rw[e1];exact⟨(zAw b).then (y.trans p1.adv),rfl⟩
 simp only[if_neg c]
 by_cases c2:(zI L s.k).kind=6
 · simp only[if_pos c2];have b:=e.lt d.1 (by rw[c2];decide);obtain⟨p1,e1⟩:=H.rank (q:=.word (zI L s.k).text) (s1:=s) ⟨d.1,b⟩ (yAC _) (by simp only[zt];omega);rw[e1];exact⟨p1,rfl⟩
 simp only[if_neg c2]
 by_cases c3:onP L [59] s=true
 · simp only[if_pos c3];exact⟨zAw (e.on d.1 c3),trivial⟩
 simp only[if_neg c3]
 by_cases c4:onP L [123] s=true
 · simp only[if_pos c4];obtain⟨p1,e1⟩:=H.rank (q:=.block) (s1:=s) ⟨d.1,trivial⟩ (yAC _) (by simp only[zt];omega);rw[e1];exact⟨p1,rfl⟩
 simp only[if_neg c4];obtain⟨p1,e1⟩:=H.rank (q:=.simple) (s1:=s) ⟨d.1,trivial⟩ (yAC _) (by simp only[zt];omega);rw[e1];exact⟨p1,rfl⟩
theorem zN8 (c:Lst L) (d:Pre L .simple s) (H:Hyp L R R' .simple s):Con L R R' .simple s:=by
 unfold Con zD;dsimp only;obtain⟨p1,e1⟩:=H.rank (q:=.assign) (s1:=s) ⟨d.1,trivial⟩ (yAC _) (by simp only[zt];omega);rw[e1];exact⟨Eat.then (b:=(R .assign s).2) p1 (zCP c p1.adv.hi),rfl⟩
theorem zUv {w:List UInt8} (d:Lst L) (e:Pre L (.word w) s) (H:Hyp L R R' (.word w) s):Con L R R' (.word w) s:=by
 have b:s.k < L.length - 1:=e.2;have x0:=zAw b;have f:s.k < (zB s).k:=yAF _;unfold Con zD;dsimp only
 by_cases c1:w=[105,102]
 · simp only[if_pos c1];obtain⟨p1,e1⟩:=H.more d (q:=.within) (s1:=zB s) ⟨b,trivial⟩ f;obtain⟨p2,e2⟩:=H.more d (q:=.statement) (s1:=(R .within (zB s)).2) ⟨p1.adv.hi,trivial⟩ (yAA f p1.adv.le);rw[e1,e2];have y:=p1.adv.trans p2.adv
   by_cases c:onP L [101,108,115,101] (R .statement (R .within (zB s)).2).2=true
   · simp only[if_pos c];have g:=d.on p2.adv.hi c;obtain⟨p3,e3⟩:=H.more d (q:=.statement) (s1:=zB (R .statement (R .within (zB s)).2).2) ⟨g,trivial⟩ (yAA f (Nat.le_succ_of_le y.le));rw[e3];exact⟨x0.then (y.trans ((zAO g).trans p3.adv)),rfl⟩
   · simp only[if_neg c];exact⟨x0.then y,trivial⟩
 simp only[if_neg c1]
 by_cases c2:w=[119,104,105,108,101]
 · simp only[if_pos c2];obtain⟨p1,e1⟩:=H.more d (q:=.within) (s1:=zB s) ⟨b,trivial⟩ f;obtain⟨p2,e2⟩:=H.more d (q:=.statement) (s1:=(R .within (zB s)).2) ⟨p1.adv.hi,trivial⟩ (yAA f p1.adv.le);rw[e1,e2];exact⟨x0.then (p1.adv.trans p2.adv),rfl⟩
 simp only[if_neg c2]
 by_cases c3:w=[102,111,114]
 · simp only[if_pos c3];obtain⟨p1,e1⟩:=H.rank (q:=.loop) (s1:=s) ⟨e.1,b⟩ (yAC _) (by simp only[zt];omega);rw[e1];exact⟨p1,rfl⟩
 simp only[if_neg c3]
 by_cases c4:w=[98,114,101,97,107]
 · simp only[if_pos c4];obtain⟨p1,e1⟩:=H.rank (q:=.jump 12) (s1:=s) ⟨e.1,b⟩ (yAC _) (by simp only[zt];omega);rw[e1];exact⟨p1,rfl⟩
 simp only[if_neg c4]
 by_cases c5:w=[99,111,110,116,105,110,117,101]
 · simp only[if_pos c5];obtain⟨p1,e1⟩:=H.rank (q:=.jump 13) (s1:=s) ⟨e.1,b⟩ (yAC _) (by simp only[zt];omega);rw[e1];exact⟨p1,rfl⟩
 simp only[if_neg c5]
 by_cases c6:w=[114,101,116,117,114,110]
 · simp only[if_pos c6]
   by_cases c:zDe L (zB s)=true
   · simp only[if_pos c];exact⟨x0.then (zCP (s:=zB s) d b),trivial⟩
   · simp only[if_neg c];obtain⟨p1,e1⟩:=H.more d (q:=.assign) (s1:=zB s) ⟨b,trivial⟩ f;rw[e1];exact⟨x0.then (p1.adv.trans (zCP d p1.adv.hi)),rfl⟩
 simp only[if_neg c6]
 by_cases c7:w=[116,104,114,111,119]
 · simp only[if_pos c7];have y:Adv L (zB s) (if(zI L (zB s).k).nl=true then ze L (zB s)else zB s):=by
    split
    · exact(zAD (s:=zB s) b).adv
    · exact Adv.refl b
   obtain⟨p1,e1⟩:=H.more d (q:=.assign) (s1:=if(zI L (zB s).k).nl=true then ze L (zB s)else zB s) ⟨y.hi,trivial⟩ (yAA f y.le);rw[e1];exact⟨x0.then (y.trans (p1.adv.trans (zCP d p1.adv.hi))),rfl⟩
 simp only[if_neg c7]
 by_cases c8:w=[116,114,121]
 · simp only[if_pos c8];obtain⟨p1,e1⟩:=H.rank (q:=.tries) (s1:=s) ⟨e.1,b⟩ (yAC _) (by simp only[zt];omega);rw[e1];exact⟨p1,rfl⟩
 simp only[if_neg c8]
 by_cases j:w=[102,117,110,99,116,105,111,110]∨w=[108,101,116]∨w=[99,111,110,115,116]
 · simp only[if_pos j];exact⟨zAD e.1,trivial⟩
 simp only[if_neg j];obtain⟨p1,e1⟩:=H.rank (q:=.simple) (s1:=s) ⟨e.1,trivial⟩ (yAC _) (by simp only[zt];omega);rw[e1];exact⟨p1,rfl⟩
theorem zN9 (b:Lst L) (c:Pre L .within s) (H:Hyp L R R' .within s):Con L R R' .within s:=by
 unfold Con zD;dsimp only;have x:=zc (w:=[40]) b c.1;obtain⟨p1,e1⟩:=H.rank (q:=.assign) (s1:=zP L [40] s) ⟨x.adv.hi,trivial⟩ x.adv.le (by simp only[zt];omega);rw[e1];exact⟨x.then (p1.adv.trans (zc b p1.adv.hi).adv),rfl⟩
theorem zOA {w:List UInt8} (d:Lst L) (e:Pre L (.clause w) s) (H:Hyp L R R' (.clause w) s):Con L R R' (.clause w) s:=by
 unfold Con zD;dsimp only
 by_cases c:onP L w s=true
 · simp only[if_pos c];exact⟨zc d e.1,trivial⟩
 simp only[if_neg c];obtain⟨p1,e1⟩:=H.rank (q:=.assign) (s1:=s) ⟨e.1,trivial⟩ (yAC _) (by simp only[zt];omega);rw[e1];exact⟨Eat.then (b:=(R .assign s).2) p1 (zc d p1.adv.hi).adv,rfl⟩
theorem zIq (b:Lst L) (H:Hyp L R R' .loop s) {a:Tr×Ps} (x:Eat L s a.2) (c:s.k < a.2.k):
 Post L .loop s (trK 10 [a.1,(R (.clause [59]) a.2).1,(R (.clause [41]) (R (.clause [59]) a.2).2).1,(R .statement (R (.clause [41]) (R (.clause [59]) a.2).2).2).1],(R .statement (R (.clause [41]) (R (.clause [59]) a.2).2).2).2).2∧
 (trK 10 [a.1,(R (.clause [59]) a.2).1,(R (.clause [41]) (R (.clause [59]) a.2).2).1,(R .statement (R (.clause [41]) (R (.clause [59]) a.2).2).2).1],(R .statement (R (.clause [41]) (R (.clause [59]) a.2).2).2).2)=(trK 10 [a.1,(R' (.clause [59]) a.2).1,(R' (.clause [41]) (R' (.clause [59]) a.2).2).1,(R' .statement (R' (.clause [41]) (R' (.clause [59]) a.2).2).2).1],(R' .statement (R' (.clause [41]) (R' (.clause [59]) a.2).2).2).2):=by
 obtain⟨p1,e1⟩:=H.more b (q:=.clause [59]) (s1:=a.2) ⟨x.adv.hi,trivial⟩ c;have h1:=yAA c p1.adv.le;obtain⟨p2,e2⟩:=H.more b (q:=.clause [41]) (s1:=(R (.clause [59]) a.2).2) ⟨p1.adv.hi,trivial⟩ h1;have d:=yAA h1 p2.adv.le;obtain⟨p3,e3⟩:=H.more b (q:=.statement) (s1:=(R (.clause [41]) (R (.clause [59]) a.2).2).2) ⟨p2.adv.hi,trivial⟩ d;rw[e1,e2,e3];exact⟨x.then (p1.adv.trans (p2.adv.trans p3.adv)),rfl⟩
theorem zUw (b:Lst L) (f:Pre L .loop s) (H:Hyp L R R' .loop s):Con L R R' .loop s:=by
 have e:s.k < L.length - 1:=f.2;have x0:=zAw e;have x1:=zc (w:=[40]) (s:=zB s) b e;have d:s.k < (zP L [40] (zB s)).k:=yAA (yAF s.k) x1.adv.le;unfold Con zD;dsimp only
 by_cases c:(onP L [108,101,116] (zP L [40] (zB s)) || onP L [99,111,110,115,116] (zP L [40] (zB s)))=true
 · simp only[if_pos c];obtain⟨p1,e1⟩:=H.more b (q:=.declares) (s1:=zP L [40] (zB s)) ⟨x1.adv.hi,trivial⟩ d;have y:=zc (w:=[59]) b p1.adv.hi;rw[e1];exact zIq b H (a:=((R .declares (zP L [40] (zB s))).1,zP L [59] (R .declares (zP L [40] (zB s))).2)) (x0.then (x1.adv.trans (p1.adv.trans y.adv))) (yAA d (yAD p1.adv.le y.adv.le))
 · simp only[if_neg c];obtain⟨p1,e1⟩:=H.more b (q:=.clause [59]) (s1:=zP L [40] (zB s)) ⟨x1.adv.hi,trivial⟩ d;rw[e1];exact zIq b H (a:=R (.clause [59]) (zP L [40] (zB s))) (x0.then (x1.adv.trans p1.adv)) (yAA d p1.adv.le)
theorem zUx (d:Lst L) (e:Pre L (.jump k) s) (_H:Hyp L R R' (.jump k) s):Con L R R' (.jump k) s:=by
 have b:s.k < L.length - 1:=e.2;have x0:=zAw b;unfold Con zD;dsimp only;have y:=zA8 (s:=zB s) d b
 by_cases c:(zI L (zB s).k).kind=1∧(zI L (zB s).k).nl=false
 · simp only[if_pos c];exact⟨x0.then (y.adv.trans (zCP d y.adv.hi)),trivial⟩
 · simp only[if_neg c];exact⟨x0.then (zCP (s:=zB s) d b),trivial⟩
theorem zHR (f:Lst L) (H:Hyp L R R' .tries s) {b:Tr} {c:Tr×Ps} (x:Eat L s c.2) (g:s.k < c.2.k):
 Post L .tries s (if onP L [102,105,110,97,108,108,121] c.2=true then(trK 16 [b,c.1,(R .block (zB c.2)).1],(R .block (zB c.2)).2)else(trK 16 [b,c.1,trK 11 []],c.2)).2∧
 (if onP L [102,105,110,97,108,108,121] c.2=true then(trK 16 [b,c.1,(R .block (zB c.2)).1],(R .block (zB c.2)).2)else(trK 16 [b,c.1,trK 11 []],c.2))=(if onP L [102,105,110,97,108,108,121] c.2=true then(trK 16 [b,c.1,(R' .block (zB c.2)).1],(R' .block (zB c.2)).2)else(trK 16 [b,c.1,trK 11 []],c.2)):=by
 by_cases d:onP L [102,105,110,97,108,108,121] c.2=true
 · simp only[if_pos d];have e:=f.on x.adv.hi d;obtain⟨p1,e1⟩:=H.more f (q:=.block) (s1:=zB c.2) ⟨e,trivial⟩ (Nat.lt_succ_of_lt g);rw[e1];exact⟨x.then ((zAO e).trans p1.adv),rfl⟩
 · simp only[if_neg d];exact⟨x,trivial⟩
theorem zGK (d:Lst L) (H:Hyp L R R' .tries s) {b:Tr} (x:Eat L s s1) (e:s.k < s1.k) {n:List UInt8×Ps} (y:Adv L s1 n.2):
 Post L .tries s (if onP L [102,105,110,97,108,108,121] (R .block n.2).2=true then(trK 16 [b,trN 17 n.1 [(R .block n.2).1],(R .block (zB (R .block n.2).2)).1],(R .block (zB (R .block n.2).2)).2)else(trK 16 [b,trN 17 n.1 [(R .block n.2).1],trK 11 []],(R .block n.2).2)).2∧
 (if onP L [102,105,110,97,108,108,121] (R .block n.2).2=true then(trK 16 [b,trN 17 n.1 [(R .block n.2).1],(R .block (zB (R .block n.2).2)).1],(R .block (zB (R .block n.2).2)).2)else(trK 16 [b,trN 17 n.1 [(R .block n.2).1],trK 11 []],(R .block n.2).2))=(if onP L [102,105,110,97,108,108,121] (R' .block n.2).2=true then(trK 16 [b,trN 17 n.1 [(R' .block n.2).1],(R' .block (zB (R' .block n.2).2)).1],(R' .block (zB (R' .block n.2).2)).2)else(trK 16 [b,trN 17 n.1 [(R' .block n.2).1],trK 11 []],(R' .block n.2).2)):=by
 obtain⟨p1,e1⟩:=H.more d (q:=.block) (s1:=n.2) ⟨y.hi,trivial⟩ (yAA e y.le);rw[e1];exact zHR d H (c:=(trN 17 n.1 [(R .block n.2).1],(R .block n.2).2)) (x.then (y.trans p1.adv)) (yAA e (yAD y.le p1.adv.le))
theorem zRV (b:Lst L) (l:Pre L .tries s) (H:Hyp L R R' .tries s):Con L R R' .tries s:=by
 have d:s.k < L.length - 1:=l.2;have x0:=zAw d;unfold Con zD;dsimp only;obtain⟨p1,e1⟩:=H.more b (q:=.block) (s1:=zB s) ⟨d,trivial⟩ (yAF _);rw[e1];have y:Adv L (zB s) (if(onP L [99,97,116,99,104] (R .block (zB s)).2 || onP L [102,105,110,97,108,108,121] (R .block (zB s)).2)=true then(R .block (zB s)).2 else ze L (R .block (zB s)).2):=by
  split
  · exact p1.adv
  · exact p1.adv.trans (zAD p1.adv.hi).adv
 obtain⟨s1,j⟩:=jx ((if(onP L [99,97,116,99,104] (R .block (zB s)).2 || onP L [102,105,110,97,108,108,121] (R .block (zB s)).2)=true then(R .block (zB s)).2 else ze L (R .block (zB s)).2));rw[j]at y⊢;have g:s.k < s1.k:=y.le
 by_cases c:onP L [99,97,116,99,104] s1=true
 · simp only[if_pos c];have e:=b.on y.hi c;have z:=zAO e
   by_cases c2:onP L [40] (zB s1)=true
   · simp only[if_pos c2];have f:=b.on (s:=zB s1) e c2;have u:=zA8 (s:=zB (zB s1)) b f;have v:=zc (w:=[41]) b u.adv.hi;exact zGK b H (n:=((zo L (zB (zB s1))).1,zP L [41] (zo L (zB (zB s1))).2)) (x0.then y) g (z.trans ((zAO f).trans (u.adv.trans v.adv)))
   · simp only[if_neg c2];exact zGK b H (n:=([],zB s1)) (x0.then y) g z
 · simp only[if_neg c];exact zHR b H (c:=(trK 11 [],s1)) (x0.then y) g
theorem zOB (d:Lst L) (e:Pre L .assign s) (H:Hyp L R R' .assign s):Con L R R' .assign s:=by
 unfold Con zD;dsimp only
 by_cases c:(zI L s.k).kind=1∧isT (zAp L s.k 1) [61,62]=true∧(zAp L s.k 1).nl=false
 · simp only[if_pos c];have b:=d.lt e.1 (by rw[c.1];decide);obtain⟨p1,e1⟩:=H.more d (q:=.body [trN 20 (zI L s.k).text []]) (s1:=zB s) ⟨b,trivial⟩ (yAF _);rw[e1];exact⟨(zAw b).then p1.adv,rfl⟩
 simp only[if_neg c]
 by_cases c2:zAg L s=true
 · simp only[if_pos c2];have b:s.k < L.length - 1:=d.on (w:=[40]) e.1 (by
    unfold zAg at c2;rw[Bool.and_eq_true]at c2;exact c2.1)
   obtain⟨p1,e1⟩:=H.rank (q:=.params) (s1:=s) ⟨e.1,trivial⟩ (yAC _) (by simp only[zt];omega);have x1:Eat L s (R .params s).2:=p1;obtain⟨p2,e2⟩:=H.more d (q:=.body (R .params s).1.subs) (s1:=(R .params s).2) ⟨x1.adv.hi,trivial⟩ (x1.more b);rw[e1,e2];exact⟨x1.then p2.adv,rfl⟩
 simp only[if_neg c2];obtain⟨p1,e1⟩:=H.rank (q:=.cond) (s1:=s) ⟨e.1,trivial⟩ (yAC _) (by simp only[zt];omega);have x1:Eat L s (R .cond s).2:=p1;rw[e1]
 by_cases c3:(zI L (R .cond s).2.k).kind≠5∨¬(zI L (R .cond s).2.k).text∈zJ1
 · simp only[if_pos c3];exact⟨x1,trivial⟩
 simp only[if_neg c3];have f:(R .cond s).2.k < L.length - 1:=d.lt x1.adv.hi (by
  intro g;exact c3 (.inl (by rw[g];decide)))
 by_cases c4:zAR (R .cond s).1.nd.kind=false
 · simp only[if_pos c4];exact⟨x1.then (zFw jd x1.adv.hi).adv,trivial⟩
 simp only[if_neg c4];obtain⟨p2,e2⟩:=H.more d (q:=.assign) (s1:=zB (R .cond s).2) ⟨f,trivial⟩ (Nat.lt_succ_of_le x1.adv.le);rw[e2];exact⟨x1.then ((zAO f).trans p2.adv),rfl⟩
theorem zUy (b:Lst L) (d:Pre L (.body l) s) (H:Hyp L R R' (.body l) s):Con L R R' (.body l) s:=by
 unfold Con zD;dsimp only;have y:Adv L s (if(zI L s.k).nl=true then ze L s else s):=by
  split
  · exact(zAD d.1).adv
  · exact Adv.refl d.1
 obtain⟨s0,e⟩:=jx ((if(zI L s.k).nl=true then ze L s else s));rw[e]at y⊢;have x1:=zc (w:=[61,62]) b y.hi;have x:=y.eat x1
 by_cases c:onP L [123] (zP L [61,62] s0)=true
 · simp only[if_pos c];have f:s0.k < (zP L [61,62] s0).k:=by
    by_cases c2:onP L [61,62] s0=true
    · unfold zP;rw[if_pos c2];exact yAF _
    · have g:zP L [61,62] s0=ze L s0:=by unfold zP;rw[if_neg c2]
      have:=b.on x1.adv.hi c;rw[g,zN4]at this;omega
   obtain⟨p1,e1⟩:=H.more b (q:=.block) (s1:=zP L [61,62] s0) ⟨x.adv.hi,trivial⟩ (Nat.lt_of_le_of_lt y.le f);rw[e1];exact⟨x.then p1.adv,rfl⟩
 · simp only[if_neg c];obtain⟨p1,e1⟩:=H.rank (q:=.assign) (s1:=zP L [61,62] s0) ⟨x.adv.hi,trivial⟩ x.adv.le (by simp only[zt];omega);rw[e1];exact⟨x.then p1.adv,rfl⟩
theorem zUz (b:Lst L) (f:Pre L .cond s) (H:Hyp L R R' .cond s):Con L R R' .cond s:=by
 unfold Con zD;dsimp only;obtain⟨p1,e1⟩:=H.rank (q:=.either) (s1:=s) ⟨f.1,trivial⟩ (yAC _) (by simp only[zt];omega);have x1:Eat L s (R .either s).2:=p1;rw[e1]
 by_cases c:onP L [63] (R .either s).2=true
 · simp only[if_pos c];have d:=b.on x1.adv.hi c;have e:s.k < (zB (R .either s).2).k:=Nat.lt_succ_of_le x1.adv.le;obtain⟨p2,e2⟩:=H.more b (q:=.assign) (s1:=zB (R .either s).2) ⟨d,trivial⟩ e;have y:=zc (w:=[58]) b p2.adv.hi;obtain⟨p3,e3⟩:=H.more b (q:=.assign) (s1:=zP L [58] (R .assign (zB (R .either s).2)).2) ⟨y.adv.hi,trivial⟩ (yAA e (yAD p2.adv.le y.adv.le));rw[e2,e3];exact⟨x1.then ((zAO d).trans (p2.adv.trans (y.adv.trans p3.adv))),rfl⟩
 · simp only[if_neg c];exact⟨x1,trivial⟩
theorem zOC (d:Lst L) (e:Pre L .either s) (H:Hyp L R R' .either s):Con L R R' .either s:=by
 unfold Con zD;dsimp only;obtain⟨p1,e1⟩:=H.rank (q:=.level 0) (s1:=s) ⟨e.1,yAE _⟩ (yAC _) (by simp only[zt];omega);have x1:Eat L s (R (.level 0) s).2:=p1;have _:=d.pos;rw[e1];have fin:∀{q:Ps} {c:Bool},q.k≤L.length - 1→Adv L q (if c=true then ze L q else q):=by
  intro q c b;split
  · exact(zAD b).adv
  · exact Adv.refl b
 by_cases c:onP L [63,63] (R (.level 0) s).2=true
 · simp only[if_pos c];obtain⟨p2,e2⟩:=H.rank (q:=.nullL (R (.level 0) s).1) (s1:=(R (.level 0) s).2) ⟨x1.adv.hi,trivial⟩ x1.adv.le (by simp only[zt];omega);rw[e2];exact⟨x1.then (p2.adv.trans (fin p2.adv.hi)),rfl⟩
 · simp only[if_neg c];obtain⟨p2,e2⟩:=H.rank (q:=.both (R (.level 0) s).1) (s1:=(R (.level 0) s).2) ⟨x1.adv.hi,trivial⟩ x1.adv.le (by simp only[zt];omega);rw[e2];obtain⟨p3,e3⟩:=H.rank (q:=.orL (R (.both (R (.level 0) s).1) (R (.level 0) s).2).1) (s1:=(R (.both (R (.level 0) s).1) (R (.level 0) s).2).2) ⟨p2.adv.hi,trivial⟩ (yAD x1.adv.le p2.adv.le) (by simp only[zt];omega);rw[e3];exact⟨x1.then (p2.adv.trans (p3.adv.trans (fin p3.adv.hi))),rfl⟩
theorem zRW {x:Tr} (b:Lst L) (d:Pre L (.nullL x) s) (H:Hyp L R R' (.nullL x) s):Con L R R' (.nullL x) s:=by
 unfold Con zD;dsimp only
 by_cases c:onP L [63,63] s=true
 · simp only[if_pos c];have e:=b.on d.1 c;obtain⟨p1,e1⟩:=H.more b (q:=.level 0) (s1:=zB s) ⟨e,yAE _⟩ (yAF _);obtain⟨p2,e2⟩:=H.more b (q:=.nullL (trN 47 [63,63] [x,(R (.level 0) (zB s)).1])) (s1:=(R (.level 0) (zB s)).2) ⟨p1.adv.hi,trivial⟩ (yAA (yAF _) p1.adv.le);rw[e1,e2];exact⟨(zAO e).trans (p1.adv.trans p2.adv),rfl⟩
 · simp only[if_neg c];exact⟨Adv.refl d.1,trivial⟩
theorem zU0 {x:Tr} (b:Lst L) (d:Pre L (.both x) s) (H:Hyp L R R' (.both x) s):Con L R R' (.both x) s:=by
 unfold Con zD;dsimp only
 by_cases c:onP L [38,38] s=true
 · simp only[if_pos c];have e:=b.on d.1 c;obtain⟨p1,e1⟩:=H.more b (q:=.level 0) (s1:=zB s) ⟨e,yAE _⟩ (yAF _);obtain⟨p2,e2⟩:=H.more b (q:=.both (trN 47 [38,38] [x,(R (.level 0) (zB s)).1])) (s1:=(R (.level 0) (zB s)).2) ⟨p1.adv.hi,trivial⟩ (yAA (yAF _) p1.adv.le);rw[e1,e2];exact⟨(zAO e).trans (p1.adv.trans p2.adv),rfl⟩
 · simp only[if_neg c];exact⟨Adv.refl d.1,trivial⟩
theorem zWi {x:Tr} (b:Lst L) (d:Pre L (.orL x) s) (H:Hyp L R R' (.orL x) s):Con L R R' (.orL x) s:=by
 unfold Con zD;dsimp only
 by_cases c:onP L [124,124] s=true
 · simp only[if_pos c];have e:=b.on d.1 c;obtain⟨p1,e1⟩:=H.more b (q:=.level 0) (s1:=zB s) ⟨e,yAE _⟩ (yAF _);have h1:s.k < (R (.level 0) (zB s)).2.k:=p1.adv.le;rw[e1];obtain⟨p2,e2⟩:=H.more b (q:=.both (R (.level 0) (zB s)).1) (s1:=(R (.level 0) (zB s)).2) ⟨p1.adv.hi,trivial⟩ h1;rw[e2];obtain⟨p3,e3⟩:=H.more b (q:=.orL (trN 47 [124,124] [x,(R (.both (R (.level 0) (zB s)).1) (R (.level 0) (zB s)).2).1])) (s1:=(R (.both (R (.level 0) (zB s)).1) (R (.level 0) (zB s)).2).2) ⟨p2.adv.hi,trivial⟩ (yAA h1 p2.adv.le);rw[e3];exact⟨(zAO e).trans (p1.adv.trans (p2.adv.trans p3.adv)),rfl⟩
 · simp only[if_neg c];exact⟨Adv.refl d.1,trivial⟩
theorem zRX (d:Lst L) (b:Pre L (.level n) s) (H:Hyp L R R' (.level n) s):Con L R R' (.level n) s:=by
 have e:n≤8:=b.2;have _:=d.pos;unfold Con zD;dsimp only
 by_cases c:n=8
 · simp only[if_pos c];obtain⟨p1,e1⟩:=H.rank (q:=.unary) (s1:=s) ⟨b.1,trivial⟩ (yAC _) (by simp only[zt];omega);rw[e1];exact⟨p1,rfl⟩
 · simp only[if_neg c];obtain⟨p1,e1⟩:=H.rank (q:=.level (n+1)) (s1:=s) ⟨b.1,(by show n+1≤8;omega)⟩ (yAC _) (by simp only[zt];omega);have x1:Eat L s (R (.level (n+1)) s).2:=p1;obtain⟨p2,e2⟩:=H.rank (q:=.levelL n (R (.level (n+1)) s).1) (s1:=(R (.level (n+1)) s).2) ⟨x1.adv.hi,(by show n < 8;omega)⟩ x1.adv.le (by simp only[zt];omega);rw[e1,e2];exact⟨x1.then p2.adv,rfl⟩
theorem zFM {t:Tok} (h:zBK t≠9):t.kind≠0:=by
 unfold zBK at h;intro c;apply h;rw[if_neg];intro b;rcases b with b | b
 · omega
 · exact zFu b c
theorem zOD {x:Tr} (b:Lst L) (d:Pre L (.levelL n x) s) (H:Hyp L R R' (.levelL n x) s):Con L R R' (.levelL n x) s:=by
 have f:n < 8:=d.2;unfold Con zD;dsimp only
 by_cases c:zBK (zI L s.k)=n
 · simp only[if_pos c];have e:=b.lt d.1 (zFM jo);obtain⟨p1,e1⟩:=H.more b (q:=.level (n+1)) (s1:=zB s) ⟨e,(by show n+1≤8;omega)⟩ (yAF _);obtain⟨p2,e2⟩:=H.more b (q:=.levelL n (trN 46 (zI L s.k).text [x,(R (.level (n+1)) (zB s)).1])) (s1:=(R (.level (n+1)) (zB s)).2) ⟨p1.adv.hi,f⟩ (yAA (yAF _) p1.adv.le);rw[e1,e2];exact⟨(zAO e).trans (p1.adv.trans p2.adv),rfl⟩
 · simp only[if_neg c];exact⟨Adv.refl d.1,trivial⟩
theorem zRY (b:Lst L) (e:Pre L .unary s) (H:Hyp L R R' .unary s):Con L R R' .unary s:=by
 unfold Con zD;dsimp only
 by_cases c:((zI L s.k).kind=5∨(zI L s.k).kind=6)∧(zI L s.k).text∈zHN
 · simp only[if_pos c];have d:=b.lt e.1 jo;obtain⟨p1,e1⟩:=H.more b (q:=.unary) (s1:=zB s) ⟨d,trivial⟩ (yAF _);rw[e1];exact⟨(zAw d).then p1.adv,rfl⟩
 simp only[if_neg c]
 by_cases c2:((zI L s.k).kind=5∨(zI L s.k).kind=6)∧(zI L s.k).text∈zDT
 · simp only[if_pos c2];have d:=b.lt e.1 jo;obtain⟨p1,e1⟩:=H.more b (q:=.unary) (s1:=zB s) ⟨d,trivial⟩ (yAF _);rw[e1];refine⟨(zAw d).then (p1.adv.trans ?_),rfl⟩;show Adv L _ (if _ then _ else _);split
   · exact(zAD p1.adv.hi).adv
   · exact Adv.refl p1.adv.hi
 simp only[if_neg c2];obtain⟨p1,e1⟩:=H.rank (q:=.calls) (s1:=s) ⟨e.1,trivial⟩ (yAC _) (by simp only[zt];omega);have x1:Eat L s (R .calls s).2:=p1;rw[e1]
 by_cases c3:(zI L (R .calls s).2.k).kind=5∧(zI L (R .calls s).2.k).text∈zDT∧(zI L (R .calls s).2.k).nl=false
 · simp only[if_pos c3]
   by_cases c4:zAR (R .calls s).1.nd.kind=false
   · simp only[if_pos c4];exact⟨x1.then (zAD x1.adv.hi).adv,trivial⟩
   · simp only[if_neg c4];exact⟨x1.then (zAO (b.lt x1.adv.hi jo)),trivial⟩
 · simp only[if_neg c3];exact⟨x1,trivial⟩
theorem zRZ (b:Lst L) (c:Pre L .calls s) (H:Hyp L R R' .calls s):Con L R R' .calls s:=by
 have _:=b.pos;unfold Con zD;dsimp only;obtain⟨p1,e1⟩:=H.rank (q:=.head) (s1:=s) ⟨c.1,trivial⟩ (yAC _) (by simp only[zt];omega);have x1:Eat L s (R .head s).2:=p1;obtain⟨p2,e2⟩:=H.rank (q:=.callsL (R .head s).1) (s1:=(R .head s).2) ⟨x1.adv.hi,trivial⟩ x1.adv.le (by simp only[zt];omega);rw[e1,e2];exact⟨x1.then p2.adv,rfl⟩
theorem zOE {x:Tr} (d:Lst L) (e:Pre L (.callsL x) s) (H:Hyp L R R' (.callsL x) s):Con L R R' (.callsL x) s:=by
 unfold Con zD;dsimp only
 by_cases c:onP L [40] s=true
 · simp only[if_pos c];have b:=d.on e.1 c;obtain⟨p1,e1⟩:=H.rank (q:=.args) (s1:=s) ⟨e.1,b⟩ (yAC _) (by simp only[zt];omega);have x1:Eat L s (R .args s).2:=p1;obtain⟨p2,e2⟩:=H.more d (q:=.callsL (trK 50 (x::(R .args s).1.subs))) (s1:=(R .args s).2) ⟨x1.adv.hi,trivial⟩ (x1.more b);rw[e1,e2];exact⟨x1.adv.trans p2.adv,rfl⟩
 simp only[if_neg c]
 by_cases c2:onP L [46] s=true
 · simp only[if_pos c2];have b:=d.on e.1 c2;have x0:=zAO b
   by_cases c3:(zI L (zB s).k).kind≠1∧(zI L (zB s).k).kind≠6
   · simp only[if_pos c3];exact⟨x0.trans (zAD (s:=zB s) b).adv,trivial⟩
   · simp only[if_neg c3];have f:(zB s).k < L.length - 1:=d.lt b jo;obtain⟨p1,e1⟩:=H.more d (q:=.callsL (trN 52 (zI L (zB s).k).text [x])) (s1:=zB (zB s)) ⟨f,trivial⟩ (by show s.k < s.k+1+1;omega);rw[e1];exact⟨x0.trans ((zAO f).trans p1.adv),rfl⟩
 simp only[if_neg c2]
 by_cases c4:onP L [91] s=true
 · simp only[if_pos c4];have b:=d.on e.1 c4;obtain⟨p1,e1⟩:=H.more d (q:=.assign) (s1:=zB s) ⟨b,trivial⟩ (yAF _);have y:=zc (w:=[93]) d p1.adv.hi;have z:=p1.adv.trans y.adv;obtain⟨p2,e2⟩:=H.more d (q:=.callsL (trK 53 [x,(R .assign (zB s)).1])) (s1:=zP L [93] (R .assign (zB s)).2) ⟨y.adv.hi,trivial⟩ (yAA (yAF _) z.le);rw[e1,e2];exact⟨(zAO b).trans (z.trans p2.adv),rfl⟩
 · simp only[if_neg c4];exact⟨Adv.refl e.1,trivial⟩
theorem zRa {x:Tr} (c:Lst L) (e:Pre L (.headL x) s) (H:Hyp L R R' (.headL x) s):Con L R R' (.headL x) s:=by
 unfold Con zD;dsimp only
 by_cases c2:onP L [46] s=true
 · simp only[if_pos c2];have b:=c.on e.1 c2;have x0:=zAO b
   by_cases c3:(zI L (zB s).k).kind≠1∧(zI L (zB s).k).kind≠6
   · simp only[if_pos c3];exact⟨x0.trans (zAD (s:=zB s) b).adv,trivial⟩
   · simp only[if_neg c3];have d:(zB s).k < L.length - 1:=c.lt b jo;obtain⟨p1,e1⟩:=H.more c (q:=.headL (trN 52 (zI L (zB s).k).text [x])) (s1:=zB (zB s)) ⟨d,trivial⟩ (by show s.k < s.k+1+1;omega);rw[e1];exact⟨x0.trans ((zAO d).trans p1.adv),rfl⟩
 simp only[if_neg c2]
 by_cases c4:onP L [91] s=true
 · simp only[if_pos c4];have b:=c.on e.1 c4;obtain⟨p1,e1⟩:=H.more c (q:=.assign) (s1:=zB s) ⟨b,trivial⟩ (yAF _);have y:=zc (w:=[93]) c p1.adv.hi;have z:=p1.adv.trans y.adv;obtain⟨p2,e2⟩:=H.more c (q:=.headL (trK 53 [x,(R .assign (zB s)).1])) (s1:=zP L [93] (R .assign (zB s)).2) ⟨y.adv.hi,trivial⟩ (yAA (yAF _) z.le);rw[e1,e2];exact⟨(zAO b).trans (z.trans p2.adv),rfl⟩
 · simp only[if_neg c4];exact⟨Adv.refl e.1,trivial⟩
theorem zU1 (b:Lst L) (e:Pre L .head s) (H:Hyp L R R' .head s):Con L R R' .head s:=by
 unfold Con zD;dsimp only
 by_cases c:onP L [110,101,119] s=true
 · simp only[if_pos c];have d:=b.on e.1 c;have x0:=zAw d;obtain⟨p1,e1⟩:=H.more b (q:=.head) (s1:=zB s) ⟨d,trivial⟩ (yAF _);have h1:s.k < (R .head (zB s)).2.k:=p1.adv.le;obtain⟨p2,e2⟩:=H.more b (q:=.headL (R .head (zB s)).1) (s1:=(R .head (zB s)).2) ⟨p1.adv.hi,trivial⟩ h1;rw[e1,e2];have y:=p1.adv.trans p2.adv
   by_cases c2:onP L [40] (R (.headL (R .head (zB s)).1) (R .head (zB s)).2).2=true
   · simp only[if_pos c2];have f:=b.on y.hi c2;obtain⟨p3,e3⟩:=H.more b (q:=.args) (s1:=(R (.headL (R .head (zB s)).1) (R .head (zB s)).2).2) ⟨y.hi,f⟩ (yAA h1 p2.adv.le);rw[e3];exact⟨x0.then (y.trans p3.adv),rfl⟩
   · simp only[if_neg c2];exact⟨x0.then y,trivial⟩
 · simp only[if_neg c];obtain⟨p1,e1⟩:=H.rank (q:=.primary) (s1:=s) ⟨e.1,trivial⟩ (yAC _) (by simp only[zt];omega);rw[e1];exact⟨p1,rfl⟩
theorem zU2 (b:Lst L) (c:Pre L .args s) (H:Hyp L R R' .args s):Con L R R' .args s:=by
 have d:s.k < L.length - 1:=c.2;unfold Con zD;dsimp only;have x:=zc (w:=[40]) b c.1;obtain⟨p1,e1⟩:=H.more b (q:=.list [41]) (s1:=zP L [40] s) ⟨x.adv.hi,trivial⟩ (x.more d);rw[e1];exact⟨x.then p1.adv,rfl⟩
theorem zU3 {w:List UInt8} (d:Lst L) (b:Pre L (.list w) s) (H:Hyp L R R' (.list w) s):Con L R R' (.list w) s:=by
 unfold Con zD;dsimp only
 by_cases c:onP L w s=true
 · simp only[if_pos c];exact⟨zAw (d.on b.1 c),trivial⟩
 · simp only[if_neg c];obtain⟨p1,e1⟩:=H.rank (q:=.listL w []) (s1:=s) ⟨b.1,trivial⟩ (yAC _) (by simp only[zt];omega);rw[e1];exact⟨p1,rfl⟩
theorem zRb {w:List UInt8} {b:List Tr} (d:Lst L) (e:Pre L (.listL w b) s) (H:Hyp L R R' (.listL w b) s):Con L R R' (.listL w b) s:=by
 unfold Con zD;dsimp only;obtain⟨p1,e1⟩:=H.rank (q:=.assign) (s1:=s) ⟨e.1,trivial⟩ (yAC _) (by simp only[zt];omega);have x1:Eat L s (R .assign s).2:=p1;rw[e1]
 by_cases c:(R .assign s).2.bad≠0
 · simp only[if_pos c];exact⟨x1,trivial⟩
 simp only[if_neg c]
 by_cases c2:onP L w (R .assign s).2=true
 · simp only[if_pos c2];exact⟨x1.then (zAO (d.on x1.adv.hi c2)),trivial⟩
 simp only[if_neg c2];have y:=zc (w:=[44]) d x1.adv.hi;obtain⟨p2,e2⟩:=H.more d (q:=.listL w (b++[(R .assign s).1])) (s1:=zP L [44] (R .assign s).2) ⟨y.adv.hi,trivial⟩ (yAA (x1.lt e.1 c) y.adv.le);rw[e2];exact⟨x1.then (y.adv.trans p2.adv),rfl⟩
theorem zOF (d:Lst L) (b:Pre L .object s) (H:Hyp L R R' .object s):Con L R R' .object s:=by
 unfold Con zD;dsimp only
 by_cases c:onP L [125] s=true
 · simp only[if_pos c];exact⟨zAw (d.on b.1 c),trivial⟩
 · simp only[if_neg c];obtain⟨p1,e1⟩:=H.rank (q:=.objL []) (s1:=s) ⟨b.1,trivial⟩ (yAC _) (by simp only[zt];omega);rw[e1];exact⟨p1,rfl⟩
theorem zU4 {b:List Tr} (d:Lst L) (e:Pre L (.objL b) s) (H:Hyp L R R' (.objL b) s):Con L R R' (.objL b) s:=by
 unfold Con zD;dsimp only;obtain⟨p1,e1⟩:=H.rank (q:=.prop) (s1:=s) ⟨e.1,trivial⟩ (yAC _) (by simp only[zt];omega);have x1:Eat L s (R .prop s).2:=p1;rw[e1]
 by_cases c:(R .prop s).2.bad≠0
 · simp only[if_pos c];exact⟨x1,trivial⟩
 simp only[if_neg c]
 by_cases c2:onP L [125] (R .prop s).2=true
 · simp only[if_pos c2];exact⟨x1.then (zAO (d.on x1.adv.hi c2)),trivial⟩
 simp only[if_neg c2];have y:=zc (w:=[44]) d x1.adv.hi;obtain⟨p2,e2⟩:=H.more d (q:=.objL (b++[(R .prop s).1])) (s1:=zP L [44] (R .prop s).2) ⟨y.adv.hi,trivial⟩ (yAA (x1.lt e.1 c) y.adv.le);rw[e2];exact⟨x1.then (y.adv.trans p2.adv),rfl⟩
theorem zFh {t:Tok} (h:zBS t=some u):t.kind≠0:=by
 unfold zBS at h;intro b;rw[b]at h;simp at h
theorem zU5 (d:Lst L) (e:Pre L .prop s) (H:Hyp L R R' .prop s):Con L R R' .prop s:=by
 unfold Con zD;dsimp only;cases hs:zBS (zI L s.k)with
 | none=>exact⟨zAD e.1,by first | rfl | trivial⟩
 | some u=>
  have b:=d.lt e.1 (zFh hs);have x0:=zAw b;dsimp only
  by_cases c:(zI L s.k).kind=1∧onP L [58] (zB s)=false
  · simp only[if_pos c];exact⟨x0,trivial⟩
  simp only[if_neg c];have y:=zc (w:=[58]) (s:=zB s) d b;obtain⟨p1,e1⟩:=H.more d (q:=.assign) (s1:=zP L [58] (zB s)) ⟨y.adv.hi,trivial⟩ (yAA (yAF s.k) y.adv.le);rw[e1];exact⟨x0.then (y.adv.trans p1.adv),rfl⟩
theorem zMP (c:Lst L) (d:Pre L .primary s) (H:Hyp L R R' .primary s):Con L R R' .primary s:=by
 unfold Con zD;dsimp only
 by_cases c0:(zI L s.k).kind=0
 · simp only[if_pos c0];exact⟨zAD d.1,trivial⟩
 simp only[if_neg c0];have b:=c.lt d.1 c0;have x0:=zAw b
 by_cases c1:(zI L s.k).kind=2
 · simp only[if_pos c1];exact⟨x0,trivial⟩
 simp only[if_neg c1]
 by_cases c2:(zI L s.k).kind=3
 · simp only[if_pos c2];exact⟨x0,trivial⟩
 simp only[if_neg c2]
 by_cases c3:(zI L s.k).kind=4
 · simp only[if_pos c3];exact⟨x0,trivial⟩
 simp only[if_neg c3]
 by_cases c4:(zI L s.k).kind=1
 · simp only[if_pos c4];exact⟨x0,trivial⟩
 simp only[if_neg c4]
 by_cases c5:(zI L s.k).text=[116,114,117,101]
 · simp only[if_pos c5];exact⟨x0,trivial⟩
 simp only[if_neg c5]
 by_cases c6:(zI L s.k).text=[102,97,108,115,101]
 · simp only[if_pos c6];exact⟨x0,trivial⟩
 simp only[if_neg c6]
 by_cases c7:(zI L s.k).text=[110,117,108,108]
 · simp only[if_pos c7];exact⟨x0,trivial⟩
 simp only[if_neg c7]
 by_cases c8:(zI L s.k).text=[116,104,105,115]
 · simp only[if_pos c8];exact⟨x0,trivial⟩
 simp only[if_neg c8]
 by_cases e:(zI L s.k).text=[91]
 · simp only[if_pos e];obtain⟨p1,e1⟩:=H.more c (q:=.list [93]) (s1:=zB s) ⟨b,trivial⟩ (yAF _);rw[e1];exact⟨x0.then p1.adv,rfl⟩
 simp only[if_neg e]
 by_cases d0:(zI L s.k).text=[123]
 · simp only[if_pos d0];obtain⟨p1,e1⟩:=H.more c (q:=.object) (s1:=zB s) ⟨b,trivial⟩ (yAF _);rw[e1];exact⟨x0.then p1.adv,rfl⟩
 simp only[if_neg d0]
 by_cases d1:(zI L s.k).text=[102,117,110,99,116,105,111,110]
 · simp only[if_pos d1]
   by_cases d2:(zI L (zB s).k).kind=1
   · simp only[if_pos d2];have y:=zA8 (s:=zB s) c b;obtain⟨p1,e1⟩:=H.more c (q:=.func 41 (zo L (zB s)).1) (s1:=(zo L (zB s)).2) ⟨y.adv.hi,trivial⟩ (yAA (yAF s.k) y.adv.le);rw[e1];exact⟨x0.then (y.adv.trans p1.adv),rfl⟩
   · simp only[if_neg d2];obtain⟨p1,e1⟩:=H.more c (q:=.func 41 []) (s1:=zB s) ⟨b,trivial⟩ (yAF _);rw[e1];exact⟨x0.then p1.adv,rfl⟩
 simp only[if_neg d1]
 by_cases d3:(zI L s.k).text=[40]
 · simp only[if_pos d3];obtain⟨p1,e1⟩:=H.more c (q:=.assign) (s1:=zB s) ⟨b,trivial⟩ (yAF _);rw[e1];exact⟨x0.then (p1.adv.trans (zc c p1.adv.hi).adv),rfl⟩
 simp only[if_neg d3];refine⟨?_,by first | rfl | trivial⟩;show Eat L s (if _ then _ else _);split
 · exact zFw jd d.1
 · exact zAD d.1
theorem zH2 (b:Lst L) (c:Pre L p s) (H:Hyp L R R' p s):Con L R R' p s:=by
 cases p with
 | program d=>exact zMO b c H
 | block=>exact zRT b c H
 | blockL d=>exact zN5 b c H
 | item=>exact zUt b c H
 | declares=>exact zJ8 b c H
 | declL k d=>exact zRU b c H
 | func k n=>exact zUu b c H
 | params=>exact zN6 b c H
 | paramL d=>exact zN7 b c H
 | statement=>exact zIp b c H
 | simple=>exact zN8 b c H
 | word w=>exact zUv b c H
 | within=>exact zN9 b c H
 | clause w=>exact zOA b c H
 | loop=>exact zUw b c H
 | jump k=>exact zUx b c H
 | tries=>exact zRV b c H
 | assign=>exact zOB b c H
 | body l=>exact zUy b c H
 | cond=>exact zUz b c H
 | either=>exact zOC b c H
 | nullL x=>exact zRW b c H
 | orL x=>exact zWi b c H
 | both x=>exact zU0 b c H
 | level n=>exact zRX b c H
 | levelL n x=>exact zOD b c H
 | unary=>exact zRY b c H
 | calls=>exact zRZ b c H
 | callsL x=>exact zOE b c H
 | head=>exact zU1 b c H
 | headL x=>exact zRa b c H
 | args=>exact zU2 b c H
 | list w=>exact zU3 b c H
 | listL w d=>exact zRb b c H
 | primary=>exact zMP b c H
 | object=>exact zOF b c H
 | objL d=>exact zU4 b c H
 | prop=>exact zU5 b c H
end
theorem zK8 {L:List Tok} (b:Lst L):∀(f g:Nat) (p:Ph) (s:Ps),Pre L p s→zj L p s < f→zj L p s < g→Post L p s (zG2 L f p s).2∧zG2 L f p s=zG2 L g p s:=by
 intro f
 induction f with
 | zero=>intro g p s _ h _;omega
 | succ f c=>
  intro g p s d j hg;obtain⟨g,rfl⟩:∃m,g=m+1:=⟨g - 1,by omega⟩;exact zH2 (R:=zG2 L f) (R':=zG2 L g) b d (fun q s1 e k=>c g q s1 e jo jo)
theorem zd {L:List Tok} (b:Lst L) {s:Ps} (c:Pre L p s):Post L p s (zE L p s).2:=(zK8 b _ _ p s c (yAF _) (yAF _)).1
theorem zS {L:List Tok} (b:Lst L) {s:Ps} (c:Pre L p s):zE L p s=zD L (zE L) p s:=by
 have h:=zH2 (R:=zG2 L (zj L p s)) (R':=zE L) b c (fun q s1 d e=>zK8 b _ _ q s1 d e (yAF _));exact h.2
theorem zJ9 {L:List Tok} (c:Lst L):∀(f:Nat) (p:Ph) (s:Ps),Pre L p s→Post L p s (zG2 L f p s).2:=by
 intro f
 induction f with
 | zero=>
  intro p s b;have:=zFw (L:=L) (e:=99) (s:=s) jd b.1;unfold Post;split
  · exact this
  · exact this.adv
 | succ f d=>exact fun p s b=>(zH2 (R:=zG2 L f) (R':=zG2 L f) c b (fun q s1 g _=>⟨d q s1 g,rfl⟩)).1
def zYt (t u:Tok):Prop:=t.kind=u.kind∧t.text=u.text∧t.str=u.str∧t.nk=u.nk∧t.nn=u.nn∧t.mag=u.mag
def zYy:List (List UInt8):=[[101,108,115,101],[99,97,116,99,104],[102,105,110,97,108,108,121],[63],[63,63],[124,124],[38,38],[40],[46],[91],[61],[44],[58],[61,62]]
structure Stop (t:Tok):Prop where
 name:t.kind≠1
 binds:zBK t=9
 words:∀w∈zYy,isT t w=false
 asgn:t.kind=5→¬t.text∈zJ1
 post:t.kind=5→t.text∈zDT→t.nl=true
section
variable {L1 L2:List Tok} {a d m:Nat} {lo:Bool} {s:Ps} {w:List UInt8}
variable {R1 R2:Ph→Ps→Tr×Ps}
end
def s0:Ps:=⟨0,0,0⟩
def zEK:List Kd→Nat
 | []=>0
 | k::r=>zBZ k.2+10+zEK r
theorem zRc (a b:List Kd):zEK (a++b)=zEK a+zEK b:=by
 induction a with
 | nil=>simp[zEK]
 | cons k r c=>simp only[List.cons_append,zEK,c];omega
theorem zFx (t:Tks):zBZ (inP t)=zBZ t+4:=by
 unfold inP;simp only[zBZ,zBq,List.length_cons,List.length_nil];omega
theorem zCT (k:Kd):zBZ (zb k)≤zBZ k.2+4:=by
 unfold zb;split
 · omega
 · rw[zFx];omega
theorem zH3:∀(t:Tks),zBZ t.dropLast≤zBZ t:=by
 intro t
 induction t with
 | nil=>exact yAC _
 | cons s r b=>
  cases r with
  | nil=>simp[zBZ]
  | cons c r2=>
   rw[List.dropLast_cons_of_ne_nil js];show s.length+1+zBZ _≤s.length+1+zBZ _;omega
theorem zDf (k:Kd):zBZ (zn k)≤zBZ k.2+4:=by
 unfold zn;split
 · have:=zH3 k.2;omega
 · split
   · simp[zBZ]
   · rw[zFx];omega
theorem zOG (f:Kd→Tks) (h:∀k,zBZ (f k)≤zBZ k.2+4):∀ks,zBZ (zGH f ks)≤zEK ks:=by
 intro ks
 induction ks with
 | nil=>exact yAC _
 | cons k r b=>
  have:=h k;simp only[zGH,zBZ,zBq,zEK,List.length_cons,List.length_nil];omega
theorem zGL (f:Kd→Tks) (h:∀k,zBZ (f k)≤zBZ k.2+4) (ks:List Kd):zBZ (zAW f ks)≤zEK ks:=by
 cases ks with
 | nil=>exact yAC _
 | cons k r=>
  have h1:=h k;have b:=zOG f h r;simp only[zAW,zBq,zEK];omega
theorem zGM (ks:List Kd):zBZ (zAW (·.2) ks)≤zEK ks:=zGL _ (fun k=>by show zBZ k.2≤_;omega) ks
theorem zOH (ks:List Kd):zBZ (ks.flatMap (·.2))≤zEK ks:=by
 induction ks with
 | nil=>exact yAC _
 | cons k r b=>
  simp only[List.flatMap_cons,zBq,zEK];omega
theorem zOI (i:Nat):kd [] i=(0,[]):=by simp[kd]
theorem zU6 (k:Kd) (r:List Kd) (i:Nat):kd (k::r) (i+1)=kd r i:=by simp[kd]
theorem zOJ (k:Kd) (r:List Kd):kd (k::r) 0=k:=by simp[kd]
theorem zYu (ks:List Kd):zBZ (kd ks 0).2+zBZ (kd ks 1).2+zBZ (kd ks 2).2+zBZ (kd ks 3).2≤zEK ks:=by
 rcases ks with _ | ⟨a,_ | ⟨b,_ | ⟨c,_ | ⟨d,r⟩⟩⟩⟩<;>simp only[zOI,zU6,zOJ,zEK,zBZ]<;>omega
theorem zU7 (ks:List Kd):zBZ (kd ks 0).2+zEK (ks.drop 1)≤zEK ks:=by
 rcases ks with _ | ⟨a,r⟩
 · simp[zOI,zEK,zBZ]
 · simp only[zOJ,zEK,List.drop_succ_cons,List.drop_zero];omega
theorem zOK (ks:List Kd):zEK ks.dropLast+zBZ (kd ks (ks.length - 1)).2≤zEK ks:=by
 rcases List.eq_nil_or_concat ks with rfl | ⟨a,k,rfl⟩
 · simp[zOI,zEK,zBZ]
 · rw[List.concat_eq_append,List.dropLast_concat,zRc];have:kd (a++[k]) ((a++[k]).length - 1)=k:=by
    unfold kd;rw[List.length_append,List.length_singleton,Nat.add_sub_cancel,yAG,List.getElem?_append_right (yAC _),Nat.sub_self];rfl
   rw[this];simp only[zEK];omega
theorem zK9 (x:UInt16):(zGI x).length≤6:=by
 unfold zGI;split<;>simp
theorem zRd (u:List UInt16):(zFg u).length≤6*u.length+2:=by
 unfold zFg;have:(u.flatMap zGI).length≤6*u.length:=by
  induction u with
  | nil=>simp
  | cons x r b=>
   have:=zK9 x;simp only[List.flatMap_cons,List.length_append,List.length_cons];omega
 simp only[List.length_cons,List.length_append,List.length_nil];omega
theorem zLA:∀(k n:Nat),n < 10^(k+1)→(zBR n).length≤k+1:=by
 intro k
 induction k with
 | zero=>intro n h;rw[zBR];rw[if_pos jo];simp
 | succ k b=>
  intro n h;rw[zBR];split
  · simp
  · have c:n / 10 < 10^(k+1):=by rw[Nat.div_lt_iff_lt_mul jo];rwa [Nat.pow_succ]at h
    have:=b (n / 10) c;rw[List.length_append,List.length_singleton];omega
theorem zU8:∀(m:List Nat),(∀x∈m,x < 4294967296)→zEQ m < 4294967296^m.length:=by
 intro m
 induction m with
 | nil=>intro _;simp[zEQ]
 | cons x r b=>
  intro h;have h1:=b fun y c=>h y (List.mem_cons_of_mem _ c);have d:=h x (List.mem_cons_self ..);simp only[zEQ,List.length_cons,Nat.pow_succ];omega
structure Short (x:Nd):Prop where
 name:x.name.length≤4096
 str:x.str.length≤4096
 mag:x.mag.length≤8
 limb:∀y∈x.mag,y < 4294967296
 nn:x.nn≤9007199254740991
theorem Short.dec (h:Short x):(zBR x.nn.toNat).length≤16:=zLA 15 _ (by have:=h.nn;omega)
theorem Short.big (h:Short x):(zBR (zEQ x.mag)).length≤78:=by
 refine zLA 77 _ (yAA (zU8 x.mag h.limb) (yAD (Nat.pow_le_pow_right jo h.mag) (by decide+kernel)))
theorem zGN (ks:List Kd):zBZ (zu ks)≤zEK ks+4:=by
 unfold zu;have:=zGM ks;simp only[zBZ,zBq,List.length_cons,List.length_nil];omega
theorem zHS (s:List UInt8):zBZ (zAo s)≤s.length+1:=by
 unfold zAo;split<;>simp[zBZ]
theorem zIr (x:Nd) (ks:List Kd):zBZ (zFL x ks)≤x.name.length+20+zEK ks:=by
 unfold zFL;have h1:=zHS x.name;have b:=zGN ks.dropLast;have c:=zOK ks;simp only[zBZ,zBq,List.length_cons,List.length_nil];omega
theorem zOL (ks:List Kd):zBZ (zER ks)≤20+zEK ks:=by
 unfold zER;have h1:=zU7 ks;have b:=zCT (kd ks 0);have c:=zGL zb zCT (ks.drop 1);simp only[zBZ,zBq,List.length_cons,List.length_nil];omega
theorem zLB {p:Prop} [Decidable p] (a b:Tks):zBZ (if p then a else b)=if p then zBZ a else zBZ b:=by split<;>rfl
theorem zUY {p:Prop} [Decidable p] {a b:Tks} (h1:zBZ a≤n) (c:zBZ b≤n):zBZ (if p then a else b)≤n:=by
 split
 · exact h1
 · exact c
theorem zOM (h:Short x) (ks:List Kd):zBZ (zi x ks)≤30000+zEK ks:=by
 have d:=h.name;have e:=zYu ks;have f:=zOH ks;have g:=zGM ks;have b:=zIr x ks;have c:=zHS x.name;have c0:=zDf (kd ks 0);have c1:=zDf (kd ks 1);have c2:=zDf (kd ks 2);unfold zi zBJ
 repeat' refine zUY ?_ ?_
 all_goals try simp only[zBq,zFx,zLB,List.length_cons,List.length_nil,zBZ]
 all_goals repeat' split
 all_goals first | omega | (simp only[List.length_cons,List.length_nil];omega)
theorem zON (h:Short x) (ks:List Kd):zBZ (zg x ks)≤30000+zEK ks:=by
 have e:=h.name;have hs:=h.str;have f:=zRd x.str;have g:=h.dec;have hb:=h.big;have j:=zYu ks;have k:=zGM ks;have b:=zGL zb zCT ks;have c:=zIr x ks;have d:=zOL ks;have l:=zGN ks.dropLast;have m:=zOK ks;have p0:=zCT (kd ks 0);have p1:=zCT (kd ks 1);have p2:=zCT (kd ks 2);unfold zg zEm
 repeat' refine zUY ?_ ?_
 all_goals try simp only[zBq,zFx,zLB,List.length_append,List.length_cons,List.length_nil,zBZ]
 all_goals repeat' split
 all_goals first | omega | (simp only[List.length_cons,List.length_nil];omega)
theorem zOO (h:Short x) (ks:List Kd):zBZ (zAk x ks)≤30000+zEK ks:=by
 unfold zAk;split
 · exact zOM h ks
 · exact zON h ks
mutual
def ShortT:Tr→Prop
 | .mk x l=>Short x∧ShortL l
def ShortL:List Tr→Prop
 | []=>True
 | t::r=>ShortT t∧ShortL r
end
theorem zCA (x:Nd) (l:List Tr):ShortT (.mk x l)=(Short x∧ShortL l):=by rw[ShortT]
theorem zES (t:Tr) (r:List Tr):ShortL (t::r)=(ShortT t∧ShortL r):=by rw[ShortL]
mutual
theorem prT_len (t:Tr) (h:ShortT t):zBZ (prT t)+10≤30010*t.size:=by
 cases t with
 | mk x l=>
  rw[zCA]at h;have h1:=zOO h.1 (prs l);have h2:=prs_sum l h.2;rw[zAS,zh];omega
theorem prs_sum (l:List Tr) (h:ShortL l):zEK (prs l)≤30010*sizes l:=by
 cases l with
 | nil=>rw[zY,zL];simp[zEK]
 | cons t r=>
  rw[zES]at h;have h1:=prT_len t h.1;have h2:=prs_sum r h.2;rw[zH,zG];simp only[zEK];omega
end
theorem zKA:∀(r:List Nd) (m:Nat),zBy ts m r=true→∀n x,r[n]? =some x→zN x=true∧zCs ts x=true∧(0 < m+n→x.kind≠1):=by
 intro r
 induction r with
 | nil=>intro m _ n x h;cases h
 | cons y r d=>
  intro m h n x b;unfold zBy at h;simp only[Bool.and_eq_true,Bool.not_eq_true',Bool.and_eq_false_iff,decide_eq_false_iff_not,yA]at h;cases n with
  | zero=>
   obtain rfl:y=x:=Option.some.inj b;exact⟨h.1.1.2,h.1.2,fun c=>by rcases h.1.1.1 with h1 | h1;exact absurd c h1;exact h1⟩
  | succ n=>
   have:=d (m+1) h.2 n x b;exact⟨this.1,this.2.1,fun c=>this.2.2 jo⟩
structure May (ts:List Nd) (t:Tr):Prop where
 flat:ts=flatT 0 t
 len:ts.length≤4096
 each:zBy ts 0 ts=true
 nest:depT t≤48
 kind:t.nd.kind=1
theorem zBU (n:Nat) (t:Tr):(t.laid n).kind=t.nd.kind:=by cases t;rfl
theorem zRe (h:zRE ts=true):∃t,May ts t:=by
 unfold zRE at h;cases ts with
 | nil=>cases h
 | cons x r=>
  simp only[Bool.and_eq_true,decide_eq_true_eq,beq_iff_eq]at h;obtain⟨⟨⟨⟨h1,e⟩,f⟩,g⟩,d⟩:=h;obtain⟨t,c⟩:=zHO f;have b:=zFJ 0 t;rw[←c]at b;have b:x=t.laid 0:=Option.some.inj b;rw[c,zGG]at d;exact⟨t,c,h1,g,d,by rw[←zBU 0 t,←b];exact e⟩
theorem zWj (h:May ts t):zRE ts=true:=by
 have b:=zFJ 0 t;rw[←h.flat]at b;unfold zRE;cases ts with
 | nil=>cases b
 | cons x r=>
  have b:x=t.laid 0:=Option.some.inj b;simp only[Bool.and_eq_true,decide_eq_true_eq,beq_iff_eq];refine⟨⟨⟨⟨h.len,by rw[b,zBU];exact h.kind⟩,?_⟩,h.each⟩,?_⟩
  · rw[h.flat];exact zHP t
  · rw[h.flat,zGG];exact h.nest
theorem May.at_ (h:May ts t):At ts 0 t:=by rw[h.flat];exact At.whole t
theorem zIs (h:At ts n t):atN ts (n:Int)=t.laid n:=by
 unfold atN;rw[yAG,Int.toNat_natCast,h.get];rfl
theorem zKB:∀(ks:List Int) (l:List Nat),zBo ts l 0 ks=true→ks.length≤l.length:=by
 intro ks
 induction ks with
 | nil=>intro l _;simp
 | cons k r b=>
  intro l h;cases l with
  | nil=>
   unfold zBo at h;simp[zAj]at h
  | cons s l=>
   unfold zBo at h;rw[Bool.and_eq_true]at h;have:=b l h.2;simp only[List.length_cons];omega
theorem zRf (h:zCs ts x=true):(zy x.kind x.kids.length).1.length≤x.kids.length∧((zy x.kind x.kids.length).2=0→x.kids.length=(zy x.kind x.kids.length).1.length):=by
 unfold zCs at h;simp only[Bool.and_eq_true,decide_eq_true_eq]at h;obtain⟨⟨⟨_,h1⟩,b⟩,_⟩:=h;refine⟨h1,fun c=>Nat.le_antisymm ?_ h1⟩;rw[c]at b;exact zKB _ _ b
structure Cnt (k:Int) (n:Nat):Prop where
 one:k=3∨k=15∨k=40∨k=43∨k=52∨k=17∨k=18∨k=44∨k=45→n=1
 two:k=9∨k=46∨k=47∨k=53∨k=49→n=2
 opt:k=7∨k=14→n≤1
 three:k=16∨k=48→n=3
 if_:k=8→n=2∨n=3
 four:k=10→n=4
 some_:k=5∨k=6∨k=19∨k=41∨k=42∨k=50∨k=51→1≤n
 none_:k=2∨k=11∨k=12∨k=13∨k=20∨(30≤k∧k≤37)→n=0
theorem zFN (n last:Nat):(zBB n last).length=n - 1+1:=by simp[zBB]
theorem zRg (h:zCs ts x=true):Cnt x.kind x.kids.length:=by
 obtain⟨h1,b⟩:=zRf h;obtain⟨n,d⟩:=jx x.kids.length;obtain⟨k,hk⟩:=jx x.kind;rw[hk,d]at h1 b⊢;constructor
 · rintro(rfl | rfl | rfl | rfl | rfl | rfl | rfl | rfl | rfl)<;>exact b rfl
 · rintro(rfl | rfl | rfl | rfl | rfl)<;>exact b rfl
 · rintro(rfl | rfl)
   all_goals
    have:=b rfl;have e:([3].take (min n 1):List Nat).length≤1:=by rw[List.length_take];simp;omega
    exact yAD (Nat.le_of_eq this) e
 · rintro(rfl | rfl)<;>exact b rfl
 · rintro rfl;have c:=b rfl;have e:([3,2,2].take (min (max n 2) 3):List Nat).length=min (max n 2) 3:=by rw[List.length_take];simp
   have f:n=min (max n 2) 3:=c.trans e;omega
 · rintro rfl;exact b rfl
 · rintro(rfl | rfl | rfl | rfl | rfl | rfl | rfl)
   · exact h1
   · exact h1
   · have:n=(zBB n 8).length:=b rfl;rw[zFN]at this;omega
   · have:n=(zBB n 8).length:=b rfl;rw[zFN]at this;omega
   · have:n=(zBB n 13).length:=b rfl;rw[zFN]at this;omega
   · exact h1
   · exact h1
 · intro c;have e:zy k n=([],0):=by
    unfold zy;rw[jn,jn,jn,jn,jn,jn,jn,jn,jn,jn,jn,jn,jn,jn,jn,jn,jn,jn,jn]
   rw[e]at b;exact b rfl
theorem At.cnt (c:zBy ts 0 ts=true) (h:At ts n (.mk x l)):Cnt x.kind l.length:=by
 have h1:=(zKA ts 0 c n _ h.get).2.1;have b:=zRg h1;have e:((Tr.mk x l).laid n).kids.length=l.length:=zBg (n+1) l;rw[e]at b;exact b
theorem zCl (h:zN x=true) (g:∀y∈x.mag,y < 4294967296):Short x:=by
 unfold zN at h
 by_cases h1:4096 < x.name.length
 · rw[if_pos h1]at h;cases h
 rw[if_neg h1]at h
 by_cases j:(!(x.kind==32)&& !(x.kind==40)&& !x.str.isEmpty)=true
 · rw[if_pos j]at h;cases h
 rw[if_neg j]at h
 by_cases k:(!(x.kind==30)&& !(x.nk==0&&x.nn==0))=true
 · rw[if_pos k]at h;cases h
 rw[if_neg k]at h
 by_cases d:(!(x.kind==31)&&(x.neg || !x.mag.isEmpty))=true
 · rw[if_pos d]at h;cases h
 rw[if_neg d]at h;have hs:x.kind≠32∧x.kind≠40→x.str=[]:=by
  rintro⟨a,b⟩;have e:(x.kind==32)=false:=yA.2 a;have o:(x.kind==40)=false:=yA.2 b;rw[e,o]at j;simpa using j
 have l:x.kind≠30→x.nk=0∧x.nn=0:=by
  intro a;have e:(x.kind==30)=false:=yA.2 a;rw[e]at k;simpa using k
 have m:x.kind≠31→x.mag=[]:=by
  intro a;have e:(x.kind==31)=false:=yA.2 a;rw[e]at d;simp only[Bool.not_false,Bool.true_and,Bool.or_eq_true,Bool.not_eq_true',not_or,Bool.not_eq_true]at d;simpa using d.2
 by_cases k1:x.kind=32∨x.kind=40
 · rw[if_pos k1]at h;simp only[Bool.and_eq_true,decide_eq_true_eq]at h;exact⟨by omega,h.2,by rw[m jo];simp,g,by rw[(l jo).2];omega⟩
 rw[if_neg k1]at h;have f:x.str=[]:=hs jo
 by_cases k2:x.kind=30
 · rw[if_pos k2]at h;simp only[Bool.and_eq_true,decide_eq_true_eq,beq_iff_eq]at h;have c:=h.1.2;unfold zDa at c;rw[if_pos h.1.1.2]at c;simp only[Bool.and_eq_true,decide_eq_true_eq]at c;exact⟨by omega,by rw[f];simp,by rw[m jo];simp,g,c.2⟩
 rw[if_neg k2]at h
 by_cases k3:x.kind=31
 · rw[if_pos k3]at h;simp only[Bool.and_eq_true,decide_eq_true_eq]at h;have c:=h.1.2;unfold zBN at c;simp only[Bool.and_eq_true,decide_eq_true_eq]at c;exact⟨by omega,by rw[f];simp,c.1,g,by rw[(l k2).2];omega⟩
 · exact⟨by omega,by rw[f];simp,by rw[m k3];simp,g,by rw[(l k2).2];omega⟩
theorem Short.laid {ks:List Int} (h:Short {x with kids:=ks}):Short x:=⟨h.name,h.str,h.mag,h.limb,h.nn⟩
mutual
theorem shortT_flat (n:Nat) (t:Tr) (h:∀x∈flatT n t,Short x):ShortT t:=by
 cases t with
 | mk x l=>
  rw[zA7]at h;rw[zCA];exact⟨(h _ (List.mem_cons_self ..)).laid,shortL_flat (n+1) l fun y hy=>h y (List.mem_cons_of_mem _ hy)⟩
theorem shortL_flat (n:Nat) (l:List Tr) (h:∀x∈flatL n l,Short x):ShortL l:=by
 cases l with
 | nil=>rw[ShortL];trivial
 | cons t r=>
  rw[zAb]at h;rw[zES];exact⟨shortT_flat n t fun y hy=>h y (List.mem_append_left _ hy),shortL_flat (n+t.size) r fun y hy=>h y (List.mem_append_right _ hy)⟩
end
theorem zRh (b:zBy ts 0 ts=true) (c:x∈ts):zN x=true∧zCs ts x=true:=by
 obtain⟨n,d,rfl⟩:=List.getElem_of_mem c;have:=zKA ts 0 b n ts[n] (yAB d);exact⟨this.1,this.2.1⟩
theorem May.short (h:May ts t) (c:∀x∈ts,∀y∈x.mag,y < 4294967296):ShortT t:=by
 refine shortT_flat 0 t fun x b=>?_;rw[←h.flat]at b;exact zCl (zRh h.each b).1 (c x b)
theorem May.few (h:May ts t) (b:∀x∈ts,∀y∈x.mag,y < 4294967296):zBZ (prT t)≤122920960:=by
 have h1:=prT_len t (h.short b);have c:t.size=ts.length:=by rw[h.flat,flatT_len]
 have d:=h.len;omega
mutual
def dangT:Tr→Bool
 | .mk x l=>if x.kind=8∧l.length=2 then true else if x.kind=8∨x.kind=9∨x.kind=10∨x.kind=18 then dangL l else false
def dangL:List Tr→Bool
 | []=>false
 | t::r=>match r with | []=>dangT t | _::_=>dangL r
end
theorem zH4 (x:Nd) (l:List Tr):dangT (.mk x l)=if x.kind=8∧l.length=2 then true else if x.kind=8∨x.kind=9∨x.kind=10∨x.kind=18 then dangL l else false:=by rw[dangT]
theorem zOP:dangL []=false:=by rw[dangL]
theorem zOQ (t:Tr):dangL [t]=dangT t:=by rw[dangL]
theorem zOR (t s:Tr) (r:List Tr):dangL (t::s::r)=dangL (s::r):=by rw[dangL]
def zBv (l:List Tr):List Int:=l.map (·.nd.kind)
def zFp:List Nat→Nat→List Int→Bool
 | _,_,[]=>true
 | [],r,k::ks=>zAj r k&&zFp [] r ks
 | s::l,r,k::ks=>zAj s k&&zFp l r ks
def zXV (l:List Tr) (i:Nat):Int:=(zBv l).getD i 0
def zU9 (l:List Tr) (i:Nat):Bool:=match l[i]? with | none=>false | some t=>dangT t
def zDG (k:Int) (l:List Tr):Bool:=
 zCu k&&decide ((zy k l.length).1.length≤l.length)
 &&zFp (zy k l.length).1 (zy k l.length).2 (zBv l)
 &&(if k=16 then(zXV l 1==17 || zXV l 2==4)else if k=8∧l.length=3 then !(zU9 l 1)else true)
mutual
def goodT:Tr→Bool
 | .mk x l=>zN x&&zDG x.kind l&&goodL l
def goodL:List Tr→Bool
 | []=>true
 | t::r=>goodT t&&goodL r
end
theorem zLC (x:Nd) (l:List Tr):goodT (.mk x l)=(zN x&&zDG x.kind l&&goodL l):=by rw[goodT]
theorem zIt:goodL []=true:=by rw[goodL]
theorem zHT (t:Tr) (r:List Tr):goodL (t::r)=(goodT t&&goodL r):=by rw[goodL]
theorem zOS:goodL l=true↔∀t∈l,goodT t=true:=by
 induction l with
 | nil=>rw[zIt];simp
 | cons t r b=>rw[zHT,Bool.and_eq_true,b];simp
theorem zHU:∀(l:List Tr),dangL l=match l.getLast? with | none=>false | some t=>dangT t:=by
 intro l
 induction l with
 | nil=>rw[zOP];rfl
 | cons t r b=>
  cases r with
  | nil=>rw[zOQ];rfl
  | cons s r=>rw[zOR,b,List.getLast?_cons_cons]
theorem zKC:∀{ts:List Nd} {l:List Tr} {n:Nat} (_:AtL ts n l),(l=[]∧(zz n l).getLast? =none)∨∃(p:Nat) (t:Tr),(zz n l).getLast? =some (p:Int)∧l.getLast? =some t∧At ts p t∧t.size≤sizes l:=by
 intro ts l
 induction l with
 | nil=>intro n _;exact .inl ⟨rfl,rfl⟩
 | cons t r d=>
  intro n h;right;rcases d h.tail with⟨e,_⟩ | ⟨p,s,h1,c,f,g⟩
  · subst e;exact⟨n,t,rfl,rfl,h.head,by rw[zG];omega⟩
  · cases r with
    | nil=>cases c
    | cons s' b=>
     refine⟨p,s,?_,by rw[List.getLast?_cons_cons];exact c,f,by rw[zG];omega⟩;show((n:Int)::zz (n+t.size) (s'::b)).getLast? =_;rw[show zz (n+t.size) (s'::b)=((n+t.size:Nat):Int)::zz (n+t.size+s'.size) b from rfl]at h1⊢;rw[List.getLast?_cons_cons];exact h1
theorem zVA:∀(f:Nat) (n:Nat) (t:Tr),At ts n t→t.size≤f→zME f ts (n:Int)=dangT t:=by
 intro f
 induction f with
 | zero=>intro n t _ h;have:=zBG t;omega
 | succ f b=>
  intro n t h c;cases t with
  | mk x l=>
   rw[zh]at c;rw[zH4];unfold zME;have e1:(atN ts (n:Int)).kind=x.kind:=by rw[zIs h];rfl
   have e2:(atN ts (n:Int)).kids=zz (n+1) l:=by rw[zIs h];rfl
   rw[e1,e2,zBg];congr 1;congr 1;rw[zHU];rcases zKC h.subs with⟨d,h1⟩ | ⟨p,s,h1,e,g,j⟩
   · rw[h1,d];rfl
   · rw[h1,e];exact b p s g jo
theorem zOT (h:At ts n t):zDZ ts (n:Int)=dangT t:=zVA _ n t h (by have:=h.le;omega)
theorem zWk:∀(l:List Tr) (n:Nat) (s:List Nat) (r:Nat),AtL ts n l→zBo ts s r (zz n l)=zFp s r (zBv l):=by
 intro l
 induction l with
 | nil=>intro n s r _;cases s<;>rfl
 | cons t l b=>
  intro n s r h;have h1:(atN ts (n:Int)).kind=t.nd.kind:=by rw[zIs h.head,zBU]
  cases s with
  | nil=>
   show(zAj r (atN ts (n:Int)).kind&&zBo ts [] r (zz (n+t.size) l))=(zAj r t.nd.kind&&zFp [] r (zBv l));rw[h1,b _ _ _ h.tail]
  | cons a s=>
   show(zAj a (atN ts (n:Int)).kind&&zBo ts s r (zz (n+t.size) l))=(zAj a t.nd.kind&&zFp s r (zBv l));rw[h1,b _ _ _ h.tail]
theorem zRi:∀(ks:List Int) (l:List Nat),zFp l 0 ks=true→ks.length≤l.length:=by
 intro ks
 induction ks with
 | nil=>intro l _;simp
 | cons k r b=>
  intro l h;cases l with
  | nil=>
   unfold zFp at h;simp[zAj]at h
  | cons s l=>
   unfold zFp at h;rw[Bool.and_eq_true]at h;have:=b l h.2;simp only[List.length_cons];omega
theorem zET (h:AtL ts n l) {i:Nat} (hi:i < l.length):∃p:Nat,(zz n l).getD i 0=(p:Int)∧At ts p l[i]:=by
 obtain⟨p,h1,b,_⟩:=h.kid i hi;exact⟨p,by rw[yAG,h1];rfl,b⟩
theorem zOU {i:Nat} (hi:i < l.length):zXV l i=l[i].nd.kind:=by
 unfold zXV zBv;rw[yAG,List.getElem?_map,yAB hi];rfl
theorem zVB (h:At ts n (.mk x l)):zCs ts ((Tr.mk x l).laid n)=zDG x.kind l:=by
 have hk:((Tr.mk x l).laid n).kind=x.kind:=rfl;have hs:((Tr.mk x l).laid n).kids=zz (n+1) l:=rfl;unfold zCs zDG;rw[hk,hs,zBg,zWk l (n+1) _ _ h.subs]
 by_cases h1:decide ((zy x.kind l.length).1.length≤l.length)=true
 · rw[h1]
   by_cases c:zFp (zy x.kind l.length).1 (zy x.kind l.length).2 (zBv l)=true
   · rw[c];congr 1
     by_cases b:x.kind=16
     · rw[if_pos b,if_pos b];have g:l.length=3:=by
        rw[b]at h1 c;have f:3≤l.length:=of_decide_eq_true h1;have e:=zRi _ _ c;unfold zBv at e;rw[List.length_map]at e;exact Nat.le_antisymm e f
       obtain⟨p,e1,a1⟩:=zET h.subs (i:=1) jo;obtain⟨q,e2,a2⟩:=zET h.subs (i:=2) jo;rw[e1,e2,zIs a1,zIs a2,zBU,zBU,zOU jo,zOU jo]
     · rw[if_neg b,if_neg b]
       by_cases d:x.kind=8∧l.length=3
       · rw[if_pos d,if_pos d];obtain⟨p,e1,a1⟩:=zET h.subs (i:=1) jo;rw[e1,zOT a1];unfold zU9;rw[yAB jo]
       · rw[if_neg d,if_neg d]
   · rw[Bool.not_eq_true]at c;rw[c];simp
 · rw[Bool.not_eq_true]at h1;rw[h1];simp
theorem zRj (a b:List Nd) (n:Nat):zBy ts n (a++b)=(zBy ts n a&&zBy ts (n+a.length) b):=by
 induction a generalizing n with
 | nil=>simp[zBy]
 | cons x r c=>
  show(_&&zBy ts (n+1) (r++b))=_;rw[c];show _=((_&&zBy ts (n+1) r)&&zBy ts (n+(r.length+1)) b);rw[show n+1+r.length=n+(r.length+1) by omega];simp only[Bool.and_assoc]
theorem zIu (x:Nd) (ks:List Int):zN {x with kids:=ks}=zN x:=rfl
theorem zLD (s:Nat):zAj s 1=false:=by
 have f:∀{p:Prop} [Decidable p] {a b:Bool},a=false→b=false→(if p then a else b)=false:=fun h1 c=>by split<;>assumption
 unfold zAj
 repeat' refine f ?_ ?_
 all_goals rfl
theorem zRk:∀(ks:List Int) (s:List Nat) (r:Nat),zFp s r ks=true→∀k∈ks,k≠1:=by
 intro ks
 induction ks with
 | nil=>intro s r _ k hk;cases hk
 | cons a ks c=>
  intro s r h k hk;cases s with
  | nil=>
   unfold zFp at h;rw[Bool.and_eq_true]at h;rcases List.mem_cons.1 hk with rfl | hk
   · intro e;rw[e,zLD]at h;cases h.1
   · exact c _ _ h.2 k hk
  | cons b s=>
   unfold zFp at h;rw[Bool.and_eq_true]at h;rcases List.mem_cons.1 hk with rfl | hk
   · intro e;rw[e,zLD]at h;cases h.1
   · exact c _ _ h.2 k hk
mutual
theorem eachT {ts:List Nd} (n:Nat) (t:Tr) (h:At ts n t) (h1:n=0∨t.nd.kind≠1):zBy ts n (flatT n t)=goodT t:=by
 cases t with
 | mk x l=>
  rw[zA7,zLC];show(!(decide (0 < n)&&x.kind==1)&&zN {x with kids:=zz (n+1) l}&&zCs ts ((Tr.mk x l).laid n)&&zBy ts (n+1) (flatL (n+1) l))=_;have e:(decide (0 < n)&&x.kind==1)=false:=by
   rcases h1 with h1 | h1
   · subst h1;rfl
   · have:(x.kind==1)=false:=yA.2 h1;rw[this,Bool.and_false]
  rw[e,zIu,zVB h,Bool.not_false,Bool.true_and]
  by_cases h2:zDG x.kind l=true
  · rw[eachL (n+1) l h.subs jo (by
     unfold zDG at h2;simp only[Bool.and_eq_true]at h2;intro t ht;exact zRk _ _ _ h2.1.2 _ (List.mem_map_of_mem ht))]
  · rw[Bool.not_eq_true]at h2;rw[h2];simp
theorem eachL {ts:List Nd} (n:Nat) (l:List Tr) (h:AtL ts n l) (h0:0 < n) (h1:∀t∈l,t.nd.kind≠1):zBy ts n (flatL n l)=goodL l:=by
 cases l with
 | nil=>rw[zBC,zIt];rfl
 | cons t r=>
  rw[zAb,zHT,zRj,flatT_len,eachT n t h.head (.inr (h1 t (List.mem_cons_self ..))),eachL (n+t.size) r h.tail jo fun s hs=>h1 s (List.mem_cons_of_mem _ hs)]
end
structure Good (t:Tr):Prop where
 size:t.size≤4096
 kind:t.nd.kind=1
 good:goodT t=true
 nest:depT t≤48
theorem zRl:May (flatT 0 t) t↔Good t:=by
 have b:=eachT (ts:=flatT 0 t) 0 t (At.whole t) (.inl rfl);constructor
 · intro h;exact⟨by have:=h.len;rwa[flatT_len]at this,h.kind,by rw[←b];exact h.each,h.nest⟩
 · intro h;exact⟨rfl,by rw[flatT_len];exact h.size,by rw[b];exact h.good,h.nest,h.kind⟩
theorem zLE (h:May ts t):Good t:=by
 have e:=h.flat
 subst e;exact zRl.1 h
theorem zRm (r:Nat):∀ks:List Int,zFp [] r ks=ks.all (zAj r):=by
 intro ks
 induction ks with
 | nil=>rfl
 | cons k ks b=>
  show(zAj r k&&zFp [] r ks)=_;rw[b];rfl
def zOV:List Int:=[1,2,3,4,5,6,8,9,10,11,12,13,14,15,16,17,34,35,36,37,38,39,42,48,50,51,53]
theorem zDz {P:Tr→Prop}:∀t∈([]:List Tr),P t:=fun t h=>by cases h
theorem zIv {P:Tr→Prop} {a:Tr} (h:P a):∀t∈[a],P t:=fun t b=>by rw[List.mem_singleton.1 b];exact h
theorem zQ9 {P:Tr→Prop} {a b:Tr} (h:P a) (d:P b):∀t∈[a,b],P t:=fun t c=>by
 rcases List.mem_cons.1 c with rfl | c
 · exact h
 · exact zIv d t c
theorem zWl {P:Tr→Prop} {a b c:Tr} (h:P a) (e:P b) (f:P c):∀t∈[a,b,c],P t:=fun t d=>by
 rcases List.mem_cons.1 d with rfl | d
 · exact h
 · exact zQ9 e f t d
theorem zYz {P:Tr→Prop} {a b c d:Tr} (h:P a) (f:P b) (g:P c) (j:P d):∀t∈[a,b,c,d],P t:=fun t e=>by
 rcases List.mem_cons.1 e with rfl | e
 · exact h
 · exact zWl f g j t e
theorem zB5 {P:Tr→Prop} {a:Tr} (h:∀t∈l,P t) (c:P a):∀t∈l++[a],P t:=fun t d=>by
 rcases List.mem_append.1 d with b | b
 · exact h t b
 · exact zIv c t b
def zCg (s:List UInt8):Tok:=(zAY false (zV s)).2.1
theorem zIw:∀s∈zw,(zCg s).kind=5∧(zCg s).text=s:=by decide+kernel
theorem zIx:∀s∈zAF,(zCg s).kind=6∧(zCg s).text=s:=by decide+kernel
def Std (L:List Tok):Nat→Tks→Prop
 | i,[]=>i≤L.length - 1
 | i,s::r=>(zYt (zCg s) (zI L i)∧(zI L i).nl=false)∧Std L (i+1) r
section
variable {L:List Tok} {i:Nat} {a b:Tks} {s:List UInt8}
theorem Std.le:∀{a:Tks} {i:Nat},Std L i a→i+a.length≤L.length - 1:=by
 intro a
 induction a with
 | nil=>intro i h;exact h
 | cons s r b=>
  intro i h;have:=b h.2;simp only[List.length_cons];omega
theorem Std.right:∀{a:Tks} {i:Nat},Std L i (a++b)→Std L (i+a.length) b:=by
 intro a
 induction a with
 | nil=>intro i h;exact h
 | cons s r c=>
  intro i h;have:=c (i:=i+1) h.2;rw[List.length_cons,show i+(r.length+1)=i+1+r.length by omega];exact this
theorem Std.left:∀{a:Tks} {i:Nat},Std L i (a++b)→Std L i a:=by
 intro a
 induction a with
 | nil=>
  intro i h;have:=Std.le h;show i≤L.length - 1;simp only[List.nil_append]at this;omega
 | cons s r c=>exact fun h=>⟨h.1,c h.2⟩
theorem Std.lt (h:Std L i (s::b)):i < L.length - 1:=by
 have:=h.le;simp only[List.length_cons]at this;omega
theorem Std.nl (h:Std L i (s::b)):(zI L i).nl=false:=h.1.2
theorem Std.kind (h:Std L i (s::b)):(zI L i).kind=(zCg s).kind:=h.1.1.1.symm
theorem Std.text (h:Std L i (s::b)):(zI L i).text=(zCg s).text:=h.1.1.2.1.symm
theorem Std.sign (h:Std L i (s::b)) (hs:s∈zw):(zI L i).kind=5∧(zI L i).text=s:=⟨h.kind.trans (zIw s hs).1,h.text.trans (zIw s hs).2⟩
theorem Std.word (h:Std L i (s::b)) (hs:s∈zAF):(zI L i).kind=6∧(zI L i).text=s:=⟨h.kind.trans (zIx s hs).1,h.text.trans (zIx s hs).2⟩
theorem Std.is (h:Std L i (s::b)) (hs:s∈zw++zAF) (w:List UInt8):isT (zI L i) w=decide (s=w):=by
 unfold isT;rcases List.mem_append.1 hs with h1 | h1
 · obtain⟨g1,g2⟩:=h.sign h1;rw[g1,g2];simp
 · obtain⟨g1,g2⟩:=h.word h1;rw[g1,g2];simp
theorem zUZ {p:UInt16→Bool}:∀{l:List UInt16},l.all p=true→l.takeWhile p=l:=by
 intro l
 induction l with
 | nil=>intro _;rfl
 | cons x r b=>
  intro h;rw[List.all_cons,Bool.and_eq_true]at h;rw[List.takeWhile_cons_of_pos h.1,b h.2]
theorem zRn (s:List UInt8):asc (zV s)=s:=by
 induction s with
 | nil=>rfl
 | cons x r b=>
  show x.toUInt16.toUInt8::asc (zV r)=_;rw[b];simp
theorem zLF {s:List UInt8} (h:zF9 s=true):∃x r,zV s=x::r∧zAz x=true∧(x::r).all zAx=true:=by
 unfold zF9 at h;cases s with
 | nil=>cases h
 | cons x r=>
  simp only[Bool.and_eq_true]at h;refine⟨x.toUInt16,zV r,rfl,h.1,?_⟩;rw[List.all_cons];have h1:zAx x.toUInt16=true:=by unfold zAx;rw[h.1];rfl
  rw[h1,Bool.true_and];show(r.map _).all zAx=true;rw[List.all_map];exact h.2
theorem zLG (h:zF9 s=true):zCg s={zr with kind:=if 0 < zCN s then 6 else 1,text:=s}:=by
 obtain⟨x,r,h1,b,c⟩:=zLF h;unfold zCg;have d:(zAY false (x::r))=zCf (x::r):=by
  show(if zAz x=true then zCf (x::r)else _)=_;rw[if_pos b]
 rw[h1,d];unfold zCf;rw[zUZ c,←h1,zRn,List.drop_length];rfl
theorem zEo (h:zBn s=true):(zCg s).kind=1∧(zCg s).text=s:=by
 unfold zBn at h;rw[Bool.and_eq_true,beq_iff_eq]at h;rw[zLG h.1];simp[h.2]
theorem zRo (h:zF9 s=true):((zCg s).kind=1∨(zCg s).kind=6)∧(zCg s).text=s:=by
 rw[zLG h];refine⟨?_,rfl⟩;simp only;split
 · exact .inr rfl
 · exact .inl rfl
theorem Std.name (h:Std L i (s::b)) (hs:zBn s=true):(zI L i).kind=1∧(zI L i).text=s:=⟨h.kind.trans (zEo hs).1,h.text.trans (zEo hs).2⟩
end
mutual
def bareT:Tr→Tr
 | .mk x l=>.mk {x with kids:=[]} (bareL l)
def bareL:List Tr→List Tr
 | []=>[]
 | t::r=>bareT t::bareL r
end
theorem zCQ (x:Nd) (l:List Tr):bareT (.mk x l)=.mk {x with kids:=[]} (bareL l):=by rw[bareT]
theorem za:bareL []=[]:=by rw[bareL]
theorem zO (t:Tr) (r:List Tr):bareL (t::r)=bareT t::bareL r:=by rw[bareL]
theorem zGO (a b:List Tr):bareL (a++b)=bareL a++bareL b:=by
 induction a with
 | nil=>rw[za];rfl
 | cons t r c=>rw[List.cons_append,zO,zO,c];rfl
theorem zGP (t:Tr):(bareT t).nd.kind=t.nd.kind:=by cases t;rw[zCQ];rfl
theorem zCM (h:zN x=true) (h1:x.kind≠30) (b:x.kind≠31) (c:x.kind≠32) (d:x.kind≠40):({x with kids:=[]}:Nd)={zB9 with kind:=x.kind,name:=x.name}∧zCv x.kind x.name=true∧x.name.length≤4096:=by
 obtain⟨k,n,u,nk,nn,g,m,ks⟩:=x;simp only at h1 b c d;unfold zN at h;simp only at h;split at h
 · cases h
 split at h
 · cases h
 split at h
 · cases h
 split at h
 · cases h
 rename_i a0 a1 a2 a3
 have e:(k==32)=false:=yA.2 c;have f:(k==40)=false:=yA.2 d;have j:(k==30)=false:=yA.2 h1;have l:(k==31)=false:=yA.2 b;rw[e,f]at a1;rw[j]at a2;rw[l]at a3;simp at a1 a2 a3;obtain rfl:=a1;obtain⟨rfl,rfl⟩:=a2;obtain⟨rfl,rfl⟩:=a3;rw[jn]at h;exact⟨rfl,h,Nat.le_of_not_lt a0⟩
theorem zDO (h:zN x=true) (h1:x.kind≠30) (b:x.kind≠31) (c:x.kind≠32) (d:x.kind≠40):bareT (.mk x l)=trN x.kind x.name (bareL l):=by
 rw[zCQ,(zCM h h1 b c d).1];rfl
theorem zBh (h:zN x=true) (hk:x.kind∈zOV) (c:x.kind≠12∧x.kind≠13∧x.kind≠17):bareT (.mk x l)=trK x.kind (bareL l)∧x.name=[]:=by
 have e:∀k∈zOV,k≠12∧k≠13∧k≠17→k≠30∧k≠31∧k≠32∧k≠40∧zNp k=[]∧¬(k=7∨k=18∨k=19∨k=20∨k=33)∧¬(k=12∨k=13∨k=17∨k=41)∧k≠52:=by decide+kernel
 obtain⟨f,g,j,m,o,p,q,r⟩:=e _ hk c;have d:=zCM h f g j m;have b:=d.2.1;unfold zCv at b;rw[if_neg p,if_neg q,if_neg r,o,if_neg js]at b;have b:=of_decide_eq_true b;refine⟨?_,b⟩;rw[zCQ,d.1,b];rfl
def onW:List (List UInt8):=[[63],[63,63],[124,124],[38,38],[40],[46],[91],[61,62]]
structure EndC (t:Tok):Prop where
 binds:zBK t=9
 words:∀w∈onW,isT t w=false
 post:¬(t.kind=5∧t.text∈zDT∧t.nl=false)
structure End (t:Tok):Prop extends EndC t where
 asgn:t.kind=5→¬t.text∈zJ1
def zXW:List (List UInt8):=[[59],[125],[41],[93],[44],[58],[123],[101,108,115,101]]
theorem zDP {L:List Tok} {i:Nat} {s:List UInt8} {b:Tks} (h:Std L i (s::b)) (hs:s∈zXW):End (zI L i):=by
 have h1:∀s∈zXW,s∈zw++zAF∧(∀w∈onW,s≠w)∧s∉zDT∧s∉zJ1∧zEn s=9∧s≠[105,110]:=by decide+kernel
 obtain⟨g1,g2,d,e,f,k⟩:=h1 s hs;have c:(zI L i).text=s:=by
  rcases List.mem_append.1 g1 with g | g
  · exact(h.sign g).2
  · exact(h.word g).2
 refine⟨⟨?_,fun w j=>?_,?_⟩,fun _=>by rw[c];exact e⟩
 · unfold zBK;rw[c,f];split<;>rfl
 · rw[h.is g1];exact yAI (g2 w j)
 · rw[c];exact fun h=>d h.2.1
section
variable {L:List Tok} {i j:Nat} {y:Tr}
theorem zCZ {t:Tok} {w:List UInt8} {s:Ps} (h:isT t w=false) (e:zI L s.k=t):¬onP L w s=true:=by
 unfold onP;rw[e,h];decide
theorem zAm (i b f:Nat):zB ⟨i,b,f⟩=⟨i+1,b,f⟩:=rfl
abbrev pl (i:Nat):Ps:=⟨i,0,0⟩
def Rn (L:List Tok) (p:Ph) (i:Nat) (t:Tr) (j:Nat):Prop:=zE L p (pl i)=(t,pl j)
structure EndM (t:Tok):Prop where
 words:isT t [40]=false∧isT t [46]=false∧isT t [91]=false
theorem EndC.m {t:Tok} (h:EndC t):EndM t:=⟨h.words _ jd,h.words _ jd,h.words _ jd⟩
theorem zCy (c:Lst L) (d:j≤L.length - 1) (b:EndM (zI L j)):Rn L (.callsL y) j y j:=by
 unfold Rn;rw[zS c ⟨d,trivial⟩];unfold zD;dsimp only;rw[if_neg (zCZ b.words.1 rfl),if_neg (zCZ b.words.2.1 rfl),if_neg (zCZ b.words.2.2 rfl)]
theorem zGQ (b:Lst L) (hi:i≤L.length - 1) (h:Rn L .primary i y j) (h1:isT (zI L i) [110,101,119]=false):Rn L .head i y j:=by
 unfold Rn;rw[zS b ⟨hi,trivial⟩];unfold zD;dsimp only;rw[if_neg (zCZ h1 rfl)];exact h
theorem zEp (c:Lst L) (hi:i≤L.length - 1) {x:Tr} {k:Nat} (h:Rn L .head i x k) (b:Rn L (.callsL x) k y j):Rn L .calls i y j:=by
 unfold Rn at h b⊢;rw[zS c ⟨hi,trivial⟩];unfold zD;dsimp only;rw[h];exact b
def zOW (t:Tok):Prop:=¬((t.kind=5∨t.kind=6)∧t.text∈zHN)∧¬((t.kind=5∨t.kind=6)∧t.text∈zDT)
theorem zD0 (c:Lst L) (hi:i≤L.length - 1) (h:Rn L .calls i y j) (b:zOW (zI L i)) (d:¬((zI L j).kind=5∧(zI L j).text∈zDT∧(zI L j).nl=false)):Rn L .unary i y j:=by
 unfold Rn at h⊢;rw[zS c ⟨hi,trivial⟩];unfold zD;dsimp only;rw[if_neg b.1,if_neg b.2,h];dsimp only;rw[if_neg d]
theorem zHV (b:Lst L) (c:j≤L.length - 1) (d:n < 8) (e:zBK (zI L j)≠n):Rn L (.levelL n y) j y j:=by
 unfold Rn;rw[zS b ⟨c,d⟩];unfold zD;dsimp only;rw[if_neg e]
theorem zH5 (b:Lst L) (hi:i≤L.length - 1) (e:j≤L.length - 1):∀(d n:Nat),n+d≤8→Rn L (.level (n+d)) i y j→(∀m,n≤m→m < n+d→zBK (zI L j)≠m)→Rn L (.level n) i y j:=by
 intro d
 induction d with
 | zero=>intro n _ h _;exact h
 | succ d f=>
  intro n g h c;have h1:Rn L (.level (n+1)) i y j:=f (n+1) jo (by rw[show n+1+d=n+(d+1) by omega];exact h) (fun m h1 k=>c m jo jo);unfold Rn at h1⊢;rw[zS b ⟨hi,(by show n≤8;omega)⟩];unfold zD;dsimp only;rw[jn,h1];exact zHV b e jo (c n (yAC _) jo)
theorem zIy (b:Lst L) (hi:i≤L.length - 1) (h:Rn L .unary i y j):Rn L (.level 8) i y j:=by
 unfold Rn at h⊢;rw[zS b ⟨hi,(by show 8≤8;omega)⟩];unfold zD;dsimp only;rw[if_pos rfl];exact h
theorem zLH (b:Lst L) (hi:i≤L.length - 1) (c:j≤L.length - 1) (d:n≤8) (h:Rn L (.level n) i y j) (hb:zBK (zI L j)=9):Rn L (.level 0) i y j:=
 zH5 b hi c n 0 jo (by rw[Nat.zero_add];exact h) (fun m _ e=>by omega)
theorem zFy (b:Lst L) (c:j≤L.length - 1) (d:isT (zI L j) [38,38]=false):Rn L (.both y) j y j:=by
 unfold Rn;rw[zS b ⟨c,trivial⟩];unfold zD;dsimp only;rw[if_neg (zCZ d rfl)]
theorem zKD (b:Lst L) (c:j≤L.length - 1) (d:isT (zI L j) [124,124]=false):Rn L (.orL y) j y j:=by
 unfold Rn;rw[zS b ⟨c,trivial⟩];unfold zD;dsimp only;rw[if_neg (zCZ d rfl)]
theorem zEq (b:Lst L) (hi:i≤L.length - 1) (c:j≤L.length - 1) (h:Rn L (.level 0) i y j) (h1:isT (zI L j) [63,63]=false) (d:isT (zI L j) [38,38]=false) (e:isT (zI L j) [124,124]=false):Rn L .either i y j:=by
 have g1:=zFy (y:=y) b c d;have g2:=zKD (y:=y) b c e;unfold Rn at h g1 g2⊢;rw[zS b ⟨hi,trivial⟩];unfold zD;dsimp only;rw[h];dsimp only;rw[if_neg (zCZ h1 rfl),g1];dsimp only;rw[g2];dsimp only;rw[if_neg (zCZ h1 rfl)]
theorem zH6 (b:Lst L) (hi:i≤L.length - 1) (h:Rn L .either i y j) (h1:isT (zI L j) [63]=false):Rn L .cond i y j:=by
 unfold Rn at h⊢;rw[zS b ⟨hi,trivial⟩];unfold zD;dsimp only;rw[h];dsimp only;rw[if_neg (zCZ h1 rfl)]
def zOX (L:List Tok) (i:Nat):Prop:=¬((zI L i).kind=1∧isT (zI L (i+1)) [61,62]=true)∧¬zAg L (pl i)=true
theorem zEr (e:Lst L) (hi:i≤L.length - 1) (h:Rn L .cond i y j) (b:zOX L i) (f:(zI L j).kind=5→¬(zI L j).text∈zJ1):Rn L .assign i y j:=by
 unfold Rn at h⊢;rw[zS e ⟨hi,trivial⟩];unfold zD;dsimp only;rw[if_neg (fun c=>b.1 ⟨c.1,c.2.1⟩),if_neg b.2,h];dsimp only;rw[if_pos]
 by_cases d:(zI L j).kind=5
 · exact .inr (f d)
 · exact .inl d
theorem zCa (c:Lst L) (hi:i≤L.length - 1) (d:j≤L.length - 1) (h:Rn L .unary i y j) (b:End (zI L j)) (e:zOX L i):Rn L .assign i y j:=
 zEr c hi (zH6 c hi (zEq c hi d (zLH c hi d (yAC _) (zIy c hi h) b.binds) (b.words _ jd) (b.words _ jd) (b.words _ jd)) (b.words _ jd)) e b.asgn
end
open Go.RowKit
section
variable {P:Program} (w:World)
theorem zFO (base:Nat) (t j e:TypeId) (i:TypeInfo) (size:Nat) (d:P.underlying t=some (.slice e)) (hi:P.info? e=some i)
 (v:Value) (n:Nat) (xs:List Value) (b:w.ownsRow base e size v n xs) (c:Nat):(Builtin.append_ #[t,t] j #[v,.slice none 0 c]).run P w=.ok v w:=by
 rcases b.2 with⟨rfl,rfl⟩ | ⟨g,cap,k,rfl,_,_,f,_⟩
 · simp[Builtin.append_,run_underlying d,sizeOf,typeInfo,hi,Builtin.lenOf,Builtin.firstCells]
 · simp[Builtin.append_,run_underlying d,sizeOf,typeInfo,hi,Builtin.lenOf,Builtin.firstCells,f,storeCells]
theorem zG5 (base:Nat) (t q e:TypeId) (i:TypeInfo) (z:Value) (size bytes:Nat) (C:P.underlying t=some (.slice e)) (hi:P.info? e=some i) (I:i.zero=some z)
 (o:i.size=size) (D:i.bytes=bytes) (E:z.cells.size=size) (F:0 < size)
 (v:Value) (n:Nat) (xs:List Value) (d:w.ownsRow base e size v n xs)
 (B:Nat) (A:Option Addr) (m c:Nat) (b:List Value) (g:Reads w B size A m b) (h1:∀u∈b,u.oneCell'=true)
 (G:n+m≤maxLen) (k:(n+m)*bytes≤140737488355328) (p:base≤w.heap.size):
 ∃v' w',(Builtin.append_ #[t,t] q #[v,.slice A m c]).run P w=.ok v' w'∧w'.ownsRow base e size v' (n+m) (xs++b)∧w.grownBy w' v.ownBlock∧
  (v'.ownBlock=v.ownBlock∨v'.ownBlock=some w.heap.size):=by
 rcases A with _ | r
 · have J:m=0:=by
    rcases Nat.eq_zero_or_pos m with f | f
    · exact f
    · obtain⟨r,h,_⟩:=g.2 f;cases h
   subst J;have s:b=[]:=List.eq_nil_of_length_eq_zero (by simpa using g.1);subst s;exact⟨v,w,zFO w base t q e i size C hi v n xs d c,by simpa using d,World.grownBy.refl w _,.inl rfl⟩
 · have l:∀j u,b[j]? =some u→w.cell? (r.add j)=some u:=by
    intro j u H;rcases Nat.eq_zero_or_pos m with f | f
    · subst f;have s:b=[]:=List.eq_nil_of_length_eq_zero (by simpa using g.1);subst s;simp at H
    · obtain⟨Q,h,_,L⟩:=g.2 f;injection h with h;subst h;exact L j u H
   obtain⟨v',w',y,M,N,_,O⟩:=run_append_own_at (P:=P) w base t q e i z size bytes C hi I o D E F v n xs d r m c b g.1 l h1 G k p;exact⟨v',w',y,M,N,O⟩
end
theorem Made.empty (w:World) (e:TypeId):Made w (w.alloc (.cells #[] e)) e (.slice (some ⟨w.heap.size,0,none⟩) 0 0) []:=
 ⟨World.ownsRow_made w #[] 0 (yAC _) (yAE _) rfl,ja⟩
theorem Made.lit (w:World) (e:TypeId) (cs:List Value) (h:cs.length≤maxLen):Made w (w.alloc (.cells cs.toArray e)) e (.slice (some ⟨w.heap.size,0,none⟩) cs.length cs.length) cs:=
 ⟨⟨by simp,.inr ⟨w.heap.size,cs.length,cs.toArray,rfl,yAC _,heap_alloc_new w _,yAC _,h,by simp,by simp⟩⟩,ja⟩
theorem zCz (x:UInt16) (w:World):Calls prog 126 #[.int .u16 (x.toNat:Int)] w fun e w'=>e=.returned (.bool (zK x))∧w=w':=by
 have h1:=x.toNat_lt;go_enter func126,ntmps126;go_wp2
 all_goals go_ret
 all_goals refine⟨zJ ?_,rfl⟩
 all_goals (rw[Bool.eq_iff_iff];simp only[zK,Bool.and_eq_true,decide_eq_true_eq,Bool.false_eq_true,false_iff];omega)
theorem zEs (x:UInt16) (w:World):Calls prog 121 #[.int .u16 (x.toNat:Int)] w fun e w'=>e=.returned (.bool (zAs x))∧w=w':=by
 have h1:=x.toNat_lt;go_enter func121,ntmps121;go_wp2
 all_goals go_ret
 all_goals refine⟨zJ ?_,rfl⟩
 all_goals (rw[Bool.eq_iff_iff];simp[zAs];omega)
theorem zVC (w:World):Calls prog 128 #[.agg #[.int .i64 2,.int .i64 0]] w fun e w'=>e=.returned (.agg #[.int .i64 2,.int .i64 0])∧Below w.heap.size w w':=by
 go_enter func128,ntmps128;go_wp2
 go_returns
 exact⟨rfl,by go_grown⟩
theorem zVD (w:World):Calls prog 128 #[.agg #[.int .i64 3,.int .i64 0]] w fun e w'=>e=.returned (.agg #[.int .i64 4,.int .i64 0])∧Below w.heap.size w w':=by
 go_enter func128,ntmps128;go_wp2
 go_returns
 exact⟨rfl,by go_grown⟩
theorem zMQ (w:World):Calls prog 128 #[.agg #[.int .i64 0,.int .i64 0]] w fun e w'=>e=.returned (.agg #[.int .i64 1,.int .i64 0])∧Below w.heap.size w w':=by
 go_enter func128,ntmps128;go_wp2
 go_returns
 exact⟨rfl,by go_grown⟩
theorem zOY (n:Int) (b:0 < n) (h1:n≤9007199254740991) (w:World):Calls prog 128 #[.agg #[.int .i64 0,.int .i64 n]] w fun e w'=>e=.returned (.agg #[.int .i64 0,.int .i64 (-n)])∧Below w.heap.size w w':=by
 have e0:(n==0)=false:=yA.2 jo;have e1:(-9007199254740991:Int)≤n:=by omega
 go_enter func128,ntmps128;go_wp2
 go_returns
 exact⟨rfl,by go_grown⟩
theorem Reads.spot {w:World} {l:List UInt8} (h:Reads w B 1 A n (u8s l)) (g:0 < l.length):
 ∃b off,A=some ⟨b,off,none⟩∧∀j,j < l.length→w.cell? ⟨b,off+j,none⟩=some (.int .u8 ((l.getD j 0).toNat:Int)):=by
 have k:l.length=n:=by have:=h.1;simpa [u8s]using this
 obtain⟨c,e,hb,d⟩:=h.2 jo;have hs:c.spot=none:=by
  have h1:=d 0 (u8v l[0]) (by rw[u8s,List.getElem?_map,yAB g];rfl);cases hsp:c.spot with
  | none=>rfl
  | some s=>
   exfalso;simp only[Addr.add,if_true,World.cell?,hsp]at h1;split at h1
   · simp at h1
   · cases h1
 obtain⟨b,off,m⟩:=c;simp only at hs;subst hs;refine⟨b,off,e,fun j f=>?_⟩;have h1:=d j (u8v l[j]) (by rw[u8s,List.getElem?_map,yAB f];rfl);rw[Addr.add_lit]at h1;rw[h1];simp[u8v,List.getD,f]
theorem zEU {w:World} {c:Nat} {l:List UInt8} (h:Reads w B 1 A n (u8s l)):
 (convert 115 9 (.slice A n c)).run prog w=.ok (.string ⟨l.toArray⟩) w:=by
 have d:l.length=n:=by have:=h.1;simpa [u8s]using this
 rcases Nat.eq_zero_or_pos l.length with f | f
 · have g:l=[]:=List.eq_nil_of_length_eq_zero f;subst g;have j:n=0:=d.symm;subst j;clear d h;rw[run_convert_bytes_string w _ _ 5 A 0 c underlying115 underlying5 underlying9];cases A with
   | none=>rfl
   | some a=>exact run_bytesToString w a 0 c [] rfl
 · obtain⟨b,off,rfl,k⟩:=h.spot f;rw[run_convert_bytes_arg w _ 5 underlying115 underlying5 b off n c (l.map fun x=>(x.toNat:Int)) (by simpa using d) (fun i hi=>by rw[k i jo];simp[List.getD,show i < l.length by omega]) _ underlying9];congr 3;simp only[strOfNums,List.map_map];congr 1;have e:((fun n:Int=>UInt8.ofNat n.toNat)∘fun x:UInt8=>(x.toNat:Int))=id:=by
    funext x;simp
   rw[e,List.map_id]
def zCI (u:List UInt16):Bool:=u.all fun x=>decide (x.toNat≤127)
def zGR (u:List UInt16):ByteArray:=if zCI u then⟨(u.map (·.toUInt8)).toArray⟩else .empty
theorem zUa {s t:ByteArray} {a b:Bool} (h:s=t) (c:a=b):Ending.returned (.tuple #[.string s,.bool a])=.returned (.tuple #[.string t,.bool b]):=by rw[h,c]
theorem zMR (u:List UInt16) (k:Nat) (h:k < u.length):u8s ((u.take (k+1)).map (·.toUInt8))=u8s ((u.take k).map (·.toUInt8))++[u8v u[k].toUInt8]:=by
 rw[yAK h,List.map_append,u8s,List.map_append];rfl
theorem zMS {x:UInt16} (h:x.toNat≤127):u8v x.toUInt8=.int .u8 (x.toNat:Int):=by
 unfold u8v;congr 1;simp;omega
theorem zOZ {c:Nat} {xs:List UInt16} {w:World} (hB:B≤w.heap.size) (t:Reads w B 1 A xs.length (zAI xs)) (G:xs.length≤70368744177664):
 Calls prog 102 #[.slice A xs.length c] w fun e w'=>e=.returned (.tuple #[.string (zGR xs),.bool (zCI xs)])∧Below w.heap.size w w':=by
 obtain⟨u,l,m,o,p⟩:=info_parts Tryz.info_u8;go_enter func102,ntmps102;go_wp2
 go_loopw [4,9] (fun v i wr=>∃k:Nat,k≤xs.length∧i=.int .i64 k∧Hid (zCI (xs.take k)=true)∧Made w wr 5 v (u8s ((xs.take k).map (·.toUInt8)))) (fun _ i _=>xs.length - (intOf i).toNat)
 case atStart=>exact⟨0,yAE _,rfl,rfl,Made.nil _ _⟩
 case round=>
  obtain⟨k,hk,rfl,b,d⟩:=hrel
  by_cases f:k < xs.length
  · obtain⟨H,y,_,F⟩:=(t.below (d.below.mono hB)).u16 f;subst y;have I:(k:Int) < (xs.length:Int):=by omega
    have z:(u8s ((xs.take k).map (·.toUInt8))).length≤k:=by simp[u8s];omega
    have J:=xs[k].toNat_lt
    by_cases j:xs[k].toNat≤127
    · have C:=zA (zMS j);have D:=zA (zMR xs k f);have g:Hid (zCI (xs.take (k+1))=true):=by
       rw[yAK f,zCI,List.all_append];have:=b.out;rw[zCI]at this;rw[this];simp[j,Hid]
      go_wp2_with (at_builtin;refine zDv rfl _ _ 115 rfl 5 u _ 1 underlying115 l m o p rfl _ _ rfl d _ 1 1 rfl rfl rfl jo jo ?_;intro v' w' q)
      go_roundw
      case rel=>exact⟨k+1,by omega,by go_num,g,q.cells (by rw[D.out,C.out])⟩
      case measure=>simp[intOf];omega
    · have g:Hid (zCI xs=false):=List.all_eq_false.2 ⟨xs[k],List.getElem_mem _,by simpa using j⟩;go_wp2
      go_ret2
      exact⟨zUa (by rw[zGR,g.out];rfl) g.out.symm,d.below⟩
  · have r:xs.take k=xs:=List.take_of_length_le jo;rw[r]at b d;obtain⟨L,E,rfl,_,_,s⟩:=d.u8;rw[List.length_map]at s⊢;have hs:=zEU (c:=E) s;go_wp2
    go_ret2
    exact⟨zUa (by rw[zGR,b.out];rfl) b.out.symm,d.below⟩
theorem zCb (a b:List UInt8):zV (a++b)=zV a++zV b:=by simp[zV]
theorem zGS (a:List UInt8):(zV a).length=a.length:=by simp[zV]
theorem zDg (h:n < 256):zV [chr n]=[UInt16.ofNat n]:=by
 simp only[zV,List.map_cons,List.map_nil,List.cons.injEq,and_true];refine UInt16.toNat_inj.1 ?_;have h1:=zNs h;simp[h1];omega
theorem zDh {x:UInt16} (h:zK x=true):zAs x=false:=by
 have:=zA3.1 h;simp[zAs];omega
theorem zHW (h:∀x∈u,zAs x=false):u.dropWhile zAs=u:=by
 cases u with
 | nil=>rfl
 | cons x r=>simp[List.dropWhile,h x js]
theorem zHX (h:∀x∈u,zAs x=false):zNq u=u:=by
 unfold zNq zF8;rw[zHW h,zHW (fun x b=>h x (by simpa using b)),List.reverse_reverse]
theorem zMT (f:0 < u.length) (d:∀x∈u,zK x=true) (j:zx u≤9007199254740991):zNr u=(⟨0,zx u⟩,true):=by
 have b:=zA3.1 (d _ (List.getElem_mem f));have c:u≠[]:=List.ne_nil_of_length_pos f;obtain⟨x,r,rfl⟩:=List.exists_cons_of_ne_nil c;simp only[List.getElem_cons_zero]at b;have hs:zCX (x::r)=false:=by
  simp only[zCX,List.headD_cons,yA];rintro rfl;simp at b
 have k:zAX (x::r)=x::r:=by
  unfold zAX;rw[if_neg];simp only[List.headD_cons];rintro(rfl | rfl)<;>simp at b
 have hi:x::r≠zBW:=by
  intro h;have g:x=73:=by injection h
  rw[g]at b;simp at b
 unfold zNr;rw[zHX (fun x b=>zDh (d x b))];unfold zRC;rw[if_neg c,hs];unfold zFG;have e:=List.all_eq_true.2 d;simp only[k,hi,j,e,ne_eq,c,not_false_eq_true,and_self,if_true,if_false,Bool.false_eq_true]
theorem zH7 (n:Nat):0 < (zBR n).length:=by
 by_cases h:n < 10
 · rw[zCY h];simp
 · rw[zDE h];simp
theorem zLI (n:Nat):∀x∈zV (zBR n),zK x=true:=by
 induction n using Nat.strongRecOn with
 | _ n d=>
  have c:∀m,m < 10→zK (UInt16.ofNat (48+m))=true:=by
   intro m e;rw[zA3];simp;omega
  by_cases h:n < 10
  · rw[zCY h,zDg jo];intro x b;rw[List.mem_singleton]at b;subst b;exact c n h
  · rw[zDE h,zCb,zDg jo];intro x b;rcases List.mem_append.1 b with b | b
    · exact d (n / 10) jo x b
    · rw[List.mem_singleton]at b;subst b;exact c _ jo
theorem zFz (n:Nat):zx (zV (zBR n))=n:=by
 induction n using Nat.strongRecOn with
 | _ n c=>
  have b:∀m,m < 10→(UInt16.ofNat (48+m)).toNat - 48=m:=by
   intro m d;simp;omega
  by_cases h:n < 10
  · rw[zCY h,zDg jo];show 10*0+((UInt16.ofNat (48+n)).toNat - 48)=n;rw[b n h];omega
  · rw[zDE h,zCb,zDg jo,zEO,c (n / 10) jo,b _ jo];omega
theorem zOa (n:Nat):∀h:0 < (zV (zBR n)).length,1 < (zV (zBR n)).length→(zV (zBR n))[0]≠48:=by
 induction n using Nat.strongRecOn with
 | _ n c=>
  by_cases h:n < 10
  · intro _ h1;rw[zCY h]at h1;simp[zV]at h1
  · intro f _;have b:0 < (zV (zBR (n / 10))).length:=by rw[zGS];exact zH7 _
    have e:(zV (zBR n))[0]=(zV (zBR (n / 10)))[0]:=by
     have:zV (zBR n)=zV (zBR (n / 10))++zV [chr (48+n % 10)]:=by rw[zDE h,zCb]
     rw[List.getElem_of_eq this];exact List.getElem_append_left b
    rw[e]
    by_cases h1:n / 10 < 10
    · have e2:zV (zBR (n / 10))=[UInt16.ofNat (48+n / 10)]:=by rw[zCY h1,zDg jo]
      rw[List.getElem_of_eq e2];simp only[List.getElem_cons_zero];intro d;have:=congrArg UInt16.toNat d;simp at this;omega
    · refine c (n / 10) jo b ?_;rw[zDE h1,zCb,List.length_append,zGS];have:=zH7 (n / 10 / 10);simp[zV];omega
theorem zKE {k:Nat}:∀{n:Nat},n < 10^(k+1)→(zBR n).length≤k+1:=by
 induction k with
 | zero=>intro n h;rw[zCY (by simpa using h)];simp
 | succ k b=>
  intro n h
  by_cases h1:n < 10
  · rw[zCY h1];simp
  · rw[zDE h1];have:=@b (n / 10) (by rw[Nat.pow_succ]at h;omega);simp;omega
def zAh:List Nat→List Nat
 | []=>[]
 | x::r=>if zAh r=[]∧x=0 then []else x::zAh r
theorem zMU (l:List Nat):zAh (l++[0])=zAh l:=by
 induction l with
 | nil=>rfl
 | cons x r b=>rw[List.cons_append,zAh,zAh,b]
theorem zFP {x:Nat} (h:x≠0) (l:List Nat):zAh (l++[x])=l++[x]:=by
 induction l with
 | nil=>simp[zAh,h]
 | cons y r b=>rw[List.cons_append,zAh,b,if_neg js]
theorem zD1 (l:List Nat):zAh l=l.take (zAh l).length:=by
 induction l with
 | nil=>rfl
 | cons x r b=>
  by_cases h:zAh r=[]∧x=0
  · simp[zAh,h]
  · rw[zAh,if_neg h,List.length_cons,List.take_succ_cons,←b]
theorem zIz (l:List Nat):(zAh l).length≤l.length:=by
 have:=congrArg List.length (zD1 l);rw[List.length_take]at this;omega
def zB1:List Nat→Nat
 | []=>0
 | x::r=>x+4294967296*zB1 r
theorem zRp (l r:List Nat):zB1 (l++r)=zB1 l+4294967296^l.length*zB1 r:=by
 induction l with
 | nil=>simp[zB1]
 | cons x l b=>
  rw[List.cons_append,zB1,zB1,b,List.length_cons,Nat.pow_succ,Nat.mul_add,Nat.mul_comm (4294967296^l.length) 4294967296,Nat.mul_assoc];omega
theorem zDi {l:List Nat}:zAh l=[]↔zB1 l=0:=by
 induction l with
 | nil=>simp[zAh,zB1]
 | cons x r b=>
  rw[zAh,zB1]
  by_cases h:zAh r=[]∧x=0
  · rw[if_pos h];have:=b.1 h.1;simp[this,h.2]
  · rw[if_neg h];constructor
    · intro c;cases c
    · intro c;exact absurd ⟨b.2 jo,by omega⟩ h
theorem zDj:∀(f:Nat) (l:List Nat),l.length≤f→(∀x∈l,x < 4294967296)→zAh l=zBI f (zB1 l):=by
 intro f
 induction f with
 | zero=>
  intro l b _;have:l=[]:=List.eq_nil_of_length_eq_zero jo;subst this;rfl
 | succ f d=>
  intro l b c;cases l with
  | nil=>rfl
  | cons x r=>
   have h1:=c x js;have e:=d r (by simp at b;omega) (fun y g=>c y (by simp[g]));rw[zBI,zAh]
   by_cases h:zAh r=[]∧x=0
   · rw[if_pos h,if_pos (by rw[zB1,zDi.1 h.1,h.2])]
   · have hv:zB1 (x::r)≠0:=fun j=>h (by
      rw[zB1]at j;exact⟨zDi.2 jo,by omega⟩)
     rw[if_neg h,if_neg hv,zB1,e];congr 1
     · omega
     · congr 1;omega
theorem zOb:∀(k f v:Nat),v < 4294967296^k→(zBI f v).length≤k:=by
 intro k
 induction k with
 | zero=>
  intro f v hv;have:v=0:=by simpa using hv
  subst this;cases f<;>simp[zBI]
 | succ k b=>
  intro f v hv;cases f with
  | zero=>simp[zBI]
  | succ f=>
   rw[zBI]
   by_cases h:v=0
   · rw[if_pos h];simp
   · rw[if_neg h,List.length_cons];have:=b f (v / 4294967296) (Nat.div_lt_of_lt_mul (by rw[Nat.pow_succ,Nat.mul_comm]at hv;exact hv));omega
theorem zOc:∀(k f v:Nat),k < f→4294967296^k≤v→k < (zBI f v).length:=by
 intro k
 induction k with
 | zero=>
  intro f v b hv;obtain⟨f,rfl⟩:∃m,f=m+1:=⟨f - 1,by omega⟩;have d:1≤v:=hv;rw[zBI,jn];simp
 | succ k c=>
  intro f v b hv;obtain⟨f,rfl⟩:∃m,f=m+1:=⟨f - 1,by omega⟩;have h1:4294967296^k≤v / 4294967296:=(Nat.le_div_iff_mul_le jo).2 (by rw[←Nat.pow_succ];exact hv);have e:0 < 4294967296^k:=Nat.pow_pos jo;rw[zBI,if_neg (by intro h;subst h;simp at h1),List.length_cons];have:=c f _ jo h1;omega
theorem zOd:∀(f v:Nat),∀x∈zBI f v,x < 4294967296:=by
 intro f
 induction f with
 | zero=>intro v x b;simp[zBI]at b
 | succ f c=>
  intro v x b;rw[zBI]at b;split at b
  · simp at b
  · rcases List.mem_cons.1 b with h | h
    · rw[h];exact Nat.mod_lt _ jo
    · exact c _ x h
theorem zHY:∀(f v:Nat),v < 4294967296^f→zB1 (zBI f v)=v:=by
 intro f
 induction f with
 | zero=>intro v hv;simp at hv;subst hv;rfl
 | succ f b=>
  intro v hv;rw[zBI]
  by_cases h:v=0
  · rw[if_pos h,h];rfl
  · rw[if_neg h,zB1,b _ (Nat.div_lt_of_lt_mul (by rw[Nat.pow_succ,Nat.mul_comm]at hv;exact hv))];exact Nat.mod_add_div _ _
def zCc:List Nat→Nat→List Nat×Nat
 | [],c=>([],c)
 | x::r,c=>((c+10*x) % 4294967296::(zCc r ((c+10*x) / 4294967296)).1,(zCc r ((c+10*x) / 4294967296)).2)
theorem zI0:∀(l:List Nat) (c:Nat),(zCc l c).1.length=l.length:=by
 intro l
 induction l with
 | nil=>intro c;rfl
 | cons x r b=>intro c;simp[zCc,b]
theorem zRq:∀(l:List Nat) (c:Nat),∀x∈(zCc l c).1,x < 4294967296:=by
 intro l
 induction l with
 | nil=>intro c x b;simp[zCc]at b
 | cons y r d=>
  intro c x b;rw[zCc]at b;rcases List.mem_cons.1 b with h | h
  · rw[h];exact Nat.mod_lt _ jo
  · exact d _ x h
theorem zOe:∀(l:List Nat) (c:Nat),zB1 (zCc l c).1+4294967296^l.length*(zCc l c).2=10*zB1 l+c:=by
 intro l
 induction l with
 | nil=>intro c;simp[zCc,zB1]
 | cons x r b=>
  intro c;have h:=b ((c+10*x) / 4294967296);have d:=Nat.mod_add_div (c+10*x) 4294967296;simp only[zCc,zB1,List.length_cons];rw[Nat.pow_succ,Nat.mul_comm (4294967296^r.length) 4294967296,Nat.mul_assoc];omega
theorem zKF:∀(l:List Nat) (c:Nat),c≤9→(∀x∈l,x < 4294967296)→(zCc l c).2≤9:=by
 intro l
 induction l with
 | nil=>intro c b _;exact b
 | cons x r e=>
  intro c b d;have:=d x js;exact e _ jo (fun y f=>d y (by simp[f]))
theorem zRr:zGA=4294967296^8:=rfl
theorem zEt (h:v < zGA):(limbs v).length≤8:=zOb 8 9 v h
theorem zRs (h:zGA≤v):8 < (limbs v).length:=zOc 8 9 v jo h
theorem zF0 (v:Nat):∀x∈limbs v,x < 4294967296:=zOd 9 v
theorem zWm (h:v < zGA):v < 4294967296^9:=yAA h (by rw[zRr];exact Nat.pow_le_pow_right jo jo)
theorem zMV {d:Nat} (h:v < zGA) (c:d≤9):zAh ((zCc (limbs v) d).1++[(zCc (limbs v) d).2])=limbs (10*v+d):=by
 have f:=zKF (limbs v) d c (zF0 v);have hv:=zOe (limbs v) d;have h1:zB1 (limbs v)=v:=zHY 9 v (zWm h);rw[zDj 9 _ (by rw[List.length_append,zI0];have:=zEt h;simp;omega) (by
  intro x e;rcases List.mem_append.1 e with b | b
  · exact zRq _ _ x b
  · simp at b;omega)]
 rw[zRp,zI0,show zB1 [(zCc (limbs v) d).2]=(zCc (limbs v) d).2 by simp[zB1],hv,h1];rfl
theorem zMW (h:v < zGA):zAh (limbs v)=limbs v:=by
 rw[zDj 9 _ (by have:=zEt h;omega) (zF0 v),show zB1 (limbs v)=v from zHY 9 v (zWm h)];rfl
theorem zOf {x:UInt16} (h:zK x=true):zAz x=false:=by
 have h:=zA3.1 h;unfold zAz;have e1:¬97≤x.toNat:=by omega
 have e2:¬65≤x.toNat:=by omega
 have e3:¬x.toNat=95:=by omega
 have e4:¬x.toNat=36:=by omega
 simp[e1,e2,e3,e4]
theorem zEu (n:Nat):∃x r,zV (zBR n)=x::r∧zK x=true:=by
 have h:=zH7 n;have b:=zLI n;cases hq:zV (zBR n)with
 | nil=>rw[←zGS,hq]at h;simp at h
 | cons x r=>exact⟨x,r,rfl,b x (by rw[hq];simp)⟩
theorem zWn {p:UInt16→Bool}:∀{l r:List UInt16},(∀x∈l,p x=true)→(∀x q,r=x::q→p x=false)→(l++r).takeWhile p=l:=by
 intro l
 induction l with
 | nil=>
  intro r _ b;cases r with
  | nil=>rfl
  | cons x q=>rw[List.nil_append,List.takeWhile_cons_of_neg (by rw[b x q rfl];decide)]
 | cons y l d=>
  intro r c b;rw[List.cons_append,List.takeWhile_cons_of_pos (c y js),d (fun z e=>c z (by simp[e])) b]
theorem zD2 (n:Nat) (r:List UInt16) (c:∀x q,r=x::q→zK x=false):zAY false (zV (zBR n)++r)=zBu (zV (zBR n)) r:=by
 obtain⟨x,q,e,b⟩:=zEu n;have h1:zAY false (zV (zBR n)++r)=zBe (zV (zBR n)++r):=by
  rw[e,List.cons_append];show(if zAz x=true then zCf (x::(q++r))else if zK x=true then zBe (x::(q++r))else _)=_;rw[if_neg (by rw[zOf b];decide),if_pos b]
 rw[h1];unfold zBe;rw[zWn (zLI n) c,List.drop_left]
theorem zD3 (n:Nat):(zBF 0 (fun x=>x.toNat==48) (zV (zBR n))&& !decide (zV (zBR n)=[48]))=false:=by
 have h:=zOa n;obtain⟨x,q,e,b⟩:=zEu n;rw[e]at h⊢;cases q with
 | nil=>
  by_cases b:x=48
  · subst b;rfl
  · have:¬x.toNat=48:=fun h=>b (UInt16.toNat_inj.1 h);simp[zBF,this]
 | cons y q=>
  have c:=h js js;have:¬x.toNat=48:=fun h=>c (UInt16.toNat_inj.1 h);simp[zBF,this]
theorem zRt (h:n≤9007199254740991):zCg (zBR n)={zr with kind:=2,nn:=(n:Int)}:=by
 unfold zCg;have h1:=zD2 n [] (fun x q h=>by cases h);rw[List.append_nil]at h1;rw[h1];unfold zBu;rw[zD3,ji,if_neg (by rw[show zq [110] []=false from rfl];decide),if_neg (by unfold zBF;simp),if_neg (by unfold zBF;simp),zFz,jn]
theorem zWo (m:List Nat):zEQ m=zB1 m:=by
 induction m with
 | nil=>rfl
 | cons x r b=>show x+4294967296*zEQ r=x+4294967296*zB1 r;rw[b]
theorem zVE:∀(m:List Nat),(∀y∈m,y < 4294967296)→zB1 m < 4294967296^m.length:=by
 intro m
 induction m with
 | nil=>intro _;decide
 | cons x r b=>
  intro h;have h1:=b fun y c=>h y (by simp[c]);have d:=h x js;rw[zB1,List.length_cons,Nat.pow_succ];omega
theorem zI1 {m:List Nat} (h:zBN false m=true) (c:∀y∈m,y < 4294967296):limbs (zEQ m)=m∧zEQ m < zGA:=by
 unfold zBN at h;rw[Bool.and_eq_true,decide_eq_true_eq]at h;rw[zWo];refine⟨?_,?_⟩
 · unfold limbs;rw[←zDj 9 m jo c];rcases List.eq_nil_or_concat m with rfl | ⟨l,x,rfl⟩
   · rfl
   · rw[List.concat_eq_append]at h⊢;have b:=h.2;rw[List.getLast?_append]at b;exact zFP (by simpa using b) l
 · have h1:=zVE m c;have b:4294967296^m.length≤4294967296^8:=Nat.pow_le_pow_right jd h.1;unfold zGA;omega
theorem zRu {m:List Nat} (h:zBN false m=true) (b:∀y∈m,y < 4294967296):zCg (zBR (zEQ m)++[110])={zr with kind:=3,mag:=m}:=by
 obtain⟨h1,d⟩:=zI1 h b;unfold zCg;have c:=zD2 (zEQ m) [110] (fun x q h=>by injection h with h _;rw[←h];decide);rw[zCb,show zV [110]=[110]from rfl,c];unfold zBu;rw[zD3,ji,if_pos jd,zFz];unfold zIg;rw[jn,if_neg (by unfold zBF;simp),h1]
theorem zRv:∀n∈List.range 16,zHw (zCH n).toUInt16=n∧(zCH n).toUInt16≠123:=by decide+kernel
theorem zLJ (h:n < 16):zHw (zCH n).toUInt16=n∧(zCH n).toUInt16≠123:=zRv n (List.mem_range.2 h)
theorem zVF (x:UInt16) (R:List UInt16):zEE (117::(zCH (x.toNat / 4096)).toUInt16::(zCH (x.toNat / 256 % 16)).toUInt16::(zCH (x.toNat / 16 % 16)).toUInt16::(zCH (x.toNat % 16)).toUInt16::R)=(0,x,5):=by
 have d:=x.toNat_lt;obtain⟨a1,a2⟩:=zLJ (n:=x.toNat / 4096) jo;obtain⟨b,_⟩:=zLJ (n:=x.toNat / 256 % 16) jo;obtain⟨c1,_⟩:=zLJ (n:=x.toNat / 16 % 16) jo;obtain⟨d1,_⟩:=zLJ (n:=x.toNat % 16) jo;show(if(zBx 117).isSome=true then(0,(zBx 117).getD 0,1)else zRD 117 _)=_;rw[ji];unfold zRD;have hs:∀q,zq [123] ((zCH (x.toNat / 4096)).toUInt16::q)=false:=fun q=>by
  unfold zq;have:¬(123:UInt16)=(zCH (x.toNat / 4096)).toUInt16:=fun e=>a2 e.symm;simp[List.isPrefixOf,this]
 rw[hs,if_neg (by rw[show((117:UInt16).toNat==48)=false from rfl];simp),ji,ji,ji,if_pos jd];unfold zCO;have e:((zCH (x.toNat / 4096)).toUInt16::(zCH (x.toNat / 256 % 16)).toUInt16::(zCH (x.toNat / 16 % 16)).toUInt16::(zCH (x.toNat % 16)).toUInt16::R).take 4=[(zCH (x.toNat / 4096)).toUInt16,(zCH (x.toNat / 256 % 16)).toUInt16,(zCH (x.toNat / 16 % 16)).toUInt16,(zCH (x.toNat % 16)).toUInt16]:=rfl;have c:([(zCH (x.toNat / 4096)).toUInt16,(zCH (x.toNat / 256 % 16)).toUInt16,(zCH (x.toNat / 16 % 16)).toUInt16,(zCH (x.toNat % 16)).toUInt16]:List UInt16).all zED=true:=by
  simp only[List.all_cons,List.all_nil,zED,a1,b,c1,d1,Bool.and_eq_true,decide_eq_true_eq,and_true];omega
 have hv:zEH 0 [(zCH (x.toNat / 4096)).toUInt16,(zCH (x.toNat / 256 % 16)).toUInt16,(zCH (x.toNat / 16 % 16)).toUInt16,(zCH (x.toNat % 16)).toUInt16]=x.toNat:=by
  simp only[zEH,a1,b,c1,d1];omega
 rw[e,c,hv,if_pos js];unfold more;rw[if_pos rfl];simp
theorem zMX {x:UInt16} (h:32≤x.toNat∧x.toNat≤126):x.toUInt8.toUInt16=x:=by
 apply UInt16.toNat_inj.1;simp;omega
theorem zOg:∀(u c:List UInt16) (f:Nat),(zV (u.flatMap zGI++[34])).length < f→zDC 34 f (zV (u.flatMap zGI++[34])) c=(0,c++u,(zV (u.flatMap zGI++[34])).length):=by
 intro u
 induction u with
 | nil=>
  intro c f b;obtain⟨f,rfl⟩:∃g,f=g+1:=⟨f - 1,by omega⟩;rw[List.append_nil];rfl
 | cons x u d=>
  intro c f b;obtain⟨f,rfl⟩:∃g,f=g+1:=⟨f - 1,by omega⟩;rw[List.flatMap_cons,List.append_assoc,zCb]at b⊢;obtain⟨R,j⟩:=jx (zV (u.flatMap zGI++[34]));rw[j]at b d⊢;unfold zGI at b⊢
  by_cases h:32≤x.toNat∧x.toNat≤126∧x.toNat≠34∧x.toNat≠92
  · rw[if_pos h]at b⊢;have e:zV [x.toUInt8]++R=x::R:=by
     show x.toUInt8.toUInt16::R=_;rw[zMX ⟨h.1,h.2.1⟩]
    rw[e]at b⊢;have r:=d (c++[x]) f (by simp at b;omega);have e1:¬zAJ x=true:=by unfold zAJ;simp;omega
    have e2:¬x=34:=fun e=>h.2.2.1 (by rw[e];rfl);unfold zDC;rw[if_neg e1,if_neg e2,if_neg h.2.2.2,r];simp only[List.append_assoc,List.singleton_append,List.length_cons,Prod.mk.injEq,true_and];omega
  · rw[if_neg h]at b⊢;have e:zV [92,117,zCH (x.toNat / 4096),zCH (x.toNat / 256 % 16),zCH (x.toNat / 16 % 16),zCH (x.toNat % 16)]++R=92::(117::(zCH (x.toNat / 4096)).toUInt16::(zCH (x.toNat / 256 % 16)).toUInt16::(zCH (x.toNat / 16 % 16)).toUInt16::(zCH (x.toNat % 16)).toUInt16::R):=rfl;rw[e]at b⊢;have r:=d (c++[x]) f (by simp at b;omega);unfold zDC;rw[ji,ji,if_pos jd,zVF,if_neg js];dsimp only;rw[show(117::(zCH (x.toNat / 4096)).toUInt16::(zCH (x.toNat / 256 % 16)).toUInt16::(zCH (x.toNat / 16 % 16)).toUInt16::(zCH (x.toNat % 16)).toUInt16::R).drop 5=R from rfl,r];simp only[List.append_assoc,List.singleton_append,List.length_cons,Prod.mk.injEq,true_and];omega
theorem zLK (_h:u.length≤4096):zCg (zFg u)={zr with kind:=4,str:=u}:=by
 unfold zCg;have e:zV (zFg u)=34::zV (u.flatMap zGI++[34]):=rfl;have h1:zAY false (34::zV (u.flatMap zGI++[34]))=zAy 34 (zV (u.flatMap zGI++[34])):=rfl;rw[e,h1];unfold zAy zJ5;rw[zOg u [] _ (yAF _),if_neg js];rfl
end Go.Proofs.YtlnbbaehihgigaaGreatDoor
