/- Joined for the claim ParseGood: the parser, the lexer and the trees as they are walked, made short by a program of mine. -/
import Derived.Test.YtlnbbaehihgigaaGreatDoorG01
import Derived.Deep.RegionWith
set_option maxHeartbeats 16000000
set_option maxRecDepth 1000000
namespace Go.Proofs.YtlnbbaehihgigaaGreatDoor
open Go.Proofs.Tryz
variable {ts:List Nd} {l:List Tr} {n:List UInt8} {k:Int} {x:Nd} {u:List UInt16} {t f:Tr} {p q:Ph} {A:Option Addr} {v B e:Nat} {s' s1:Ps}
structure Lst (L:List Tok):Prop where
 pos:0 < L.length
 last:(zG L (L.length - 1)).kind=0
 mid:∀i,i < L.length - 1→(zG L i).kind≠0
structure Adv (L:List Tok) (s s':Ps):Prop where
 le:s.k≤s'.k
 hi:s'.k≤L.length - 1
 bad:s.bad≠0→s'.bad≠0
 far:s'.bad=0→s'.far=s.far
structure Eat (L:List Tok) (s s':Ps):Prop where
 adv:Adv L s s'
 more:s.k < L.length - 1→s.k < s'.k
 stop:s.k=L.length - 1→s'.bad≠0
section
variable {L:List Tok} {a b c s:Ps} {w:List UInt8}
theorem Adv.refl (h:s.k≤L.length - 1):Adv L s s:=⟨yAC _,h,id,fun _=>rfl⟩
theorem Adv.trans (h:Adv L a b) (k:Adv L b c):Adv L a c:=⟨yAD h.le k.le,k.hi,fun x=>k.bad (h.bad x),fun x=>(k.far x).trans (h.far (by
 rcases Nat.eq_zero_or_pos b.bad with d | d
 · exact d
 · exact absurd x (k.bad jo)))⟩
theorem Eat.then (h:Eat L a b) (k:Adv L b c):Eat L a c:=⟨h.adv.trans k,fun x=>yAA (h.more x) k.le,fun x=>k.bad (h.stop x)⟩
theorem Adv.eat (h:Adv L a b) (k:Eat L b c):Eat L a c:=by
 have h1:=h.le;have e:=h.hi;have f:=k.adv.le;refine⟨h.trans k.adv,fun x=>?_,fun x=>k.stop jo⟩;rcases Nat.lt_or_ge b.k (L.length - 1)with d | d
 · have:=k.more d;omega
 · omega
theorem Lst.lt (c:Lst L) (h:s.k≤L.length - 1) (hk:(zG L s.k).kind≠0):s.k < L.length - 1:=by
 rcases Nat.lt_or_ge s.k (L.length - 1)with b | b
 · exact b
 · exact absurd (by rw[show s.k=L.length - 1 by omega];exact c.last) hk
theorem zGA {t:Tok} (h:isT t w=true):t.kind≠0:=by
 unfold isT at h;intro b;rw[b]at h;simp at h
theorem Lst.on (b:Lst L) (h:s.k≤L.length - 1) (c:onP L w s=true):s.k < L.length - 1:=b.lt h (zGA c)
theorem zAP (h:s.k < L.length - 1):Adv L s (zB s):=⟨Nat.le_succ _,h,id,fun _=>rfl⟩
theorem zA1 (h:s.k < L.length - 1):Eat L s (zB s):=⟨zAP h,fun _=>yAF _,fun x=>by omega⟩
theorem zDT (b:e≠0):(zC6 L e s).bad≠0:=by
 unfold zC6;simp only;split
 · exact b
 · assumption
theorem zGB (b:e≠0) (h:s.k≤L.length - 1):Eat L s (zC6 L e s):=⟨⟨h,yAC _,fun _=>zDT b,fun x=>absurd x (zDT b)⟩,fun x=>x,fun _=>zDT b⟩
theorem zy (h:s.k≤L.length - 1):Eat L s (za L s):=zGB (by split<;>decide) h
theorem zAp:(za L s).bad≠0:=zDT (by split<;>decide)
theorem zOI:(za L s).k=L.length - 1:=rfl
theorem zR (b:Lst L) (h:s.k≤L.length - 1):Eat L s (zL L w s):=by
 unfold zL;split
 · rename_i c;exact zA1 (b.on h c)
 · exact zy h
theorem zAi (b:Lst L) (h:s.k≤L.length - 1):Eat L s (zc L s).2:=by
 unfold zc;split
 · rename_i c;exact zA1 (b.lt h (by rw[c];decide))
 · exact zy h
theorem zBV (b:Lst L) (h:s.k≤L.length - 1):Adv L s (zEY L s):=by
 unfold zEY;split
 · rename_i c;exact zAP (b.on h c)
 · split
   · exact Adv.refl h
   · exact(zy h).adv
end
def Pre (L:List Tok) (p:Ph) (s:Ps):Prop:=s.k≤L.length - 1∧match p with
 | .word _=>s.k < L.length - 1
 | .loop=>s.k < L.length - 1
 | .jump _=>s.k < L.length - 1
 | .tries=>s.k < L.length - 1
 | .args=>s.k < L.length - 1
 | .level n=>n≤8
 | .levelL n _=>n < 8
 | _=>True
def zZw:Ph→Bool
 | .program _=>false
 | .blockL _=>false
 | .nullL _=>false
 | .orL _=>false
 | .both _=>false
 | .levelL _ _=>false
 | .callsL _=>false
 | .headL _=>false
 | _=>true
def Post (L:List Tok) (p:Ph) (s s':Ps):Prop:=if zZw p=true then Eat L s s' else Adv L s s'
theorem Post.adv {L:List Tok} {s:Ps} (h:Post L p s s'):Adv L s s':=by
 unfold Post at h;split at h
 · exact h.adv
 · exact h
theorem zVa (p:Ph) (s:Ps):zr p s≤60:=by
 cases p<;>simp only[zr]<;>(try split)<;>omega
theorem zI7 {L:List Tok} {s:Ps} (h:s.k < s'.k) (b:s'.k≤L.length - 1) (c:0 < L.length):zk L q s' < zk L p s:=by
 unfold zk;have:=zVa q s';omega
theorem zI8 {L:List Tok} {s:Ps} (h:s.k≤s'.k) (b:zr q s' < zr p s):zk L q s' < zk L p s:=by
 unfold zk;omega
section
variable {L:List Tok} {R R':Ph→Ps→Tr×Ps} {s:Ps}
def Hyp (L:List Tok) (R R':Ph→Ps→Tr×Ps) (p:Ph) (s:Ps):Prop:=∀q s1,Pre L q s1→zk L q s1 < zk L p s→Post L q s1 (R q s1).2∧R q s1=R' q s1
def Con (L:List Tok) (R R':Ph→Ps→Tr×Ps) (p:Ph) (s:Ps):Prop:=Post L p s (zD L R p s).2∧zD L R p s=zD L R' p s
theorem Hyp.rank (H:Hyp L R R' p s) (h:Pre L q s1) (h1:s.k≤s1.k) (b:zr q s1 < zr p s):Post L q s1 (R q s1).2∧R' q s1=R q s1:=by
 have:=H q s1 h (zI8 h1 b);exact⟨this.1,this.2.symm⟩
theorem Hyp.more (b:Lst L) (H:Hyp L R R' p s) (h:Pre L q s1) (h1:s.k < s1.k):Post L q s1 (R q s1).2∧R' q s1=R q s1:=by
 have:=H q s1 h (zI7 h1 h.1 b.pos);exact⟨this.1,this.2.symm⟩
theorem zMf {b:List Tr} (e:Lst L) (d:Pre L (.program b) s) (H:Hyp L R R' (.program b) s):Con L R R' (.program b) s:=by
 unfold Con zD;dsimp only
 by_cases c:(zG L s.k).kind=0
 · simp only[if_pos c];exact⟨Adv.refl d.1,trivial⟩
 · simp only[if_neg c];have f:=e.lt d.1 c;obtain⟨p1,e1⟩:=H.rank (q:=.item) (s1:=s) ⟨d.1,trivial⟩ (yAC _) (by simp only[zr];omega);have x1:Eat L s _:=p1;obtain⟨p2,e2⟩:=H.more e (q:=.program (b++[(R .item s).1])) (s1:=(R .item s).2) ⟨x1.adv.hi,trivial⟩ (x1.more f);rw[e1,e2];exact⟨x1.adv.trans p2,rfl⟩
theorem zRr (b:Lst L) (d:Pre L .block s) (H:Hyp L R R' .block s):Con L R R' .block s:=by
 unfold Con zD;dsimp only;have e:=zR (w:=[123]) b d.1;have h1:Post L (.blockL []) (zL L [123] s) (R (.blockL []) (zL L [123] s)).2∧R' (.blockL []) (zL L [123] s)=R (.blockL []) (zL L [123] s):=by
  by_cases c:onP L [123] s=true
  · exact H.more b ⟨e.adv.hi,trivial⟩ (e.more (b.on d.1 c))
  · refine H.rank ⟨e.adv.hi,trivial⟩ e.adv.le ?_;have hb:(zL L [123] s).bad≠0:=by unfold zL;rw[if_neg c];exact zAp
    simp only[zr];rw[if_pos hb];omega
 rw[h1.2];exact⟨e.then h1.1.adv,rfl⟩
theorem zOJ {b:List Tr} (e:Lst L) (d:Pre L (.blockL b) s) (H:Hyp L R R' (.blockL b) s):Con L R R' (.blockL b) s:=by
 unfold Con zD;dsimp only
 by_cases c:s.bad≠0
 · simp only[if_pos c];exact⟨Adv.refl d.1,trivial⟩
 simp only[if_neg c]
 by_cases c2:onP L [125] s=true
 · simp only[if_pos c2];exact⟨zAP (e.on d.1 c2),trivial⟩
 simp only[if_neg c2];have f:zr (.blockL b) s=60:=by simp only[zr];rw[if_neg c]
 obtain⟨p1,e1⟩:=H.rank (q:=.item) (s1:=s) ⟨d.1,trivial⟩ (yAC _) (by rw[f];simp only[zr];omega);have x1:Eat L s _:=p1;have g:Post L (.blockL (b++[(R .item s).1])) (R .item s).2 (R (.blockL (b++[(R .item s).1])) (R .item s).2).2∧R' (.blockL (b++[(R .item s).1])) (R .item s).2=R (.blockL (b++[(R .item s).1])) (R .item s).2:=by
  rcases Nat.lt_or_ge s.k (L.length - 1)with j | l
  · exact H.more e ⟨x1.adv.hi,trivial⟩ (x1.more j)
  · refine H.rank ⟨x1.adv.hi,trivial⟩ x1.adv.le ?_;rw[f];simp only[zr];rw[if_pos (x1.stop (by have:=d.1;omega))];omega
 rw[e1,g.2];exact⟨x1.adv.trans g.1.adv,rfl⟩
theorem zVb (e:Lst L) (f:Pre L .item s) (H:Hyp L R R' .item s):Con L R R' .item s:=by
 unfold Con zD;dsimp only
 by_cases c:(onP L [108,101,116] s || onP L [99,111,110,115,116] s)=true
 · simp only[if_pos c];obtain⟨p1,e1⟩:=H.rank (q:=.declares) (s1:=s) ⟨f.1,trivial⟩ (yAC _) (by simp only[zr];omega);rw[e1];exact⟨Eat.then (b:=(R .declares s).2) p1 (zBV e p1.adv.hi),rfl⟩
 simp only[if_neg c]
 by_cases c2:onP L [102,117,110,99,116,105,111,110] s=true
 · simp only[if_pos c2];have d:=e.on f.1 c2;have x1:=(zA1 d).then (zAi (s:=zB s) e d).adv;obtain⟨p2,e2⟩:=H.more e (q:=.func 19 (zc L (zB s)).1) (s1:=(zc L (zB s)).2) ⟨x1.adv.hi,trivial⟩ (x1.more d);rw[e2];exact⟨x1.then p2.adv,rfl⟩
 simp only[if_neg c2];obtain⟨p1,e1⟩:=H.rank (q:=.statement) (s1:=s) ⟨f.1,trivial⟩ (yAC _) (by simp only[zr];omega);rw[e1];exact⟨p1,rfl⟩
theorem zKV (d:Lst L) (e:Pre L .declares s) (H:Hyp L R R' .declares s):Con L R R' .declares s:=by
 unfold Con zD;dsimp only
 by_cases c:onP L [99,111,110,115,116] s=true
 · simp only[if_pos c];have b:=d.on e.1 c;obtain⟨p1,e1⟩:=H.more d (q:=.declL 6 []) (s1:=zB s) ⟨b,trivial⟩ (yAF _);rw[e1];exact⟨(zA1 b).then p1.adv,rfl⟩
 simp only[if_neg c];have x:=zR (w:=[108,101,116]) d e.1;obtain⟨p1,e1⟩:=H.rank (q:=.declL 5 []) (s1:=zL L [108,101,116] s) ⟨x.adv.hi,trivial⟩ x.adv.le (by simp only[zr];omega);rw[e1];exact⟨x.then p1.adv,rfl⟩
theorem zI9 {b:List Tr} (f:Lst L) (H:Hyp L R R' (.declL k b) s) {d:Tr×Ps} (x:Eat L s d.2):
 Post L (.declL k b) s (if d.2.bad≠0 then(trK k (b++[d.1]),d.2)else if onP L [44] d.2=true then R (.declL k (b++[d.1])) (zB d.2)else(trK k (b++[d.1]),d.2)).2∧
 (if d.2.bad≠0 then(trK k (b++[d.1]),d.2)else if onP L [44] d.2=true then R (.declL k (b++[d.1])) (zB d.2)else(trK k (b++[d.1]),d.2))=(if d.2.bad≠0 then(trK k (b++[d.1]),d.2)else if onP L [44] d.2=true then R' (.declL k (b++[d.1])) (zB d.2)else(trK k (b++[d.1]),d.2)):=by
 by_cases c:d.2.bad≠0
 · simp only[if_pos c];exact⟨x,trivial⟩
 simp only[if_neg c]
 by_cases c2:onP L [44] d.2=true
 · simp only[if_pos c2];have e:=f.on x.adv.hi c2;obtain⟨p1,e1⟩:=H.more f (q:=.declL k (b++[d.1])) (s1:=zB d.2) ⟨e,trivial⟩ (Nat.lt_succ_of_le x.adv.le);rw[e1];exact⟨x.then ((zAP e).trans p1.adv),rfl⟩
 · simp only[if_neg c2];exact⟨x,trivial⟩
theorem zRs {b:List Tr} (e:Lst L) (g:Pre L (.declL k b) s) (H:Hyp L R R' (.declL k b) s):Con L R R' (.declL k b) s:=by
 unfold Con zD;dsimp only;have x:=zAi e g.1
 by_cases c:onP L [61] (zc L s).2=true
 · have f:=e.on x.adv.hi c;obtain⟨p1,e1⟩:=H.more e (q:=.assign) (s1:=zB (zc L s).2) ⟨f,trivial⟩ (Nat.lt_succ_of_le x.adv.le);simp only[if_pos c];rw[e1];exact zI9 e H (d:=(trN 7 (zc L s).1 [(R .assign (zB (zc L s).2)).1],(R .assign (zB (zc L s).2)).2)) (x.then ((zAP f).trans p1.adv))
 · simp only[if_neg c];exact zI9 e H (d:=(trN 7 (zc L s).1 [],(zc L s).2)) x
theorem zVc (_b:Lst L) (b:Pre L (.func k n) s) (H:Hyp L R R' (.func k n) s):Con L R R' (.func k n) s:=by
 unfold Con zD;dsimp only;obtain⟨p1,e1⟩:=H.rank (q:=.params) (s1:=s) ⟨b.1,trivial⟩ (yAC _) (by simp only[zr];omega);obtain⟨p2,e2⟩:=H.rank (q:=.block) (s1:=(R .params s).2) ⟨p1.adv.hi,trivial⟩ p1.adv.le (by simp only[zr];omega);rw[e1,e2];have x1:Eat L s (R .params s).2:=p1;exact⟨x1.then p2.adv,rfl⟩
theorem zOK (b:Lst L) (d:Pre L .params s) (H:Hyp L R R' .params s):Con L R R' .params s:=by
 unfold Con zD;dsimp only;have x:=zR (w:=[40]) b d.1
 by_cases c:onP L [41] (zL L [40] s)=true
 · simp only[if_pos c];exact⟨x.then (zAP (b.on x.adv.hi c)),trivial⟩
 simp only[if_neg c];obtain⟨p1,e1⟩:=H.rank (q:=.paramL []) (s1:=zL L [40] s) ⟨x.adv.hi,trivial⟩ x.adv.le (by simp only[zr];omega);rw[e1];exact⟨x.then p1.adv,rfl⟩
theorem Eat.lt (h:Eat L s s') (hs:s.k≤L.length - 1) (hb:¬s'.bad≠0):s.k < s'.k:=by
 rcases Nat.lt_or_ge s.k (L.length - 1)with b | c
 · exact h.more b
 · exact absurd (h.stop jo) hb
theorem zOL {b:List Tr} (d:Lst L) (e:Pre L (.paramL b) s) (H:Hyp L R R' (.paramL b) s):Con L R R' (.paramL b) s:=by
 unfold Con zD;dsimp only;have x:=zAi d e.1
 by_cases c:(zc L s).2.bad≠0
 · simp only[if_pos c];exact⟨x,trivial⟩
 simp only[if_neg c]
 by_cases c2:onP L [41] (zc L s).2=true
 · simp only[if_pos c2];exact⟨x.then (zAP (d.on x.adv.hi c2)),trivial⟩
 simp only[if_neg c2];have y:=zR (w:=[44]) d x.adv.hi;obtain⟨p1,e1⟩:=H.more d (q:=.paramL (b++[trN 20 (zc L s).1 []])) (s1:=zL L [44] (zc L s).2) ⟨y.adv.hi,trivial⟩ (yAA (x.lt e.1 c) y.adv.le);rw[e1];exact⟨x.then (y.adv.trans p1.adv),rfl⟩
theorem zIK (c:Lst L) {w:List UInt8} (b:s.k < L.length - 1) (h:isT (zAm L s.k 1) w=true):s.k+1 < L.length - 1:=
 c.lt (s:=zB s) b (zGA h)
theorem zJA (e:Lst L) (d:Pre L .statement s) (H:Hyp L R R' .statement s):Con L R R' .statement s:=by
 unfold Con zD;dsimp only
 by_cases c:(zG L s.k).kind=1∧isT (zAm L s.k 1) [58]=true
 · simp only[if_pos c];have b:=e.lt d.1 (by rw[c.1];decide);have f:=zIK e b c.2;have y:Adv L (zB s) (zB (zB s)):=zAP (s:=zB s) f;obtain⟨p1,e1⟩:=H.more e (q:=.statement) (s1:=zB (zB s)) ⟨y.hi,trivial⟩ (by show s.k < s.k+1+1;omega);rw[e1];exact⟨(zA1 b).then (y.trans p1.adv),rfl⟩
 simp only[if_neg c]
 by_cases c2:(zG L s.k).kind=6
 · simp only[if_pos c2];have b:=e.lt d.1 (by rw[c2];decide);obtain⟨p1,e1⟩:=H.rank (q:=.word (zG L s.k).text) (s1:=s) ⟨d.1,b⟩ (yAC _) (by simp only[zr];omega);rw[e1];exact⟨p1,rfl⟩
 simp only[if_neg c2]
 by_cases c3:onP L [59] s=true
 · simp only[if_pos c3];exact⟨zA1 (e.on d.1 c3),trivial⟩
 simp only[if_neg c3]
 by_cases c4:onP L [123] s=true
 · simp only[if_pos c4];obtain⟨p1,e1⟩:=H.rank (q:=.block) (s1:=s) ⟨d.1,trivial⟩ (yAC _) (by simp only[zr];omega);rw[e1];exact⟨p1,rfl⟩
 simp only[if_neg c4];obtain⟨p1,e1⟩:=H.rank (q:=.simple) (s1:=s) ⟨d.1,trivial⟩ (yAC _) (by simp only[zr];omega);rw[e1];exact⟨p1,rfl⟩
theorem zOM (c:Lst L) (d:Pre L .simple s) (H:Hyp L R R' .simple s):Con L R R' .simple s:=by
 unfold Con zD;dsimp only;obtain⟨p1,e1⟩:=H.rank (q:=.assign) (s1:=s) ⟨d.1,trivial⟩ (yAC _) (by simp only[zr];omega);rw[e1];exact⟨Eat.then (b:=(R .assign s).2) p1 (zBV c p1.adv.hi),rfl⟩
theorem zVd {w:List UInt8} (d:Lst L) (e:Pre L (.word w) s) (H:Hyp L R R' (.word w) s):Con L R R' (.word w) s:=by
 have b:s.k < L.length - 1:=e.2;have x0:=zA1 b;have f:s.k < (zB s).k:=yAF _;unfold Con zD;dsimp only
 by_cases c1:w=[105,102]
 · simp only[if_pos c1];obtain⟨p1,e1⟩:=H.more d (q:=.within) (s1:=zB s) ⟨b,trivial⟩ f;obtain⟨p2,e2⟩:=H.more d (q:=.statement) (s1:=(R .within (zB s)).2) ⟨p1.adv.hi,trivial⟩ (yAA f p1.adv.le);rw[e1,e2];have y:=p1.adv.trans p2.adv
   by_cases c:onP L [101,108,115,101] (R .statement (R .within (zB s)).2).2=true
   · simp only[if_pos c];have g:=d.on p2.adv.hi c;obtain⟨p3,e3⟩:=H.more d (q:=.statement) (s1:=zB (R .statement (R .within (zB s)).2).2) ⟨g,trivial⟩ (yAA f (Nat.le_succ_of_le y.le));rw[e3];exact⟨x0.then (y.trans ((zAP g).trans p3.adv)),rfl⟩
   · simp only[if_neg c];exact⟨x0.then y,trivial⟩
 simp only[if_neg c1]
 by_cases c2:w=[119,104,105,108,101]
 · simp only[if_pos c2];obtain⟨p1,e1⟩:=H.more d (q:=.within) (s1:=zB s) ⟨b,trivial⟩ f;obtain⟨p2,e2⟩:=H.more d (q:=.statement) (s1:=(R .within (zB s)).2) ⟨p1.adv.hi,trivial⟩ (yAA f p1.adv.le);rw[e1,e2];exact⟨x0.then (p1.adv.trans p2.adv),rfl⟩
 simp only[if_neg c2]
 by_cases c3:w=[102,111,114]
 · simp only[if_pos c3];obtain⟨p1,e1⟩:=H.rank (q:=.loop) (s1:=s) ⟨e.1,b⟩ (yAC _) (by simp only[zr];omega);rw[e1];exact⟨p1,rfl⟩
 simp only[if_neg c3]
 by_cases c4:w=[98,114,101,97,107]
 · simp only[if_pos c4];obtain⟨p1,e1⟩:=H.rank (q:=.jump 12) (s1:=s) ⟨e.1,b⟩ (yAC _) (by simp only[zr];omega);rw[e1];exact⟨p1,rfl⟩
 simp only[if_neg c4]
 by_cases c5:w=[99,111,110,116,105,110,117,101]
 · simp only[if_pos c5];obtain⟨p1,e1⟩:=H.rank (q:=.jump 13) (s1:=s) ⟨e.1,b⟩ (yAC _) (by simp only[zr];omega);rw[e1];exact⟨p1,rfl⟩
 simp only[if_neg c5]
 by_cases c6:w=[114,101,116,117,114,110]
 · simp only[if_pos c6]
   by_cases c:zDe L (zB s)=true
   · simp only[if_pos c];exact⟨x0.then (zBV (s:=zB s) d b),trivial⟩
   · simp only[if_neg c];obtain⟨p1,e1⟩:=H.more d (q:=.assign) (s1:=zB s) ⟨b,trivial⟩ f;rw[e1];exact⟨x0.then (p1.adv.trans (zBV d p1.adv.hi)),rfl⟩
 simp only[if_neg c6]
 by_cases c7:w=[116,104,114,111,119]
 · simp only[if_pos c7];have y:Adv L (zB s) (if(zG L (zB s).k).nl=true then za L (zB s)else zB s):=by
    split
    · exact(zy (s:=zB s) b).adv
    · exact Adv.refl b
   obtain⟨p1,e1⟩:=H.more d (q:=.assign) (s1:=if(zG L (zB s).k).nl=true then za L (zB s)else zB s) ⟨y.hi,trivial⟩ (yAA f y.le);rw[e1];exact⟨x0.then (y.trans (p1.adv.trans (zBV d p1.adv.hi))),rfl⟩
 simp only[if_neg c7]
 by_cases c8:w=[116,114,121]
 · simp only[if_pos c8];obtain⟨p1,e1⟩:=H.rank (q:=.tries) (s1:=s) ⟨e.1,b⟩ (yAC _) (by simp only[zr];omega);rw[e1];exact⟨p1,rfl⟩
 simp only[if_neg c8]
 by_cases j:w=[102,117,110,99,116,105,111,110]∨w=[108,101,116]∨w=[99,111,110,115,116]
 · simp only[if_pos j];exact⟨zy e.1,trivial⟩
 simp only[if_neg j];obtain⟨p1,e1⟩:=H.rank (q:=.simple) (s1:=s) ⟨e.1,trivial⟩ (yAC _) (by simp only[zr];omega);rw[e1];exact⟨p1,rfl⟩
theorem zON (b:Lst L) (c:Pre L .within s) (H:Hyp L R R' .within s):Con L R R' .within s:=by
 unfold Con zD;dsimp only;have x:=zR (w:=[40]) b c.1;obtain⟨p1,e1⟩:=H.rank (q:=.assign) (s1:=zL L [40] s) ⟨x.adv.hi,trivial⟩ x.adv.le (by simp only[zr];omega);rw[e1];exact⟨x.then (p1.adv.trans (zR b p1.adv.hi).adv),rfl⟩
theorem zOO {w:List UInt8} (d:Lst L) (e:Pre L (.clause w) s) (H:Hyp L R R' (.clause w) s):Con L R R' (.clause w) s:=by
 unfold Con zD;dsimp only
 by_cases c:onP L w s=true
 · simp only[if_pos c];exact⟨zR d e.1,trivial⟩
 simp only[if_neg c];obtain⟨p1,e1⟩:=H.rank (q:=.assign) (s1:=s) ⟨e.1,trivial⟩ (yAC _) (by simp only[zr];omega);rw[e1];exact⟨Eat.then (b:=(R .assign s).2) p1 (zR d p1.adv.hi).adv,rfl⟩
theorem zJB (b:Lst L) (H:Hyp L R R' .loop s) {a:Tr×Ps} (x:Eat L s a.2) (c:s.k < a.2.k):
 Post L .loop s (trK 10 [a.1,(R (.clause [59]) a.2).1,(R (.clause [41]) (R (.clause [59]) a.2).2).1,(R .statement (R (.clause [41]) (R (.clause [59]) a.2).2).2).1],(R .statement (R (.clause [41]) (R (.clause [59]) a.2).2).2).2).2∧
 (trK 10 [a.1,(R (.clause [59]) a.2).1,(R (.clause [41]) (R (.clause [59]) a.2).2).1,(R .statement (R (.clause [41]) (R (.clause [59]) a.2).2).2).1],(R .statement (R (.clause [41]) (R (.clause [59]) a.2).2).2).2)=(trK 10 [a.1,(R' (.clause [59]) a.2).1,(R' (.clause [41]) (R' (.clause [59]) a.2).2).1,(R' .statement (R' (.clause [41]) (R' (.clause [59]) a.2).2).2).1],(R' .statement (R' (.clause [41]) (R' (.clause [59]) a.2).2).2).2):=by
 obtain⟨p1,e1⟩:=H.more b (q:=.clause [59]) (s1:=a.2) ⟨x.adv.hi,trivial⟩ c;have h1:=yAA c p1.adv.le;obtain⟨p2,e2⟩:=H.more b (q:=.clause [41]) (s1:=(R (.clause [59]) a.2).2) ⟨p1.adv.hi,trivial⟩ h1;have d:=yAA h1 p2.adv.le;obtain⟨p3,e3⟩:=H.more b (q:=.statement) (s1:=(R (.clause [41]) (R (.clause [59]) a.2).2).2) ⟨p2.adv.hi,trivial⟩ d;rw[e1,e2,e3];exact⟨x.then (p1.adv.trans (p2.adv.trans p3.adv)),rfl⟩
theorem zVe (b:Lst L) (f:Pre L .loop s) (H:Hyp L R R' .loop s):Con L R R' .loop s:=by
 have e:s.k < L.length - 1:=f.2;have x0:=zA1 e;have x1:=zR (w:=[40]) (s:=zB s) b e;have d:s.k < (zL L [40] (zB s)).k:=yAA (yAF s.k) x1.adv.le;unfold Con zD;dsimp only
 by_cases c:(onP L [108,101,116] (zL L [40] (zB s)) || onP L [99,111,110,115,116] (zL L [40] (zB s)))=true
 · simp only[if_pos c];obtain⟨p1,e1⟩:=H.more b (q:=.declares) (s1:=zL L [40] (zB s)) ⟨x1.adv.hi,trivial⟩ d;have y:=zR (w:=[59]) b p1.adv.hi;rw[e1];exact zJB b H (a:=((R .declares (zL L [40] (zB s))).1,zL L [59] (R .declares (zL L [40] (zB s))).2)) (x0.then (x1.adv.trans (p1.adv.trans y.adv))) (yAA d (yAD p1.adv.le y.adv.le))
 · simp only[if_neg c];obtain⟨p1,e1⟩:=H.more b (q:=.clause [59]) (s1:=zL L [40] (zB s)) ⟨x1.adv.hi,trivial⟩ d;rw[e1];exact zJB b H (a:=R (.clause [59]) (zL L [40] (zB s))) (x0.then (x1.adv.trans p1.adv)) (yAA d p1.adv.le)
theorem zVf (d:Lst L) (e:Pre L (.jump k) s) (_H:Hyp L R R' (.jump k) s):Con L R R' (.jump k) s:=by
 have b:s.k < L.length - 1:=e.2;have x0:=zA1 b;unfold Con zD;dsimp only;have y:=zAi (s:=zB s) d b
 by_cases c:(zG L (zB s).k).kind=1∧(zG L (zB s).k).nl=false
 · simp only[if_pos c];exact⟨x0.then (y.adv.trans (zBV d y.adv.hi)),trivial⟩
 · simp only[if_neg c];exact⟨x0.then (zBV (s:=zB s) d b),trivial⟩
theorem zHg (f:Lst L) (H:Hyp L R R' .tries s) {b:Tr} {c:Tr×Ps} (x:Eat L s c.2) (g:s.k < c.2.k):
 Post L .tries s (if onP L [102,105,110,97,108,108,121] c.2=true then(trK 16 [b,c.1,(R .block (zB c.2)).1],(R .block (zB c.2)).2)else(trK 16 [b,c.1,trK 11 []],c.2)).2∧
 (if onP L [102,105,110,97,108,108,121] c.2=true then(trK 16 [b,c.1,(R .block (zB c.2)).1],(R .block (zB c.2)).2)else(trK 16 [b,c.1,trK 11 []],c.2))=(if onP L [102,105,110,97,108,108,121] c.2=true then(trK 16 [b,c.1,(R' .block (zB c.2)).1],(R' .block (zB c.2)).2)else(trK 16 [b,c.1,trK 11 []],c.2)):=by
 by_cases d:onP L [102,105,110,97,108,108,121] c.2=true
 · simp only[if_pos d];have e:=f.on x.adv.hi d;obtain⟨p1,e1⟩:=H.more f (q:=.block) (s1:=zB c.2) ⟨e,trivial⟩ (Nat.lt_succ_of_lt g);rw[e1];exact⟨x.then ((zAP e).trans p1.adv),rfl⟩
 · simp only[if_neg d];exact⟨x,trivial⟩
theorem zGb (d:Lst L) (H:Hyp L R R' .tries s) {b:Tr} (x:Eat L s s1) (e:s.k < s1.k) {n:List UInt8×Ps} (y:Adv L s1 n.2):
 Post L .tries s (if onP L [102,105,110,97,108,108,121] (R .block n.2).2=true then(trK 16 [b,trN 17 n.1 [(R .block n.2).1],(R .block (zB (R .block n.2).2)).1],(R .block (zB (R .block n.2).2)).2)else(trK 16 [b,trN 17 n.1 [(R .block n.2).1],trK 11 []],(R .block n.2).2)).2∧
 (if onP L [102,105,110,97,108,108,121] (R .block n.2).2=true then(trK 16 [b,trN 17 n.1 [(R .block n.2).1],(R .block (zB (R .block n.2).2)).1],(R .block (zB (R .block n.2).2)).2)else(trK 16 [b,trN 17 n.1 [(R .block n.2).1],trK 11 []],(R .block n.2).2))=(if onP L [102,105,110,97,108,108,121] (R' .block n.2).2=true then(trK 16 [b,trN 17 n.1 [(R' .block n.2).1],(R' .block (zB (R' .block n.2).2)).1],(R' .block (zB (R' .block n.2).2)).2)else(trK 16 [b,trN 17 n.1 [(R' .block n.2).1],trK 11 []],(R' .block n.2).2)):=by
 obtain⟨p1,e1⟩:=H.more d (q:=.block) (s1:=n.2) ⟨y.hi,trivial⟩ (yAA e y.le);rw[e1];exact zHg d H (c:=(trN 17 n.1 [(R .block n.2).1],(R .block n.2).2)) (x.then (y.trans p1.adv)) (yAA e (yAD y.le p1.adv.le))
theorem zRt (b:Lst L) (l:Pre L .tries s) (H:Hyp L R R' .tries s):Con L R R' .tries s:=by
 have d:s.k < L.length - 1:=l.2;have x0:=zA1 d;unfold Con zD;dsimp only;obtain⟨p1,e1⟩:=H.more b (q:=.block) (s1:=zB s) ⟨d,trivial⟩ (yAF _);rw[e1];have y:Adv L (zB s) (if(onP L [99,97,116,99,104] (R .block (zB s)).2 || onP L [102,105,110,97,108,108,121] (R .block (zB s)).2)=true then(R .block (zB s)).2 else za L (R .block (zB s)).2):=by
  split
  · exact p1.adv
  · exact p1.adv.trans (zy p1.adv.hi).adv
 obtain⟨s1,j⟩:=jx ((if(onP L [99,97,116,99,104] (R .block (zB s)).2 || onP L [102,105,110,97,108,108,121] (R .block (zB s)).2)=true then(R .block (zB s)).2 else za L (R .block (zB s)).2));rw[j]at y⊢;have g:s.k < s1.k:=y.le
 by_cases c:onP L [99,97,116,99,104] s1=true
 · simp only[if_pos c];have e:=b.on y.hi c;have z:=zAP e
   by_cases c2:onP L [40] (zB s1)=true
   · simp only[if_pos c2];have f:=b.on (s:=zB s1) e c2;have u:=zAi (s:=zB (zB s1)) b f;have v:=zR (w:=[41]) b u.adv.hi;exact zGb b H (n:=((zc L (zB (zB s1))).1,zL L [41] (zc L (zB (zB s1))).2)) (x0.then y) g (z.trans ((zAP f).trans (u.adv.trans v.adv)))
   · simp only[if_neg c2];exact zGb b H (n:=([],zB s1)) (x0.then y) g z
 · simp only[if_neg c];exact zHg b H (c:=(trK 11 [],s1)) (x0.then y) g
theorem zOP (d:Lst L) (e:Pre L .assign s) (H:Hyp L R R' .assign s):Con L R R' .assign s:=by
 unfold Con zD;dsimp only
 by_cases c:(zG L s.k).kind=1∧isT (zAm L s.k 1) [61,62]=true∧(zAm L s.k 1).nl=false
 · simp only[if_pos c];have b:=d.lt e.1 (by rw[c.1];decide);obtain⟨p1,e1⟩:=H.more d (q:=.body [trN 20 (zG L s.k).text []]) (s1:=zB s) ⟨b,trivial⟩ (yAF _);rw[e1];exact⟨(zA1 b).then p1.adv,rfl⟩
 simp only[if_neg c]
 by_cases c2:zAh L s=true
 · simp only[if_pos c2];have b:s.k < L.length - 1:=d.on (w:=[40]) e.1 (by
    unfold zAh at c2;rw[Bool.and_eq_true]at c2;exact c2.1)
   obtain⟨p1,e1⟩:=H.rank (q:=.params) (s1:=s) ⟨e.1,trivial⟩ (yAC _) (by simp only[zr];omega);have x1:Eat L s (R .params s).2:=p1;obtain⟨p2,e2⟩:=H.more d (q:=.body (R .params s).1.subs) (s1:=(R .params s).2) ⟨x1.adv.hi,trivial⟩ (x1.more b);rw[e1,e2];exact⟨x1.then p2.adv,rfl⟩
 simp only[if_neg c2];obtain⟨p1,e1⟩:=H.rank (q:=.cond) (s1:=s) ⟨e.1,trivial⟩ (yAC _) (by simp only[zr];omega);have x1:Eat L s (R .cond s).2:=p1;rw[e1]
 by_cases c3:(zG L (R .cond s).2.k).kind≠5∨¬(zG L (R .cond s).2.k).text∈zIF
 · simp only[if_pos c3];exact⟨x1,trivial⟩
 simp only[if_neg c3];have f:(R .cond s).2.k < L.length - 1:=d.lt x1.adv.hi (by
  intro g;exact c3 (.inl (by rw[g];decide)))
 by_cases c4:zAB (R .cond s).1.nd.kind=false
 · simp only[if_pos c4];exact⟨x1.then (zGB jd x1.adv.hi).adv,trivial⟩
 simp only[if_neg c4];obtain⟨p2,e2⟩:=H.more d (q:=.assign) (s1:=zB (R .cond s).2) ⟨f,trivial⟩ (Nat.lt_succ_of_le x1.adv.le);rw[e2];exact⟨x1.then ((zAP f).trans p2.adv),rfl⟩
theorem zVg (b:Lst L) (d:Pre L (.body l) s) (H:Hyp L R R' (.body l) s):Con L R R' (.body l) s:=by
 unfold Con zD;dsimp only;have y:Adv L s (if(zG L s.k).nl=true then za L s else s):=by
  split
  · exact(zy d.1).adv
  · exact Adv.refl d.1
 obtain⟨s0,e⟩:=jx ((if(zG L s.k).nl=true then za L s else s));rw[e]at y⊢;have x1:=zR (w:=[61,62]) b y.hi;have x:=y.eat x1
 by_cases c:onP L [123] (zL L [61,62] s0)=true
 · simp only[if_pos c];have f:s0.k < (zL L [61,62] s0).k:=by
    by_cases c2:onP L [61,62] s0=true
    · unfold zL;rw[if_pos c2];exact yAF _
    · have g:zL L [61,62] s0=za L s0:=by unfold zL;rw[if_neg c2]
      have:=b.on x1.adv.hi c;rw[g,zOI]at this;omega
   obtain⟨p1,e1⟩:=H.more b (q:=.block) (s1:=zL L [61,62] s0) ⟨x.adv.hi,trivial⟩ (Nat.lt_of_le_of_lt y.le f);rw[e1];exact⟨x.then p1.adv,rfl⟩
 · simp only[if_neg c];obtain⟨p1,e1⟩:=H.rank (q:=.assign) (s1:=zL L [61,62] s0) ⟨x.adv.hi,trivial⟩ x.adv.le (by simp only[zr];omega);rw[e1];exact⟨x.then p1.adv,rfl⟩
theorem zVh (b:Lst L) (f:Pre L .cond s) (H:Hyp L R R' .cond s):Con L R R' .cond s:=by
 unfold Con zD;dsimp only;obtain⟨p1,e1⟩:=H.rank (q:=.either) (s1:=s) ⟨f.1,trivial⟩ (yAC _) (by simp only[zr];omega);have x1:Eat L s (R .either s).2:=p1;rw[e1]
 by_cases c:onP L [63] (R .either s).2=true
 · simp only[if_pos c];have d:=b.on x1.adv.hi c;have e:s.k < (zB (R .either s).2).k:=Nat.lt_succ_of_le x1.adv.le;obtain⟨p2,e2⟩:=H.more b (q:=.assign) (s1:=zB (R .either s).2) ⟨d,trivial⟩ e;have y:=zR (w:=[58]) b p2.adv.hi;obtain⟨p3,e3⟩:=H.more b (q:=.assign) (s1:=zL L [58] (R .assign (zB (R .either s).2)).2) ⟨y.adv.hi,trivial⟩ (yAA e (yAD p2.adv.le y.adv.le));rw[e2,e3];exact⟨x1.then ((zAP d).trans (p2.adv.trans (y.adv.trans p3.adv))),rfl⟩
 · simp only[if_neg c];exact⟨x1,trivial⟩
theorem zOQ (d:Lst L) (e:Pre L .either s) (H:Hyp L R R' .either s):Con L R R' .either s:=by
 unfold Con zD;dsimp only;obtain⟨p1,e1⟩:=H.rank (q:=.level 0) (s1:=s) ⟨e.1,yAE _⟩ (yAC _) (by simp only[zr];omega);have x1:Eat L s (R (.level 0) s).2:=p1;have _:=d.pos;rw[e1];have fin:∀{q:Ps} {c:Bool},q.k≤L.length - 1→Adv L q (if c=true then za L q else q):=by
  intro q c b;split
  · exact(zy b).adv
  · exact Adv.refl b
 by_cases c:onP L [63,63] (R (.level 0) s).2=true
 · simp only[if_pos c];obtain⟨p2,e2⟩:=H.rank (q:=.nullL (R (.level 0) s).1) (s1:=(R (.level 0) s).2) ⟨x1.adv.hi,trivial⟩ x1.adv.le (by simp only[zr];omega);rw[e2];exact⟨x1.then (p2.adv.trans (fin p2.adv.hi)),rfl⟩
 · simp only[if_neg c];obtain⟨p2,e2⟩:=H.rank (q:=.both (R (.level 0) s).1) (s1:=(R (.level 0) s).2) ⟨x1.adv.hi,trivial⟩ x1.adv.le (by simp only[zr];omega);rw[e2];obtain⟨p3,e3⟩:=H.rank (q:=.orL (R (.both (R (.level 0) s).1) (R (.level 0) s).2).1) (s1:=(R (.both (R (.level 0) s).1) (R (.level 0) s).2).2) ⟨p2.adv.hi,trivial⟩ (yAD x1.adv.le p2.adv.le) (by simp only[zr];omega);rw[e3];exact⟨x1.then (p2.adv.trans (p3.adv.trans (fin p3.adv.hi))),rfl⟩
theorem zRu {x:Tr} (b:Lst L) (d:Pre L (.nullL x) s) (H:Hyp L R R' (.nullL x) s):Con L R R' (.nullL x) s:=by
 unfold Con zD;dsimp only
 by_cases c:onP L [63,63] s=true
 · simp only[if_pos c];have e:=b.on d.1 c;obtain⟨p1,e1⟩:=H.more b (q:=.level 0) (s1:=zB s) ⟨e,yAE _⟩ (yAF _);obtain⟨p2,e2⟩:=H.more b (q:=.nullL (trN 47 [63,63] [x,(R (.level 0) (zB s)).1])) (s1:=(R (.level 0) (zB s)).2) ⟨p1.adv.hi,trivial⟩ (yAA (yAF _) p1.adv.le);rw[e1,e2];exact⟨(zAP e).trans (p1.adv.trans p2.adv),rfl⟩
 · simp only[if_neg c];exact⟨Adv.refl d.1,trivial⟩
theorem zVi {x:Tr} (b:Lst L) (d:Pre L (.both x) s) (H:Hyp L R R' (.both x) s):Con L R R' (.both x) s:=by
 unfold Con zD;dsimp only
 by_cases c:onP L [38,38] s=true
 · simp only[if_pos c];have e:=b.on d.1 c;obtain⟨p1,e1⟩:=H.more b (q:=.level 0) (s1:=zB s) ⟨e,yAE _⟩ (yAF _);obtain⟨p2,e2⟩:=H.more b (q:=.both (trN 47 [38,38] [x,(R (.level 0) (zB s)).1])) (s1:=(R (.level 0) (zB s)).2) ⟨p1.adv.hi,trivial⟩ (yAA (yAF _) p1.adv.le);rw[e1,e2];exact⟨(zAP e).trans (p1.adv.trans p2.adv),rfl⟩
 · simp only[if_neg c];exact⟨Adv.refl d.1,trivial⟩
theorem zXf {x:Tr} (b:Lst L) (d:Pre L (.orL x) s) (H:Hyp L R R' (.orL x) s):Con L R R' (.orL x) s:=by
 unfold Con zD;dsimp only
 by_cases c:onP L [124,124] s=true
 · simp only[if_pos c];have e:=b.on d.1 c;obtain⟨p1,e1⟩:=H.more b (q:=.level 0) (s1:=zB s) ⟨e,yAE _⟩ (yAF _);have h1:s.k < (R (.level 0) (zB s)).2.k:=p1.adv.le;rw[e1];obtain⟨p2,e2⟩:=H.more b (q:=.both (R (.level 0) (zB s)).1) (s1:=(R (.level 0) (zB s)).2) ⟨p1.adv.hi,trivial⟩ h1;rw[e2];obtain⟨p3,e3⟩:=H.more b (q:=.orL (trN 47 [124,124] [x,(R (.both (R (.level 0) (zB s)).1) (R (.level 0) (zB s)).2).1])) (s1:=(R (.both (R (.level 0) (zB s)).1) (R (.level 0) (zB s)).2).2) ⟨p2.adv.hi,trivial⟩ (yAA h1 p2.adv.le);rw[e3];exact⟨(zAP e).trans (p1.adv.trans (p2.adv.trans p3.adv)),rfl⟩
 · simp only[if_neg c];exact⟨Adv.refl d.1,trivial⟩
theorem zRv {n:Nat} (d:Lst L) (b:Pre L (.level n) s) (H:Hyp L R R' (.level n) s):Con L R R' (.level n) s:=by
 have e:n≤8:=b.2;have _:=d.pos;unfold Con zD;dsimp only
 by_cases c:n=8
 · simp only[if_pos c];obtain⟨p1,e1⟩:=H.rank (q:=.unary) (s1:=s) ⟨b.1,trivial⟩ (yAC _) (by simp only[zr];omega);rw[e1];exact⟨p1,rfl⟩
 · simp only[if_neg c];obtain⟨p1,e1⟩:=H.rank (q:=.level (n+1)) (s1:=s) ⟨b.1,(by show n+1≤8;omega)⟩ (yAC _) (by simp only[zr];omega);have x1:Eat L s (R (.level (n+1)) s).2:=p1;obtain⟨p2,e2⟩:=H.rank (q:=.levelL n (R (.level (n+1)) s).1) (s1:=(R (.level (n+1)) s).2) ⟨x1.adv.hi,(by show n < 8;omega)⟩ x1.adv.le (by simp only[zr];omega);rw[e1,e2];exact⟨x1.then p2.adv,rfl⟩
theorem zEI {t:Tok} (h:zBE t≠9):t.kind≠0:=by
 unfold zBE at h;intro c;apply h;rw[if_neg];intro b;rcases b with b | b
 · omega
 · exact zGA b c
theorem zOR {n:Nat} {x:Tr} (b:Lst L) (d:Pre L (.levelL n x) s) (H:Hyp L R R' (.levelL n x) s):Con L R R' (.levelL n x) s:=by
 have f:n < 8:=d.2;unfold Con zD;dsimp only
 by_cases c:zBE (zG L s.k)=n
 · simp only[if_pos c];have e:=b.lt d.1 (zEI jo);obtain⟨p1,e1⟩:=H.more b (q:=.level (n+1)) (s1:=zB s) ⟨e,(by show n+1≤8;omega)⟩ (yAF _);obtain⟨p2,e2⟩:=H.more b (q:=.levelL n (trN 46 (zG L s.k).text [x,(R (.level (n+1)) (zB s)).1])) (s1:=(R (.level (n+1)) (zB s)).2) ⟨p1.adv.hi,f⟩ (yAA (yAF _) p1.adv.le);rw[e1,e2];exact⟨(zAP e).trans (p1.adv.trans p2.adv),rfl⟩
 · simp only[if_neg c];exact⟨Adv.refl d.1,trivial⟩
theorem zRw (b:Lst L) (e:Pre L .unary s) (H:Hyp L R R' .unary s):Con L R R' .unary s:=by
 unfold Con zD;dsimp only
 by_cases c:((zG L s.k).kind=5∨(zG L s.k).kind=6)∧(zG L s.k).text∈zHK
 · simp only[if_pos c];have d:=b.lt e.1 jo;obtain⟨p1,e1⟩:=H.more b (q:=.unary) (s1:=zB s) ⟨d,trivial⟩ (yAF _);rw[e1];exact⟨(zA1 d).then p1.adv,rfl⟩
 simp only[if_neg c]
 by_cases c2:((zG L s.k).kind=5∨(zG L s.k).kind=6)∧(zG L s.k).text∈zDO
 · simp only[if_pos c2];have d:=b.lt e.1 jo;obtain⟨p1,e1⟩:=H.more b (q:=.unary) (s1:=zB s) ⟨d,trivial⟩ (yAF _);rw[e1];refine⟨(zA1 d).then (p1.adv.trans ?_),rfl⟩;show Adv L _ (if _ then _ else _);split
   · exact(zy p1.adv.hi).adv
   · exact Adv.refl p1.adv.hi
 simp only[if_neg c2];obtain⟨p1,e1⟩:=H.rank (q:=.calls) (s1:=s) ⟨e.1,trivial⟩ (yAC _) (by simp only[zr];omega);have x1:Eat L s (R .calls s).2:=p1;rw[e1]
 by_cases c3:(zG L (R .calls s).2.k).kind=5∧(zG L (R .calls s).2.k).text∈zDO∧(zG L (R .calls s).2.k).nl=false
 · simp only[if_pos c3]
   by_cases c4:zAB (R .calls s).1.nd.kind=false
   · simp only[if_pos c4];exact⟨x1.then (zy x1.adv.hi).adv,trivial⟩
   · simp only[if_neg c4];exact⟨x1.then (zAP (b.lt x1.adv.hi jo)),trivial⟩
 · simp only[if_neg c3];exact⟨x1,trivial⟩
theorem zRx (b:Lst L) (c:Pre L .calls s) (H:Hyp L R R' .calls s):Con L R R' .calls s:=by
 have _:=b.pos;unfold Con zD;dsimp only;obtain⟨p1,e1⟩:=H.rank (q:=.head) (s1:=s) ⟨c.1,trivial⟩ (yAC _) (by simp only[zr];omega);have x1:Eat L s (R .head s).2:=p1;obtain⟨p2,e2⟩:=H.rank (q:=.callsL (R .head s).1) (s1:=(R .head s).2) ⟨x1.adv.hi,trivial⟩ x1.adv.le (by simp only[zr];omega);rw[e1,e2];exact⟨x1.then p2.adv,rfl⟩
theorem zOS {x:Tr} (d:Lst L) (e:Pre L (.callsL x) s) (H:Hyp L R R' (.callsL x) s):Con L R R' (.callsL x) s:=by
 unfold Con zD;dsimp only
 by_cases c:onP L [40] s=true
 · simp only[if_pos c];have b:=d.on e.1 c;obtain⟨p1,e1⟩:=H.rank (q:=.args) (s1:=s) ⟨e.1,b⟩ (yAC _) (by simp only[zr];omega);have x1:Eat L s (R .args s).2:=p1;obtain⟨p2,e2⟩:=H.more d (q:=.callsL (trK 50 (x::(R .args s).1.subs))) (s1:=(R .args s).2) ⟨x1.adv.hi,trivial⟩ (x1.more b);rw[e1,e2];exact⟨x1.adv.trans p2.adv,rfl⟩
 simp only[if_neg c]
 by_cases c2:onP L [46] s=true
 · simp only[if_pos c2];have b:=d.on e.1 c2;have x0:=zAP b
   by_cases c3:(zG L (zB s).k).kind≠1∧(zG L (zB s).k).kind≠6
   · simp only[if_pos c3];exact⟨x0.trans (zy (s:=zB s) b).adv,trivial⟩
   · simp only[if_neg c3];have f:(zB s).k < L.length - 1:=d.lt b jo;obtain⟨p1,e1⟩:=H.more d (q:=.callsL (trN 52 (zG L (zB s).k).text [x])) (s1:=zB (zB s)) ⟨f,trivial⟩ (by show s.k < s.k+1+1;omega);rw[e1];exact⟨x0.trans ((zAP f).trans p1.adv),rfl⟩
 simp only[if_neg c2]
 by_cases c4:onP L [91] s=true
 · simp only[if_pos c4];have b:=d.on e.1 c4;obtain⟨p1,e1⟩:=H.more d (q:=.assign) (s1:=zB s) ⟨b,trivial⟩ (yAF _);have y:=zR (w:=[93]) d p1.adv.hi;have z:=p1.adv.trans y.adv;obtain⟨p2,e2⟩:=H.more d (q:=.callsL (trK 53 [x,(R .assign (zB s)).1])) (s1:=zL L [93] (R .assign (zB s)).2) ⟨y.adv.hi,trivial⟩ (yAA (yAF _) z.le);rw[e1,e2];exact⟨(zAP b).trans (z.trans p2.adv),rfl⟩
 · simp only[if_neg c4];exact⟨Adv.refl e.1,trivial⟩
theorem zRy {x:Tr} (c:Lst L) (e:Pre L (.headL x) s) (H:Hyp L R R' (.headL x) s):Con L R R' (.headL x) s:=by
 unfold Con zD;dsimp only
 by_cases c2:onP L [46] s=true
 · simp only[if_pos c2];have b:=c.on e.1 c2;have x0:=zAP b
   by_cases c3:(zG L (zB s).k).kind≠1∧(zG L (zB s).k).kind≠6
   · simp only[if_pos c3];exact⟨x0.trans (zy (s:=zB s) b).adv,trivial⟩
   · simp only[if_neg c3];have d:(zB s).k < L.length - 1:=c.lt b jo;obtain⟨p1,e1⟩:=H.more c (q:=.headL (trN 52 (zG L (zB s).k).text [x])) (s1:=zB (zB s)) ⟨d,trivial⟩ (by show s.k < s.k+1+1;omega);rw[e1];exact⟨x0.trans ((zAP d).trans p1.adv),rfl⟩
 simp only[if_neg c2]
 by_cases c4:onP L [91] s=true
 · simp only[if_pos c4];have b:=c.on e.1 c4;obtain⟨p1,e1⟩:=H.more c (q:=.assign) (s1:=zB s) ⟨b,trivial⟩ (yAF _);have y:=zR (w:=[93]) c p1.adv.hi;have z:=p1.adv.trans y.adv;obtain⟨p2,e2⟩:=H.more c (q:=.headL (trK 53 [x,(R .assign (zB s)).1])) (s1:=zL L [93] (R .assign (zB s)).2) ⟨y.adv.hi,trivial⟩ (yAA (yAF _) z.le);rw[e1,e2];exact⟨(zAP b).trans (z.trans p2.adv),rfl⟩
 · simp only[if_neg c4];exact⟨Adv.refl e.1,trivial⟩
theorem zVj (b:Lst L) (e:Pre L .head s) (H:Hyp L R R' .head s):Con L R R' .head s:=by
 unfold Con zD;dsimp only
 by_cases c:onP L [110,101,119] s=true
 · simp only[if_pos c];have d:=b.on e.1 c;have x0:=zA1 d;obtain⟨p1,e1⟩:=H.more b (q:=.head) (s1:=zB s) ⟨d,trivial⟩ (yAF _);have h1:s.k < (R .head (zB s)).2.k:=p1.adv.le;obtain⟨p2,e2⟩:=H.more b (q:=.headL (R .head (zB s)).1) (s1:=(R .head (zB s)).2) ⟨p1.adv.hi,trivial⟩ h1;rw[e1,e2];have y:=p1.adv.trans p2.adv
   by_cases c2:onP L [40] (R (.headL (R .head (zB s)).1) (R .head (zB s)).2).2=true
   · simp only[if_pos c2];have f:=b.on y.hi c2;obtain⟨p3,e3⟩:=H.more b (q:=.args) (s1:=(R (.headL (R .head (zB s)).1) (R .head (zB s)).2).2) ⟨y.hi,f⟩ (yAA h1 p2.adv.le);rw[e3];exact⟨x0.then (y.trans p3.adv),rfl⟩
   · simp only[if_neg c2];exact⟨x0.then y,trivial⟩
 · simp only[if_neg c];obtain⟨p1,e1⟩:=H.rank (q:=.primary) (s1:=s) ⟨e.1,trivial⟩ (yAC _) (by simp only[zr];omega);rw[e1];exact⟨p1,rfl⟩
theorem zVk (b:Lst L) (c:Pre L .args s) (H:Hyp L R R' .args s):Con L R R' .args s:=by
 have d:s.k < L.length - 1:=c.2;unfold Con zD;dsimp only;have x:=zR (w:=[40]) b c.1;obtain⟨p1,e1⟩:=H.more b (q:=.list [41]) (s1:=zL L [40] s) ⟨x.adv.hi,trivial⟩ (x.more d);rw[e1];exact⟨x.then p1.adv,rfl⟩
theorem zVl {w:List UInt8} (d:Lst L) (b:Pre L (.list w) s) (H:Hyp L R R' (.list w) s):Con L R R' (.list w) s:=by
 unfold Con zD;dsimp only
 by_cases c:onP L w s=true
 · simp only[if_pos c];exact⟨zA1 (d.on b.1 c),trivial⟩
 · simp only[if_neg c];obtain⟨p1,e1⟩:=H.rank (q:=.listL w []) (s1:=s) ⟨b.1,trivial⟩ (yAC _) (by simp only[zr];omega);rw[e1];exact⟨p1,rfl⟩
theorem zRz {w:List UInt8} {b:List Tr} (d:Lst L) (e:Pre L (.listL w b) s) (H:Hyp L R R' (.listL w b) s):Con L R R' (.listL w b) s:=by
 unfold Con zD;dsimp only;obtain⟨p1,e1⟩:=H.rank (q:=.assign) (s1:=s) ⟨e.1,trivial⟩ (yAC _) (by simp only[zr];omega);have x1:Eat L s (R .assign s).2:=p1;rw[e1]
 by_cases c:(R .assign s).2.bad≠0
 · simp only[if_pos c];exact⟨x1,trivial⟩
 simp only[if_neg c]
 by_cases c2:onP L w (R .assign s).2=true
 · simp only[if_pos c2];exact⟨x1.then (zAP (d.on x1.adv.hi c2)),trivial⟩
 simp only[if_neg c2];have y:=zR (w:=[44]) d x1.adv.hi;obtain⟨p2,e2⟩:=H.more d (q:=.listL w (b++[(R .assign s).1])) (s1:=zL L [44] (R .assign s).2) ⟨y.adv.hi,trivial⟩ (yAA (x1.lt e.1 c) y.adv.le);rw[e2];exact⟨x1.then (y.adv.trans p2.adv),rfl⟩
theorem zOT (d:Lst L) (b:Pre L .object s) (H:Hyp L R R' .object s):Con L R R' .object s:=by
 unfold Con zD;dsimp only
 by_cases c:onP L [125] s=true
 · simp only[if_pos c];exact⟨zA1 (d.on b.1 c),trivial⟩
 · simp only[if_neg c];obtain⟨p1,e1⟩:=H.rank (q:=.objL []) (s1:=s) ⟨b.1,trivial⟩ (yAC _) (by simp only[zr];omega);rw[e1];exact⟨p1,rfl⟩
theorem zVm {b:List Tr} (d:Lst L) (e:Pre L (.objL b) s) (H:Hyp L R R' (.objL b) s):Con L R R' (.objL b) s:=by
 unfold Con zD;dsimp only;obtain⟨p1,e1⟩:=H.rank (q:=.prop) (s1:=s) ⟨e.1,trivial⟩ (yAC _) (by simp only[zr];omega);have x1:Eat L s (R .prop s).2:=p1;rw[e1]
 by_cases c:(R .prop s).2.bad≠0
 · simp only[if_pos c];exact⟨x1,trivial⟩
 simp only[if_neg c]
 by_cases c2:onP L [125] (R .prop s).2=true
 · simp only[if_pos c2];exact⟨x1.then (zAP (d.on x1.adv.hi c2)),trivial⟩
 simp only[if_neg c2];have y:=zR (w:=[44]) d x1.adv.hi;obtain⟨p2,e2⟩:=H.more d (q:=.objL (b++[(R .prop s).1])) (s1:=zL L [44] (R .prop s).2) ⟨y.adv.hi,trivial⟩ (yAA (x1.lt e.1 c) y.adv.le);rw[e2];exact⟨x1.then (y.adv.trans p2.adv),rfl⟩
theorem zDt {t:Tok} (h:zBJ t=some u):t.kind≠0:=by
 unfold zBJ at h;intro b;rw[b]at h;simp at h
theorem zVn (d:Lst L) (e:Pre L .prop s) (H:Hyp L R R' .prop s):Con L R R' .prop s:=by
 unfold Con zD;dsimp only;cases hs:zBJ (zG L s.k)with
 | none=>exact⟨zy e.1,by first | rfl | trivial⟩
 | some u=>
  have b:=d.lt e.1 (zDt hs);have x0:=zA1 b;dsimp only
  by_cases c:(zG L s.k).kind=1∧onP L [58] (zB s)=false
  · simp only[if_pos c];exact⟨x0,trivial⟩
  simp only[if_neg c];have y:=zR (w:=[58]) (s:=zB s) d b;obtain⟨p1,e1⟩:=H.more d (q:=.assign) (s1:=zL L [58] (zB s)) ⟨y.adv.hi,trivial⟩ (yAA (yAF s.k) y.adv.le);rw[e1];exact⟨x0.then (y.adv.trans p1.adv),rfl⟩
theorem zMg (c:Lst L) (d:Pre L .primary s) (H:Hyp L R R' .primary s):Con L R R' .primary s:=by
 unfold Con zD;dsimp only
 by_cases c0:(zG L s.k).kind=0
 · simp only[if_pos c0];exact⟨zy d.1,trivial⟩
 simp only[if_neg c0];have b:=c.lt d.1 c0;have x0:=zA1 b
 by_cases c1:(zG L s.k).kind=2
 · simp only[if_pos c1];exact⟨x0,trivial⟩
 simp only[if_neg c1]
 by_cases c2:(zG L s.k).kind=3
 · simp only[if_pos c2];exact⟨x0,trivial⟩
 simp only[if_neg c2]
 by_cases c3:(zG L s.k).kind=4
 · simp only[if_pos c3];exact⟨x0,trivial⟩
 simp only[if_neg c3]
 by_cases c4:(zG L s.k).kind=1
 · simp only[if_pos c4];exact⟨x0,trivial⟩
 simp only[if_neg c4]
 by_cases c5:(zG L s.k).text=[116,114,117,101]
 · simp only[if_pos c5];exact⟨x0,trivial⟩
 simp only[if_neg c5]
 by_cases c6:(zG L s.k).text=[102,97,108,115,101]
 · simp only[if_pos c6];exact⟨x0,trivial⟩
 simp only[if_neg c6]
 by_cases c7:(zG L s.k).text=[110,117,108,108]
 · simp only[if_pos c7];exact⟨x0,trivial⟩
 simp only[if_neg c7]
 by_cases c8:(zG L s.k).text=[116,104,105,115]
 · simp only[if_pos c8];exact⟨x0,trivial⟩
 simp only[if_neg c8]
 by_cases e:(zG L s.k).text=[91]
 · simp only[if_pos e];obtain⟨p1,e1⟩:=H.more c (q:=.list [93]) (s1:=zB s) ⟨b,trivial⟩ (yAF _);rw[e1];exact⟨x0.then p1.adv,rfl⟩
 simp only[if_neg e]
 by_cases d0:(zG L s.k).text=[123]
 · simp only[if_pos d0];obtain⟨p1,e1⟩:=H.more c (q:=.object) (s1:=zB s) ⟨b,trivial⟩ (yAF _);rw[e1];exact⟨x0.then p1.adv,rfl⟩
 simp only[if_neg d0]
 by_cases d1:(zG L s.k).text=[102,117,110,99,116,105,111,110]
 · simp only[if_pos d1]
   by_cases d2:(zG L (zB s).k).kind=1
   · simp only[if_pos d2];have y:=zAi (s:=zB s) c b;obtain⟨p1,e1⟩:=H.more c (q:=.func 41 (zc L (zB s)).1) (s1:=(zc L (zB s)).2) ⟨y.adv.hi,trivial⟩ (yAA (yAF s.k) y.adv.le);rw[e1];exact⟨x0.then (y.adv.trans p1.adv),rfl⟩
   · simp only[if_neg d2];obtain⟨p1,e1⟩:=H.more c (q:=.func 41 []) (s1:=zB s) ⟨b,trivial⟩ (yAF _);rw[e1];exact⟨x0.then p1.adv,rfl⟩
 simp only[if_neg d1]
 by_cases d3:(zG L s.k).text=[40]
 · simp only[if_pos d3];obtain⟨p1,e1⟩:=H.more c (q:=.assign) (s1:=zB s) ⟨b,trivial⟩ (yAF _);rw[e1];exact⟨x0.then (p1.adv.trans (zR c p1.adv.hi).adv),rfl⟩
 simp only[if_neg d3];refine⟨?_,by first | rfl | trivial⟩;show Eat L s (if _ then _ else _);split
 · exact zGB jd d.1
 · exact zy d.1
theorem zIL (b:Lst L) (c:Pre L p s) (H:Hyp L R R' p s):Con L R R' p s:=by
 cases p with
 | program d=>exact zMf b c H
 | block=>exact zRr b c H
 | blockL d=>exact zOJ b c H
 | item=>exact zVb b c H
 | declares=>exact zKV b c H
 | declL k d=>exact zRs b c H
 | func k n=>exact zVc b c H
 | params=>exact zOK b c H
 | paramL d=>exact zOL b c H
 | statement=>exact zJA b c H
 | simple=>exact zOM b c H
 | word w=>exact zVd b c H
 | within=>exact zON b c H
 | clause w=>exact zOO b c H
 | loop=>exact zVe b c H
 | jump k=>exact zVf b c H
 | tries=>exact zRt b c H
 | assign=>exact zOP b c H
 | body l=>exact zVg b c H
 | cond=>exact zVh b c H
 | either=>exact zOQ b c H
 | nullL x=>exact zRu b c H
 | orL x=>exact zXf b c H
 | both x=>exact zVi b c H
 | level n=>exact zRv b c H
 | levelL n x=>exact zOR b c H
 | unary=>exact zRw b c H
 | calls=>exact zRx b c H
 | callsL x=>exact zOS b c H
 | head=>exact zVj b c H
 | headL x=>exact zRy b c H
 | args=>exact zVk b c H
 | list w=>exact zVl b c H
 | listL w d=>exact zRz b c H
 | primary=>exact zMg b c H
 | object=>exact zOT b c H
 | objL d=>exact zVm b c H
 | prop=>exact zVn b c H
end
theorem zLT {L:List Tok} (b:Lst L):∀(f g:Nat) (p:Ph) (s:Ps),Pre L p s→zk L p s < f→zk L p s < g→Post L p s (zF9 L f p s).2∧zF9 L f p s=zF9 L g p s:=by
 intro f
 induction f with
 | zero=>intro g p s _ h _;omega
 | succ f c=>
  intro g p s d j hg;obtain⟨g,rfl⟩:∃m,g=m+1:=⟨g - 1,by omega⟩;exact zIL (R:=zF9 L f) (R':=zF9 L g) b d (fun q s1 e k=>c g q s1 e jo jo)
theorem zf {L:List Tok} (b:Lst L) {s:Ps} (c:Pre L p s):Post L p s (zE L p s).2:=(zLT b _ _ p s c (yAF _) (yAF _)).1
theorem zV {L:List Tok} (b:Lst L) {s:Ps} (c:Pre L p s):zE L p s=zD L (zE L) p s:=by
 have h:=zIL (R:=zF9 L (zk L p s)) (R':=zE L) b c (fun q s1 d e=>zLT b _ _ q s1 d e (yAF _));exact h.2
theorem zIM {L:List Tok} (c:Lst L):∀(f:Nat) (p:Ph) (s:Ps),Pre L p s→Post L p s (zF9 L f p s).2:=by
 intro f
 induction f with
 | zero=>
  intro p s b;have:=zGB (L:=L) (e:=99) (s:=s) jd b.1;unfold Post;split
  · exact this
  · exact this.adv
 | succ f d=>exact fun p s b=>(zIL (R:=zF9 L f) (R':=zF9 L f) c b (fun q s1 g _=>⟨d q s1 g,rfl⟩)).1
def zZx (t u:Tok):Prop:=t.kind=u.kind∧t.text=u.text∧t.str=u.str∧t.nk=u.nk∧t.nn=u.nn∧t.mag=u.mag
def zZ3:List (List UInt8):=[[101,108,115,101],[99,97,116,99,104],[102,105,110,97,108,108,121],[63],[63,63],[124,124],[38,38],[40],[46],[91],[61],[44],[58],[61,62]]
structure Stop (t:Tok):Prop where
 name:t.kind≠1
 binds:zBE t=9
 words:∀w∈zZ3,isT t w=false
 asgn:t.kind=5→¬t.text∈zIF
 post:t.kind=5→t.text∈zDO→t.nl=true
section
variable {L1 L2:List Tok} {a d m:Nat} {lo:Bool} {s:Ps} {w:List UInt8}
variable {R1 R2:Ph→Ps→Tr×Ps}
end
def s0:Ps:=⟨0,0,0⟩
def zEf:List Kd→Nat
 | []=>0
 | k::r=>zBh k.2+10+zEf r
theorem zR0 (a b:List Kd):zEf (a++b)=zEf a+zEf b:=by
 induction a with
 | nil=>simp[zEf]
 | cons k r c=>simp only[List.cons_append,zEf,c];omega
theorem zGC (t:Tks):zBh (inP t)=zBh t+4:=by
 unfold inP;simp only[zBh,zBx,List.length_cons,List.length_nil];omega
theorem zCb (k:Kd):zBh (ze k)≤zBh k.2+4:=by
 unfold ze;split
 · omega
 · rw[zGC];omega
theorem zIN:∀(t:Tks),zBh t.dropLast≤zBh t:=by
 intro t
 induction t with
 | nil=>exact yAC _
 | cons s r b=>
  cases r with
  | nil=>simp[zBh]
  | cons c r2=>
   rw[List.dropLast_cons_of_ne_nil js];show s.length+1+zBh _≤s.length+1+zBh _;omega
theorem zDu (k:Kd):zBh (zn k)≤zBh k.2+4:=by
 unfold zn;split
 · have:=zIN k.2;omega
 · split
   · simp[zBh]
   · rw[zGC];omega
theorem zOU (f:Kd→Tks) (h:∀k,zBh (f k)≤zBh k.2+4):∀ks,zBh (zGY f ks)≤zEf ks:=by
 intro ks
 induction ks with
 | nil=>exact yAC _
 | cons k r b=>
  have:=h k;simp only[zGY,zBh,zBx,zEf,List.length_cons,List.length_nil];omega
theorem zGc (f:Kd→Tks) (h:∀k,zBh (f k)≤zBh k.2+4) (ks:List Kd):zBh (zAW f ks)≤zEf ks:=by
 cases ks with
 | nil=>exact yAC _
 | cons k r=>
  have h1:=h k;have b:=zOU f h r;simp only[zAW,zBx,zEf];omega
theorem zGd (ks:List Kd):zBh (zAW (·.2) ks)≤zEf ks:=zGc _ (fun k=>by show zBh k.2≤_;omega) ks
theorem zOV (ks:List Kd):zBh (ks.flatMap (·.2))≤zEf ks:=by
 induction ks with
 | nil=>exact yAC _
 | cons k r b=>
  simp only[List.flatMap_cons,zBx,zEf];omega
theorem zOW (i:Nat):kd [] i=(0,[]):=by simp[kd]
theorem zVo (k:Kd) (r:List Kd) (i:Nat):kd (k::r) (i+1)=kd r i:=by simp[kd]
theorem zOX (k:Kd) (r:List Kd):kd (k::r) 0=k:=by simp[kd]
theorem zZy (ks:List Kd):zBh (kd ks 0).2+zBh (kd ks 1).2+zBh (kd ks 2).2+zBh (kd ks 3).2≤zEf ks:=by
 rcases ks with _ | ⟨a,_ | ⟨b,_ | ⟨c,_ | ⟨d,r⟩⟩⟩⟩<;>simp only[zOW,zVo,zOX,zEf,zBh]<;>omega
theorem zVp (ks:List Kd):zBh (kd ks 0).2+zEf (ks.drop 1)≤zEf ks:=by
 rcases ks with _ | ⟨a,r⟩
 · simp[zOW,zEf,zBh]
 · simp only[zOX,zEf,List.drop_succ_cons,List.drop_zero];omega
theorem zOY (ks:List Kd):zEf ks.dropLast+zBh (kd ks (ks.length - 1)).2≤zEf ks:=by
 rcases List.eq_nil_or_concat ks with rfl | ⟨a,k,rfl⟩
 · simp[zOW,zEf,zBh]
 · rw[List.concat_eq_append,List.dropLast_concat,zR0];have:kd (a++[k]) ((a++[k]).length - 1)=k:=by
    unfold kd;rw[List.length_append,List.length_singleton,Nat.add_sub_cancel,yAG,List.getElem?_append_right (yAC _),Nat.sub_self];rfl
   rw[this];simp only[zEf];omega
theorem zLU (x:UInt16):(zGZ x).length≤6:=by
 unfold zGZ;split<;>simp
theorem zR1 (u:List UInt16):(zFw u).length≤6*u.length+2:=by
 unfold zFw;have:(u.flatMap zGZ).length≤6*u.length:=by
  induction u with
  | nil=>simp
  | cons x r b=>
   have:=zLU x;simp only[List.flatMap_cons,List.length_append,List.length_cons];omega
 simp only[List.length_cons,List.length_append,List.length_nil];omega
theorem zLV:∀(k n:Nat),n < 10^(k+1)→(zBZ n).length≤k+1:=by
 intro k
 induction k with
 | zero=>intro n h;rw[zBZ];rw[if_pos jo];simp
 | succ k b=>
  intro n h;rw[zBZ];split
  · simp
  · have c:n / 10 < 10^(k+1):=by rw[Nat.div_lt_iff_lt_mul jo];rwa [Nat.pow_succ]at h
    have:=b (n / 10) c;rw[List.length_append,List.length_singleton];omega
theorem zVq:∀(m:List Nat),(∀x∈m,x < 4294967296)→zEk m < 4294967296^m.length:=by
 intro m
 induction m with
 | nil=>intro _;simp[zEk]
 | cons x r b=>
  intro h;have h1:=b fun y c=>h y (List.mem_cons_of_mem _ c);have d:=h x (List.mem_cons_self ..);simp only[zEk,List.length_cons,Nat.pow_succ];omega
structure Short (x:Nd):Prop where
 name:x.name.length≤4096
 str:x.str.length≤4096
 mag:x.mag.length≤8
 limb:∀y∈x.mag,y < 4294967296
 nn:x.nn≤9007199254740991
theorem Short.dec (h:Short x):(zBZ x.nn.toNat).length≤16:=zLV 15 _ (by have:=h.nn;omega)
theorem Short.big (h:Short x):(zBZ (zEk x.mag)).length≤78:=by
 refine zLV 77 _ (yAA (zVq x.mag h.limb) (yAD (Nat.pow_le_pow_right jo h.mag) (by decide+kernel)))
theorem zGe (ks:List Kd):zBh (zt ks)≤zEf ks+4:=by
 unfold zt;have:=zGd ks;simp only[zBh,zBx,List.length_cons,List.length_nil];omega
theorem zHh (s:List UInt8):zBh (zAs s)≤s.length+1:=by
 unfold zAs;split<;>simp[zBh]
theorem zJC (x:Nd) (ks:List Kd):zBh (zFZ x ks)≤x.name.length+20+zEf ks:=by
 unfold zFZ;have h1:=zHh x.name;have b:=zGe ks.dropLast;have c:=zOY ks;simp only[zBh,zBx,List.length_cons,List.length_nil];omega
theorem zOZ (ks:List Kd):zBh (zEl ks)≤20+zEf ks:=by
 unfold zEl;have h1:=zVp ks;have b:=zCb (kd ks 0);have c:=zGc ze zCb (ks.drop 1);simp only[zBh,zBx,List.length_cons,List.length_nil];omega
theorem zLW {p:Prop} [Decidable p] (a b:Tks):zBh (if p then a else b)=if p then zBh a else zBh b:=by split<;>rfl
theorem zVA {p:Prop} [Decidable p] {a b:Tks} {n:Nat} (h1:zBh a≤n) (c:zBh b≤n):zBh (if p then a else b)≤n:=by
 split
 · exact h1
 · exact c
theorem zOa (h:Short x) (ks:List Kd):zBh (zj x ks)≤30000+zEf ks:=by
 have d:=h.name;have e:=zZy ks;have f:=zOV ks;have g:=zGd ks;have b:=zJC x ks;have c:=zHh x.name;have c0:=zDu (kd ks 0);have c1:=zDu (kd ks 1);have c2:=zDu (kd ks 2);unfold zj zBS
 repeat' refine zVA ?_ ?_
 all_goals try simp only[zBx,zGC,zLW,List.length_cons,List.length_nil,zBh]
 all_goals repeat' split
 all_goals first | omega | (simp only[List.length_cons,List.length_nil];omega)
theorem zOb (h:Short x) (ks:List Kd):zBh (zh x ks)≤30000+zEf ks:=by
 have e:=h.name;have hs:=h.str;have f:=zR1 x.str;have g:=h.dec;have hb:=h.big;have j:=zZy ks;have k:=zGd ks;have b:=zGc ze zCb ks;have c:=zJC x ks;have d:=zOZ ks;have l:=zGe ks.dropLast;have m:=zOY ks;have p0:=zCb (kd ks 0);have p1:=zCb (kd ks 1);have p2:=zCb (kd ks 2);unfold zh zE3
 repeat' refine zVA ?_ ?_
 all_goals try simp only[zBx,zGC,zLW,List.length_append,List.length_cons,List.length_nil,zBh]
 all_goals repeat' split
 all_goals first | omega | (simp only[List.length_cons,List.length_nil];omega)
theorem zOc (h:Short x) (ks:List Kd):zBh (zAn x ks)≤30000+zEf ks:=by
 unfold zAn;split
 · exact zOa h ks
 · exact zOb h ks
mutual
def ShortT:Tr→Prop
 | .mk x l=>Short x∧ShortL l
def ShortL:List Tr→Prop
 | []=>True
 | t::r=>ShortT t∧ShortL r
end
theorem zCF (x:Nd) (l:List Tr):ShortT (.mk x l)=(Short x∧ShortL l):=by rw[ShortT]
theorem zEm (t:Tr) (r:List Tr):ShortL (t::r)=(ShortT t∧ShortL r):=by rw[ShortL]
mutual
theorem prT_len (t:Tr) (h:ShortT t):zBh (prT t)+10≤30010*t.size:=by
 cases t with
 | mk x l=>
  rw[zCF]at h;have h1:=zOc h.1 (prs l);have h2:=prs_sum l h.2;rw[zAR,zi];omega
theorem prs_sum (l:List Tr) (h:ShortL l):zEf (prs l)≤30010*sizes l:=by
 cases l with
 | nil=>rw[zZ,zN];simp[zEf]
 | cons t r=>
  rw[zEm]at h;have h1:=prT_len t h.1;have h2:=prs_sum r h.2;rw[zI,zH];simp only[zEf];omega
end
theorem zKW:∀(r:List Nd) (m:Nat),zB4 ts m r=true→∀n x,r[n]? =some x→zK x=true∧zC4 ts x=true∧(0 < m+n→x.kind≠1):=by
 intro r
 induction r with
 | nil=>intro m _ n x h;cases h
 | cons y r d=>
  intro m h n x b;unfold zB4 at h;simp only[Bool.and_eq_true,Bool.not_eq_true',Bool.and_eq_false_iff,decide_eq_false_iff_not,yA]at h;cases n with
  | zero=>
   obtain rfl:y=x:=Option.some.inj b;exact⟨h.1.1.2,h.1.2,fun c=>by rcases h.1.1.1 with h1 | h1;exact absurd c h1;exact h1⟩
  | succ n=>
   have:=d (m+1) h.2 n x b;exact⟨this.1,this.2.1,fun c=>this.2.2 jo⟩
structure May (ts:List Nd) (t:Tr):Prop where
 flat:ts=flatT 0 t
 len:ts.length≤4096
 each:zB4 ts 0 ts=true
 nest:depT t≤48
 kind:t.nd.kind=1
theorem zBa (n:Nat) (t:Tr):(t.laid n).kind=t.nd.kind:=by cases t;rfl
theorem zR2 (h:zRh ts=true):∃t,May ts t:=by
 unfold zRh at h;cases ts with
 | nil=>cases h
 | cons x r=>
  simp only[Bool.and_eq_true,decide_eq_true_eq,beq_iff_eq]at h;obtain⟨⟨⟨⟨h1,e⟩,f⟩,g⟩,d⟩:=h;obtain⟨t,c⟩:=zHe f;have b:=zFX 0 t;rw[←c]at b;have b:x=t.laid 0:=Option.some.inj b;rw[c,zGX]at d;exact⟨t,c,h1,g,d,by rw[←zBa 0 t,←b];exact e⟩
theorem zVB (h:May ts t):zRh ts=true:=by
 have b:=zFX 0 t;rw[←h.flat]at b;unfold zRh;cases ts with
 | nil=>cases b
 | cons x r=>
  have b:x=t.laid 0:=Option.some.inj b;simp only[Bool.and_eq_true,decide_eq_true_eq,beq_iff_eq];refine⟨⟨⟨⟨h.len,by rw[b,zBa];exact h.kind⟩,?_⟩,h.each⟩,?_⟩
  · rw[h.flat];exact zHf t
  · rw[h.flat,zGX];exact h.nest
theorem May.at_ (h:May ts t):At ts 0 t:=by rw[h.flat];exact At.whole t
theorem zJD {n:Nat} (h:At ts n t):atN ts (n:Int)=t.laid n:=by
 unfold atN;rw[yAG,Int.toNat_natCast,h.get];rfl
theorem zKX:∀(ks:List Int) (l:List Nat),zBv ts l 0 ks=true→ks.length≤l.length:=by
 intro ks
 induction ks with
 | nil=>intro l _;simp
 | cons k r b=>
  intro l h;cases l with
  | nil=>
   unfold zBv at h;simp[zx]at h
  | cons s l=>
   unfold zBv at h;rw[Bool.and_eq_true]at h;have:=b l h.2;simp only[List.length_cons];omega
theorem zR3 (h:zC4 ts x=true):(zl x.kind x.kids.length).1.length≤x.kids.length∧((zl x.kind x.kids.length).2=0→x.kids.length=(zl x.kind x.kids.length).1.length):=by
 unfold zC4 at h;simp only[Bool.and_eq_true,decide_eq_true_eq]at h;obtain⟨⟨⟨_,h1⟩,b⟩,_⟩:=h;refine⟨h1,fun c=>Nat.le_antisymm ?_ h1⟩;rw[c]at b;exact zKX _ _ b
structure Cnt (k:Int) (n:Nat):Prop where
 one:k=3∨k=15∨k=40∨k=43∨k=52∨k=17∨k=18∨k=44∨k=45→n=1
 two:k=9∨k=46∨k=47∨k=53∨k=49→n=2
 opt:k=7∨k=14→n≤1
 three:k=16∨k=48→n=3
 if_:k=8→n=2∨n=3
 four:k=10→n=4
 some_:k=5∨k=6∨k=19∨k=41∨k=42∨k=50∨k=51→1≤n
 none_:k=2∨k=11∨k=12∨k=13∨k=20∨(30≤k∧k≤37)→n=0
theorem zFa (n last:Nat):(zA5 n last).length=n - 1+1:=by simp[zA5]
theorem zR4 (h:zC4 ts x=true):Cnt x.kind x.kids.length:=by
 obtain⟨h1,b⟩:=zR3 h;obtain⟨n,d⟩:=jx x.kids.length;obtain⟨k,hk⟩:=jx x.kind;rw[hk,d]at h1 b⊢;constructor
 · rintro(rfl | rfl | rfl | rfl | rfl | rfl | rfl | rfl | rfl)<;>exact b rfl
 · rintro(rfl | rfl | rfl | rfl | rfl)<;>exact b rfl
 · rintro(rfl | rfl)
   all_goals
    have:=b rfl;have e:([3].take (min n 1):List Nat).length≤1:=by rw[List.length_take];simp;omega
    exact yAD (Nat.le_of_eq this) e
 · rintro(rfl | rfl)<;>exact b rfl
 · rintro rfl;have c:=b rfl;have e:([3,2,2].take (min (max n 2) 3):List Nat).length=min (max n 2) 3:=by rw[List.length_take];simp
   have f:n=min (max n 2) 3:=c.trans e;omega
 · rintro rfl;exact b rfl
 · rintro(rfl | rfl | rfl | rfl | rfl | rfl | rfl)
   · exact h1
   · exact h1
   · have:n=(zA5 n 8).length:=b rfl;rw[zFa]at this;omega
   · have:n=(zA5 n 8).length:=b rfl;rw[zFa]at this;omega
   · have:n=(zA5 n 13).length:=b rfl;rw[zFa]at this;omega
   · exact h1
   · exact h1
 · intro c;have e:zl k n=([],0):=by
    unfold zl;rw[jn,jn,jn,jn,jn,jn,jn,jn,jn,jn,jn,jn,jn,jn,jn,jn,jn,jn,jn]
   rw[e]at b;exact b rfl
theorem At.cnt {n:Nat} (c:zB4 ts 0 ts=true) (h:At ts n (.mk x l)):Cnt x.kind l.length:=by
 have h1:=(zKW ts 0 c n _ h.get).2.1;have b:=zR4 h1;have e:((Tr.mk x l).laid n).kids.length=l.length:=zBd (n+1) l;rw[e]at b;exact b
theorem zCv (h:zK x=true) (g:∀y∈x.mag,y < 4294967296):Short x:=by
 unfold zK at h
 by_cases h1:4096 < x.name.length
 · rw[if_pos h1]at h;cases h
 rw[if_neg h1]at h
 by_cases j:(!(x.kind==32)&& !(x.kind==40)&& !x.str.isEmpty)=true
 · rw[if_pos j]at h;cases h
 rw[if_neg j]at h
 by_cases k:(!(x.kind==30)&& !(x.nk==0&&x.nn==0))=true
 · rw[if_pos k]at h;cases h
 rw[if_neg k]at h
 by_cases d:(!(x.kind==31)&&(x.neg || !x.mag.isEmpty))=true
 · rw[if_pos d]at h;cases h
 rw[if_neg d]at h;have hs:x.kind≠32∧x.kind≠40→x.str=[]:=by
  rintro⟨a,b⟩;have e:(x.kind==32)=false:=yA.2 a;have o:(x.kind==40)=false:=yA.2 b;rw[e,o]at j;simpa using j
 have l:x.kind≠30→x.nk=0∧x.nn=0:=by
  intro a;have e:(x.kind==30)=false:=yA.2 a;rw[e]at k;simpa using k
 have m:x.kind≠31→x.mag=[]:=by
  intro a;have e:(x.kind==31)=false:=yA.2 a;rw[e]at d;simp only[Bool.not_false,Bool.true_and,Bool.or_eq_true,Bool.not_eq_true',not_or,Bool.not_eq_true]at d;simpa using d.2
 by_cases k1:x.kind=32∨x.kind=40
 · rw[if_pos k1]at h;simp only[Bool.and_eq_true,decide_eq_true_eq]at h;exact⟨by omega,h.2,by rw[m jo];simp,g,by rw[(l jo).2];omega⟩
 rw[if_neg k1]at h;have f:x.str=[]:=hs jo
 by_cases k2:x.kind=30
 · rw[if_pos k2]at h;simp only[Bool.and_eq_true,decide_eq_true_eq,beq_iff_eq]at h;have c:=h.1.2;unfold zDd at c;rw[if_pos h.1.1.2]at c;simp only[Bool.and_eq_true,decide_eq_true_eq]at c;exact⟨by omega,by rw[f];simp,by rw[m jo];simp,g,c.2⟩
 rw[if_neg k2]at h
 by_cases k3:x.kind=31
 · rw[if_pos k3]at h;simp only[Bool.and_eq_true,decide_eq_true_eq]at h;have c:=h.1.2;unfold zBR at c;simp only[Bool.and_eq_true,decide_eq_true_eq]at c;exact⟨by omega,by rw[f];simp,c.1,g,by rw[(l k2).2];omega⟩
 · exact⟨by omega,by rw[f];simp,by rw[m k3];simp,g,by rw[(l k2).2];omega⟩
theorem Short.laid {ks:List Int} (h:Short {x with kids:=ks}):Short x:=⟨h.name,h.str,h.mag,h.limb,h.nn⟩
mutual
theorem shortT_flat (n:Nat) (t:Tr) (h:∀x∈flatT n t,Short x):ShortT t:=by
 cases t with
 | mk x l=>
  rw[zA8]at h;rw[zCF];exact⟨(h _ (List.mem_cons_self ..)).laid,shortL_flat (n+1) l fun y hy=>h y (List.mem_cons_of_mem _ hy)⟩
theorem shortL_flat (n:Nat) (l:List Tr) (h:∀x∈flatL n l,Short x):ShortL l:=by
 cases l with
 | nil=>rw[ShortL];trivial
 | cons t r=>
  rw[zAS]at h;rw[zEm];exact⟨shortT_flat n t fun y hy=>h y (List.mem_append_left _ hy),shortL_flat (n+t.size) r fun y hy=>h y (List.mem_append_right _ hy)⟩
end
theorem zR5 (b:zB4 ts 0 ts=true) (c:x∈ts):zK x=true∧zC4 ts x=true:=by
 obtain⟨n,d,rfl⟩:=List.getElem_of_mem c;have:=zKW ts 0 b n ts[n] (yAB d);exact⟨this.1,this.2.1⟩
theorem May.short (h:May ts t) (c:∀x∈ts,∀y∈x.mag,y < 4294967296):ShortT t:=by
 refine shortT_flat 0 t fun x b=>?_;rw[←h.flat]at b;exact zCv (zR5 h.each b).1 (c x b)
theorem May.few (h:May ts t) (b:∀x∈ts,∀y∈x.mag,y < 4294967296):zBh (prT t)≤122920960:=by
 have h1:=prT_len t (h.short b);have c:t.size=ts.length:=by rw[h.flat,flatT_len]
 have d:=h.len;omega
mutual
def dangT:Tr→Bool
 | .mk x l=>if x.kind=8∧l.length=2 then true else if x.kind=8∨x.kind=9∨x.kind=10∨x.kind=18 then dangL l else false
def dangL:List Tr→Bool
 | []=>false
 | t::r=>match r with | []=>dangT t | _::_=>dangL r
end
theorem zCw (x:Nd) (l:List Tr):dangT (.mk x l)=if x.kind=8∧l.length=2 then true else if x.kind=8∨x.kind=9∨x.kind=10∨x.kind=18 then dangL l else false:=by rw[dangT]
theorem zOd:dangL []=false:=by rw[dangL]
theorem zDv (t:Tr):dangL [t]=dangT t:=by rw[dangL]
theorem zCg (t s:Tr) (r:List Tr):dangL (t::s::r)=dangL (s::r):=by rw[dangL]
def zAb (l:List Tr):List Int:=l.map (·.nd.kind)
def zC7:List Nat→Nat→List Int→Bool
 | _,_,[]=>true
 | [],r,k::ks=>zx r k&&zC7 [] r ks
 | s::l,r,k::ks=>zx s k&&zC7 l r ks
def zXg (l:List Tr) (i:Nat):Int:=(zAb l).getD i 0
def zR6 (l:List Tr) (i:Nat):Bool:=match l[i]? with | none=>false | some t=>dangT t
def zAv (k:Int) (l:List Tr):Bool:=
 zAr k&&decide ((zl k l.length).1.length≤l.length)
 &&zC7 (zl k l.length).1 (zl k l.length).2 (zAb l)
 &&(if k=16 then(zXg l 1==17 || zXg l 2==4)else if k=8∧l.length=3 then !(zR6 l 1)else true)
mutual
def goodT:Tr→Bool
 | .mk x l=>zK x&&zAv x.kind l&&goodL l
def goodL:List Tr→Bool
 | []=>true
 | t::r=>goodT t&&goodL r
end
theorem zIO (x:Nd) (l:List Tr):goodT (.mk x l)=(zK x&&zAv x.kind l&&goodL l):=by rw[goodT]
theorem zJE:goodL []=true:=by rw[goodL]
theorem zHi (t:Tr) (r:List Tr):goodL (t::r)=(goodT t&&goodL r):=by rw[goodL]
theorem zJF:goodL l=true↔∀t∈l,goodT t=true:=by
 induction l with
 | nil=>rw[zJE];simp
 | cons t r b=>rw[zHi,Bool.and_eq_true,b];simp
theorem zHj:∀(l:List Tr),dangL l=match l.getLast? with | none=>false | some t=>dangT t:=by
 intro l
 induction l with
 | nil=>rw[zOd];rfl
 | cons t r b=>
  cases r with
  | nil=>rw[zDv];rfl
  | cons s r=>rw[zCg,b,List.getLast?_cons_cons]
theorem zKY:∀{ts:List Nd} {l:List Tr} {n:Nat} (_:AtL ts n l),(l=[]∧(zz n l).getLast? =none)∨∃(p:Nat) (t:Tr),(zz n l).getLast? =some (p:Int)∧l.getLast? =some t∧At ts p t∧t.size≤sizes l:=by
 intro ts l
 induction l with
 | nil=>intro n _;exact .inl ⟨rfl,rfl⟩
 | cons t r d=>
  intro n h;right;rcases d h.tail with⟨e,_⟩ | ⟨p,s,h1,c,f,g⟩
  · subst e;exact⟨n,t,rfl,rfl,h.head,by rw[zH];omega⟩
  · cases r with
    | nil=>cases c
    | cons s' b=>
     refine⟨p,s,?_,by rw[List.getLast?_cons_cons];exact c,f,by rw[zH];omega⟩;show((n:Int)::zz (n+t.size) (s'::b)).getLast? =_;rw[show zz (n+t.size) (s'::b)=((n+t.size:Nat):Int)::zz (n+t.size+s'.size) b from rfl]at h1⊢;rw[List.getLast?_cons_cons];exact h1
theorem zVr:∀(f:Nat) (n:Nat) (t:Tr),At ts n t→t.size≤f→zMZ f ts (n:Int)=dangT t:=by
 intro f
 induction f with
 | zero=>intro n t _ h;have:=zBO t;omega
 | succ f b=>
  intro n t h c;cases t with
  | mk x l=>
   rw[zi]at c;rw[zCw];unfold zMZ;have e1:(atN ts (n:Int)).kind=x.kind:=by rw[zJD h];rfl
   have e2:(atN ts (n:Int)).kids=zz (n+1) l:=by rw[zJD h];rfl
   rw[e1,e2,zBd];congr 1;congr 1;rw[zHj];rcases zKY h.subs with⟨d,h1⟩ | ⟨p,s,h1,e,g,j⟩
   · rw[h1,d];rfl
   · rw[h1,e];exact b p s g jo
theorem zOe {n:Nat} (h:At ts n t):zDq ts (n:Int)=dangT t:=zVr _ n t h (by have:=h.le;omega)
theorem zXh:∀(l:List Tr) (n:Nat) (s:List Nat) (r:Nat),AtL ts n l→zBv ts s r (zz n l)=zC7 s r (zAb l):=by
 intro l
 induction l with
 | nil=>intro n s r _;cases s<;>rfl
 | cons t l b=>
  intro n s r h;have h1:(atN ts (n:Int)).kind=t.nd.kind:=by rw[zJD h.head,zBa]
  cases s with
  | nil=>
   show(zx r (atN ts (n:Int)).kind&&zBv ts [] r (zz (n+t.size) l))=(zx r t.nd.kind&&zC7 [] r (zAb l));rw[h1,b _ _ _ h.tail]
  | cons a s=>
   show(zx a (atN ts (n:Int)).kind&&zBv ts s r (zz (n+t.size) l))=(zx a t.nd.kind&&zC7 s r (zAb l));rw[h1,b _ _ _ h.tail]
theorem zR7:∀(ks:List Int) (l:List Nat),zC7 l 0 ks=true→ks.length≤l.length:=by
 intro ks
 induction ks with
 | nil=>intro l _;simp
 | cons k r b=>
  intro l h;cases l with
  | nil=>
   unfold zC7 at h;simp[zx]at h
  | cons s l=>
   unfold zC7 at h;rw[Bool.and_eq_true]at h;have:=b l h.2;simp only[List.length_cons];omega
theorem zEn {n:Nat} (h:AtL ts n l) {i:Nat} (hi:i < l.length):∃p:Nat,(zz n l).getD i 0=(p:Int)∧At ts p l[i]:=by
 obtain⟨p,h1,b,_⟩:=h.kid i hi;exact⟨p,by rw[yAG,h1];rfl,b⟩
theorem zOf {i:Nat} (hi:i < l.length):zXg l i=l[i].nd.kind:=by
 unfold zXg zAb;rw[yAG,List.getElem?_map,yAB hi];rfl
theorem zVs {n:Nat} (h:At ts n (.mk x l)):zC4 ts ((Tr.mk x l).laid n)=zAv x.kind l:=by
 have hk:((Tr.mk x l).laid n).kind=x.kind:=rfl;have hs:((Tr.mk x l).laid n).kids=zz (n+1) l:=rfl;unfold zC4 zAv;rw[hk,hs,zBd,zXh l (n+1) _ _ h.subs]
 by_cases h1:decide ((zl x.kind l.length).1.length≤l.length)=true
 · rw[h1]
   by_cases c:zC7 (zl x.kind l.length).1 (zl x.kind l.length).2 (zAb l)=true
   · rw[c];congr 1
     by_cases b:x.kind=16
     · rw[if_pos b,if_pos b];have g:l.length=3:=by
        rw[b]at h1 c;have f:3≤l.length:=of_decide_eq_true h1;have e:=zR7 _ _ c;unfold zAb at e;rw[List.length_map]at e;exact Nat.le_antisymm e f
       obtain⟨p,e1,a1⟩:=zEn h.subs (i:=1) jo;obtain⟨q,e2,a2⟩:=zEn h.subs (i:=2) jo;rw[e1,e2,zJD a1,zJD a2,zBa,zBa,zOf jo,zOf jo]
     · rw[if_neg b,if_neg b]
       by_cases d:x.kind=8∧l.length=3
       · rw[if_pos d,if_pos d];obtain⟨p,e1,a1⟩:=zEn h.subs (i:=1) jo;rw[e1,zOe a1];unfold zR6;rw[yAB jo]
       · rw[if_neg d,if_neg d]
   · rw[Bool.not_eq_true]at c;rw[c];simp
 · rw[Bool.not_eq_true]at h1;rw[h1];simp
theorem zR8 (a b:List Nd) (n:Nat):zB4 ts n (a++b)=(zB4 ts n a&&zB4 ts (n+a.length) b):=by
 induction a generalizing n with
 | nil=>simp[zB4]
 | cons x r c=>
  show(_&&zB4 ts (n+1) (r++b))=_;rw[c];show _=((_&&zB4 ts (n+1) r)&&zB4 ts (n+(r.length+1)) b);rw[show n+1+r.length=n+(r.length+1) by omega];simp only[Bool.and_assoc]
theorem zJG (x:Nd) (ks:List Int):zK {x with kids:=ks}=zK x:=rfl
theorem zLX (s:Nat):zx s 1=false:=by
 have f:∀{p:Prop} [Decidable p] {a b:Bool},a=false→b=false→(if p then a else b)=false:=fun h1 c=>by split<;>assumption
 unfold zx
 repeat' refine f ?_ ?_
 all_goals rfl
theorem zR9:∀(ks:List Int) (s:List Nat) (r:Nat),zC7 s r ks=true→∀k∈ks,k≠1:=by
 intro ks
 induction ks with
 | nil=>intro s r _ k hk;cases hk
 | cons a ks c=>
  intro s r h k hk;cases s with
  | nil=>
   unfold zC7 at h;rw[Bool.and_eq_true]at h;rcases List.mem_cons.1 hk with rfl | hk
   · intro e;rw[e,zLX]at h;cases h.1
   · exact c _ _ h.2 k hk
  | cons b s=>
   unfold zC7 at h;rw[Bool.and_eq_true]at h;rcases List.mem_cons.1 hk with rfl | hk
   · intro e;rw[e,zLX]at h;cases h.1
   · exact c _ _ h.2 k hk
mutual
theorem eachT {ts:List Nd} (n:Nat) (t:Tr) (h:At ts n t) (h1:n=0∨t.nd.kind≠1):zB4 ts n (flatT n t)=goodT t:=by
 cases t with
 | mk x l=>
  rw[zA8,zIO];show(!(decide (0 < n)&&x.kind==1)&&zK {x with kids:=zz (n+1) l}&&zC4 ts ((Tr.mk x l).laid n)&&zB4 ts (n+1) (flatL (n+1) l))=_;have e:(decide (0 < n)&&x.kind==1)=false:=by
   rcases h1 with h1 | h1
   · subst h1;rfl
   · have:(x.kind==1)=false:=yA.2 h1;rw[this,Bool.and_false]
  rw[e,zJG,zVs h,Bool.not_false,Bool.true_and]
  by_cases h2:zAv x.kind l=true
  · rw[eachL (n+1) l h.subs jo (by
     unfold zAv at h2;simp only[Bool.and_eq_true]at h2;intro t ht;exact zR9 _ _ _ h2.1.2 _ (List.mem_map_of_mem ht))]
  · rw[Bool.not_eq_true]at h2;rw[h2];simp
theorem eachL {ts:List Nd} (n:Nat) (l:List Tr) (h:AtL ts n l) (h0:0 < n) (h1:∀t∈l,t.nd.kind≠1):zB4 ts n (flatL n l)=goodL l:=by
 cases l with
 | nil=>rw[zBI,zJE];rfl
 | cons t r=>
  rw[zAS,zHi,zR8,flatT_len,eachT n t h.head (.inr (h1 t (List.mem_cons_self ..))),eachL (n+t.size) r h.tail jo fun s hs=>h1 s (List.mem_cons_of_mem _ hs)]
end
structure Good (t:Tr):Prop where
 size:t.size≤4096
 kind:t.nd.kind=1
 good:goodT t=true
 nest:depT t≤48
theorem zIP:May (flatT 0 t) t↔Good t:=by
 have b:=eachT (ts:=flatT 0 t) 0 t (At.whole t) (.inl rfl);constructor
 · intro h;exact⟨by have:=h.len;rwa[flatT_len]at this,h.kind,by rw[←b];exact h.each,h.nest⟩
 · intro h;exact⟨rfl,by rw[flatT_len];exact h.size,by rw[b];exact h.good,h.nest,h.kind⟩
theorem zIQ (h:May ts t):Good t:=by
 have e:=h.flat
 subst e;exact zIP.1 h
theorem zSA:zRh ts=true↔∃t,ts=flatT 0 t∧Good t:=by
 constructor
 · intro h;obtain⟨t,b⟩:=zR2 h;exact⟨t,b.flat,zIQ b⟩
 · rintro⟨t,rfl,h⟩;exact zVB (zIP.2 h)
theorem zLY (r:Nat):∀ks:List Int,zC7 [] r ks=ks.all (zx r):=by
 intro ks
 induction ks with
 | nil=>rfl
 | cons k ks b=>
  show(zx r k&&zC7 [] r ks)=_;rw[b];rfl
theorem zDw {r:Nat} (h:∀t∈l,zx r t.nd.kind=true):zC7 [] r (zAb l)=true:=by
 rw[zLY,List.all_eq_true];intro k hk;unfold zAb at hk;obtain⟨t,b,rfl⟩:=List.mem_map.1 hk;exact h t b
theorem zFb (h1:zK x=true) (b:zAv x.kind l=true) (c:∀t∈l,goodT t=true):goodT (.mk x l)=true:=by
 rw[zIO,h1,b,zJF.2 c];rfl
def zHk:List Int:=[1,2,3,4,5,6,8,9,10,11,12,13,14,15,16,17,34,35,36,37,38,39,42,48,50,51,53]
theorem zSB:∀k∈zHk,zK {zBo with kind:=k}=true:=by decide+kernel
theorem zCh (hk:k∈zHk) (b:zAv k l=true) (c:∀t∈l,goodT t=true):goodT (trK k l)=true:=zFb (zSB k hk) b c
def zJH:List Int:=[7,12,13,17,18,19,20,33,41,43,44,45,46,47,49,52]
theorem zMh:∀k∈zJH,k≠30∧k≠31∧k≠32∧k≠40:=by decide
theorem zSC (hk:k∈zJH) (b:n.length≤4096) (c:zAe k n=true):zK {zBo with kind:=k,name:=n}=true:=by
 obtain⟨a1,a2,a3,a4⟩:=zMh k hk;show zK ⟨k,n,[],0,0,false,[],[]⟩=true;unfold zK;simp[a1,a2,a3,a4,Nat.not_lt.2 b,c]
theorem zFx (hk:k∈zJH) (b:n.length≤4096) (c:zAe k n=true) (d:zAv k l=true) (e:∀t∈l,goodT t=true):goodT (trN k n l)=true:=zFb (zSC hk b c) d e
theorem zCS {P:Tr→Prop}:∀t∈([]:List Tr),P t:=fun t h=>by cases h
theorem zGD {P:Tr→Prop} {a:Tr} (h:P a):∀t∈[a],P t:=fun t b=>by rw[List.mem_singleton.1 b];exact h
theorem zKZ {P:Tr→Prop} {a b:Tr} (h:P a) (d:P b):∀t∈[a,b],P t:=fun t c=>by
 rcases List.mem_cons.1 c with rfl | c
 · exact h
 · exact zGD d t c
theorem zVC {P:Tr→Prop} {a b c:Tr} (h:P a) (e:P b) (f:P c):∀t∈[a,b,c],P t:=fun t d=>by
 rcases List.mem_cons.1 d with rfl | d
 · exact h
 · exact zKZ e f t d
theorem zZz {P:Tr→Prop} {a b c d:Tr} (h:P a) (f:P b) (g:P c) (j:P d):∀t∈[a,b,c,d],P t:=fun t e=>by
 rcases List.mem_cons.1 e with rfl | e
 · exact h
 · exact zVC f g j t e
theorem zAj {P:Tr→Prop} {a:Tr} (h:∀t∈l,P t) (c:P a):∀t∈l++[a],P t:=fun t d=>by
 rcases List.mem_append.1 d with b | b
 · exact h t b
 · exact zGD c t b
def GE (t:Tr):Prop:=goodT t=true∧zBf t.nd.kind=true
def GS (t:Tr):Prop:=goodT t=true∧zDc t.nd.kind=true
def GU (t:Tr):Prop:=goodT t=true∧zCM t.nd.kind=true
def GQ (k:Int) (t:Tr):Prop:=goodT t=true∧t.nd.kind=k
theorem zMi (h:zCM k=true):zDc k=true:=by
 unfold zCM at h;simp only[Bool.and_eq_true]at h;exact h.1.1.1
theorem GU.stmt (h:GU t):GS t:=⟨h.1,zMi h.2⟩
theorem zOg (hk:k=1∨k=4) (h:∀t∈l,GS t):goodT (trK k l)=true:=by
 have c:zAv k l=true:=by
  have:=zDw (l:=l) (r:=1) (fun t b=>(h t b).2);rcases hk with rfl | rfl<;>(unfold zAv zl;simp[zAr,this])
 exact zCh (by rcases hk with rfl | rfl<;>decide) c (fun t b=>(h t b).1)
theorem zVt (h:∀t∈l,GE t):GE (trK 38 l):=by
 have:=zDw (l:=l) (r:=3) (fun t b=>(h t b).2);exact⟨zCh jd (by unfold zAv zl;simp[zAr,this]) (fun t b=>(h t b).1),rfl⟩
theorem zLZ (h:∀t∈l,GQ 40 t):GE (trK 39 l):=by
 have:=zDw (l:=l) (r:=7) (fun t b=>by unfold zx;simp[(h t b).2]);exact⟨zCh jd (by unfold zAv zl;simp[zAr,this]) (fun t b=>(h t b).1),rfl⟩
theorem zOh (hk:k=50∨k=51) {a:Tr} (c:GE a) (h:∀t∈l,GE t):GE (trK k (a::l)):=by
 have:=zDw (l:=l) (r:=3) (fun t b=>(h t b).2);have d:zx 3 a.nd.kind=true:=c.2;refine⟨zCh (by rcases hk with rfl | rfl<;>decide) ?_ (fun t b=>?_),by rcases hk with rfl | rfl<;>rfl⟩
 · have e:zAb (a::l)=a.nd.kind::zAb l:=rfl;rcases hk with rfl | rfl<;>(unfold zAv zl;simp[zAr,e,zC7,this,d])
 · rcases List.mem_cons.1 b with rfl | b
   · exact c.1
   · exact(h t b).1
theorem zVu (hk:k=5∨k=6) (c:l≠[]) (h:∀t∈l,GQ 7 t):goodT (trK k l)=true:=by
 cases l with
 | nil=>exact absurd rfl c
 | cons a l=>
  have:=zDw (l:=l) (r:=5) (fun t b=>by unfold zx;simp[(h t (List.mem_cons_of_mem _ b)).2]);have d:zx 5 a.nd.kind=true:=by unfold zx;simp[(h a js).2]
  have e:zAb (a::l)=a.nd.kind::zAb l:=rfl;refine zCh (by rcases hk with rfl | rfl<;>decide) ?_ (fun t b=>(h t b).1);rcases hk with rfl | rfl<;>(unfold zAv zl;simp[zAr,e,zC7,this,d])
theorem zDx (hk:k∈([2,11,12,13,14,34,35,36,37]:List Int)):goodT (trK k [])=true:=by
 have b:∀k∈([2,11,12,13,14,34,35,36,37]:List Int),k∈zHk∧zAv k []=true:=by decide+kernel
 exact zCh (b k hk).1 (b k hk).2 zCS
theorem zGf (hk:k∈([7,12,13,20,33]:List Int)) (c:n.length≤4096) (d:zAe k n=true):goodT (trN k n [])=true:=by
 have b:∀k∈([7,12,13,20,33]:List Int),k∈zJH∧zAv k []=true:=by decide+kernel
 exact zFx (b k hk).1 c d (b k hk).2 zCS
theorem zIR (hk:k∈([3,7,14,15,40,43,52]:List Int)) {a:Tr} (b:zBf a.nd.kind=true):zAv k [a]=true:=by
 have c:zx 3 a.nd.kind=true:=b;have e:zAb [a]=[a.nd.kind]:=rfl;simp only[List.mem_cons,List.not_mem_nil,or_false]at hk;rcases hk with rfl | rfl | rfl | rfl | rfl | rfl | rfl<;>(unfold zAv zl;simp[zAr,e,zC7,c])
theorem zVv (hk:k∈([3,14,15]:List Int)) {a:Tr} (b:GE a):goodT (trK k [a])=true:=
 zCh (by revert k;decide) (zIR (by revert k;decide) b.2) (zGD b.1)
theorem zLa (hk:k∈([7,43,52]:List Int)) {a:Tr} (d:n.length≤4096) (e:zAe k n=true) (b:GE a):goodT (trN k n [a])=true:=
 have c:∀k∈([7,43,52]:List Int),k∈zJH∧k∈([3,7,14,15,40,43,52]:List Int):=by decide
 zFx (c k hk).1 d e (zIR (c k hk).2 b.2) (zGD b.1)
theorem zVD (hk:k=44∨k=45) {a:Tr} (b:n.length≤4096) (c:zAe k n=true) (hg:goodT a=true) (d:zAB a.nd.kind=true):GE (trN k n [a]):=by
 have f:zx 4 a.nd.kind=true:=d;have e:zAb [a]=[a.nd.kind]:=rfl;refine⟨zFx (by rcases hk with rfl | rfl<;>decide) b c ?_ (zGD hg),by rcases hk with rfl | rfl<;>rfl⟩;rcases hk with rfl | rfl<;>(unfold zAv zl;simp[zAr,e,zC7,f])
theorem zSD (hk:k=46∨k=47) {a c:Tr} (f:n.length≤4096) (g:zAe k n=true) (b:GE a) (d:GE c):GE (trN k n [a,c]):=by
 have j:zx 3 a.nd.kind=true:=b.2;have h1:zx 3 c.nd.kind=true:=d.2;have e:zAb [a,c]=[a.nd.kind,c.nd.kind]:=rfl;refine⟨zFx (by rcases hk with rfl | rfl<;>decide) f g ?_ (zKZ b.1 d.1),by rcases hk with rfl | rfl<;>rfl⟩;rcases hk with rfl | rfl<;>(unfold zAv zl;simp[zAr,e,zC7,j,h1])
theorem zSE {a c:Tr} (f:n.length≤4096) (b:n∈zIF) (hg:goodT a=true) (g:zAB a.nd.kind=true) (d:GE c):GE (trN 49 n [a,c]):=by
 have j:zx 4 a.nd.kind=true:=g;have h1:zx 3 c.nd.kind=true:=d.2;have e:zAb [a,c]=[a.nd.kind,c.nd.kind]:=rfl;refine⟨zFx jd f (by unfold zAe zI4;simp[zIF]at b⊢;exact b) ?_ (zKZ hg d.1),rfl⟩;unfold zAv zl;simp[zAr,e,zC7,j,h1]
theorem zOi {a c:Tr} (b:GE a) (d:GE c):GE (trK 53 [a,c]):=by
 have f:zx 3 a.nd.kind=true:=b.2;have h1:zx 3 c.nd.kind=true:=d.2;have e:zAb [a,c]=[a.nd.kind,c.nd.kind]:=rfl;refine⟨zCh jd ?_ (zKZ b.1 d.1),rfl⟩;unfold zAv zl;simp[zAr,e,zC7,f,h1]
theorem zXi {a c:Tr} (b:GE a) (d:GE c) (g:GE f):GE (trK 48 [a,c,f]):=by
 have j:zx 3 a.nd.kind=true:=b.2;have h1:zx 3 c.nd.kind=true:=d.2;have k:zx 3 f.nd.kind=true:=g.2;have e:zAb [a,c,f]=[a.nd.kind,c.nd.kind,f.nd.kind]:=rfl;refine⟨zCh jd ?_ (zVC b.1 d.1 g.1),rfl⟩;unfold zAv zl;simp[zAr,e,zC7,j,h1,k]
theorem zYd {e b:Tr} (c:GE e) (hb:GU b):goodT (trK 8 [e,b])=true:=by
 have d:zx 3 e.nd.kind=true:=c.2;have h1:zx 2 b.nd.kind=true:=hb.2;have q:zAb [e,b]=[e.nd.kind,b.nd.kind]:=rfl;refine zCh jd ?_ (zKZ c.1 hb.1);unfold zAv zl;simp[zAr,q,zC7,d,h1]
theorem zYe {e b c:Tr} (d:GE e) (hb:GU b) (g:dangT b=false) (f:GU c):goodT (trK 8 [e,b,c])=true:=by
 have j:zx 3 e.nd.kind=true:=d.2;have h1:zx 2 b.nd.kind=true:=hb.2;have k:zx 2 c.nd.kind=true:=f.2;have q:zAb [e,b,c]=[e.nd.kind,b.nd.kind,c.nd.kind]:=rfl;refine zCh jd ?_ (zVC d.1 hb.1 f.1);unfold zAv zl zR6;simp[zAr,q,zC7,j,h1,k,g]
theorem zVw {e b:Tr} (c:GE e) (hb:GU b):goodT (trK 9 [e,b])=true:=by
 have d:zx 3 e.nd.kind=true:=c.2;have h1:zx 2 b.nd.kind=true:=hb.2;have q:zAb [e,b]=[e.nd.kind,b.nd.kind]:=rfl;refine zCh jd ?_ (zKZ c.1 hb.1);unfold zAv zl;simp[zAr,q,zC7,d,h1]
def GC (t:Tr):Prop:=goodT t=true∧zx 9 t.nd.kind=true
def GB (t:Tr):Prop:=goodT t=true∧zx 10 t.nd.kind=true
theorem GE.clause (h:GE t):GC t:=⟨h.1,by unfold zx;simp[h.2]⟩
theorem GC.begin (h:GC t):GB t:=⟨h.1,by
 have:=h.2;unfold zx at this⊢;simp at this⊢;rcases this with h | h
 · exact .inl (.inl (.inl h))
 · exact .inr h⟩
theorem zYf {a b c:Tr} (d:GB a) (hb:GC b) (e:GC c) (g:GU f):goodT (trK 10 [a,b,c,f])=true:=by
 have j:zx 2 f.nd.kind=true:=g.2;have q:zAb [a,b,c,f]=[a.nd.kind,b.nd.kind,c.nd.kind,f.nd.kind]:=rfl;refine zCh jd ?_ (zZz d.1 hb.1 e.1 g.1);unfold zAv zl;simp[zAr,q,zC7,d.2,hb.2,e.2,j]
theorem zVx {b:Tr} (c:n.length≤4096) (d:zAe 17 n=true) (hb:GQ 4 b):GQ 17 (trN 17 n [b]):=by
 have q:zAb [b]=[4]:=by show [b.nd.kind]=_;rw[hb.2]
 refine⟨zFx jd c d ?_ (zGD hb.1),rfl⟩;unfold zAv zl;simp[zAr,q,zC7,zx]
theorem zXj {b c:Tr} (hb:GQ 4 b) (g:goodT c=true) (j:goodT f=true) (d:c.nd.kind=11∨c.nd.kind=17) (e:f.nd.kind=11∨f.nd.kind=4) (h:c.nd.kind=17∨f.nd.kind=4):goodT (trK 16 [b,c,f])=true:=by
 have q:zAb [b,c,f]=[4,c.nd.kind,f.nd.kind]:=by show [b.nd.kind,_,_]=_;rw[hb.2]
 refine zCh jd ?_ (zVC hb.1 g j);unfold zAv zl zXg;rcases d with d | d<;>rcases e with e | e
 · exfalso;omega
 all_goals simp[zAr,q,zC7,zx,d,e]
theorem zVy {a:Tr} (c:n.length≤4096) (d:zAe 18 n=true) (b:GU a):goodT (trN 18 n [a])=true:=by
 have e:zx 2 a.nd.kind=true:=b.2;have q:zAb [a]=[a.nd.kind]:=rfl;refine zFx jd c d ?_ (zGD b.1);unfold zAv zl;simp[zAr,q,zC7,e]
theorem zHl {last:Nat} (hk:zx last k=true):∀(l:List Tr),(∀t∈l,GQ 20 t)→zC7 (List.replicate l.length 6++[last]) 0 (l.map (·.nd.kind)++[k])=true:=by
 intro l
 induction l with
 | nil=>intro _;show(zx last k&&true)=true;rw[hk];rfl
 | cons t l b=>
  intro h;have h1:=(h t js).2;rw[List.length_cons,List.replicate_succ,List.cons_append,List.map_cons,List.cons_append];show(zx 6 t.nd.kind&&zC7 _ 0 _)=true;rw[b (fun x c=>h x (List.mem_cons_of_mem _ c)),h1];rfl
theorem zXk (hk:k=19∨k=41) {b:Tr} (c:n.length≤4096) (d:zAe k n=true) (h:∀t∈l,GQ 20 t) (hb:GQ 4 b):goodT (trN k n (l++[b]))=true:=by
 have e:=zHl (last:=8) (k:=4) jd l h;have q:zAb (l++[b])=l.map (·.nd.kind)++[4]:=by unfold zAb;rw[List.map_append];show _++[b.nd.kind]=_;rw[hb.2]
 refine zFx (by rcases hk with rfl | rfl<;>decide) c d ?_ (zAj (fun t f=>(h t f).1) hb.1);rcases hk with rfl | rfl<;>(unfold zAv zl zA5;simp[zAr,q,e])
theorem zOj {b:Tr} (h:∀t∈l,GQ 20 t) (hg:goodT b=true) (hb:zx 13 b.nd.kind=true):GE (trK 42 (l++[b])):=by
 have c:=zHl (last:=13) (k:=b.nd.kind) hb l h;have q:zAb (l++[b])=l.map (·.nd.kind)++[b.nd.kind]:=by unfold zAb;rw[List.map_append];rfl
 refine⟨zCh jd ?_ (zAj (fun t d=>(h t d).1) hg),rfl⟩;unfold zAv zl zA5;simp[zAr,q,c]
theorem zVE {a:Tr} (c:u.length≤4096) (b:GE a):GQ 40 (.mk {zBo with kind:=40,str:=u} [a]):=by
 refine⟨zFb ?_ (zIR (k:=40) jd b.2) (zGD b.1),rfl⟩;show zK ⟨40,[],u,0,0,false,[],[]⟩=true;unfold zK;simp[c]
theorem zYg {v:Int} (b:0≤v) (h1:v≤9007199254740991):GE (.mk {zBo with kind:=30,nk:=0,nn:=v} []):=by
 refine⟨zFb ?_ (show zAv 30 []=true by decide+kernel) zCS,rfl⟩;show zK ⟨30,[],[],0,v,false,[],[]⟩=true;unfold zK zDd;simp[b,h1];omega
theorem zYh {m:List Nat} (h:zBR false m=true):GE (.mk {zBo with kind:=31,mag:=m} []):=by
 refine⟨zFb ?_ (show zAv 31 []=true by decide+kernel) zCS,rfl⟩;show zK ⟨31,[],[],0,0,false,m,[]⟩=true;unfold zK;simp[h]
theorem zYi (b:u.length≤4096):GE (.mk {zBo with kind:=32,str:=u} []):=by
 refine⟨zFb ?_ (show zAv 32 []=true by decide+kernel) zCS,rfl⟩;show zK ⟨32,[],u,0,0,false,[],[]⟩=true;unfold zK;simp[b]
def zCq (s:List UInt8):Tok:=(zAY false (zU s)).2.1
theorem zJI:∀s∈zv,(zCq s).kind=5∧(zCq s).text=s:=by decide+kernel
theorem zJJ:∀s∈zAF,(zCq s).kind=6∧(zCq s).text=s:=by decide+kernel
def Std (L:List Tok):Nat→Tks→Prop
 | i,[]=>i≤L.length - 1
 | i,s::r=>(zZx (zCq s) (zG L i)∧(zG L i).nl=false)∧Std L (i+1) r
section
variable {L:List Tok} {i:Nat} {a b:Tks} {s:List UInt8}
theorem Std.le:∀{a:Tks} {i:Nat},Std L i a→i+a.length≤L.length - 1:=by
 intro a
 induction a with
 | nil=>intro i h;exact h
 | cons s r b=>
  intro i h;have:=b h.2;simp only[List.length_cons];omega
theorem Std.right:∀{a:Tks} {i:Nat},Std L i (a++b)→Std L (i+a.length) b:=by
 intro a
 induction a with
 | nil=>intro i h;exact h
 | cons s r c=>
  intro i h;have:=c (i:=i+1) h.2;rw[List.length_cons,show i+(r.length+1)=i+1+r.length by omega];exact this
theorem Std.left:∀{a:Tks} {i:Nat},Std L i (a++b)→Std L i a:=by
 intro a
 induction a with
 | nil=>
  intro i h;have:=Std.le h;show i≤L.length - 1;simp only[List.nil_append]at this;omega
 | cons s r c=>exact fun h=>⟨h.1,c h.2⟩
theorem Std.lt (h:Std L i (s::b)):i < L.length - 1:=by
 have:=h.le;simp only[List.length_cons]at this;omega
theorem Std.nl (h:Std L i (s::b)):(zG L i).nl=false:=h.1.2
theorem Std.kind (h:Std L i (s::b)):(zG L i).kind=(zCq s).kind:=h.1.1.1.symm
theorem Std.text (h:Std L i (s::b)):(zG L i).text=(zCq s).text:=h.1.1.2.1.symm
theorem Std.sign (h:Std L i (s::b)) (hs:s∈zv):(zG L i).kind=5∧(zG L i).text=s:=⟨h.kind.trans (zJI s hs).1,h.text.trans (zJI s hs).2⟩
theorem Std.word (h:Std L i (s::b)) (hs:s∈zAF):(zG L i).kind=6∧(zG L i).text=s:=⟨h.kind.trans (zJJ s hs).1,h.text.trans (zJJ s hs).2⟩
theorem Std.is (h:Std L i (s::b)) (hs:s∈zv++zAF) (w:List UInt8):isT (zG L i) w=decide (s=w):=by
 unfold isT;rcases List.mem_append.1 hs with h1 | h1
 · obtain⟨g1,g2⟩:=h.sign h1;rw[g1,g2];simp
 · obtain⟨g1,g2⟩:=h.word h1;rw[g1,g2];simp
theorem zVF {p:UInt16→Bool}:∀{l:List UInt16},l.all p=true→l.takeWhile p=l:=by
 intro l
 induction l with
 | nil=>intro _;rfl
 | cons x r b=>
  intro h;rw[List.all_cons,Bool.and_eq_true]at h;rw[List.takeWhile_cons_of_pos h.1,b h.2]
theorem zSF (s:List UInt8):asc (zU s)=s:=by
 induction s with
 | nil=>rfl
 | cons x r b=>
  show x.toUInt16.toUInt8::asc (zU r)=_;rw[b];simp
theorem zLb {s:List UInt8} (h:zFv s=true):∃x r,zU s=x::r∧zA6 x=true∧(x::r).all zA2=true:=by
 unfold zFv at h;cases s with
 | nil=>cases h
 | cons x r=>
  simp only[Bool.and_eq_true]at h;refine⟨x.toUInt16,zU r,rfl,h.1,?_⟩;rw[List.all_cons];have h1:zA2 x.toUInt16=true:=by unfold zA2;rw[h.1];rfl
  rw[h1,Bool.true_and];show(r.map _).all zA2=true;rw[List.all_map];exact h.2
theorem zLc (h:zFv s=true):zCq s={zq with kind:=if 0 < zCW s then 6 else 1,text:=s}:=by
 obtain⟨x,r,h1,b,c⟩:=zLb h;unfold zCq;have d:(zAY false (x::r))=zCp (x::r):=by
  show(if zA6 x=true then zCp (x::r)else _)=_;rw[if_pos b]
 rw[h1,d];unfold zCp;rw[zVF c,←h1,zSF,List.drop_length];rfl
theorem zE4 (h:zBi s=true):(zCq s).kind=1∧(zCq s).text=s:=by
 unfold zBi at h;rw[Bool.and_eq_true,beq_iff_eq]at h;rw[zLc h.1];simp[h.2]
theorem zSG (h:zFv s=true):((zCq s).kind=1∨(zCq s).kind=6)∧(zCq s).text=s:=by
 rw[zLc h];refine⟨?_,rfl⟩;simp only;split
 · exact .inr rfl
 · exact .inl rfl
theorem Std.name (h:Std L i (s::b)) (hs:zBi s=true):(zG L i).kind=1∧(zG L i).text=s:=⟨h.kind.trans (zE4 hs).1,h.text.trans (zE4 hs).2⟩
end
mutual
def bareT:Tr→Tr
 | .mk x l=>.mk {x with kids:=[]} (bareL l)
def bareL:List Tr→List Tr
 | []=>[]
 | t::r=>bareT t::bareL r
end
theorem zCY (x:Nd) (l:List Tr):bareT (.mk x l)=.mk {x with kids:=[]} (bareL l):=by rw[bareT]
theorem zd:bareL []=[]:=by rw[bareL]
theorem zP (t:Tr) (r:List Tr):bareL (t::r)=bareT t::bareL r:=by rw[bareL]
theorem zGg (a b:List Tr):bareL (a++b)=bareL a++bareL b:=by
 induction a with
 | nil=>rw[zd];rfl
 | cons t r c=>rw[List.cons_append,zP,zP,c];rfl
theorem zGh (t:Tr):(bareT t).nd.kind=t.nd.kind:=by cases t;rw[zCY];rfl
theorem zCT (h:zK x=true) (h1:x.kind≠30) (b:x.kind≠31) (c:x.kind≠32) (d:x.kind≠40):({x with kids:=[]}:Nd)={zBo with kind:=x.kind,name:=x.name}∧zAe x.kind x.name=true∧x.name.length≤4096:=by
 obtain⟨k,n,u,nk,nn,g,m,ks⟩:=x;simp only at h1 b c d;unfold zK at h;simp only at h;split at h
 · cases h
 split at h
 · cases h
 split at h
 · cases h
 split at h
 · cases h
 rename_i a0 a1 a2 a3
 have e:(k==32)=false:=yA.2 c;have f:(k==40)=false:=yA.2 d;have j:(k==30)=false:=yA.2 h1;have l:(k==31)=false:=yA.2 b;rw[e,f]at a1;rw[j]at a2;rw[l]at a3;simp at a1 a2 a3;obtain rfl:=a1;obtain⟨rfl,rfl⟩:=a2;obtain⟨rfl,rfl⟩:=a3;rw[jn]at h;exact⟨rfl,h,Nat.le_of_not_lt a0⟩
theorem zDf (h:zK x=true) (h1:x.kind≠30) (b:x.kind≠31) (c:x.kind≠32) (d:x.kind≠40):bareT (.mk x l)=trN x.kind x.name (bareL l):=by
 rw[zCY,(zCT h h1 b c d).1];rfl
theorem zBp (h:zK x=true) (hk:x.kind∈zHk) (c:x.kind≠12∧x.kind≠13∧x.kind≠17):bareT (.mk x l)=trK x.kind (bareL l)∧x.name=[]:=by
 have e:∀k∈zHk,k≠12∧k≠13∧k≠17→k≠30∧k≠31∧k≠32∧k≠40∧zI4 k=[]∧¬(k=7∨k=18∨k=19∨k=20∨k=33)∧¬(k=12∨k=13∨k=17∨k=41)∧k≠52:=by decide+kernel
 obtain⟨f,g,j,m,o,p,q,r⟩:=e _ hk c;have d:=zCT h f g j m;have b:=d.2.1;unfold zAe at b;rw[if_neg p,if_neg q,if_neg r,o,if_neg js]at b;have b:=of_decide_eq_true b;refine⟨?_,b⟩;rw[zCY,d.1,b];rfl
def onW:List (List UInt8):=[[63],[63,63],[124,124],[38,38],[40],[46],[91],[61,62]]
structure EndC (t:Tok):Prop where
 binds:zBE t=9
 words:∀w∈onW,isT t w=false
 post:¬(t.kind=5∧t.text∈zDO∧t.nl=false)
structure End (t:Tok):Prop extends EndC t where
 asgn:t.kind=5→¬t.text∈zIF
def zYU:List (List UInt8):=[[59],[125],[41],[93],[44],[58],[123],[101,108,115,101]]
theorem zDg {L:List Tok} {i:Nat} {s:List UInt8} {b:Tks} (h:Std L i (s::b)) (hs:s∈zYU):End (zG L i):=by
 have h1:∀s∈zYU,s∈zv++zAF∧(∀w∈onW,s≠w)∧s∉zDO∧s∉zIF∧zEe s=9∧s≠[105,110]:=by decide+kernel
 obtain⟨g1,g2,d,e,f,k⟩:=h1 s hs;have c:(zG L i).text=s:=by
  rcases List.mem_append.1 g1 with g | g
  · exact(h.sign g).2
  · exact(h.word g).2
 refine⟨⟨?_,fun w j=>?_,?_⟩,fun _=>by rw[c];exact e⟩
 · unfold zBE;rw[c,f];split<;>rfl
 · rw[h.is g1];exact yAI (g2 w j)
 · rw[c];exact fun h=>d h.2.1
section
variable {L:List Tok} {i j:Nat} {y:Tr}
theorem zCi {t:Tok} {w:List UInt8} {s:Ps} (h:isT t w=false) (e:zG L s.k=t):¬onP L w s=true:=by
 unfold onP;rw[e,h];decide
theorem zAq (i b f:Nat):zB ⟨i,b,f⟩=⟨i+1,b,f⟩:=rfl
abbrev pl (i:Nat):Ps:=⟨i,0,0⟩
def Rn (L:List Tok) (p:Ph) (i:Nat) (t:Tr) (j:Nat):Prop:=zE L p (pl i)=(t,pl j)
structure EndM (t:Tok):Prop where
 words:isT t [40]=false∧isT t [46]=false∧isT t [91]=false
theorem EndC.m {t:Tok} (h:EndC t):EndM t:=⟨h.words _ jd,h.words _ jd,h.words _ jd⟩
theorem zDB (c:Lst L) (d:j≤L.length - 1) (b:EndM (zG L j)):Rn L (.callsL y) j y j:=by
 unfold Rn;rw[zV c ⟨d,trivial⟩];unfold zD;dsimp only;rw[if_neg (zCi b.words.1 rfl),if_neg (zCi b.words.2.1 rfl),if_neg (zCi b.words.2.2 rfl)]
theorem zGi (b:Lst L) (hi:i≤L.length - 1) (h:Rn L .primary i y j) (h1:isT (zG L i) [110,101,119]=false):Rn L .head i y j:=by
 unfold Rn;rw[zV b ⟨hi,trivial⟩];unfold zD;dsimp only;rw[if_neg (zCi h1 rfl)];exact h
theorem zE5 (c:Lst L) (hi:i≤L.length - 1) {x:Tr} {k:Nat} (h:Rn L .head i x k) (b:Rn L (.callsL x) k y j):Rn L .calls i y j:=by
 unfold Rn at h b⊢;rw[zV c ⟨hi,trivial⟩];unfold zD;dsimp only;rw[h];exact b
def zOk (t:Tok):Prop:=¬((t.kind=5∨t.kind=6)∧t.text∈zHK)∧¬((t.kind=5∨t.kind=6)∧t.text∈zDO)
theorem zEJ (c:Lst L) (hi:i≤L.length - 1) (h:Rn L .calls i y j) (b:zOk (zG L i)) (d:¬((zG L j).kind=5∧(zG L j).text∈zDO∧(zG L j).nl=false)):Rn L .unary i y j:=by
 unfold Rn at h⊢;rw[zV c ⟨hi,trivial⟩];unfold zD;dsimp only;rw[if_neg b.1,if_neg b.2,h];dsimp only;rw[if_neg d]
theorem zHm (b:Lst L) (c:j≤L.length - 1) {n:Nat} (d:n < 8) (e:zBE (zG L j)≠n):Rn L (.levelL n y) j y j:=by
 unfold Rn;rw[zV b ⟨c,d⟩];unfold zD;dsimp only;rw[if_neg e]
theorem zIS (b:Lst L) (hi:i≤L.length - 1) (e:j≤L.length - 1):∀(d n:Nat),n+d≤8→Rn L (.level (n+d)) i y j→(∀m,n≤m→m < n+d→zBE (zG L j)≠m)→Rn L (.level n) i y j:=by
 intro d
 induction d with
 | zero=>intro n _ h _;exact h
 | succ d f=>
  intro n g h c;have h1:Rn L (.level (n+1)) i y j:=f (n+1) jo (by rw[show n+1+d=n+(d+1) by omega];exact h) (fun m h1 k=>c m jo jo);unfold Rn at h1⊢;rw[zV b ⟨hi,(by show n≤8;omega)⟩];unfold zD;dsimp only;rw[jn,h1];exact zHm b e jo (c n (yAC _) jo)
theorem zJK (b:Lst L) (hi:i≤L.length - 1) (h:Rn L .unary i y j):Rn L (.level 8) i y j:=by
 unfold Rn at h⊢;rw[zV b ⟨hi,(by show 8≤8;omega)⟩];unfold zD;dsimp only;rw[if_pos rfl];exact h
theorem zLd (b:Lst L) (hi:i≤L.length - 1) (c:j≤L.length - 1) {n:Nat} (d:n≤8) (h:Rn L (.level n) i y j) (hb:zBE (zG L j)=9):Rn L (.level 0) i y j:=
 zIS b hi c n 0 jo (by rw[Nat.zero_add];exact h) (fun m _ e=>by omega)
theorem zGE (b:Lst L) (c:j≤L.length - 1) (d:isT (zG L j) [38,38]=false):Rn L (.both y) j y j:=by
 unfold Rn;rw[zV b ⟨c,trivial⟩];unfold zD;dsimp only;rw[if_neg (zCi d rfl)]
theorem zKa (b:Lst L) (c:j≤L.length - 1) (d:isT (zG L j) [124,124]=false):Rn L (.orL y) j y j:=by
 unfold Rn;rw[zV b ⟨c,trivial⟩];unfold zD;dsimp only;rw[if_neg (zCi d rfl)]
theorem zE6 (b:Lst L) (hi:i≤L.length - 1) (c:j≤L.length - 1) (h:Rn L (.level 0) i y j) (h1:isT (zG L j) [63,63]=false) (d:isT (zG L j) [38,38]=false) (e:isT (zG L j) [124,124]=false):Rn L .either i y j:=by
 have g1:=zGE (y:=y) b c d;have g2:=zKa (y:=y) b c e;unfold Rn at h g1 g2⊢;rw[zV b ⟨hi,trivial⟩];unfold zD;dsimp only;rw[h];dsimp only;rw[if_neg (zCi h1 rfl),g1];dsimp only;rw[g2];dsimp only;rw[if_neg (zCi h1 rfl)]
theorem zIT (b:Lst L) (hi:i≤L.length - 1) (h:Rn L .either i y j) (h1:isT (zG L j) [63]=false):Rn L .cond i y j:=by
 unfold Rn at h⊢;rw[zV b ⟨hi,trivial⟩];unfold zD;dsimp only;rw[h];dsimp only;rw[if_neg (zCi h1 rfl)]
def zOl (L:List Tok) (i:Nat):Prop:=¬((zG L i).kind=1∧isT (zG L (i+1)) [61,62]=true)∧¬zAh L (pl i)=true
theorem zE7 (e:Lst L) (hi:i≤L.length - 1) (h:Rn L .cond i y j) (b:zOl L i) (f:(zG L j).kind=5→¬(zG L j).text∈zIF):Rn L .assign i y j:=by
 unfold Rn at h⊢;rw[zV e ⟨hi,trivial⟩];unfold zD;dsimp only;rw[if_neg (fun c=>b.1 ⟨c.1,c.2.1⟩),if_neg b.2,h];dsimp only;rw[if_pos]
 by_cases d:(zG L j).kind=5
 · exact .inr (f d)
 · exact .inl d
theorem zCj (c:Lst L) (hi:i≤L.length - 1) (d:j≤L.length - 1) (h:Rn L .unary i y j) (b:End (zG L j)) (e:zOl L i):Rn L .assign i y j:=
 zE7 c hi (zIT c hi (zE6 c hi d (zLd c hi d (yAC _) (zJK c hi h) b.binds) (b.words _ jd) (b.words _ jd) (b.words _ jd)) (b.words _ jd)) e b.asgn
end
open Go.RowKit
section
variable {P:Program} (w:World)
theorem zFc (base:Nat) (t j e:TypeId) (i:TypeInfo) (size:Nat) (d:P.underlying t=some (.slice e)) (hi:P.info? e=some i)
 (v:Value) (n:Nat) (xs:List Value) (b:w.ownsRow base e size v n xs) (c:Nat):(Builtin.append_ #[t,t] j #[v,.slice none 0 c]).run P w=.ok v w:=by
 rcases b.2 with⟨rfl,rfl⟩ | ⟨g,cap,k,rfl,_,_,f,_⟩
 · simp[Builtin.append_,run_underlying d,sizeOf,typeInfo,hi,Builtin.lenOf,Builtin.firstCells]
 · simp[Builtin.append_,run_underlying d,sizeOf,typeInfo,hi,Builtin.lenOf,Builtin.firstCells,f,storeCells]
theorem zHO (base:Nat) (t q e:TypeId) (i:TypeInfo) (z:Value) (size bytes:Nat) (C:P.underlying t=some (.slice e)) (hi:P.info? e=some i) (I:i.zero=some z)
 (o:i.size=size) (D:i.bytes=bytes) (E:z.cells.size=size) (F:0 < size)
 (v:Value) (n:Nat) (xs:List Value) (d:w.ownsRow base e size v n xs)
 (B:Nat) (A:Option Addr) (m c:Nat) (b:List Value) (g:Reads w B size A m b) (h1:∀u∈b,u.oneCell'=true)
 (G:n+m≤maxLen) (k:(n+m)*bytes≤140737488355328) (p:base≤w.heap.size):
 ∃v' w',(Builtin.append_ #[t,t] q #[v,.slice A m c]).run P w=.ok v' w'∧w'.ownsRow base e size v' (n+m) (xs++b)∧w.grownBy w' v.ownBlock∧
  (v'.ownBlock=v.ownBlock∨v'.ownBlock=some w.heap.size):=by
 rcases A with _ | r
 · have J:m=0:=by
    rcases Nat.eq_zero_or_pos m with f | f
    · exact f
    · obtain⟨r,h,_⟩:=g.2 f;cases h
   subst J;have s:b=[]:=List.eq_nil_of_length_eq_zero (by simpa using g.1);subst s;exact⟨v,w,zFc w base t q e i size C hi v n xs d c,by simpa using d,World.grownBy.refl w _,.inl rfl⟩
 · have l:∀j u,b[j]? =some u→w.cell? (r.add j)=some u:=by
    intro j u H;rcases Nat.eq_zero_or_pos m with f | f
    · subst f;have s:b=[]:=List.eq_nil_of_length_eq_zero (by simpa using g.1);subst s;simp at H
    · obtain⟨Q,h,_,L⟩:=g.2 f;injection h with h;subst h;exact L j u H
   obtain⟨v',w',y,M,N,_,O⟩:=run_append_own_at (P:=P) w base t q e i z size bytes C hi I o D E F v n xs d r m c b g.1 l h1 G k p;exact⟨v',w',y,M,N,O⟩
end
theorem Made.empty (w:World) (e:TypeId):Made w (w.alloc (.cells #[] e)) e (.slice (some ⟨w.heap.size,0,none⟩) 0 0) []:=
 ⟨World.ownsRow_made w #[] 0 (yAC _) (yAE _) rfl,ja⟩
theorem Made.lit (w:World) (e:TypeId) (cs:List Value) (h:cs.length≤maxLen):Made w (w.alloc (.cells cs.toArray e)) e (.slice (some ⟨w.heap.size,0,none⟩) cs.length cs.length) cs:=
 ⟨⟨by simp,.inr ⟨w.heap.size,cs.length,cs.toArray,rfl,yAC _,heap_alloc_new w _,yAC _,h,by simp,by simp⟩⟩,ja⟩
theorem zDC (x:UInt16) (w:World):Calls prog 126 #[.int .u16 (x.toNat:Int)] w fun e w'=>e=.returned (zM x)∧w=w':=by
 have h1:=x.toNat_lt;go_enter func126,ntmps126;go_wp2
 all_goals go_ret
 all_goals refine⟨zJ ?_,rfl⟩
 all_goals (rw[Bool.eq_iff_iff];simp only[zM,Bool.and_eq_true,decide_eq_true_eq,Bool.false_eq_true,false_iff];omega)
theorem zE8 (x:UInt16) (w:World):Calls prog 121 #[.int .u16 (x.toNat:Int)] w fun e w'=>e=.returned (zAy x)∧w=w':=by
 have h1:=x.toNat_lt;go_enter func121,ntmps121;go_wp2
 all_goals go_ret
 all_goals refine⟨zJ ?_,rfl⟩
 all_goals (rw[Bool.eq_iff_iff];simp[zAy];omega)
theorem zVz (w:World):Calls prog 128 #[.agg #[(2:Int),(0:Int)]] w fun e w'=>e=.returned (.agg #[(2:Int),(0:Int)])∧Below w.heap.size w w':=by
 go_enter func128,ntmps128;go_wp2
 go_returns
 exact⟨rfl,by go_grown⟩
theorem zV0 (w:World):Calls prog 128 #[.agg #[(3:Int),(0:Int)]] w fun e w'=>e=.returned (.agg #[(4:Int),(0:Int)])∧Below w.heap.size w w':=by
 go_enter func128,ntmps128;go_wp2
 go_returns
 exact⟨rfl,by go_grown⟩
theorem zMj (w:World):Calls prog 128 #[.agg #[(0:Int),(0:Int)]] w fun e w'=>e=.returned (.agg #[(1:Int),(0:Int)])∧Below w.heap.size w w':=by
 go_enter func128,ntmps128;go_wp2
 go_returns
 exact⟨rfl,by go_grown⟩
theorem zOm (n:Int) (b:0 < n) (h1:n≤9007199254740991) (w:World):Calls prog 128 #[.agg #[(0:Int),n]] w fun e w'=>e=.returned (.agg #[(0:Int),(-n:Int)])∧Below w.heap.size w w':=by
 have e0:(n==0)=false:=yA.2 jo;have e1:(-9007199254740991:Int)≤n:=by omega
 go_enter func128,ntmps128;go_wp2
 go_returns
 exact⟨rfl,by go_grown⟩
theorem Reads.spot {w:World} {n:Nat} {l:List UInt8} (h:Reads w B 1 A n (u8s l)) (g:0 < l.length):
 ∃b off,A=some ⟨b,off,none⟩∧∀j,j < l.length→w.cell? ⟨b,off+j,none⟩=some (.int .u8 ((l.getD j 0).toNat:Int)):=by
 have k:l.length=n:=by have:=h.1;simpa [u8s]using this
 obtain⟨c,e,hb,d⟩:=h.2 jo;have hs:c.spot=none:=by
  have h1:=d 0 (u8v l[0]) (by rw[u8s,List.getElem?_map,yAB g];rfl);cases hsp:c.spot with
  | none=>rfl
  | some s=>
   exfalso;simp only[Addr.add,if_true,World.cell?,hsp]at h1;split at h1
   · simp at h1
   · cases h1
 obtain⟨b,off,m⟩:=c;simp only at hs;subst hs;refine⟨b,off,e,fun j f=>?_⟩;have h1:=d j (u8v l[j]) (by rw[u8s,List.getElem?_map,yAB f];rfl);rw[Addr.add_lit]at h1;rw[h1];simp[u8v,List.getD,f]
theorem zEo {w:World} {n c:Nat} {l:List UInt8} (h:Reads w B 1 A n (u8s l)):
 (convert 115 9 (.slice A n c)).run prog w=.ok (.string ⟨l.toArray⟩) w:=by
 have d:l.length=n:=by have:=h.1;simpa [u8s]using this
 rcases Nat.eq_zero_or_pos l.length with f | f
 · have g:l=[]:=List.eq_nil_of_length_eq_zero f;subst g;have j:n=0:=d.symm;subst j;clear d h;rw[run_convert_bytes_string w _ _ 5 A 0 c underlying115 underlying5 underlying9];cases A with
   | none=>rfl
   | some a=>exact run_bytesToString w a 0 c [] rfl
 · obtain⟨b,off,rfl,k⟩:=h.spot f;rw[run_convert_bytes_arg w _ 5 underlying115 underlying5 b off n c (l.map fun x=>(x.toNat:Int)) (by simpa using d) (fun i hi=>by rw[k i jo];simp[List.getD,show i < l.length by omega]) _ underlying9];congr 3;simp only[strOfNums,List.map_map];congr 1;have e:((fun n:Int=>UInt8.ofNat n.toNat)∘fun x:UInt8=>(x.toNat:Int))=id:=by
    funext x;simp
   rw[e,List.map_id]
def zCO (u:List UInt16):Bool:=u.all fun x=>decide (x.toNat≤127)
def zGj (u:List UInt16):ByteArray:=if zCO u then⟨(u.map (·.toUInt8)).toArray⟩else .empty
theorem zVG {s t:ByteArray} {a b:Bool} (h:s=t) (c:a=b):Ending.returned (.tuple #[.string s,a])=.returned (.tuple #[.string t,b]):=by rw[h,c]
theorem zMk (u:List UInt16) (k:Nat) (h:k < u.length):u8s ((u.take (k+1)).map (·.toUInt8))=u8s ((u.take k).map (·.toUInt8))++[u8v u[k].toUInt8]:=by
 rw[yAL h,List.map_append,u8s,List.map_append];rfl
theorem zMl {x:UInt16} (h:x.toNat≤127):u8v x.toUInt8=.int .u8 (x.toNat:Int):=by
 unfold u8v;congr 1;simp;omega
theorem zOn {c:Nat} {xs:List UInt16} {w:World} (hB:B≤w.heap.size) (t:Reads w B 1 A xs.length (zAM xs)) (G:xs.length≤70368744177664):
 Calls prog 102 #[.slice A xs.length c] w fun e w'=>e=.returned (.tuple #[.string (zGj xs),(zCO xs)])∧Below w.heap.size w w':=by
 obtain⟨u,l,m,o,p⟩:=info_parts Tryz.info_u8;go_enter func102,ntmps102;go_wp2
 go_loopw [4,9] (fun v i wr=>∃k:Nat,k≤xs.length∧i=.int .i64 k∧Hid (zCO (xs.take k)=true)∧Made w wr 5 v (u8s ((xs.take k).map (·.toUInt8)))) (fun _ i _=>xs.length - (intOf i).toNat)
 case atStart=>exact⟨0,yAE _,rfl,rfl,Made.nil _ _⟩
 case round=>
  obtain⟨k,hk,rfl,b,d⟩:=hrel
  by_cases f:k < xs.length
  · obtain⟨H,y,_,F⟩:=(t.below (d.below.mono hB)).u16 f;subst y;have I:(k:Int) < (xs.length:Int):=by omega
    have z:(u8s ((xs.take k).map (·.toUInt8))).length≤k:=by simp[u8s];omega
    have J:=xs[k].toNat_lt
    by_cases j:xs[k].toNat≤127
    · have C:=zA (zMl j);have D:=zA (zMk xs k f);have g:Hid (zCO (xs.take (k+1))=true):=by
       rw[yAL f,zCO,List.all_append];have:=b.out;rw[zCO]at this;rw[this];simp[j,Hid]
      go_wp2_with (at_builtin;refine zEF rfl _ _ 115 rfl 5 u _ 1 underlying115 l m o p rfl _ _ rfl d _ 1 1 rfl rfl rfl jo jo ?_;intro v' w' q)
      go_roundw
      case rel=>exact⟨k+1,by omega,by go_num,g,q.cells (by rw[D.out,C.out])⟩
      case measure=>simp[intOf];omega
    · have g:Hid (zCO xs=false):=List.all_eq_false.2 ⟨xs[k],List.getElem_mem _,by simpa using j⟩;go_wp2
      go_ret2
      exact⟨zVG (by rw[zGj,g.out];rfl) g.out.symm,d.below⟩
  · have r:xs.take k=xs:=List.take_of_length_le jo;rw[r]at b d;obtain⟨L,E,rfl,_,_,s⟩:=d.u8;rw[List.length_map]at s⊢;have hs:=zEo (c:=E) s;go_wp2
    go_ret2
    exact⟨zVG (by rw[zGj,b.out];rfl) b.out.symm,d.below⟩
theorem zCk (a b:List UInt8):zU (a++b)=zU a++zU b:=by simp[zU]
theorem zGk (a:List UInt8):(zU a).length=a.length:=by simp[zU]
theorem zDy {n:Nat} (h:n < 256):zU [chr n]=[UInt16.ofNat n]:=by
 simp only[zU,List.map_cons,List.map_nil,List.cons.injEq,and_true];refine UInt16.toNat_inj.1 ?_;have h1:=zOC h;simp[h1];omega
theorem zDz {x:UInt16} (h:zM x=true):zAy x=false:=by
 have:=zBB.1 h;simp[zAy];omega
theorem zHn (h:∀x∈u,zAy x=false):u.dropWhile zAy=u:=by
 cases u with
 | nil=>rfl
 | cons x r=>simp[List.dropWhile,h x js]
theorem zHo (h:∀x∈u,zAy x=false):zOA u=u:=by
 unfold zOA zGQ;rw[zHn h,zHn (fun x b=>h x (by simpa using b)),List.reverse_reverse]
theorem zMm (f:0 < u.length) (d:∀x∈u,zM x=true) (j:zw u≤9007199254740991):zOB u=(⟨0,zw u⟩,true):=by
 have b:=zBB.1 (d _ (List.getElem_mem f));have c:u≠[]:=List.ne_nil_of_length_pos f;obtain⟨x,r,rfl⟩:=List.exists_cons_of_ne_nil c;simp only[List.getElem_cons_zero]at b;have hs:zCf (x::r)=false:=by
  simp only[zCf,List.headD_cons,yA];rintro rfl;simp at b
 have k:zAX (x::r)=x::r:=by
  unfold zAX;rw[if_neg];simp only[List.headD_cons];rintro(rfl | rfl)<;>simp at b
 have hi:x::r≠zBc:=by
  intro h;have g:x=73:=by injection h
  rw[g]at b;simp at b
 unfold zOB;rw[zHo (fun x b=>zDz (d x b))];unfold zRf;rw[if_neg c,hs];unfold zFU;have e:=List.all_eq_true.2 d;simp only[k,hi,j,e,ne_eq,c,not_false_eq_true,and_self,if_true,if_false,Bool.false_eq_true]
theorem zIU (n:Nat):0 < (zBZ n).length:=by
 by_cases h:n < 10
 · rw[zB6 h];simp
 · rw[zC5 h];simp
theorem zLe (n:Nat):∀x∈zU (zBZ n),zM x=true:=by
 induction n using Nat.strongRecOn with
 | _ n d=>
  have c:∀m,m < 10→zM (UInt16.ofNat (48+m))=true:=by
   intro m e;rw[zBB];simp;omega
  by_cases h:n < 10
  · rw[zB6 h,zDy jo];intro x b;rw[List.mem_singleton]at b;subst b;exact c n h
  · rw[zC5 h,zCk,zDy jo];intro x b;rcases List.mem_append.1 b with b | b
    · exact d (n / 10) jo x b
    · rw[List.mem_singleton]at b;subst b;exact c _ jo
theorem zGF (n:Nat):zw (zU (zBZ n))=n:=by
 induction n using Nat.strongRecOn with
 | _ n c=>
  have b:∀m,m < 10→(UInt16.ofNat (48+m)).toNat - 48=m:=by
   intro m d;simp;omega
  by_cases h:n < 10
  · rw[zB6 h,zDy jo];show 10*0+((UInt16.ofNat (48+n)).toNat - 48)=n;rw[b n h];omega
  · rw[zC5 h,zCk,zDy jo,zEj,c (n / 10) jo,b _ jo];omega
theorem zOo (n:Nat):∀h:0 < (zU (zBZ n)).length,1 < (zU (zBZ n)).length→(zU (zBZ n))[0]≠48:=by
 induction n using Nat.strongRecOn with
 | _ n c=>
  by_cases h:n < 10
  · intro _ h1;rw[zB6 h]at h1;simp[zU]at h1
  · intro f _;have b:0 < (zU (zBZ (n / 10))).length:=by rw[zGk];exact zIU _
    have e:(zU (zBZ n))[0]=(zU (zBZ (n / 10)))[0]:=by
     have:zU (zBZ n)=zU (zBZ (n / 10))++zU [chr (48+n % 10)]:=by rw[zC5 h,zCk]
     rw[List.getElem_of_eq this];exact List.getElem_append_left b
    rw[e]
    by_cases h1:n / 10 < 10
    · have e2:zU (zBZ (n / 10))=[UInt16.ofNat (48+n / 10)]:=by rw[zB6 h1,zDy jo]
      rw[List.getElem_of_eq e2];simp only[List.getElem_cons_zero];intro d;have:=congrArg UInt16.toNat d;simp at this;omega
    · refine c (n / 10) jo b ?_;rw[zC5 h1,zCk,List.length_append,zGk];have:=zIU (n / 10 / 10);simp[zU];omega
theorem zKb {k:Nat}:∀{n:Nat},n < 10^(k+1)→(zBZ n).length≤k+1:=by
 induction k with
 | zero=>intro n h;rw[zB6 (by simpa using h)];simp
 | succ k b=>
  intro n h
  by_cases h1:n < 10
  · rw[zB6 h1];simp
  · rw[zC5 h1];have:=@b (n / 10) (by rw[Nat.pow_succ]at h;omega);simp;omega
def zAk:List Nat→List Nat
 | []=>[]
 | x::r=>if zAk r=[]∧x=0 then []else x::zAk r
theorem zMn (l:List Nat):zAk (l++[0])=zAk l:=by
 induction l with
 | nil=>rfl
 | cons x r b=>rw[List.cons_append,zAk,zAk,b]
theorem zFd {x:Nat} (h:x≠0) (l:List Nat):zAk (l++[x])=l++[x]:=by
 induction l with
 | nil=>simp[zAk,h]
 | cons y r b=>rw[List.cons_append,zAk,b,if_neg js]
theorem zEK (l:List Nat):zAk l=l.take (zAk l).length:=by
 induction l with
 | nil=>rfl
 | cons x r b=>
  by_cases h:zAk r=[]∧x=0
  · simp[zAk,h]
  · rw[zAk,if_neg h,List.length_cons,List.take_succ_cons,←b]
theorem zJL (l:List Nat):(zAk l).length≤l.length:=by
 have:=congrArg List.length (zEK l);rw[List.length_take]at this;omega
def zB8:List Nat→Nat
 | []=>0
 | x::r=>x+4294967296*zB8 r
theorem zSH (l r:List Nat):zB8 (l++r)=zB8 l+4294967296^l.length*zB8 r:=by
 induction l with
 | nil=>simp[zB8]
 | cons x l b=>
  rw[List.cons_append,zB8,zB8,b,List.length_cons,Nat.pow_succ,Nat.mul_add,Nat.mul_comm (4294967296^l.length) 4294967296,Nat.mul_assoc];omega
theorem zD0 {l:List Nat}:zAk l=[]↔zB8 l=0:=by
 induction l with
 | nil=>simp[zAk,zB8]
 | cons x r b=>
  rw[zAk,zB8]
  by_cases h:zAk r=[]∧x=0
  · rw[if_pos h];have:=b.1 h.1;simp[this,h.2]
  · rw[if_neg h];constructor
    · intro c;cases c
    · intro c;exact absurd ⟨b.2 jo,by omega⟩ h
theorem zD1:∀(f:Nat) (l:List Nat),l.length≤f→(∀x∈l,x < 4294967296)→zAk l=zBQ f (zB8 l):=by
 intro f
 induction f with
 | zero=>
  intro l b _;have:l=[]:=List.eq_nil_of_length_eq_zero jo;subst this;rfl
 | succ f d=>
  intro l b c;cases l with
  | nil=>rfl
  | cons x r=>
   have h1:=c x js;have e:=d r (by simp at b;omega) (fun y g=>c y (by simp[g]));rw[zBQ,zAk]
   by_cases h:zAk r=[]∧x=0
   · rw[if_pos h,if_pos (by rw[zB8,zD0.1 h.1,h.2])]
   · have hv:zB8 (x::r)≠0:=fun j=>h (by
      rw[zB8]at j;exact⟨zD0.2 jo,by omega⟩)
     rw[if_neg h,if_neg hv,zB8,e];congr 1
     · omega
     · congr 1;omega
theorem zOp:∀(k f v:Nat),v < 4294967296^k→(zBQ f v).length≤k:=by
 intro k
 induction k with
 | zero=>
  intro f v hv;have:v=0:=by simpa using hv
  subst this;cases f<;>simp[zBQ]
 | succ k b=>
  intro f v hv;cases f with
  | zero=>simp[zBQ]
  | succ f=>
   rw[zBQ]
   by_cases h:v=0
   · rw[if_pos h];simp
   · rw[if_neg h,List.length_cons];have:=b f (v / 4294967296) (Nat.div_lt_of_lt_mul (by rw[Nat.pow_succ,Nat.mul_comm]at hv;exact hv));omega
theorem zOq:∀(k f v:Nat),k < f→4294967296^k≤v→k < (zBQ f v).length:=by
 intro k
 induction k with
 | zero=>
  intro f v b hv;obtain⟨f,rfl⟩:∃m,f=m+1:=⟨f - 1,by omega⟩;have d:1≤v:=hv;rw[zBQ,jn];simp
 | succ k c=>
  intro f v b hv;obtain⟨f,rfl⟩:∃m,f=m+1:=⟨f - 1,by omega⟩;have h1:4294967296^k≤v / 4294967296:=(Nat.le_div_iff_mul_le jo).2 (by rw[←Nat.pow_succ];exact hv);have e:0 < 4294967296^k:=Nat.pow_pos jo;rw[zBQ,if_neg (by intro h;subst h;simp at h1),List.length_cons];have:=c f _ jo h1;omega
theorem zOr:∀(f v:Nat),∀x∈zBQ f v,x < 4294967296:=by
 intro f
 induction f with
 | zero=>intro v x b;simp[zBQ]at b
 | succ f c=>
  intro v x b;rw[zBQ]at b;split at b
  · simp at b
  · rcases List.mem_cons.1 b with h | h
    · rw[h];exact Nat.mod_lt _ jo
    · exact c _ x h
theorem zHp:∀(f v:Nat),v < 4294967296^f→zB8 (zBQ f v)=v:=by
 intro f
 induction f with
 | zero=>intro v hv;simp at hv;subst hv;rfl
 | succ f b=>
  intro v hv;rw[zBQ]
  by_cases h:v=0
  · rw[if_pos h,h];rfl
  · rw[if_neg h,zB8,b _ (Nat.div_lt_of_lt_mul (by rw[Nat.pow_succ,Nat.mul_comm]at hv;exact hv))];exact Nat.mod_add_div _ _
def zCl:List Nat→Nat→List Nat×Nat
 | [],c=>([],c)
 | x::r,c=>((c+10*x) % 4294967296::(zCl r ((c+10*x) / 4294967296)).1,(zCl r ((c+10*x) / 4294967296)).2)
theorem zJM:∀(l:List Nat) (c:Nat),(zCl l c).1.length=l.length:=by
 intro l
 induction l with
 | nil=>intro c;rfl
 | cons x r b=>intro c;simp[zCl,b]
theorem zSI:∀(l:List Nat) (c:Nat),∀x∈(zCl l c).1,x < 4294967296:=by
 intro l
 induction l with
 | nil=>intro c x b;simp[zCl]at b
 | cons y r d=>
  intro c x b;rw[zCl]at b;rcases List.mem_cons.1 b with h | h
  · rw[h];exact Nat.mod_lt _ jo
  · exact d _ x h
theorem zOs:∀(l:List Nat) (c:Nat),zB8 (zCl l c).1+4294967296^l.length*(zCl l c).2=10*zB8 l+c:=by
 intro l
 induction l with
 | nil=>intro c;simp[zCl,zB8]
 | cons x r b=>
  intro c;have h:=b ((c+10*x) / 4294967296);have d:=Nat.mod_add_div (c+10*x) 4294967296;simp only[zCl,zB8,List.length_cons];rw[Nat.pow_succ,Nat.mul_comm (4294967296^r.length) 4294967296,Nat.mul_assoc];omega
theorem zKc:∀(l:List Nat) (c:Nat),c≤9→(∀x∈l,x < 4294967296)→(zCl l c).2≤9:=by
 intro l
 induction l with
 | nil=>intro c b _;exact b
 | cons x r e=>
  intro c b d;have:=d x js;exact e _ jo (fun y f=>d y (by simp[f]))
theorem zSJ:zGR=4294967296^8:=rfl
theorem zE9 (h:v < zGR):(limbs v).length≤8:=zOp 8 9 v h
theorem zSK (h:zGR≤v):8 < (limbs v).length:=zOq 8 9 v jo h
theorem zGG (v:Nat):∀x∈limbs v,x < 4294967296:=zOr 9 v
theorem zXl (h:v < zGR):v < 4294967296^9:=yAA h (by rw[zSJ];exact Nat.pow_le_pow_right jo jo)
theorem zMo {d:Nat} (h:v < zGR) (c:d≤9):zAk ((zCl (limbs v) d).1++[(zCl (limbs v) d).2])=limbs (10*v+d):=by
 have f:=zKc (limbs v) d c (zGG v);have hv:=zOs (limbs v) d;have h1:zB8 (limbs v)=v:=zHp 9 v (zXl h);rw[zD1 9 _ (by rw[List.length_append,zJM];have:=zE9 h;simp;omega) (by
  intro x e;rcases List.mem_append.1 e with b | b
  · exact zSI _ _ x b
  · simp at b;omega)]
 rw[zSH,zJM,show zB8 [(zCl (limbs v) d).2]=(zCl (limbs v) d).2 by simp[zB8],hv,h1];rfl
theorem zMp (h:v < zGR):zAk (limbs v)=limbs v:=by
 rw[zD1 9 _ (by have:=zE9 h;omega) (zGG v),show zB8 (limbs v)=v from zHp 9 v (zXl h)];rfl
end Go.Proofs.YtlnbbaehihgigaaGreatDoor
