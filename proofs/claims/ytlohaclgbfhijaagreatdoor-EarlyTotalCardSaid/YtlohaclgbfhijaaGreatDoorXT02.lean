/- Joined for the claim EarlyTotal: the parser, the lexer and the trees as they are walked, made short by a program of mine. -/
import Derived.Test.YtlohaclgbfhijaaGreatDoorXT01
import Derived.Test.YtlohaclgbfhijaaGreatDoorE01
import Derived.Test.YtlohaclgbfhijaaGreatDoorE02
import Derived.Test.YtlohaclgbfhijaaGreatDoorE03
import Derived.Test.YtlohaclgbfhijaaGreatDoorE04
import Derived.Test.YtlohaclgbfhijaaGreatDoorE05
import Derived.Test.YtlohaclgbfhijaaGreatDoorE06
import Derived.Test.YtlohaclgbfhijaaGreatDoorE07
import Derived.Test.YtlohaclgbfhijaaGreatDoorE08
import Derived.Test.YtlohaclgbfhijaaGreatDoorE09
import Derived.Test.YtlohaclgbfhijaaGreatDoorE10
import Derived.Test.YtlohaclgbfhijaaGreatDoorE11
import Derived.Test.YtlohaclgbfhijaaGreatDoorE12
import Derived.Test.YtlohaclgbfhijaaGreatDoorE13
import Derived.Test.YtlohaclgbfhijaaGreatDoorE14
import Derived.Test.YtlohaclgbfhijaaGreatDoorE15
import Derived.Test.YtlohaclgbfhijaaGreatDoorE16
import Derived.Test.YtlohaclgbfhijaaGreatDoorE17
import Derived.Test.YtlohaclgbfhijaaGreatDoorE18
import Derived.Test.YtlohaclgbfhijaaGreatDoorE19
import Derived.Test.YtlohaclgbfhijaaGreatDoorE20
import Derived.Test.YtlohaclgbfhijaaGreatDoorE21
import Derived.Test.YtlohaclgbfhijaaGreatDoorE22
import Derived.Test.YtlohaclgbfhijaaGreatDoorE23
import Derived.Test.YtlohaclgbfhijaaGreatDoorE24
import Derived.Test.YtlohaclgbfhijaaGreatDoorE25
set_option maxHeartbeats 16000000
set_option maxRecDepth 1000000
namespace Go.Proofs.YtlohaclgbfhijaaGreatDoor
theorem zSe {n:List UInt8} (h:zCl n=true):zG3 n=true:=by
 unfold zCl at h;rw[Bool.and_eq_true]at h;exact h.1
theorem zR8 {k:Int} (hk:k∈([7,12,13,17,18,19,20,33,41]:List Int)) {n:List UInt8} (h:zCl n=true):zF2 k n=true:=by
 simp only[List.mem_cons,List.not_mem_nil,or_false]at hk;rcases hk with rfl | rfl | rfl | rfl | rfl | rfl | rfl | rfl | rfl<;>(unfold zF2;simp[h])
theorem zS6 {t:Tok} (h:zCi t≠9):t.text∈zRp:=by
 unfold zCi at h;split at h
 · unfold zID at h;split at h
   · rename_i c;rw[c];decide
   split at h
   · rename_i c;rw[c];decide
   split at h
   · rename_i c;rw[c];decide
   split at h
   · rename_i c;rcases c with c | c | c | c<;>(rw[c];decide)
   split at h
   · rename_i c;rcases c with c | c | c | c | c<;>(rw[c];decide)
   split at h
   · rename_i c;rcases c with c | c | c<;>(rw[c];decide)
   split at h
   · rename_i c;rcases c with c | c<;>(rw[c];decide)
   split at h
   · rename_i c;rcases c with c | c | c<;>(rw[c];decide)
   · exact absurd rfl h
 · exact absurd rfl h
def GI:Ph→Prop
 | .program acc=>∀t∈acc,GS t
 | .blockL acc=>∀t∈acc,GS t
 | .declL k acc=>(k=5∨k=6)∧∀t∈acc,GQ 7 t
 | .func k n=>(k=19∨k=41)∧n.length≤4096∧zF2 k n=true
 | .paramL acc=>∀t∈acc,GQ 20 t
 | .jump k=>k=12∨k=13
 | .body l=>∀t∈l,GQ 20 t
 | .nullL x=>GE x
 | .orL x=>GE x
 | .both x=>GE x
 | .levelL _ x=>GE x
 | .callsL x=>GE x
 | .headL x=>GE x
 | .listL _ acc=>∀t∈acc,GE t
 | .objL acc=>∀t∈acc,GQ 40 t
 | _=>True
def GD (L:List Tok) (r:Tr×Ps):Prop:=GU r.1∧(dangT r.1=true→¬onP L [101,108,115,101] r.2=true)
def GR (L:List Tok) (p:Ph) (r:Tr×Ps):Prop:=
 match p with
 | .program _=>GQ 1 r.1
 | .block=>GQ 4 r.1
 | .blockL _=>GQ 4 r.1
 | .item=>GS r.1
 | .declares=>goodT r.1=true∧(r.1.nd.kind=5∨r.1.nd.kind=6)
 | .declL _ _=>goodT r.1=true∧(r.1.nd.kind=5∨r.1.nd.kind=6)
 | .func k _=>GQ k r.1
 | .params=>∀t∈r.1.subs,GQ 20 t
 | .paramL _=>∀t∈r.1.subs,GQ 20 t
 | .statement=>GD L r
 | .simple=>GD L r
 | .word _=>GD L r
 | .loop=>GD L r
 | .jump _=>GD L r
 | .tries=>GD L r
 | .clause _=>GC r.1
 | .list _=>∀t∈r.1.subs,GE t
 | .listL _ _=>∀t∈r.1.subs,GE t
 | .args=>∀t∈r.1.subs,GE t
 | .prop=>GQ 40 r.1
 | _=>GE r.1
structure Kg (L:List Tok) (R:Ph→Ps→Tr×Ps):Prop where
 post:∀q s1,Pre L q s1→Post L q s1 (R q s1).2
 good:∀q s1,Pre L q s1→GI q→(R q s1).2.bad=0→GR L q (R q s1)
def Gd (L:List Tok) (R:Ph→Ps→Tr×Ps) (s:Ps) (p:Ph):Prop:=Lst L→TL L→Kg L R→Pre L p s→GI p→(zE L R p s).2.bad=0→GR L p (zE L R p s)
section
variable {L:List Tok} {R:Ph→Ps→Tr×Ps} {s:Ps}
theorem zSC {x y:Ps} (h:Adv L x y) (hb:y.bad=0):x.bad=0:=by
 rcases Nat.eq_zero_or_pos x.bad with hz | hz
 · exact hz
 · exact absurd hb (h.bad (by omega))
theorem zSr {x:Ps} (h:(zd L x).2.bad=0):(zL L x.k).kind=1∧(zd L x).1=(zL L x.k).text∧(zd L x).2=zB x:=by
 unfold zd at h⊢
 by_cases c:(zL L x.k).kind=1
 · rw[if_pos c];exact⟨c,rfl,rfl⟩
 · rw[if_neg c]at h;exact absurd h zFF
theorem zSD {x:Nd} {l:List Tr} (h:¬(x.kind=8∨x.kind=9∨x.kind=10∨x.kind=18)):dangT (.mk x l)=false:=by
 rw[zSH,if_neg (fun h2=>h (.inl h2.1)),if_neg h]
theorem GD.plain {t:Tr} {e:Ps} (h:GU t) (hd:dangT t=false):GD L (t,e):=⟨h,fun h2=>by rw[hd]at h2;cases h2⟩
theorem zSs {acc:List Tr}:Gd L R s (.program acc):=by
 intro hL hT K hp hi hb;unfold zE at hb⊢;dsimp only at hb⊢
 by_cases c:(zL L s.k).kind=0
 · simp only[if_pos c]at hb⊢;exact⟨zS2 (.inl rfl) hi,rfl⟩
 simp only[if_neg c]at hb⊢;have x1:Eat L s (R .item s).2:=K.post .item s ⟨hp.1,trivial⟩;have b1:=zSC (K.post (.program (acc++[(R .item s).1])) (R .item s).2 ⟨x1.adv.hi,trivial⟩).adv hb;have g1:GS (R .item s).1:=K.good .item s ⟨hp.1,trivial⟩ trivial b1;exact K.good (.program (acc++[(R .item s).1])) (R .item s).2 ⟨x1.adv.hi,trivial⟩ (zBI hi g1) hb
theorem zTe:Gd L R s .block:=by
 intro hL hT K hp hi hb;unfold zE at hb⊢;dsimp only at hb⊢;have x:=zU (w:=[123]) hL hp.1;exact K.good (.blockL []) (zN L [123] s) ⟨x.adv.hi,trivial⟩ zCY hb
theorem zS7 {acc:List Tr}:Gd L R s (.blockL acc):=by
 intro hL hT K hp hi hb;unfold zE at hb⊢;dsimp only at hb⊢
 by_cases c:s.bad≠0
 · simp only[if_pos c]at hb;exact absurd hb c
 simp only[if_neg c]at hb⊢
 by_cases c2:onP L [125] s=true
 · simp only[if_pos c2]at hb⊢;exact⟨zS2 (.inr rfl) hi,rfl⟩
 simp only[if_neg c2]at hb⊢;have x1:Eat L s (R .item s).2:=K.post .item s ⟨hp.1,trivial⟩;have b1:=zSC (K.post (.blockL (acc++[(R .item s).1])) (R .item s).2 ⟨x1.adv.hi,trivial⟩).adv hb;have g1:GS (R .item s).1:=K.good .item s ⟨hp.1,trivial⟩ trivial b1;exact K.good (.blockL (acc++[(R .item s).1])) (R .item s).2 ⟨x1.adv.hi,trivial⟩ (zBI hi g1) hb
theorem zT2:Gd L R s .item:=by
 intro hL hT K hp hi hb;unfold zE at hb⊢;dsimp only at hb⊢
 by_cases c:(onP L [108,101,116] s || onP L [99,111,110,115,116] s)=true
 · simp only[if_pos c]at hb⊢;have x1:Eat L s (R .declares s).2:=K.post .declares s ⟨hp.1,trivial⟩;obtain⟨g1,g2⟩:=K.good .declares s ⟨hp.1,trivial⟩ trivial (zSC (zBW hL x1.adv.hi) hb);exact⟨g1,by show zF1 (R .declares s).1.nd.kind=true;rcases g2 with g2 | g2<;>(rw[g2];decide)⟩
 simp only[if_neg c]at hb⊢
 by_cases c2:onP L [102,117,110,99,116,105,111,110] s=true
 · simp only[if_pos c2]at hb⊢;have hlt:=hL.on hp.1 c2;have y:=zAY (s:=zB s) hL hlt;have b1:=zSC (K.post (.func 19 (zd L (zB s)).1) (zd L (zB s)).2 ⟨y.adv.hi,trivial⟩).adv hb;obtain⟨n1,n2,n3⟩:=zSr b1;have hg:GI (.func 19 (zd L (zB s)).1):=⟨.inl rfl,by rw[n2];exact(hT _).len,by rw[n2];exact zR8 (by decide) ((hT _).name n1)⟩;obtain⟨g1,g2⟩:=K.good (.func 19 (zd L (zB s)).1) (zd L (zB s)).2 ⟨y.adv.hi,trivial⟩ hg hb;exact⟨g1,by rw[g2];decide⟩
 simp only[if_neg c2]at hb⊢;have:=K.good .statement s ⟨hp.1,trivial⟩ trivial hb;exact this.1.stmt
theorem zSi:Gd L R s .declares:=by
 intro hL hT K hp hi hb;unfold zE at hb⊢;dsimp only at hb⊢
 by_cases c:onP L [99,111,110,115,116] s=true
 · simp only[if_pos c]at hb⊢;exact K.good (.declL 6 []) (zB s) ⟨hL.on hp.1 c,trivial⟩ ⟨.inr rfl,zCY⟩ hb
 · simp only[if_neg c]at hb⊢;have x:=zU (w:=[108,101,116]) hL hp.1;exact K.good (.declL 5 []) (zN L [108,101,116] s) ⟨x.adv.hi,trivial⟩ ⟨.inl rfl,zCY⟩ hb
theorem zSP {k:Int} {acc:List Tr} (hL:Lst L) (K:Kg L R) {e:Tr×Ps} (he:e.2.k≤L.length - 1) (hk:k=5∨k=6) (hi:∀t∈acc,GQ 7 t) (hd:e.2.bad=0→GQ 7 e.1)
 (hb:(if e.2.bad≠0 then(trK k (acc++[e.1]),e.2)else if onP L [44] e.2=true then R (.declL k (acc++[e.1])) (zB e.2)else(trK k (acc++[e.1]),e.2)).2.bad=0):
 goodT (if e.2.bad≠0 then(trK k (acc++[e.1]),e.2)else if onP L [44] e.2=true then R (.declL k (acc++[e.1])) (zB e.2)else(trK k (acc++[e.1]),e.2)).1=true∧((if e.2.bad≠0 then(trK k (acc++[e.1]),e.2)else if onP L [44] e.2=true then R (.declL k (acc++[e.1])) (zB e.2)else(trK k (acc++[e.1]),e.2)).1.nd.kind=5∨(if e.2.bad≠0 then(trK k (acc++[e.1]),e.2)else if onP L [44] e.2=true then R (.declL k (acc++[e.1])) (zB e.2)else(trK k (acc++[e.1]),e.2)).1.nd.kind=6):=by
 by_cases c:e.2.bad≠0
 · simp only[if_pos c]at hb;exact absurd hb c
 have hd':=hd (Decidable.not_not.1 c);simp only[if_neg c]at hb⊢
 by_cases c2:onP L [44] e.2=true
 · simp only[if_pos c2]at hb⊢;exact K.good (.declL k (acc++[e.1])) (zB e.2) ⟨hL.on he c2,trivial⟩ ⟨hk,zBI hi hd'⟩ hb
 · simp only[if_neg c2]at hb⊢;exact⟨zTw hk (by simp) (zBI hi hd'),hk⟩
theorem zTf {k:Int} {acc:List Tr}:Gd L R s (.declL k acc):=by
 intro hL hT K hp hi hb;unfold zE at hb⊢;dsimp only at hb⊢;have x:=zAY hL hp.1;have hn:(zd L s).2.bad=0→(zd L s).1.length≤4096∧zF2 7 (zd L s).1=true:=fun h=>by
  obtain⟨n1,n2,_⟩:=zSr h;rw[n2];exact⟨(hT _).len,zR8 (by decide) ((hT _).name n1)⟩
 by_cases c:onP L [61] (zd L s).2=true
 · simp only[if_pos c]at hb⊢;have hlt:=hL.on x.adv.hi c;have p1:=(K.post .assign (zB (zd L s).2) ⟨hlt,trivial⟩).adv;exact zSP hL K (e:=(trN 7 (zd L s).1 [(R .assign (zB (zd L s).2)).1],(R .assign (zB (zd L s).2)).2)) p1.hi hi.1 hi.2 (fun h=>by
    obtain⟨h1,h2⟩:=hn (show(zd L s).2.bad=0 from zSC (x:=zB (zd L s).2) p1 h);exact⟨zSn (by decide) h1 h2 (K.good .assign (zB (zd L s).2) ⟨hlt,trivial⟩ trivial h),rfl⟩) hb
 · simp only[if_neg c]at hb⊢;exact zSP hL K (e:=(trN 7 (zd L s).1 [],(zd L s).2)) x.adv.hi hi.1 hi.2 (fun h=>by
    obtain⟨h1,h2⟩:=hn h;exact⟨zSS (by decide) h1 h2,rfl⟩) hb
theorem zT3 {k:Int} {n:List UInt8}:Gd L R s (.func k n):=by
 intro hL hT K hp hi hb;unfold zE at hb⊢;dsimp only at hb⊢;have x1:Eat L s (R .params s).2:=K.post .params s ⟨hp.1,trivial⟩;have b1:=zSC (K.post .block (R .params s).2 ⟨x1.adv.hi,trivial⟩).adv hb;have g1:∀t∈(R .params s).1.subs,GQ 20 t:=K.good .params s ⟨hp.1,trivial⟩ trivial b1;have g2:GQ 4 (R .block (R .params s).2).1:=K.good .block (R .params s).2 ⟨x1.adv.hi,trivial⟩ trivial hb;exact⟨zUO hi.1 hi.2.1 hi.2.2 g1 g2,rfl⟩
theorem zS8:Gd L R s .params:=by
 intro hL hT K hp hi hb;unfold zE at hb⊢;dsimp only at hb⊢;have x:=zU (w:=[40]) hL hp.1
 by_cases c:onP L [41] (zN L [40] s)=true
 · simp only[if_pos c]at hb⊢;exact zCY
 · simp only[if_neg c]at hb⊢;exact K.good (.paramL []) (zN L [40] s) ⟨x.adv.hi,trivial⟩ zCY hb
theorem zS9 {acc:List Tr}:Gd L R s (.paramL acc):=by
 intro hL hT K hp hi hb;unfold zE at hb⊢;dsimp only at hb⊢;have x:=zAY hL hp.1
 by_cases c:(zd L s).2.bad≠0
 · simp only[if_pos c]at hb;exact absurd hb c
 simp only[if_neg c]at hb⊢;obtain⟨n1,n2,_⟩:=zSr (Decidable.not_not.1 c);have g1:GQ 20 (trN 20 (zd L s).1 []):=⟨zSS (by decide) (by rw[n2];exact(hT _).len) (by rw[n2];exact zR8 (by decide) ((hT _).name n1)),rfl⟩
 by_cases c2:onP L [41] (zd L s).2=true
 · simp only[if_pos c2]at hb⊢;exact zBI hi g1
 · simp only[if_neg c2]at hb⊢;have y:=zU (w:=[44]) hL x.adv.hi;exact K.good (.paramL (acc++[trN 20 (zd L s).1 []])) (zN L [44] (zd L s).2) ⟨y.adv.hi,trivial⟩ (zBI hi g1) hb
theorem zTA:Gd L R s .within:=by
 intro hL hT K hp hi hb;unfold zE at hb⊢;dsimp only at hb⊢;have x:=zU (w:=[40]) hL hp.1;have x1:Eat L _ (R .assign (zN L [40] s)).2:=K.post .assign (zN L [40] s) ⟨x.adv.hi,trivial⟩;have g:GE (R .assign (zN L [40] s)).1:=K.good .assign (zN L [40] s) ⟨x.adv.hi,trivial⟩ trivial (zSC (zU (w:=[41]) hL x1.adv.hi).adv hb);exact g
theorem zTB {w:List UInt8}:Gd L R s (.clause w):=by
 intro hL hT K hp hi hb;unfold zE at hb⊢;dsimp only at hb⊢
 by_cases c:onP L w s=true
 · simp only[if_pos c]at hb⊢;exact⟨zSG (by decide),rfl⟩
 · simp only[if_neg c]at hb⊢;have x1:Eat L s (R .assign s).2:=K.post .assign s ⟨hp.1,trivial⟩;have g:GE (R .assign s).1:=K.good .assign s ⟨hp.1,trivial⟩ trivial (zSC (zU (w:=w) hL x1.adv.hi).adv hb);exact g.clause
theorem zTC:Gd L R s .assign:=by
 intro hL hT K hp hi hb;unfold zE at hb⊢;dsimp only at hb⊢
 by_cases c:(zL L s.k).kind=1∧isT (zAN L s.k 1) [61,62]=true∧(zAN L s.k 1).nl=false
 · simp only[if_pos c]at hb⊢;have hlt:=hL.lt hp.1 (by rw[c.1];decide);exact K.good (.body [trN 20 (zL L s.k).text []]) (zB s) ⟨hlt,trivial⟩ (zGN ⟨zSS (by decide) (hT _).len (zR8 (by decide) ((hT _).name c.1)),rfl⟩) hb
 simp only[if_neg c]at hb⊢
 by_cases c2:zAX L s=true
 · simp only[if_pos c2]at hb⊢;have x1:Eat L s (R .params s).2:=K.post .params s ⟨hp.1,trivial⟩;have b1:=zSC (K.post (.body (R .params s).1.subs) (R .params s).2 ⟨x1.adv.hi,trivial⟩).adv hb;exact K.good (.body (R .params s).1.subs) (R .params s).2 ⟨x1.adv.hi,trivial⟩ (K.good .params s ⟨hp.1,trivial⟩ trivial b1) hb
 simp only[if_neg c2]at hb⊢;have x1:Eat L s (R .cond s).2:=K.post .cond s ⟨hp.1,trivial⟩
 by_cases c3:(zL L (R .cond s).2.k).kind≠5∨¬(zL L (R .cond s).2.k).text∈zO2
 · simp only[if_pos c3]at hb⊢;exact K.good .cond s ⟨hp.1,trivial⟩ trivial hb
 simp only[if_neg c3]at hb⊢
 by_cases c4:zAf (R .cond s).1.nd.kind=false
 · simp only[if_pos c4]at hb;exact absurd hb (zDy (by decide))
 simp only[if_neg c4]at hb⊢;have hl2:(R .cond s).2.k < L.length - 1:=hL.lt x1.adv.hi (fun h0=>c3 (.inl (by rw[h0];decide)));have b1:(R .cond s).2.bad=0:=zSC (x:=zB (R .cond s).2) (K.post .assign (zB (R .cond s).2) ⟨hl2,trivial⟩).adv hb;have g1:GE (R .cond s).1:=K.good .cond s ⟨hp.1,trivial⟩ trivial b1;have g2:GE (R .assign (zB (R .cond s).2)).1:=K.good .assign (zB (R .cond s).2) ⟨hl2,trivial⟩ trivial hb;exact zTd (hT _).len (Decidable.not_not.1 (fun h=>c3 (.inr h))) g1.1 (by simpa using c4) g2
theorem zT4 {l:List Tr}:Gd L R s (.body l):=by
 intro hL hT K hp hi hb;unfold zE at hb⊢;dsimp only at hb⊢;have y:Adv L s (if(zL L s.k).nl=true then zY L s else s):=by
  split
  · exact(zm hp.1).adv
  · exact Adv.refl hp.1
 have x:=zU (w:=[61,62]) hL y.hi;obtain⟨s1,hs1⟩:∃s1,zN L [61,62] (if(zL L s.k).nl=true then zY L s else s)=s1:=⟨_,rfl⟩;rw[hs1]at x hb⊢
 by_cases c:onP L [123] s1=true
 · simp only[if_pos c]at hb⊢;have g:GQ 4 (R .block s1).1:=K.good .block s1 ⟨x.adv.hi,trivial⟩ trivial hb;exact zS5 hi g.1 (by rw[g.2];decide)
 · simp only[if_neg c]at hb⊢;have g:GE (R .assign s1).1:=K.good .assign s1 ⟨x.adv.hi,trivial⟩ trivial hb;exact zS5 hi g.1 (by unfold zD6;simp[g.2])
theorem zT5:Gd L R s .cond:=by
 intro hL hT K hp hi hb;unfold zE at hb⊢;dsimp only at hb⊢;have x1:Eat L s (R .either s).2:=K.post .either s ⟨hp.1,trivial⟩
 by_cases c:onP L [63] (R .either s).2=true
 · simp only[if_pos c]at hb⊢;have hl:=hL.on x1.adv.hi c;have p2:=(K.post .assign (zB (R .either s).2) ⟨hl,trivial⟩).adv;have y:=zU (w:=[58]) hL p2.hi;have p3:=(K.post .assign (zN L [58] (R .assign (zB (R .either s).2)).2) ⟨y.adv.hi,trivial⟩).adv;have b2:=zSC (y.adv.trans p3) hb;have b1:(R .either s).2.bad=0:=zSC (x:=zB (R .either s).2) p2 b2;exact zUM (K.good .either s ⟨hp.1,trivial⟩ trivial b1) (K.good .assign (zB (R .either s).2) ⟨hl,trivial⟩ trivial b2) (K.good .assign (zN L [58] (R .assign (zB (R .either s).2)).2) ⟨y.adv.hi,trivial⟩ trivial hb)
 · simp only[if_neg c]at hb⊢;exact K.good .either s ⟨hp.1,trivial⟩ trivial hb
theorem zTD:Gd L R s .either:=by
 intro hL hT K hp hi hb;unfold zE at hb⊢;dsimp only at hb⊢;have x1:Eat L s (R (.level 0) s).2:=K.post (.level 0) s ⟨hp.1,yAE _⟩
 by_cases c:onP L [63,63] (R (.level 0) s).2=true
 · simp only[if_pos c]at hb⊢;have p:=(K.post (.nullL (R (.level 0) s).1) (R (.level 0) s).2 ⟨x1.adv.hi,trivial⟩).adv
   by_cases c2:(onP L [124,124] (R (.nullL (R (.level 0) s).1) (R (.level 0) s).2).2 || onP L [38,38] (R (.nullL (R (.level 0) s).1) (R (.level 0) s).2).2)=true
   · simp only[if_pos c2]at hb;exact absurd hb zFF
   simp only[if_neg c2]at hb⊢;exact K.good (.nullL (R (.level 0) s).1) (R (.level 0) s).2 ⟨x1.adv.hi,trivial⟩ (K.good (.level 0) s ⟨hp.1,yAE _⟩ trivial (zSC p hb)) hb
 · simp only[if_neg c]at hb⊢;have p:=(K.post (.both (R (.level 0) s).1) (R (.level 0) s).2 ⟨x1.adv.hi,trivial⟩).adv;have q:=(K.post (.orL (R (.both (R (.level 0) s).1) (R (.level 0) s).2).1) (R (.both (R (.level 0) s).1) (R (.level 0) s).2).2 ⟨p.hi,trivial⟩).adv
   by_cases c2:onP L [63,63] (R (.orL (R (.both (R (.level 0) s).1) (R (.level 0) s).2).1) (R (.both (R (.level 0) s).1) (R (.level 0) s).2).2).2=true
   · simp only[if_pos c2]at hb;exact absurd hb zFF
   simp only[if_neg c2]at hb⊢;have b2:=zSC q hb;exact K.good (.orL (R (.both (R (.level 0) s).1) (R (.level 0) s).2).1) (R (.both (R (.level 0) s).1) (R (.level 0) s).2).2 ⟨p.hi,trivial⟩ (K.good (.both (R (.level 0) s).1) (R (.level 0) s).2 ⟨x1.adv.hi,trivial⟩ (K.good (.level 0) s ⟨hp.1,yAE _⟩ trivial (zSC p b2)) b2) hb
theorem zTg {x:Tr}:Gd L R s (.nullL x):=by
 intro hL hT K hp hi hb;unfold zE at hb⊢;dsimp only at hb⊢
 by_cases c:onP L [63,63] s=true
 · simp only[if_pos c]at hb⊢;have hl:=hL.on hp.1 c;have p1:=(K.post (.level 0) (zB s) ⟨hl,yAE _⟩).adv;have b1:=zSC (K.post (.nullL (trN 47 [63,63] [x,(R (.level 0) (zB s)).1])) (R (.level 0) (zB s)).2 ⟨p1.hi,trivial⟩).adv hb;exact K.good (.nullL (trN 47 [63,63] [x,(R (.level 0) (zB s)).1])) (R (.level 0) (zB s)).2 ⟨p1.hi,trivial⟩ (zTc (.inr rfl) (by decide) (by decide) hi (K.good (.level 0) (zB s) ⟨hl,yAE _⟩ trivial b1)) hb
 · simp only[if_neg c]at hb⊢;exact hi
theorem zT6 {x:Tr}:Gd L R s (.both x):=by
 intro hL hT K hp hi hb;unfold zE at hb⊢;dsimp only at hb⊢
 by_cases c:onP L [38,38] s=true
 · simp only[if_pos c]at hb⊢;have hl:=hL.on hp.1 c;have p1:=(K.post (.level 0) (zB s) ⟨hl,yAE _⟩).adv;have b1:=zSC (K.post (.both (trN 47 [38,38] [x,(R (.level 0) (zB s)).1])) (R (.level 0) (zB s)).2 ⟨p1.hi,trivial⟩).adv hb;exact K.good (.both (trN 47 [38,38] [x,(R (.level 0) (zB s)).1])) (R (.level 0) (zB s)).2 ⟨p1.hi,trivial⟩ (zTc (.inr rfl) (by decide) (by decide) hi (K.good (.level 0) (zB s) ⟨hl,yAE _⟩ trivial b1)) hb
 · simp only[if_neg c]at hb⊢;exact hi
theorem zUR {x:Tr}:Gd L R s (.orL x):=by
 intro hL hT K hp hi hb;unfold zE at hb⊢;dsimp only at hb⊢
 by_cases c:onP L [124,124] s=true
 · simp only[if_pos c]at hb⊢;have hl:=hL.on hp.1 c;have p1:=(K.post (.level 0) (zB s) ⟨hl,yAE _⟩).adv;have p2:=(K.post (.both (R (.level 0) (zB s)).1) (R (.level 0) (zB s)).2 ⟨p1.hi,trivial⟩).adv;have b2:=zSC (K.post (.orL (trN 47 [124,124] [x,(R (.both (R (.level 0) (zB s)).1) (R (.level 0) (zB s)).2).1])) (R (.both (R (.level 0) (zB s)).1) (R (.level 0) (zB s)).2).2 ⟨p2.hi,trivial⟩).adv hb;have g2:GE (R (.both (R (.level 0) (zB s)).1) (R (.level 0) (zB s)).2).1:=K.good (.both (R (.level 0) (zB s)).1) (R (.level 0) (zB s)).2 ⟨p1.hi,trivial⟩ (K.good (.level 0) (zB s) ⟨hl,yAE _⟩ trivial (zSC p2 b2)) b2;exact K.good (.orL (trN 47 [124,124] [x,(R (.both (R (.level 0) (zB s)).1) (R (.level 0) (zB s)).2).1])) (R (.both (R (.level 0) (zB s)).1) (R (.level 0) (zB s)).2).2 ⟨p2.hi,trivial⟩ (zTc (.inr rfl) (by decide) (by decide) hi g2) hb
 · simp only[if_neg c]at hb⊢;exact hi
theorem zTh {n:Nat}:Gd L R s (.level n):=by
 intro hL hT K hp hi hb;unfold zE at hb⊢;dsimp only at hb⊢;have hn:n≤8:=hp.2
 by_cases c:n=8
 · simp only[if_pos c]at hb⊢;exact K.good .unary s ⟨hp.1,trivial⟩ trivial hb
 · simp only[if_neg c]at hb⊢;have x1:Eat L s (R (.level (n+1)) s).2:=K.post (.level (n+1)) s ⟨hp.1,(by show n+1≤8;omega)⟩;have hp2:Pre L (.levelL n (R (.level (n+1)) s).1) (R (.level (n+1)) s).2:=⟨x1.adv.hi,(by show n < 8;omega)⟩;exact K.good _ _ hp2 (K.good (.level (n+1)) s ⟨hp.1,(by show n+1≤8;omega)⟩ trivial (zSC (K.post _ _ hp2).adv hb)) hb
theorem zTE {n:Nat} {x:Tr}:Gd L R s (.levelL n x):=by
 intro hL hT K hp hi hb;unfold zE at hb⊢;dsimp only at hb⊢;have hn:n < 8:=hp.2
 by_cases c:zCi (zL L s.k)=n
 · simp only[if_pos c]at hb⊢;have hl:=hL.lt hp.1 (zDU (by omega));have p1:=(K.post (.level (n+1)) (zB s) ⟨hl,(by show n+1≤8;omega)⟩).adv;have hp2:Pre L (.levelL n (trN 46 (zL L s.k).text [x,(R (.level (n+1)) (zB s)).1])) (R (.level (n+1)) (zB s)).2:=⟨p1.hi,hn⟩;have b1:=zSC (K.post _ _ hp2).adv hb;have ho:=zS6 (t:=zL L s.k) (by omega);have hnm:zF2 46 (zL L s.k).text=true:=by unfold zF2 zMU;simp[zRp]at ho⊢;exact ho
   exact K.good _ _ hp2 (zTc (.inl rfl) (hT _).len hnm hi (K.good (.level (n+1)) (zB s) ⟨hl,(by show n+1≤8;omega)⟩ trivial b1)) hb
 · simp only[if_neg c]at hb⊢;exact hi
theorem zTi:Gd L R s .unary:=by
 intro hL hT K hp hi hb;unfold zE at hb⊢;dsimp only at hb⊢
 by_cases c:((zL L s.k).kind=5∨(zL L s.k).kind=6)∧(zL L s.k).text∈zJ4
 · simp only[if_pos c]at hb⊢;have hl:=hL.lt hp.1 (by omega);have hnm:zF2 43 (zL L s.k).text=true:=by have ho:=c.2;unfold zF2 zMU;simp[zJ4]at ho⊢;exact ho
   exact⟨zSn (by decide) (hT _).len hnm (K.good .unary (zB s) ⟨hl,trivial⟩ trivial hb),rfl⟩
 simp only[if_neg c]at hb⊢
 by_cases c2:((zL L s.k).kind=5∨(zL L s.k).kind=6)∧(zL L s.k).text∈zFT
 · simp only[if_pos c2]at hb⊢;have hl:=hL.lt hp.1 (by omega)
   by_cases c3:(R .unary (zB s)).2.bad=0∧zAf (R .unary (zB s)).1.nd.kind=false
   · simp only[if_pos c3]at hb;exact absurd hb zFF
   simp only[if_neg c3]at hb⊢;have hnm:zF2 44 (zL L s.k).text=true:=by have ho:=c2.2;unfold zF2 zMU;simp[zFT]at ho⊢;exact ho
   have g:GE (R .unary (zB s)).1:=K.good .unary (zB s) ⟨hl,trivial⟩ trivial hb;have ht:zAf (R .unary (zB s)).1.nd.kind=true:=by
    cases h:zAf (R .unary (zB s)).1.nd.kind with
    | true=>rfl
    | false=>exact absurd ⟨hb,h⟩ c3
   exact zTp (.inl rfl) (hT _).len hnm g.1 ht
 simp only[if_neg c2]at hb⊢
 by_cases c3:(zL L (R .calls s).2.k).kind=5∧(zL L (R .calls s).2.k).text∈zFT∧(zL L (R .calls s).2.k).nl=false
 · simp only[if_pos c3]at hb⊢
   by_cases c4:zAf (R .calls s).1.nd.kind=false
   · simp only[if_pos c4]at hb;exact absurd hb zFF
   simp only[if_neg c4]at hb⊢;have hnm:zF2 45 (zL L (R .calls s).2.k).text=true:=by have ho:=c3.2.1;unfold zF2 zMU;simp[zFT]at ho⊢;exact ho
   have g:GE (R .calls s).1:=K.good .calls s ⟨hp.1,trivial⟩ trivial hb;exact zTp (.inr rfl) (hT _).len hnm g.1 (by simpa using c4)
 · simp only[if_neg c3]at hb⊢;exact K.good .calls s ⟨hp.1,trivial⟩ trivial hb
theorem zTj:Gd L R s .calls:=by
 intro hL hT K hp hi hb;unfold zE at hb⊢;dsimp only at hb⊢;have x1:Eat L s (R .head s).2:=K.post .head s ⟨hp.1,trivial⟩;have b1:=zSC (K.post (.callsL (R .head s).1) (R .head s).2 ⟨x1.adv.hi,trivial⟩).adv hb;exact K.good (.callsL (R .head s).1) (R .head s).2 ⟨x1.adv.hi,trivial⟩ (K.good .head s ⟨hp.1,trivial⟩ trivial b1) hb
theorem zTF {x:Tr}:Gd L R s (.callsL x):=by
 intro hL hT K hp hi hb;unfold zE at hb⊢;dsimp only at hb⊢
 by_cases c:onP L [40] s=true
 · simp only[if_pos c]at hb⊢;have hlt:=hL.on hp.1 c;have x1:Eat L s (R .args s).2:=K.post .args s ⟨hp.1,hlt⟩;have b1:=zSC (K.post (.callsL (trK 50 (x::(R .args s).1.subs))) (R .args s).2 ⟨x1.adv.hi,trivial⟩).adv hb;exact K.good (.callsL (trK 50 (x::(R .args s).1.subs))) (R .args s).2 ⟨x1.adv.hi,trivial⟩ (zS3 (.inl rfl) hi (K.good .args s ⟨hp.1,hlt⟩ trivial b1)) hb
 simp only[if_neg c]at hb⊢
 by_cases c2:onP L [46] s=true
 · simp only[if_pos c2]at hb⊢;have hlt:=hL.on hp.1 c2
   by_cases c3:(zL L (zB s).k).kind≠1∧(zL L (zB s).k).kind≠6
   · simp only[if_pos c3]at hb;exact absurd hb zFF
   simp only[if_neg c3]at hb⊢;have hl2:(zB s).k < L.length - 1:=hL.lt hlt (by omega);have hr:zG3 (zL L (zB s).k).text=true:=by
    by_cases h1:(zL L (zB s).k).kind=1
    · exact zSe ((hT _).name h1)
    · exact(hT _).word (by omega)
   exact K.good (.callsL (trN 52 (zL L (zB s).k).text [x])) (zB (zB s)) ⟨hl2,trivial⟩ ⟨zSn (by decide) (hT _).len (by unfold zF2;simp[hr]) hi,rfl⟩ hb
 simp only[if_neg c2]at hb⊢
 by_cases c4:onP L [91] s=true
 · simp only[if_pos c4]at hb⊢;have hlt:=hL.on hp.1 c4;have p1:=(K.post .assign (zB s) ⟨hlt,trivial⟩).adv;have y:=zU (w:=[93]) hL p1.hi;have p2:=(K.post (.callsL (trK 53 [x,(R .assign (zB s)).1])) (zN L [93] (R .assign (zB s)).2) ⟨y.adv.hi,trivial⟩).adv;have b1:=zSC (y.adv.trans p2) hb;exact K.good (.callsL (trK 53 [x,(R .assign (zB s)).1])) (zN L [93] (R .assign (zB s)).2) ⟨y.adv.hi,trivial⟩ (zS4 hi (K.good .assign (zB s) ⟨hlt,trivial⟩ trivial b1)) hb
 · simp only[if_neg c4]at hb⊢;exact hi
theorem zTk {x:Tr}:Gd L R s (.headL x):=by
 intro hL hT K hp hi hb;unfold zE at hb⊢;dsimp only at hb⊢
 by_cases c2:onP L [46] s=true
 · simp only[if_pos c2]at hb⊢;have hlt:=hL.on hp.1 c2
   by_cases c3:(zL L (zB s).k).kind≠1∧(zL L (zB s).k).kind≠6
   · simp only[if_pos c3]at hb;exact absurd hb zFF
   simp only[if_neg c3]at hb⊢;have hl2:(zB s).k < L.length - 1:=hL.lt hlt (by omega);have hr:zG3 (zL L (zB s).k).text=true:=by
    by_cases h1:(zL L (zB s).k).kind=1
    · exact zSe ((hT _).name h1)
    · exact(hT _).word (by omega)
   exact K.good (.headL (trN 52 (zL L (zB s).k).text [x])) (zB (zB s)) ⟨hl2,trivial⟩ ⟨zSn (by decide) (hT _).len (by unfold zF2;simp[hr]) hi,rfl⟩ hb
 simp only[if_neg c2]at hb⊢
 by_cases c4:onP L [91] s=true
 · simp only[if_pos c4]at hb⊢;have hlt:=hL.on hp.1 c4;have p1:=(K.post .assign (zB s) ⟨hlt,trivial⟩).adv;have y:=zU (w:=[93]) hL p1.hi;have p2:=(K.post (.headL (trK 53 [x,(R .assign (zB s)).1])) (zN L [93] (R .assign (zB s)).2) ⟨y.adv.hi,trivial⟩).adv;have b1:=zSC (y.adv.trans p2) hb;exact K.good (.headL (trK 53 [x,(R .assign (zB s)).1])) (zN L [93] (R .assign (zB s)).2) ⟨y.adv.hi,trivial⟩ (zS4 hi (K.good .assign (zB s) ⟨hlt,trivial⟩ trivial b1)) hb
 · simp only[if_neg c4]at hb⊢;exact hi
theorem zT7:Gd L R s .head:=by
 intro hL hT K hp hi hb;unfold zE at hb⊢;dsimp only at hb⊢
 by_cases c:onP L [110,101,119] s=true
 · simp only[if_pos c]at hb⊢;have hlt:=hL.on hp.1 c;have p1:=(K.post .head (zB s) ⟨hlt,trivial⟩).adv;have p2:=(K.post (.headL (R .head (zB s)).1) (R .head (zB s)).2 ⟨p1.hi,trivial⟩).adv;have g0:(R (.headL (R .head (zB s)).1) (R .head (zB s)).2).2.bad=0→GE (R (.headL (R .head (zB s)).1) (R .head (zB s)).2).1:=fun h=>K.good (.headL (R .head (zB s)).1) (R .head (zB s)).2 ⟨p1.hi,trivial⟩ (K.good .head (zB s) ⟨hlt,trivial⟩ trivial (zSC p2 h)) h
   by_cases c2:onP L [40] (R (.headL (R .head (zB s)).1) (R .head (zB s)).2).2=true
   · simp only[if_pos c2]at hb⊢;have hl2:=hL.on p2.hi c2;have b2:=zSC (K.post .args _ ⟨p2.hi,hl2⟩).adv hb;exact zS3 (.inr rfl) (g0 b2) (K.good .args _ ⟨p2.hi,hl2⟩ trivial hb)
   · simp only[if_neg c2]at hb⊢;exact zS3 (.inr rfl) (g0 hb) zCY
 · simp only[if_neg c]at hb⊢;exact K.good .primary s ⟨hp.1,trivial⟩ trivial hb
theorem zT8:Gd L R s .args:=by
 intro hL hT K hp hi hb;unfold zE at hb⊢;dsimp only at hb⊢;have x:=zU (w:=[40]) hL hp.1;exact K.good (.list [41]) (zN L [40] s) ⟨x.adv.hi,trivial⟩ trivial hb
theorem zT9 {w:List UInt8}:Gd L R s (.list w):=by
 intro hL hT K hp hi hb;unfold zE at hb⊢;dsimp only at hb⊢
 by_cases c:onP L w s=true
 · simp only[if_pos c]at hb⊢;exact zCY
 · simp only[if_neg c]at hb⊢;exact K.good (.listL w []) s ⟨hp.1,trivial⟩ zCY hb
theorem zTl {w:List UInt8} {acc:List Tr}:Gd L R s (.listL w acc):=by
 intro hL hT K hp hi hb;unfold zE at hb⊢;dsimp only at hb⊢;have x1:Eat L s (R .assign s).2:=K.post .assign s ⟨hp.1,trivial⟩
 by_cases c:(R .assign s).2.bad≠0
 · simp only[if_pos c]at hb;exact absurd hb c
 simp only[if_neg c]at hb⊢;have g1:=K.good .assign s ⟨hp.1,trivial⟩ trivial (Decidable.not_not.1 c)
 by_cases c2:onP L w (R .assign s).2=true
 · simp only[if_pos c2]at hb⊢;exact zBI hi g1
 · simp only[if_neg c2]at hb⊢;have y:=zU (w:=[44]) hL x1.adv.hi;exact K.good (.listL w (acc++[(R .assign s).1])) (zN L [44] (R .assign s).2) ⟨y.adv.hi,trivial⟩ (zBI hi g1) hb
theorem zUA {acc:List Tr}:Gd L R s (.objL acc):=by
 intro hL hT K hp hi hb;unfold zE at hb⊢;dsimp only at hb⊢;have x1:Eat L s (R .prop s).2:=K.post .prop s ⟨hp.1,trivial⟩
 by_cases c:(R .prop s).2.bad≠0
 · simp only[if_pos c]at hb;exact absurd hb c
 simp only[if_neg c]at hb⊢;have g1:=K.good .prop s ⟨hp.1,trivial⟩ trivial (Decidable.not_not.1 c)
 by_cases c2:onP L [125] (R .prop s).2=true
 · simp only[if_pos c2]at hb⊢;exact zSm (zBI hi g1)
 · simp only[if_neg c2]at hb⊢;have y:=zU (w:=[44]) hL x1.adv.hi;exact K.good (.objL (acc++[(R .prop s).1])) (zN L [44] (R .prop s).2) ⟨y.adv.hi,trivial⟩ (zBI hi g1) hb
theorem zTG:Gd L R s .object:=by
 intro hL hT K hp hi hb;unfold zE at hb⊢;dsimp only at hb⊢
 by_cases c:onP L [125] s=true
 · simp only[if_pos c]at hb⊢;exact zSm zCY
 · simp only[if_neg c]at hb⊢;exact K.good (.objL []) s ⟨hp.1,trivial⟩ zCY hb
theorem zSt:∀(m n:Nat),n < 10^(m+1)→(zG6 n).length≤m+1:=by
 intro m
 induction m with
 | zero=>intro n h;rw[zG7 (by omega)];simp
 | succ m ih=>
  intro n h
  by_cases c:n < 10
  · rw[zG7 c];simp
  · rw[zKB c,List.length_append];have h2:=ih (n / 10) (by rw[Nat.div_lt_iff_lt_mul (by decide)];rw[Nat.pow_succ]at h;exact h);simp only[List.length_singleton];omega
theorem zTm {t:Tok} (h:TG t) {u:List UInt16} (hu:zAx t=some u):u.length≤4096:=by
 have hl:∀a:List UInt8,(zAt a).length=a.length:=fun a=>by simp[zAt]
 unfold zAx at hu;split at hu
 · rename_i c;cases hu;exact h.str c
 split at hu
 · rename_i c;cases hu
   rw[hl];have:=zSt 15 t.nn.toNat (by have:=h.num c;omega);omega
 split at hu
 · cases hu;rw[hl];exact h.len
 · cases hu
theorem zSu:Gd L R s .primary:=by
 intro hL hT K hp hi hb;unfold zE at hb⊢;dsimp only at hb⊢
 by_cases c0:(zL L s.k).kind=0
 · simp only[if_pos c0]at hb;exact absurd hb zFF
 simp only[if_neg c0]at hb⊢;have hlt:=hL.lt hp.1 c0
 by_cases c1:(zL L s.k).kind=2
 · simp only[if_pos c1]at hb⊢;obtain⟨h1,h2,h3⟩:=(hT s.k).num c1;show GE (.mk {zBg with kind:=30,nk:=(zL L s.k).nk,nn:=(zL L s.k).nn} []);rw[h1];exact zUi h2 h3
 simp only[if_neg c1]at hb⊢
 by_cases c2:(zL L s.k).kind=3
 · simp only[if_pos c2]at hb⊢;exact zUj ((hT _).big c2)
 simp only[if_neg c2]at hb⊢
 by_cases c3:(zL L s.k).kind=4
 · simp only[if_pos c3]at hb⊢;exact zUk ((hT _).str c3)
 simp only[if_neg c3]at hb⊢
 by_cases c4:(zL L s.k).kind=1
 · simp only[if_pos c4]at hb⊢;exact⟨zSS (by decide) (hT _).len (zR8 (by decide) ((hT _).name c4)),rfl⟩
 simp only[if_neg c4]at hb⊢
 by_cases d0:(zL L s.k).text=[116,114,117,101]
 · simp only[if_pos d0]at hb⊢;exact⟨zSG (by decide),rfl⟩
 simp only[if_neg d0]at hb⊢
 by_cases d1:(zL L s.k).text=[102,97,108,115,101]
 · simp only[if_pos d1]at hb⊢;exact⟨zSG (by decide),rfl⟩
 simp only[if_neg d1]at hb⊢
 by_cases d2:(zL L s.k).text=[110,117,108,108]
 · simp only[if_pos d2]at hb⊢;exact⟨zSG (by decide),rfl⟩
 simp only[if_neg d2]at hb⊢
 by_cases d3:(zL L s.k).text=[116,104,105,115]
 · simp only[if_pos d3]at hb⊢;exact⟨zSG (by decide),rfl⟩
 simp only[if_neg d3]at hb⊢
 by_cases e1:(zL L s.k).text=[91]
 · simp only[if_pos e1]at hb⊢;have g:∀t∈(R (.list [93]) (zB s)).1.subs,GE t:=K.good (.list [93]) (zB s) ⟨hlt,trivial⟩ trivial hb;exact zTv g
 simp only[if_neg e1]at hb⊢
 by_cases e2:(zL L s.k).text=[123]
 · simp only[if_pos e2]at hb⊢;exact K.good .object (zB s) ⟨hlt,trivial⟩ trivial hb
 simp only[if_neg e2]at hb⊢
 by_cases e3:(zL L s.k).text=[102,117,110,99,116,105,111,110]
 · simp only[if_pos e3]at hb⊢
   by_cases e4:(zL L (zB s).k).kind=1
   · simp only[if_pos e4]at hb⊢;have y:=zAY (s:=zB s) hL hlt;have b1:=zSC (K.post (.func 41 (zd L (zB s)).1) (zd L (zB s)).2 ⟨y.adv.hi,trivial⟩).adv hb;obtain⟨n1,n2,n3⟩:=zSr b1;have hg:GI (.func 41 (zd L (zB s)).1):=⟨.inr rfl,by rw[n2];exact(hT _).len,by rw[n2];exact zR8 (by decide) ((hT _).name n1)⟩;obtain⟨g1,g2⟩:=K.good (.func 41 (zd L (zB s)).1) (zd L (zB s)).2 ⟨y.adv.hi,trivial⟩ hg hb;exact⟨g1,by rw[g2];decide⟩
   · simp only[if_neg e4]at hb⊢;obtain⟨g1,g2⟩:=K.good (.func 41 []) (zB s) ⟨hlt,trivial⟩ ⟨.inr rfl,by simp,by decide⟩ hb;exact⟨g1,by rw[g2];decide⟩
 simp only[if_neg e3]at hb⊢
 by_cases e5:(zL L s.k).text=[40]
 · simp only[if_pos e5]at hb⊢;have x1:Eat L _ (R .assign (zB s)).2:=K.post .assign (zB s) ⟨hlt,trivial⟩;have g:GE (R .assign (zB s)).1:=K.good .assign (zB s) ⟨hlt,trivial⟩ trivial (zSC (zU (w:=[41]) hL x1.adv.hi).adv hb);exact g
 simp only[if_neg e5]at hb⊢;exfalso;revert hb;show(if(onP L [47] s || onP L [47,61] s)=true then zBw L 6 s else zY L s).bad=0→False;split
 · exact zDy (by decide)
 · exact zFF
theorem zUB:Gd L R s .prop:=by
 intro hL hT K hp hi hb;unfold zE at hb⊢;dsimp only at hb⊢;rcases ht:zAx (zL L s.k)with _ | u
 · simp only[ht]at hb;exact absurd hb zFF
 simp only[ht]at hb⊢;have hu:=zTm (hT _) ht;have hlt:=hL.lt hp.1 (zDk ht)
 by_cases c:(zL L s.k).kind=1∧onP L [58] (zB s)=false
 · simp only[if_pos c]at hb⊢;exact zTq hu ⟨zSS (by decide) (hT _).len (zR8 (by decide) ((hT _).name c.1)),rfl⟩
 · simp only[if_neg c]at hb⊢;have y:=zU (s:=zB s) (w:=[58]) hL hlt;have g:GE (R .assign (zN L [58] (zB s))).1:=K.good .assign (zN L [58] (zB s)) ⟨y.adv.hi,trivial⟩ trivial hb;exact zTq hu g
theorem zSf:Gd L R s .statement:=by
 intro hL hT K hp hi hb;unfold zE at hb⊢;dsimp only at hb⊢
 by_cases c:(zL L s.k).kind=1∧isT (zAN L s.k 1) [58]=true
 · simp only[if_pos c]at hb⊢;have hlt:=hL.lt hp.1 (by rw[c.1];decide);have h2:=zIF hL hlt c.2;have y:(zB (zB s)).k≤L.length - 1:=h2;have g:GD L (R .statement (zB (zB s))):=K.good .statement (zB (zB s)) ⟨y,trivial⟩ trivial hb;exact⟨⟨zT0 (hT _).len (zR8 (by decide) ((hT _).name c.1)) g.1,rfl⟩,fun h=>g.2 (by
    have h3:dangT (.mk {zBg with kind:=18,name:=(zL L s.k).text} [(R .statement (zB (zB s))).1])=true:=h;rw[zSH,if_neg (by simp),if_pos (.inr (.inr (.inr rfl))),zSE]at h3;exact h3)⟩
 simp only[if_neg c]at hb⊢
 by_cases c2:(zL L s.k).kind=6
 · simp only[if_pos c2]at hb⊢;exact K.good (.word (zL L s.k).text) s ⟨hp.1,hL.lt hp.1 (by rw[c2];decide)⟩ trivial hb
 simp only[if_neg c2]at hb⊢
 by_cases c3:onP L [59] s=true
 · simp only[if_pos c3]at hb⊢;exact GD.plain ⟨zSG (by decide),rfl⟩ (zSD (by decide))
 simp only[if_neg c3]at hb⊢
 by_cases c4:onP L [123] s=true
 · simp only[if_pos c4]at hb⊢;have g:GQ 4 (R .block s).1:=K.good .block s ⟨hp.1,trivial⟩ trivial hb;refine GD.plain ⟨g.1,by rw[g.2];decide⟩ ?_;have:=g.2;rcases hr:(R .block s).1 with⟨x,l⟩;rw[hr]at this;exact zSD (by rw[show x.kind=4 from this];decide)
 simp only[if_neg c4]at hb⊢;exact K.good .simple s ⟨hp.1,trivial⟩ trivial hb
theorem zTH:Gd L R s .simple:=by
 intro hL hT K hp hi hb;unfold zE at hb⊢;dsimp only at hb⊢;have x1:Eat L s (R .assign s).2:=K.post .assign s ⟨hp.1,trivial⟩;have g:GE (R .assign s).1:=K.good .assign s ⟨hp.1,trivial⟩ trivial (zSC (zBW hL x1.adv.hi) hb);exact GD.plain ⟨zTx (by decide) g,rfl⟩ (zSD (by decide))
theorem zUC {w:List UInt8}:Gd L R s (.word w):=by
 intro hL hT K hp hi hb;unfold zE at hb⊢;dsimp only at hb⊢;have hlt:s.k < L.length - 1:=hp.2
 by_cases c1:w=[105,102]
 · simp only[if_pos c1]at hb⊢;have p1:=(K.post .within (zB s) ⟨hlt,trivial⟩).adv;have p2:=(K.post .statement (R .within (zB s)).2 ⟨p1.hi,trivial⟩).adv;have gg:(R .statement (R .within (zB s)).2).2.bad=0→GE (R .within (zB s)).1∧GD L (R .statement (R .within (zB s)).2):=fun h=>
    ⟨K.good .within (zB s) ⟨hlt,trivial⟩ trivial (zSC p2 h),K.good .statement (R .within (zB s)).2 ⟨p1.hi,trivial⟩ trivial h⟩
   by_cases c:onP L [101,108,115,101] (R .statement (R .within (zB s)).2).2=true
   · simp only[if_pos c]at hb⊢;have hl2:=hL.on p2.hi c;have p3:=(K.post .statement (zB (R .statement (R .within (zB s)).2).2) ⟨hl2,trivial⟩).adv;obtain⟨g1,g2⟩:=gg (zSC (x:=zB (R .statement (R .within (zB s)).2).2) p3 hb);have g3:GD L (R .statement (zB (R .statement (R .within (zB s)).2).2)):=K.good .statement (zB (R .statement (R .within (zB s)).2).2) ⟨hl2,trivial⟩ trivial hb;have hd:dangT (R .statement (R .within (zB s)).2).1=false:=by
      cases h:dangT (R .statement (R .within (zB s)).2).1 with
      | false=>rfl
      | true=>exact absurd c (g2.2 h)
     exact⟨⟨zUg g1 g2.1 hd g3.1,by show zMZ 8=true;decide⟩,fun h=>g3.2 (by
      have h3:dangT (.mk {zBg with kind:=8} [(R .within (zB s)).1,(R .statement (R .within (zB s)).2).1,(R .statement (zB (R .statement (R .within (zB s)).2).2)).1])=true:=h;rw[zSH,if_neg (by simp),if_pos (by decide),zSA,zSA,zSE]at h3;exact h3)⟩
   · simp only[if_neg c]at hb⊢;obtain⟨g1,g2⟩:=gg hb;exact⟨⟨zUf g1 g2.1,by show zMZ 8=true;decide⟩,fun _=>c⟩
 simp only[if_neg c1]at hb⊢
 by_cases c2:w=[119,104,105,108,101]
 · simp only[if_pos c2]at hb⊢;have p1:=(K.post .within (zB s) ⟨hlt,trivial⟩).adv;have p2:=(K.post .statement (R .within (zB s)).2 ⟨p1.hi,trivial⟩).adv;have g1:GE (R .within (zB s)).1:=K.good .within (zB s) ⟨hlt,trivial⟩ trivial (zSC p2 hb);have g2:GD L (R .statement (R .within (zB s)).2):=K.good .statement (R .within (zB s)).2 ⟨p1.hi,trivial⟩ trivial hb;exact⟨⟨zTy g1 g2.1,by show zMZ 9=true;decide⟩,fun h=>g2.2 (by
    have h3:dangT (.mk {zBg with kind:=9} [(R .within (zB s)).1,(R .statement (R .within (zB s)).2).1])=true:=h;rw[zSH,if_neg (by simp),if_pos (by decide),zSA,zSE]at h3;exact h3)⟩
 simp only[if_neg c2]at hb⊢
 by_cases c3:w=[102,111,114]
 · simp only[if_pos c3]at hb⊢;exact K.good .loop s ⟨hp.1,hlt⟩ trivial hb
 simp only[if_neg c3]at hb⊢
 by_cases c4:w=[98,114,101,97,107]
 · simp only[if_pos c4]at hb⊢;exact K.good (.jump 12) s ⟨hp.1,hlt⟩ (.inl rfl) hb
 simp only[if_neg c4]at hb⊢
 by_cases c5:w=[99,111,110,116,105,110,117,101]
 · simp only[if_pos c5]at hb⊢;exact K.good (.jump 13) s ⟨hp.1,hlt⟩ (.inr rfl) hb
 simp only[if_neg c5]at hb⊢
 by_cases c6:w=[114,101,116,117,114,110]
 · simp only[if_pos c6]at hb⊢
   by_cases c:zEN L (zB s)=true
   · simp only[if_pos c]at hb⊢;exact GD.plain ⟨zSG (by decide),rfl⟩ (zSD (by decide))
   · simp only[if_neg c]at hb⊢;have x1:Eat L _ (R .assign (zB s)).2:=K.post .assign (zB s) ⟨hlt,trivial⟩;have g:GE (R .assign (zB s)).1:=K.good .assign (zB s) ⟨hlt,trivial⟩ trivial (zSC (zBW hL x1.adv.hi) hb);exact GD.plain ⟨zTx (by decide) g,rfl⟩ (zSD (by decide))
 simp only[if_neg c6]at hb⊢
 by_cases c7:w=[116,104,114,111,119]
 · simp only[if_pos c7]at hb⊢;have y:Adv L (zB s) (if(zL L (zB s).k).nl=true then zY L (zB s)else zB s):=by
    split
    · exact(zm (s:=zB s) hlt).adv
    · exact Adv.refl (s:=zB s) hlt
   obtain⟨s1,hs1⟩:∃s1,(if(zL L (zB s).k).nl=true then zY L (zB s)else zB s)=s1:=⟨_,rfl⟩;rw[hs1]at y hb⊢;have x1:Eat L _ (R .assign s1).2:=K.post .assign s1 ⟨y.hi,trivial⟩;have g:GE (R .assign s1).1:=K.good .assign s1 ⟨y.hi,trivial⟩ trivial (zSC (zBW hL x1.adv.hi) hb);exact GD.plain ⟨zTx (by decide) g,rfl⟩ (zSD (by decide))
 simp only[if_neg c7]at hb⊢
 by_cases c8:w=[116,114,121]
 · simp only[if_pos c8]at hb⊢;exact K.good .tries s ⟨hp.1,hlt⟩ trivial hb
 simp only[if_neg c8]at hb⊢
 by_cases c9:w=[102,117,110,99,116,105,111,110]∨w=[108,101,116]∨w=[99,111,110,115,116]
 · simp only[if_pos c9]at hb;exact absurd hb zFF
 simp only[if_neg c9]at hb⊢;exact K.good .simple s ⟨hp.1,trivial⟩ trivial hb
theorem zSQ (K:Kg L R) {a:Tr×Ps} (ha:a.2.k≤L.length - 1) (hg:a.2.bad=0→GB a.1)
 (hb:(R .statement (R (.clause [41]) (R (.clause [59]) a.2).2).2).2.bad=0):
 GD L (trK 10 [a.1,(R (.clause [59]) a.2).1,(R (.clause [41]) (R (.clause [59]) a.2).2).1,(R .statement (R (.clause [41]) (R (.clause [59]) a.2).2).2).1],(R .statement (R (.clause [41]) (R (.clause [59]) a.2).2).2).2):=by
 have p1:=(K.post (.clause [59]) a.2 ⟨ha,trivial⟩).adv;have p2:=(K.post (.clause [41]) (R (.clause [59]) a.2).2 ⟨p1.hi,trivial⟩).adv;have p3:=(K.post .statement (R (.clause [41]) (R (.clause [59]) a.2).2).2 ⟨p2.hi,trivial⟩).adv;have b2:=zSC p3 hb;have b1:=zSC p2 b2;have g1:GC (R (.clause [59]) a.2).1:=K.good (.clause [59]) a.2 ⟨ha,trivial⟩ trivial b1;have g2:GC (R (.clause [41]) (R (.clause [59]) a.2).2).1:=K.good (.clause [41]) (R (.clause [59]) a.2).2 ⟨p1.hi,trivial⟩ trivial b2;have g3:GD L (R .statement (R (.clause [41]) (R (.clause [59]) a.2).2).2):=K.good .statement _ ⟨p2.hi,trivial⟩ trivial hb;exact⟨⟨zUh (hg (zSC p1 b1)) g1 g2 g3.1,by show zMZ 10=true;decide⟩,fun h=>g3.2 (by
  have h3:dangT (.mk {zBg with kind:=10} [a.1,(R (.clause [59]) a.2).1,(R (.clause [41]) (R (.clause [59]) a.2).2).1,(R .statement (R (.clause [41]) (R (.clause [59]) a.2).2).2).1])=true:=h;rw[zSH,if_neg (by simp),if_pos (by decide),zSA,zSA,zSA,zSE]at h3;exact h3)⟩
theorem zUD:Gd L R s .loop:=by
 intro hL hT K hp hi hb;unfold zE at hb⊢;dsimp only at hb⊢;have hlt:s.k < L.length - 1:=hp.2;have x:=zU (s:=zB s) (w:=[40]) hL hlt;obtain⟨s1,hs1⟩:∃s1,zN L [40] (zB s)=s1:=⟨_,rfl⟩;rw[hs1]at x hb⊢
 by_cases c:(onP L [108,101,116] s1 || onP L [99,111,110,115,116] s1)=true
 · simp only[if_pos c]at hb⊢;have x1:Eat L s1 (R .declares s1).2:=K.post .declares s1 ⟨x.adv.hi,trivial⟩;have y:=zU (w:=[59]) hL x1.adv.hi;refine zSQ K (a:=((R .declares s1).1,zN L [59] (R .declares s1).2)) y.adv.hi (fun h=>?_) hb;obtain⟨g1,g2⟩:=K.good .declares s1 ⟨x.adv.hi,trivial⟩ trivial (zSC y.adv h);exact⟨g1,by show zD6 10 (R .declares s1).1.nd.kind=true;rcases g2 with g2 | g2<;>(rw[g2];decide)⟩
 · simp only[if_neg c]at hb⊢;have x1:Eat L s1 (R (.clause [59]) s1).2:=K.post (.clause [59]) s1 ⟨x.adv.hi,trivial⟩;refine zSQ K (a:=R (.clause [59]) s1) x1.adv.hi (fun h=>?_) hb;have g:GC (R (.clause [59]) s1).1:=K.good (.clause [59]) s1 ⟨x.adv.hi,trivial⟩ trivial h;exact g.begin
theorem zUE {k:Int}:Gd L R s (.jump k):=by
 intro hL hT K hp hi hb;unfold zE at hb⊢;dsimp only at hb⊢;have hlt:s.k < L.length - 1:=hp.2;have hk:k=12∨k=13:=hi;have hs:zMZ k=true:=by rcases hk with rfl | rfl<;>decide
 have hno:¬(k=8∨k=9∨k=10∨k=18):=by omega
 by_cases c:(zL L (zB s).k).kind=1∧(zL L (zB s).k).nl=false
 · simp only[if_pos c]at hb⊢;have x:=zAY (s:=zB s) hL hlt;obtain⟨n1,n2,_⟩:=zSr (zSC (zBW hL x.adv.hi) hb);refine GD.plain ⟨?_,hs⟩ (zSD hno);rw[n2];rcases hk with rfl | rfl
   · exact zSS (by decide) (hT _).len (zR8 (by decide) ((hT _).name n1))
   · exact zSS (by decide) (hT _).len (zR8 (by decide) ((hT _).name n1))
 · simp only[if_neg c]at hb⊢;refine GD.plain ⟨?_,hs⟩ (zSD hno);rcases hk with rfl | rfl
   · exact zSG (by decide)
   · exact zSG (by decide)
theorem zSL (hL:Lst L) (K:Kg L R) {b0:Tr} {c:Tr×Ps} (hc:c.2.k≤L.length - 1) (hg:c.2.bad=0→GQ 4 b0∧goodT c.1=true∧(c.1.nd.kind=17∨(c.1.nd.kind=11∧onP L [102,105,110,97,108,108,121] c.2=true)))
 (hb:(if onP L [102,105,110,97,108,108,121] c.2=true then(trK 16 [b0,c.1,(R .block (zB c.2)).1],(R .block (zB c.2)).2)else(trK 16 [b0,c.1,trK 11 []],c.2)).2.bad=0):
 GD L (if onP L [102,105,110,97,108,108,121] c.2=true then(trK 16 [b0,c.1,(R .block (zB c.2)).1],(R .block (zB c.2)).2)else(trK 16 [b0,c.1,trK 11 []],c.2)):=by
 by_cases c1:onP L [102,105,110,97,108,108,121] c.2=true
 · simp only[if_pos c1]at hb⊢;have hl:=hL.on hc c1;have p:=(K.post .block (zB c.2) ⟨hl,trivial⟩).adv;obtain⟨g1,g2,g3⟩:=hg (zSC (x:=zB c.2) p hb);have g4:GQ 4 (R .block (zB c.2)).1:=K.good .block (zB c.2) ⟨hl,trivial⟩ trivial hb;exact GD.plain ⟨zUN g1 g2 g4.1 (by rcases g3 with h | h;exact .inr h;exact .inl h.1) (.inr g4.2) (.inr g4.2),by show zMZ 16=true;decide⟩ (zSD (by decide))
 · simp only[if_neg c1]at hb⊢;obtain⟨g1,g2,g3⟩:=hg hb;have g5:c.1.nd.kind=17:=by
    rcases g3 with h | h
    · exact h
    · exact absurd h.2 c1
   exact GD.plain ⟨zUN g1 g2 (zSG (by decide)) (.inr g5) (.inl rfl) (.inl g5),by show zMZ 16=true;decide⟩ (zSD (by decide))
theorem zSJ (hL:Lst L) (hT:TL L) (K:Kg L R) {b0:Tr} {n:List UInt8×Ps} (hn:n.2.k≤L.length - 1) (hg:n.2.bad=0→GQ 4 b0∧n.1.length≤4096∧zF2 17 n.1=true)
 (hb:(if onP L [102,105,110,97,108,108,121] (R .block n.2).2=true then(trK 16 [b0,trN 17 n.1 [(R .block n.2).1],(R .block (zB (R .block n.2).2)).1],(R .block (zB (R .block n.2).2)).2)else(trK 16 [b0,trN 17 n.1 [(R .block n.2).1],trK 11 []],(R .block n.2).2)).2.bad=0):
 GD L (if onP L [102,105,110,97,108,108,121] (R .block n.2).2=true then(trK 16 [b0,trN 17 n.1 [(R .block n.2).1],(R .block (zB (R .block n.2).2)).1],(R .block (zB (R .block n.2).2)).2)else(trK 16 [b0,trN 17 n.1 [(R .block n.2).1],trK 11 []],(R .block n.2).2)):=by
 have _:=hT;have p:=(K.post .block n.2 ⟨hn,trivial⟩).adv;refine zSL hL K (c:=(trN 17 n.1 [(R .block n.2).1],(R .block n.2).2)) p.hi (fun h=>?_) hb;obtain⟨g1,g2,g3⟩:=hg (zSC p h);have g4:=zTz g2 g3 (K.good .block n.2 ⟨hn,trivial⟩ trivial h);exact⟨g1,g4.1,.inl g4.2⟩
theorem zTn:Gd L R s .tries:=by
 intro hL hT K hp hi hb;unfold zE at hb⊢;dsimp only at hb⊢;have hlt:s.k < L.length - 1:=hp.2;have p1:=(K.post .block (zB s) ⟨hlt,trivial⟩).adv;have g0:(R .block (zB s)).2.bad=0→GQ 4 (R .block (zB s)).1:=K.good .block (zB s) ⟨hlt,trivial⟩ trivial;have hs:∃s1,(if(onP L [99,97,116,99,104] (R .block (zB s)).2 || onP L [102,105,110,97,108,108,121] (R .block (zB s)).2)=true then(R .block (zB s)).2 else zY L (R .block (zB s)).2)=s1∧Adv L (R .block (zB s)).2 s1∧(s1.bad=0→onP L [99,97,116,99,104] s1=true∨onP L [102,105,110,97,108,108,121] s1=true):=by
  refine⟨_,rfl,?_,?_⟩
  · split
    · exact Adv.refl p1.hi
    · exact(zm p1.hi).adv
  · split
    · rename_i h
      intro _;rw[Bool.or_eq_true]at h;exact h
    · intro h;exact absurd h zFF
 obtain⟨s1,hs1,y,hor⟩:=hs;rw[hs1]at hb⊢
 by_cases c:onP L [99,97,116,99,104] s1=true
 · simp only[if_pos c]at hb⊢;have hl2:=hL.on y.hi c
   by_cases c2:onP L [40] (zB s1)=true
   · simp only[if_pos c2]at hb⊢;have hl3:=hL.on (s:=zB s1) hl2 c2;have u:=zAY (s:=zB (zB s1)) hL hl3;have v:=zU (w:=[41]) hL u.adv.hi;refine zSJ hL hT K (n:=((zd L (zB (zB s1))).1,zN L [41] (zd L (zB (zB s1))).2)) v.adv.hi (fun h=>?_) hb;have h2:=zSC v.adv h;obtain⟨n1,n2,n3⟩:=zSr h2;rw[n3]at h2;exact⟨g0 (zSC y h2),by show(zd L (zB (zB s1))).1.length≤4096;rw[n2];exact(hT _).len,by show zF2 17 (zd L (zB (zB s1))).1=true;rw[n2];exact zR8 (by decide) ((hT _).name n1)⟩
   · simp only[if_neg c2]at hb⊢;exact zSJ hL hT K (n:=([],zB s1)) hl2 (fun h=>⟨g0 (zSC y h),by simp,by show zF2 17 []=true;decide⟩) hb
 · simp only[if_neg c]at hb⊢;refine zSL hL K (c:=(trK 11 [],s1)) y.hi (fun h=>⟨g0 (zSC y h),zSG (by decide),.inr ⟨rfl,?_⟩⟩) hb;rcases hor h with h1 | h1
   · exact absurd h1 c
   · exact h1
theorem zUF:∀p:Ph,Gd L R s p
 | .program _=>zSs
 | .block=>zTe
 | .blockL _=>zS7
 | .item=>zT2
 | .declares=>zSi
 | .declL _ _=>zTf
 | .func _ _=>zT3
 | .params=>zS8
 | .paramL _=>zS9
 | .statement=>zSf
 | .simple=>zTH
 | .word _=>zUC
 | .within=>zTA
 | .clause _=>zTB
 | .loop=>zUD
 | .jump _=>zUE
 | .tries=>zTn
 | .assign=>zTC
 | .body _=>zT4
 | .cond=>zT5
 | .either=>zTD
 | .nullL _=>zTg
 | .orL _=>zUR
 | .both _=>zT6
 | .level _=>zTh
 | .levelL _ _=>zTE
 | .unary=>zTi
 | .calls=>zTj
 | .callsL _=>zTF
 | .head=>zT7
 | .headL _=>zTk
 | .args=>zT8
 | .list _=>zT9
 | .listL _ _=>zTl
 | .primary=>zSu
 | .object=>zTG
 | .objL _=>zUA
 | .prop=>zUB
end
theorem zUS {L:List Tok} (hL:Lst L) (hT:TL L):∀(f:Nat) (p:Ph) (s:Ps),Pre L p s→GI p→(zEl L f p s).2.bad=0→GR L p (zEl L f p s):=by
 intro f
 induction f with
 | zero=>intro p s _ _ h;exact absurd h (zDy (by decide))
 | succ f ih=>
  intro p s hp hi hb;exact zUF p hL hT ⟨fun q s1 hq=>zHN hL f q s1 hq,fun q s1 hq hg h=>ih q s1 hq hg h⟩ hp hi hb
theorem zSg {L:List Tok} (hL:Lst L) (hT:TL L) (hb:(zF L (.program []) ⟨0,0,0⟩).2.bad=0):GQ 1 (zF L (.program []) ⟨0,0,0⟩).1:=
 zUS hL hT _ (.program []) ⟨0,0,0⟩ ⟨yAE _,trivial⟩ zCY hb
open Go.RowKit
section
variable {a b c w w':World} {S S' G G' F:Nat→Prop} {r:Option Nat}
theorem Chg.refl (w:World) (S:Nat→Prop):Chg w w S:=⟨rfl,rfl,rfl,yAC _,fun _ _ _=>rfl⟩
theorem NdsC.len:∀{ts:List Nd} {cs:List Value},NdsC w G ts cs→cs.length=ts.length*8:=by
 intro ts
 induction ts with
 | nil=>intro cs h;rw[show cs=[]from h];rfl
 | cons x r ih=>
  intro cs h;obtain⟨vs,vm,vk,rest,rfl,_,_,_,_,h6⟩:=h;rw[List.length_append,ih h6,List.length_cons];show 8+_=_;omega
theorem NdsC.one:∀{ts:List Nd} {cs:List Value},NdsC w G ts cs→∀u∈cs,u.oneCell'=true:=by
 intro ts
 induction ts with
 | nil=>intro cs h u hu;rw[show cs=[]from h]at hu;cases hu
 | cons x r ih=>
  intro cs h u hu;obtain⟨vs,vm,vk,rest,rfl,h2,h3,h4,_,h6⟩:=h;rcases List.mem_append.1 hu with hu | hu
  · obtain⟨_,_,rfl,_⟩:=zR h2;obtain⟨_,_,rfl,_⟩:=zR h3;obtain⟨_,_,rfl,_⟩:=zR h4;simp only[ndC,List.mem_cons,List.not_mem_nil,or_false]at hu;rcases hu with rfl | rfl | rfl | rfl | rfl | rfl | rfl | rfl<;>rfl
  · exact ih h6 u hu
end
section
variable {L L1 L2:List Tok} {a d m:Nat} {lo:Bool} {s:Ps}
theorem zSZ (hL:Lst L) (h:s.k≤L.length - 1):Eat L s (zF L .item s).2:=zV hL (p:=.item) ⟨h,trivial⟩
inductive Path (L:List Tok):Ps→List Tr→Ps→Prop
 | nil (s:Ps):Path L s [] s
 | cons {s e:Ps} {items:List Tr} (h:(zL L s.k).kind≠0) (p:Path L (zF L .item s).2 items e):Path L s ((zF L .item s).1::items) e
theorem Path.app {s s2 e:Ps} {i1 i2:List Tr} (h:Path L s i1 s2) (k:Path L s2 i2 e):Path L s (i1++i2) e:=by
 induction h with
 | nil=>exact k
 | cons h _ ih=>exact .cons h (ih k)
theorem Path.adv (hL:Lst L) {s e:Ps} {items:List Tr} (h:Path L s items e) (hs:s.k≤L.length - 1):Adv L s e:=by
 induction h with
 | nil=>exact Adv.refl hs
 | cons h _ ih=>exact(zSZ hL hs).adv.trans (ih (zSZ hL hs).adv.hi)
theorem Path.prog (hL:Lst L) {s e:Ps} {items:List Tr} (h:Path L s items e) (hs:s.k≤L.length - 1) (he:(zL L e.k).kind=0):∀acc,zF L (.program acc) s=(trK 1 (acc++items),e):=by
 induction h with
 | nil s=>
  intro acc;rw[zAH hL ⟨hs,trivial⟩];unfold zE;dsimp only;rw[if_pos he,List.append_nil]
 | cons h _ ih=>
  intro acc;rw[zAH hL ⟨hs,trivial⟩];unfold zE;dsimp only;rw[if_neg h,ih (zSZ hL hs).adv.hi he,List.append_assoc];rfl
end
theorem zTI {t:Tok} {w:List UInt8} (h:isT t w=true):t.text=w∧(t.kind=5∨t.kind=6):=by
 unfold isT at h;rw[Bool.and_eq_true,decide_eq_true_eq,Bool.or_eq_true,beq_iff_eq,beq_iff_eq]at h;exact h
theorem zUT {t:Tok} {w v:List UInt8} (h:isT t w=true) (hne:w≠v):isT t v=false:=by
 unfold isT;rw[(zTI h).1,yAI hne];rfl
def LN (L:List Tok) (s e:Ps):Prop:=e.bad=0→s.k < e.k→isT (zL L (e.k - 1)) [59]=false
section
variable {L:List Tok} {a s e c:Ps}
theorem LN.refl (s:Ps):LN L s s:=fun _ h=>absurd h (Nat.lt_irrefl _)
theorem LN.bad (h:e.bad≠0):LN L s e:=fun hb=>absurd hb h
theorem LN.trans (h:LN L a s) (k:LN L s e) (y:Adv L s e):LN L a e:=fun hb hk=>by
 rcases Nat.lt_or_ge s.k e.k with h1 | h1
 · exact k hb h1
 · have e1:s.k=e.k:=by have:=y.le;omega
   have hb1:s.bad=0:=by
    rcases Nat.eq_zero_or_pos s.bad with hz | hz
    · exact hz
    · exact absurd hb (y.bad (by omega))
   have:=h hb1 (by omega);rwa [e1]at this
theorem LN.step (h:isT (zL L s.k) [59]=false):LN L s (zB s):=fun _ _=>h
theorem LN.on {w:List UInt8} (h:onP L w s=true) (hw:w≠[59]):LN L s (zB s):=LN.step (zUT h hw)
theorem LN.word {t:List UInt8} (h:(zL L s.k).text=t) (hw:t≠[59]):LN L s (zB s):=LN.step (by unfold isT;rw[h,yAI hw];rfl)
end
def Semi (L:List Tok):Prop:=∀i,isT (zL L i) [59]=true→(zL L i).kind=5
section
variable {L:List Tok} {R:Ph→Ps→Tr×Ps} {s:Ps}
theorem Semi.kind (hS:Semi L) {i:Nat} (h:(zL L i).kind≠5):isT (zL L i) [59]=false:=by
 cases hh:isT (zL L i) [59]with
 | false=>rfl
 | true=>exact absurd (hS i hh) h
end
section
variable {L L1 L3:List Tok} {s e:Ps} {y:Tr}
theorem Stop.off (h:Stop (zL L e.k)) {w:List UInt8} (hw:w∈zUl):¬onP L w e=true:=by
 unfold onP;rw[h.words w hw];decide
end
section
variable {x:UInt16} {v:List UInt16}
def Ahead (x:UInt16) (l:List UInt16):Prop:=x=10∨x=32∧∀i,zq [47,47] (l.drop i)=false
theorem Ahead.stop {l:List UInt16} (h:Ahead x l):x=10∨x=32:=by
 rcases h with h | h
 · exact .inl h
 · exact .inr h.1
theorem Ahead.drop {l:List UInt16} (h:Ahead x l) (n:Nat):Ahead x (l.drop n):=by
 rcases h with h | ⟨h,h2⟩
 · exact .inl h
 · exact .inr ⟨h,fun i=>by rw[List.drop_drop];exact h2 _⟩
end
theorem zSv {u:List UInt16} {ts:List Nd} {a:Nat} (h:zBc u=(ts,a,0)):zO3 ts=true:=by
 obtain⟨L,g1,g2,g3,g4,g5,g6,_⟩:=zOe h;have hg:=zSg g2 (zQZ g1) g3;exact zTX.2 ⟨_,g6,g4,hg.2,hg.1,g5⟩
def E56 (e:Nat):Prop:=e=0∨e=5∨e=6
theorem e0:E56 0:=.inl rfl
theorem e5:E56 5:=.inr (.inl rfl)
theorem e6:E56 6:=.inr (.inr rfl)
theorem zTJ (b:Bool):E56 (zFS b):=by unfold zFS;split<;>first | exact e6 | exact e0
theorem zUm (b:Bool):∀(l:List UInt16) (nl st:Bool),E56 (zCC b l nl st).2.2:=by
 intro l
 induction l with
 | nil=>intro nl st;unfold zCC;dsimp only;split<;>first | exact e5 | exact zTJ _
 | cons x r ih=>
  intro nl st;unfold zCC;split
  · exact zTJ _
  · split
    · exact zTJ _
    · exact ih _ _
theorem zUU:∀(f:Nat) (l:List UInt16) (nl:Bool),E56 (zCu f l nl).2.2:=by
 intro f
 induction f with
 | zero=>intro l nl;exact e0
 | succ f ih=>
  intro l nl;cases l with
  | nil=>exact e0
  | cons x r=>
   unfold zCu;split
   · exact ih _ _
   · split
     · split
       · exact zUm _ _ _ _
       · exact ih _ _
     · exact e0
theorem zUV (n:Nat) (l:List UInt16):E56 (zCd n l).1:=by unfold zCd;split<;>first | exact e0 | exact e5
theorem zUW {n:Nat} {p:Nat×UInt16×Nat} (h:E56 p.1):E56 (more n p).1:=by unfold more;split<;>first | exact e0 | exact h
theorem zUn (l:List UInt16):E56 (zDM l).1:=by
 unfold zDM;split
 · exact e5
 · split
   · exact e0
   · unfold zQl
     repeat' split
     all_goals first | exact e0 | exact e5 | exact e6 | exact zUW (zUV _ _)
theorem zUo (q:UInt16):∀(f:Nat) (l acc:List UInt16),E56 (zDd q f l acc).1:=by
 intro f
 induction f with
 | zero=>intro l acc;exact e5
 | succ f ih=>
  intro l acc;cases l with
  | nil=>exact e5
  | cons x r=>
   unfold zDd;split
   · exact e5
   · split
     · exact e0
     · split
       · split
         · exact zUn _
         · exact ih _ _
       · exact ih _ _
theorem zUG (z:Bool) (l:List UInt16):E56 (zA9 z l).1:=by
 unfold zA9;split
 · exact e5
 · split
   · unfold zDm;split<;>first | exact e6 | exact e0
   · split
     · unfold zB1 zBt zIi
       repeat' split
       all_goals first | exact e0 | exact e5 | exact e6
     · split
       · unfold zBD;split<;>first | exact zUo _ _ _ _ | exact e0
       · split
         · exact e6
         · unfold zCA
           repeat' split
           all_goals first | exact e0 | exact e5 | exact e6
theorem zUX:∀(f k:Nat) (l:List UInt16),E56 (zDI f k l).2.2∧(zDI f k l).2.1≤k+l.length:=by
 intro f
 induction f with
 | zero=>intro k l;exact⟨e0,yAE _⟩
 | succ f ih=>
  intro k l;unfold zDI;have hp:=zFW l;split
  · exact⟨zUU _ _ _,by dsimp only;omega⟩
  · split
    · exact⟨e0,yAE _⟩
    · split
      · exact⟨zUG _ _,by dsimp only;omega⟩
      · rename_i h1 h2 h3
        have hlen:=zC2 (k:=k) (l:=l) (Decidable.not_not.1 h3);unfold zDn;split
        · have:=ih (k+(zAB l).1+(zAi k l).2.2) (l.drop ((zAB l).1+(zAi k l).2.2));rw[List.length_drop]at this;exact⟨this.1,by have:=this.2;dsimp only at this⊢;omega⟩
        · exact⟨e0,yAE _⟩
def Ok5 (s:Ps):Prop:=E56 s.bad
section
variable {L:List Tok} {R:Ph→Ps→Tr×Ps} {s:Ps} {w:List UInt8} {e:Nat}
theorem zTK (h:Ok5 s) (he:E56 e):Ok5 (zBw L e s):=by unfold Ok5 zBw;dsimp only;split<;>first | exact he | exact h
theorem zUY (h:Ok5 s):Ok5 (zB s):=h
theorem zSR (h:Ok5 s):Ok5 (zY L s):=zTK h (by split<;>first | exact e6 | exact e5)
theorem zUZ (h:Ok5 s):Ok5 (zN L w s):=by unfold zN;split<;>first | exact h | exact zSR h
theorem zUa (h:Ok5 s):Ok5 (zd L s).2:=by unfold zd;split<;>first | exact h | exact zSR h
theorem zUb (h:Ok5 s):Ok5 (zC9 L s):=by unfold zC9;split<;>first | exact h | (split<;>first | exact h | exact zSR h)
theorem zUp {c:Prop} [Decidable c] {x y:Tr×Ps} (hx:Ok5 x.2) (hy:Ok5 y.2):Ok5 (if c then x else y).2:=by split<;>assumption
theorem zUH (hR:∀q t,Ok5 t→Ok5 (R q t).2) (p:Ph) (h:Ok5 s):Ok5 (zE L R p s).2:=by
 unfold zE;cases p<;>dsimp only<;>(repeat' first | exact h | with_reducible apply zUp | with_reducible apply hR | with_reducible apply zSR | with_reducible apply zUZ | with_reducible apply zUa | with_reducible apply zUb | exact zTK (hR _ _ h) e5 | exact zTK h e6 | (with_reducible apply zUY) | split)
end
theorem zUc {L:List Tok} (hL:Lst L):∀(n:Nat) (p:Ph) (s:Ps),Pre L p s→zZ L p s < n→Ok5 s→Ok5 (zEl L n p s).2:=by
 intro n
 induction n with
 | zero=>intro p s _ h _;omega
 | succ n ih=>
  intro p s hp hf h;have hc:Con L (zEl L n) (fun q t=>open Classical in if Pre L q t∧zZ L q t < zZ L p s then zEl L n q t else(trK 0 [],t)) p s:=
   zFf hL hp fun q t hq hl=>⟨zHN hL n q t hq,(if_pos ⟨hq,hl⟩).symm⟩
  show Ok5 (zE L (zEl L n) p s).2;rw[hc.2];refine zUH (fun q t ht=>?_) p h;split
  · rename_i g
    exact ih q t g.1 (by have:=g.2;omega) ht
  · exact ht
theorem zTL {u:List UInt16} {ts:List Nd} {a e:Nat} (h:zBc u=(ts,a,e)) (he:e≠0):ts=[]∧(e=3∨e=5∨e=6∨e=7)∧a≤4096:=by
 unfold zBc at h
 by_cases hl:4096 < u.length
 · have:zCD u=([],0,3):=if_pos hl;rw[this,if_pos (by decide)]at h;simp only[Prod.mk.injEq]at h;exact⟨h.1.symm,.inl h.2.2.symm,by omega⟩
 obtain⟨⟨L,b,f⟩,hL⟩:∃q,zCD u=q:=⟨_,rfl⟩;have hq:=zUX (u.length+1) 0 u;rw[show zDI (u.length+1) 0 u=zCD u from(if_neg hl).symm,hL]at hq;rw[hL]at h;dsimp only at h hq;split at h
 · simp only[Prod.mk.injEq]at h;obtain⟨h1,h2,h3⟩:=h;subst h2 h3;rcases hq.1 with h4 | h4 | h4
   · exact absurd h4 he
   · exact⟨h1.symm,.inr (.inl h4),by omega⟩
   · exact⟨h1.symm,.inr (.inr (.inl h4)),by omega⟩
 · rename_i hf
   have hf:f=0:=Decidable.not_not.1 hf;subst hf;have hR:=zUc (zFw hL) _ (.program []) ⟨0,0,0⟩ ⟨yAE _,trivial⟩ (yAF _) e0;split at h
   · rename_i hb
     simp only[Prod.mk.injEq]at h;obtain⟨h1,h2,h3⟩:=h;rw[←h3,←h2];refine⟨h1.symm,?_,?_⟩
     · rcases hR with h4 | h4 | h4
       · exact absurd h4 hb
       · exact .inr (.inl h4)
       · exact .inr (.inr (.inl h4))
     · have hs:=zJv (u:=u) (by omega);rw[hL]at hs;generalize (zF L (.program []) ⟨0,0,0⟩).2.far=j;unfold zL;rw[yAG];cases hj:L[j]? with
       | none=>exact yAE _
       | some t=>have:=(hs t (List.mem_of_getElem? hj)).2;show t.pos≤4096;omega
   · split at h
     · simp only[Prod.mk.injEq]at h;exact⟨h.1.symm,.inl h.2.2.symm,by omega⟩
     · split at h
       · simp only[Prod.mk.injEq]at h;exact⟨h.1.symm,.inr (.inr (.inr h.2.2.symm)),by omega⟩
       · simp only[Prod.mk.injEq]at h;omega
theorem zUd (ts:List Nd) (up:List Int):∀f n,(zQn ts up f n=(0,0))∨((zQn ts up f n).2=5∧(zQn ts up f n).1 < n+f):=by
 intro f
 induction f with
 | zero=>intro n;exact .inl rfl
 | succ f ih=>
  intro n;unfold zQn;split
  · exact .inr ⟨rfl,by dsimp only;omega⟩
  · rcases ih (n+1)with h | h
    · exact .inl h
    · exact .inr ⟨h.1,by omega⟩
theorem zTM (b:List UInt8):zMV b=0∨zMV b=2∨zMV b=3:=by
 unfold zMV;split
 · exact .inr (.inr rfl)
 · split
   · exact .inl rfl
   · exact .inr (.inl rfl)
theorem zTN {b:List UInt8} {ts:List Nd} {a e:Nat} (hu:uAt b≤b.length) (h:zBd b=(ts,a,e)):
 (e=0∧a=0∧zO3 ts=true∧chN ts=(0,0))∨(e≠0∧ts=[]∧(e=3∨e=2∨e=5∨e=6∨e=7)∧a≤max b.length 4096):=by
 unfold zBd at h;split at h
 · obtain⟨⟨tp,pa,pe⟩,hp⟩:∃q,zBc (zO7 b)=q:=⟨_,rfl⟩;rw[hp]at h;unfold zFe at h;dsimp only at h;split at h
   · rename_i h0 h1
     subst h1;have hm:=zSv hp;obtain⟨t,ht⟩:=zMc hm;have hl:=ht.len;have hc:chN tp=zQn tp (upN tp) tp.length 0:=if_pos hm;have hcb:=zUd tp (upN tp) tp.length 0;rw[←hc]at hcb;split at h
     · rename_i h2
       simp only[Prod.mk.injEq]at h;obtain⟨h3,h4,h5⟩:=h;subst h3;refine .inl ⟨h5.symm,h4.symm,hm,?_⟩;rcases hcb with h | h
       · exact h
       · omega
     · rename_i h2
       simp only[Prod.mk.injEq]at h;obtain⟨h3,h4,h5⟩:=h;rcases hcb with h | h
       · rw[h]at h2;exact absurd rfl h2
       · exact .inr ⟨by omega,h3.symm,.inr (.inr (.inl (by omega))),by omega⟩
   · rename_i h0 h1
     simp only[Prod.mk.injEq]at h;obtain⟨h3,h4,h5⟩:=h;obtain⟨_,g2,g3⟩:=zTL hp h1;exact .inr ⟨by omega,h3.symm,by omega,by omega⟩
 · rename_i h1
   simp only[Prod.mk.injEq]at h;obtain⟨h3,h4,h5⟩:=h;have:=zTM b;exact .inr ⟨by omega,h3.symm,by omega,by omega⟩
end Go.Proofs.YtlohaclgbfhijaaGreatDoor
