/- Joined for the claim ParseBlocks: the parser, the lexer and the trees as they are walked, made short by a program of mine. -/
import Derived.Test.YtlohaclgbfhijaaGreatDoorS19
import Derived.Test.YtlohaclgbfhijaaGreatDoorS04
import Derived.Test.YtlohaclgbfhijaaGreatDoorS01
set_option maxHeartbeats 16000000
set_option maxRecDepth 1000000
namespace Go.Proofs.YtlohaclgbfhijaaGreatDoor
set_option linter.unusedVariables false
structure TG (t:Tok):Prop where
 name:t.kind=1→zCx t.text=true
 word:t.kind=6→zGt t.text=true
 num:t.kind=2→t.nk=0∧0≤t.nn∧t.nn≤9007199254740991
 big:t.kind=3→zC3 false t.mag=true
 str:t.kind=4→t.str.length≤4096
 len:t.text.length≤4096
def TL (L:List Tok):Prop:=∀i,TG (zH L i)
theorem zHp {n:List UInt8} (h:zCx n=true):zGt n=true:=by
 unfold zCx at h;rw[Bool.and_eq_true]at h;exact h.1
theorem zAy {k:Int} (hk:k∈([7,12,13,17,18,19,20,33,41]:List Int)) {n:List UInt8} (h:zCx n=true):zAf k n=true:=by
 simp only[List.mem_cons,List.not_mem_nil,or_false]at hk;rcases hk with rfl | rfl | rfl | rfl | rfl | rfl | rfl | rfl | rfl<;>(unfold zAf;simp[h])
theorem zNg {t:Tok} (h:zA9 t≠9):t.text∈zUU:=by
 unfold zA9 at h;split at h
 · unfold zG2 at h;split at h
   · rename_i c;rw[c];decide
   split at h
   · rename_i c;rw[c];decide
   split at h
   · rename_i c;rw[c];decide
   split at h
   · rename_i c;rcases c with c | c | c | c<;>(rw[c];decide)
   split at h
   · rename_i c;rcases c with c | c | c | c | c<;>(rw[c];decide)
   split at h
   · rename_i c;rcases c with c | c | c<;>(rw[c];decide)
   split at h
   · rename_i c;rcases c with c | c<;>(rw[c];decide)
   split at h
   · rename_i c;rcases c with c | c | c<;>(rw[c];decide)
   · exact absurd rfl h
 · exact absurd rfl h
def GI:Ph→Prop
 | .program acc=>∀t∈acc,GS t
 | .blockL acc=>∀t∈acc,GS t
 | .declL k acc=>(k=5∨k=6)∧∀t∈acc,GQ 7 t
 | .func k n=>(k=19∨k=41)∧n.length≤4096∧zAf k n=true
 | .paramL acc=>∀t∈acc,GQ 20 t
 | .jump k=>k=12∨k=13
 | .body l=>∀t∈l,GQ 20 t
 | .nullL x=>GE x
 | .orL x=>GE x
 | .both x=>GE x
 | .levelL _ x=>GE x
 | .callsL x=>GE x
 | .headL x=>GE x
 | .listL _ acc=>∀t∈acc,GE t
 | .objL acc=>∀t∈acc,GQ 40 t
 | _=>True
def GD (L:List Tok) (r:Tr×Ps):Prop:=GU r.1∧(dangT r.1=true→¬onP L [101,108,115,101] r.2=true)
def GR (L:List Tok) (p:Ph) (r:Tr×Ps):Prop:=
 match p with
 | .program _=>GQ 1 r.1
 | .block=>GQ 4 r.1
 | .blockL _=>GQ 4 r.1
 | .item=>GS r.1
 | .declares=>goodT r.1=true∧(r.1.nd.kind=5∨r.1.nd.kind=6)
 | .declL _ _=>goodT r.1=true∧(r.1.nd.kind=5∨r.1.nd.kind=6)
 | .func k _=>GQ k r.1
 | .params=>∀t∈r.1.subs,GQ 20 t
 | .paramL _=>∀t∈r.1.subs,GQ 20 t
 | .statement=>GD L r
 | .simple=>GD L r
 | .word _=>GD L r
 | .loop=>GD L r
 | .jump _=>GD L r
 | .tries=>GD L r
 | .clause _=>GC r.1
 | .list _=>∀t∈r.1.subs,GE t
 | .listL _ _=>∀t∈r.1.subs,GE t
 | .args=>∀t∈r.1.subs,GE t
 | .prop=>GQ 40 r.1
 | _=>GE r.1
structure Kg (L:List Tok) (R:Ph→Ps→Tr×Ps):Prop where
 post:∀q s1,Pre L q s1→Post L q s1 (R q s1).2
 good:∀q s1,Pre L q s1→GI q→(R q s1).2.bad=0→GR L q (R q s1)
def Gd (L:List Tok) (R:Ph→Ps→Tr×Ps) (s:Ps) (p:Ph):Prop:=Lst L→TL L→Kg L R→Pre L p s→GI p→(zF L R p s).2.bad=0→GR L p (zF L R p s)
section
variable {L:List Tok} {R:Ph→Ps→Tr×Ps} {s:Ps}
theorem zCF {x y:Ps} (h:Adv L x y) (hb:y.bad=0):x.bad=0:=by
 rcases Nat.eq_zero_or_pos x.bad with hz | hz
 · exact hz
 · exact absurd hb (h.bad (by omega))
theorem zLD {x:Ps} (h:(zW L x).2.bad=0):(zH L x.k).kind=1∧(zW L x).1=(zH L x.k).text∧(zW L x).2=zB x:=by
 unfold zW at h⊢
 by_cases c:(zH L x.k).kind=1
 · rw[if_pos c];exact⟨c,rfl,rfl⟩
 · rw[if_neg c]at h;exact absurd h ze
theorem zCW {x:Nd} {l:List Tr} (h:¬(x.kind=8∨x.kind=9∨x.kind=10∨x.kind=18)):dangT (.mk x l)=false:=by
 rw[zDR,if_neg (fun h2=>h (.inl h2.1)),if_neg h]
theorem GD.plain {t:Tr} {e:Ps} (h:GU t) (hd:dangT t=false):GD L (t,e):=⟨h,fun h2=>by rw[hd]at h2;cases h2⟩
theorem zLE {acc:List Tr}:Gd L R s (.program acc):=by
 intro hL hT K hp hi hb;unfold zF at hb⊢;dsimp only at hb⊢
 by_cases c:(zH L s.k).kind=0
 · simp only[if_pos c]at hb⊢;exact⟨zMK (.inl rfl) hi,rfl⟩
 simp only[if_neg c]at hb⊢;have x1:Eat L s (R .item s).2:=K.post .item s ⟨hp.1,trivial⟩;have b1:=zCF (K.post (.program (acc++[(R .item s).1])) (R .item s).2 ⟨x1.adv.hi,trivial⟩).adv hb;have g1:GS (R .item s).1:=K.good .item s ⟨hp.1,trivial⟩ trivial b1;exact K.good (.program (acc++[(R .item s).1])) (R .item s).2 ⟨x1.adv.hi,trivial⟩ (zAW hi g1) hb
theorem zQd:Gd L R s .block:=by
 intro hL hT K hp hi hb;unfold zF at hb⊢;dsimp only at hb⊢;have x:=zN (w:=[123]) hL hp.1;exact K.good (.blockL []) (zM L [123] s) ⟨x.adv.hi,trivial⟩ zB2 hb
theorem zNh {acc:List Tr}:Gd L R s (.blockL acc):=by
 intro hL hT K hp hi hb;unfold zF at hb⊢;dsimp only at hb⊢
 by_cases c:s.bad≠0
 · simp only[if_pos c]at hb;exact absurd hb c
 simp only[if_neg c]at hb⊢
 by_cases c2:onP L [125] s=true
 · simp only[if_pos c2]at hb⊢;exact⟨zMK (.inr rfl) hi,rfl⟩
 simp only[if_neg c2]at hb⊢;have x1:Eat L s (R .item s).2:=K.post .item s ⟨hp.1,trivial⟩;have b1:=zCF (K.post (.blockL (acc++[(R .item s).1])) (R .item s).2 ⟨x1.adv.hi,trivial⟩).adv hb;have g1:GS (R .item s).1:=K.good .item s ⟨hp.1,trivial⟩ trivial b1;exact K.good (.blockL (acc++[(R .item s).1])) (R .item s).2 ⟨x1.adv.hi,trivial⟩ (zAW hi g1) hb
theorem zS8:Gd L R s .item:=by
 intro hL hT K hp hi hb;unfold zF at hb⊢;dsimp only at hb⊢
 by_cases c:(onP L [108,101,116] s || onP L [99,111,110,115,116] s)=true
 · simp only[if_pos c]at hb⊢;have x1:Eat L s (R .declares s).2:=K.post .declares s ⟨hp.1,trivial⟩;obtain⟨g1,g2⟩:=K.good .declares s ⟨hp.1,trivial⟩ trivial (zCF (zAV hL x1.adv.hi) hb);exact⟨g1,by show zEb (R .declares s).1.nd.kind=true;rcases g2 with g2 | g2<;>(rw[g2];decide)⟩
 simp only[if_neg c]at hb⊢
 by_cases c2:onP L [102,117,110,99,116,105,111,110] s=true
 · simp only[if_pos c2]at hb⊢;have hlt:=hL.on hp.1 c2;have y:=zAD (s:=zB s) hL hlt;have b1:=zCF (K.post (.func 19 (zW L (zB s)).1) (zW L (zB s)).2 ⟨y.adv.hi,trivial⟩).adv hb;obtain⟨n1,n2,n3⟩:=zLD b1;have hg:GI (.func 19 (zW L (zB s)).1):=⟨.inl rfl,by rw[n2];exact(hT _).len,by rw[n2];exact zAy (by decide) ((hT _).name n1)⟩;obtain⟨g1,g2⟩:=K.good (.func 19 (zW L (zB s)).1) (zW L (zB s)).2 ⟨y.adv.hi,trivial⟩ hg hb;exact⟨g1,by rw[g2];decide⟩
 simp only[if_neg c2]at hb⊢;have:=K.good .statement s ⟨hp.1,trivial⟩ trivial hb;exact this.1.stmt
theorem zIm:Gd L R s .declares:=by
 intro hL hT K hp hi hb;unfold zF at hb⊢;dsimp only at hb⊢
 by_cases c:onP L [99,111,110,115,116] s=true
 · simp only[if_pos c]at hb⊢;exact K.good (.declL 6 []) (zB s) ⟨hL.on hp.1 c,trivial⟩ ⟨.inr rfl,zB2⟩ hb
 · simp only[if_neg c]at hb⊢;have x:=zN (w:=[108,101,116]) hL hp.1;exact K.good (.declL 5 []) (zM L [108,101,116] s) ⟨x.adv.hi,trivial⟩ ⟨.inl rfl,zB2⟩ hb
theorem zEg {k:Int} {acc:List Tr} (hL:Lst L) (K:Kg L R) {e:Tr×Ps} (he:e.2.k≤L.length - 1) (hk:k=5∨k=6) (hi:∀t∈acc,GQ 7 t) (hd:e.2.bad=0→GQ 7 e.1)
 (hb:(if e.2.bad≠0 then(trK k (acc++[e.1]),e.2)else if onP L [44] e.2=true then R (.declL k (acc++[e.1])) (zB e.2)else(trK k (acc++[e.1]),e.2)).2.bad=0):
 goodT (if e.2.bad≠0 then(trK k (acc++[e.1]),e.2)else if onP L [44] e.2=true then R (.declL k (acc++[e.1])) (zB e.2)else(trK k (acc++[e.1]),e.2)).1=true∧((if e.2.bad≠0 then(trK k (acc++[e.1]),e.2)else if onP L [44] e.2=true then R (.declL k (acc++[e.1])) (zB e.2)else(trK k (acc++[e.1]),e.2)).1.nd.kind=5∨(if e.2.bad≠0 then(trK k (acc++[e.1]),e.2)else if onP L [44] e.2=true then R (.declL k (acc++[e.1])) (zB e.2)else(trK k (acc++[e.1]),e.2)).1.nd.kind=6):=by
 by_cases c:e.2.bad≠0
 · simp only[if_pos c]at hb;exact absurd hb c
 have hd':=hd (yAL.1 c);simp only[if_neg c]at hb⊢
 by_cases c2:onP L [44] e.2=true
 · simp only[if_pos c2]at hb⊢;exact K.good (.declL k (acc++[e.1])) (zB e.2) ⟨hL.on he c2,trivial⟩ ⟨hk,zAW hi hd'⟩ hb
 · simp only[if_neg c2]at hb⊢;exact⟨zSQ hk (by simp) (zAW hi hd'),hk⟩
theorem zQe {k:Int} {acc:List Tr}:Gd L R s (.declL k acc):=by
 intro hL hT K hp hi hb;unfold zF at hb⊢;dsimp only at hb⊢;have x:=zAD hL hp.1;have hn:(zW L s).2.bad=0→(zW L s).1.length≤4096∧zAf 7 (zW L s).1=true:=fun h=>by
  obtain⟨n1,n2,_⟩:=zLD h;rw[n2];exact⟨(hT _).len,zAy (by decide) ((hT _).name n1)⟩
 by_cases c:onP L [61] (zW L s).2=true
 · simp only[if_pos c]at hb⊢;have hlt:=hL.on x.adv.hi c;have p1:=(K.post .assign (zB (zW L s).2) ⟨hlt,trivial⟩).adv;exact zEg hL K (e:=(trN 7 (zW L s).1 [(R .assign (zB (zW L s).2)).1],(R .assign (zB (zW L s).2)).2)) p1.hi hi.1 hi.2 (fun h=>by
    obtain⟨h1,h2⟩:=hn (show(zW L s).2.bad=0 from zCF (x:=zB (zW L s).2) p1 h);exact⟨zJG (by decide) h1 h2 (K.good .assign (zB (zW L s).2) ⟨hlt,trivial⟩ trivial h),rfl⟩) hb
 · simp only[if_neg c]at hb⊢;exact zEg hL K (e:=(trN 7 (zW L s).1 [],(zW L s).2)) x.adv.hi hi.1 hi.2 (fun h=>by
    obtain⟨h1,h2⟩:=hn h;exact⟨zE9 (by decide) h1 h2,rfl⟩) hb
theorem zS9 {k:Int} {n:List UInt8}:Gd L R s (.func k n):=by
 intro hL hT K hp hi hb;unfold zF at hb⊢;dsimp only at hb⊢;have x1:Eat L s (R .params s).2:=K.post .params s ⟨hp.1,trivial⟩;have b1:=zCF (K.post .block (R .params s).2 ⟨x1.adv.hi,trivial⟩).adv hb;have g1:∀t∈(R .params s).1.subs,GQ 20 t:=K.good .params s ⟨hp.1,trivial⟩ trivial b1;have g2:GQ 4 (R .block (R .params s).2).1:=K.good .block (R .params s).2 ⟨x1.adv.hi,trivial⟩ trivial hb;exact⟨zTu hi.1 hi.2.1 hi.2.2 g1 g2,rfl⟩
theorem zNi:Gd L R s .params:=by
 intro hL hT K hp hi hb;unfold zF at hb⊢;dsimp only at hb⊢;have x:=zN (w:=[40]) hL hp.1
 by_cases c:onP L [41] (zM L [40] s)=true
 · simp only[if_pos c]at hb⊢;exact zB2
 · simp only[if_neg c]at hb⊢;exact K.good (.paramL []) (zM L [40] s) ⟨x.adv.hi,trivial⟩ zB2 hb
theorem zNj {acc:List Tr}:Gd L R s (.paramL acc):=by
 intro hL hT K hp hi hb;unfold zF at hb⊢;dsimp only at hb⊢;have x:=zAD hL hp.1
 by_cases c:(zW L s).2.bad≠0
 · simp only[if_pos c]at hb;exact absurd hb c
 simp only[if_neg c]at hb⊢;obtain⟨n1,n2,_⟩:=zLD (yAL.1 c);have g1:GQ 20 (trN 20 (zW L s).1 []):=⟨zE9 (by decide) (by rw[n2];exact(hT _).len) (by rw[n2];exact zAy (by decide) ((hT _).name n1)),rfl⟩
 by_cases c2:onP L [41] (zW L s).2=true
 · simp only[if_pos c2]at hb⊢;exact zAW hi g1
 · simp only[if_neg c2]at hb⊢;have y:=zN (w:=[44]) hL x.adv.hi;exact K.good (.paramL (acc++[trN 20 (zW L s).1 []])) (zM L [44] (zW L s).2) ⟨y.adv.hi,trivial⟩ (zAW hi g1) hb
theorem zNk:Gd L R s .within:=by
 intro hL hT K hp hi hb;unfold zF at hb⊢;dsimp only at hb⊢;have x:=zN (w:=[40]) hL hp.1;have x1:Eat L _ (R .assign (zM L [40] s)).2:=K.post .assign (zM L [40] s) ⟨x.adv.hi,trivial⟩;have g:GE (R .assign (zM L [40] s)).1:=K.good .assign (zM L [40] s) ⟨x.adv.hi,trivial⟩ trivial (zCF (zN (w:=[41]) hL x1.adv.hi).adv hb);exact g
theorem zNl {w:List UInt8}:Gd L R s (.clause w):=by
 intro hL hT K hp hi hb;unfold zF at hb⊢;dsimp only at hb⊢
 by_cases c:onP L w s=true
 · simp only[if_pos c]at hb⊢;exact⟨zDB (by decide),rfl⟩
 · simp only[if_neg c]at hb⊢;have x1:Eat L s (R .assign s).2:=K.post .assign s ⟨hp.1,trivial⟩;have g:GE (R .assign s).1:=K.good .assign s ⟨hp.1,trivial⟩ trivial (zCF (zN (w:=w) hL x1.adv.hi).adv hb);exact g.clause
theorem zNm:Gd L R s .assign:=by
 intro hL hT K hp hi hb;unfold zF at hb⊢;dsimp only at hb⊢
 by_cases c:(zH L s.k).kind=1∧isT (zx L s.k 1) [61,62]=true∧(zx L s.k 1).nl=false
 · simp only[if_pos c]at hb⊢;have hlt:=hL.lt hp.1 (by rw[c.1];decide);exact K.good (.body [trN 20 (zH L s.k).text []]) (zB s) ⟨hlt,trivial⟩ (zEu ⟨zE9 (by decide) (hT _).len (zAy (by decide) ((hT _).name c.1)),rfl⟩) hb
 simp only[if_neg c]at hb⊢
 by_cases c2:zAR L s=true
 · simp only[if_pos c2]at hb⊢;have x1:Eat L s (R .params s).2:=K.post .params s ⟨hp.1,trivial⟩;have b1:=zCF (K.post (.body (R .params s).1.subs) (R .params s).2 ⟨x1.adv.hi,trivial⟩).adv hb;exact K.good (.body (R .params s).1.subs) (R .params s).2 ⟨x1.adv.hi,trivial⟩ (K.good .params s ⟨hp.1,trivial⟩ trivial b1) hb
 simp only[if_neg c2]at hb⊢;have x1:Eat L s (R .cond s).2:=K.post .cond s ⟨hp.1,trivial⟩
 by_cases c3:(zH L (R .cond s).2.k).kind≠5∨¬(zH L (R .cond s).2.k).text∈zIB
 · simp only[if_pos c3]at hb⊢;exact K.good .cond s ⟨hp.1,trivial⟩ trivial hb
 simp only[if_neg c3]at hb⊢
 by_cases c4:zAH (R .cond s).1.nd.kind=false
 · simp only[if_pos c4]at hb;exact absurd hb (zAt (by decide))
 simp only[if_neg c4]at hb⊢;have hl2:(R .cond s).2.k < L.length - 1:=hL.lt x1.adv.hi (fun h0=>c3 (.inl (by rw[h0];decide)));have b1:(R .cond s).2.bad=0:=zCF (x:=zB (R .cond s).2) (K.post .assign (zB (R .cond s).2) ⟨hl2,trivial⟩).adv hb;have g1:GE (R .cond s).1:=K.good .cond s ⟨hp.1,trivial⟩ trivial b1;have g2:GE (R .assign (zB (R .cond s).2)).1:=K.good .assign (zB (R .cond s).2) ⟨hl2,trivial⟩ trivial hb;exact zPI (hT _).len (yAL.1 (fun h=>c3 (.inr h))) g1.1 (by simpa using c4) g2
theorem zTA {l:List Tr}:Gd L R s (.body l):=by
 intro hL hT K hp hi hb;unfold zF at hb⊢;dsimp only at hb⊢;have y:Adv L s (if(zH L s.k).nl=true then zV L s else s):=by
  split
  · exact(zl hp.1).adv
  · exact Adv.refl hp.1
 have x:=zN (w:=[61,62]) hL y.hi;obtain⟨s1,hs1⟩:∃s1,zM L [61,62] (if(zH L s.k).nl=true then zV L s else s)=s1:=⟨_,rfl⟩;rw[hs1]at x hb⊢
 by_cases c:onP L [123] s1=true
 · simp only[if_pos c]at hb⊢;have g:GQ 4 (R .block s1).1:=K.good .block s1 ⟨x.adv.hi,trivial⟩ trivial hb;exact zMN hi g.1 (by rw[g.2];decide)
 · simp only[if_neg c]at hb⊢;have g:GE (R .assign s1).1:=K.good .assign s1 ⟨x.adv.hi,trivial⟩ trivial hb;exact zMN hi g.1 (by unfold zAS;simp[g.2])
theorem zTB:Gd L R s .cond:=by
 intro hL hT K hp hi hb;unfold zF at hb⊢;dsimp only at hb⊢;have x1:Eat L s (R .either s).2:=K.post .either s ⟨hp.1,trivial⟩
 by_cases c:onP L [63] (R .either s).2=true
 · simp only[if_pos c]at hb⊢;have hl:=hL.on x1.adv.hi c;have p2:=(K.post .assign (zB (R .either s).2) ⟨hl,trivial⟩).adv;have y:=zN (w:=[58]) hL p2.hi;have p3:=(K.post .assign (zM L [58] (R .assign (zB (R .either s).2)).2) ⟨y.adv.hi,trivial⟩).adv;have b2:=zCF (y.adv.trans p3) hb;have b1:(R .either s).2.bad=0:=zCF (x:=zB (R .either s).2) p2 b2;exact zTs (K.good .either s ⟨hp.1,trivial⟩ trivial b1) (K.good .assign (zB (R .either s).2) ⟨hl,trivial⟩ trivial b2) (K.good .assign (zM L [58] (R .assign (zB (R .either s).2)).2) ⟨y.adv.hi,trivial⟩ trivial hb)
 · simp only[if_neg c]at hb⊢;exact K.good .either s ⟨hp.1,trivial⟩ trivial hb
theorem zNn:Gd L R s .either:=by
 intro hL hT K hp hi hb;unfold zF at hb⊢;dsimp only at hb⊢;have x1:Eat L s (R (.level 0) s).2:=K.post (.level 0) s ⟨hp.1,yAF _⟩
 by_cases c:onP L [63,63] (R (.level 0) s).2=true
 · simp only[if_pos c]at hb⊢;have p:=(K.post (.nullL (R (.level 0) s).1) (R (.level 0) s).2 ⟨x1.adv.hi,trivial⟩).adv
   by_cases c2:(onP L [124,124] (R (.nullL (R (.level 0) s).1) (R (.level 0) s).2).2 || onP L [38,38] (R (.nullL (R (.level 0) s).1) (R (.level 0) s).2).2)=true
   · simp only[if_pos c2]at hb;exact absurd hb ze
   simp only[if_neg c2]at hb⊢;exact K.good (.nullL (R (.level 0) s).1) (R (.level 0) s).2 ⟨x1.adv.hi,trivial⟩ (K.good (.level 0) s ⟨hp.1,yAF _⟩ trivial (zCF p hb)) hb
 · simp only[if_neg c]at hb⊢;have p:=(K.post (.both (R (.level 0) s).1) (R (.level 0) s).2 ⟨x1.adv.hi,trivial⟩).adv;have q:=(K.post (.orL (R (.both (R (.level 0) s).1) (R (.level 0) s).2).1) (R (.both (R (.level 0) s).1) (R (.level 0) s).2).2 ⟨p.hi,trivial⟩).adv
   by_cases c2:onP L [63,63] (R (.orL (R (.both (R (.level 0) s).1) (R (.level 0) s).2).1) (R (.both (R (.level 0) s).1) (R (.level 0) s).2).2).2=true
   · simp only[if_pos c2]at hb;exact absurd hb ze
   simp only[if_neg c2]at hb⊢;have b2:=zCF q hb;exact K.good (.orL (R (.both (R (.level 0) s).1) (R (.level 0) s).2).1) (R (.both (R (.level 0) s).1) (R (.level 0) s).2).2 ⟨p.hi,trivial⟩ (K.good (.both (R (.level 0) s).1) (R (.level 0) s).2 ⟨x1.adv.hi,trivial⟩ (K.good (.level 0) s ⟨hp.1,yAF _⟩ trivial (zCF p b2)) b2) hb
theorem zQf {x:Tr}:Gd L R s (.nullL x):=by
 intro hL hT K hp hi hb;unfold zF at hb⊢;dsimp only at hb⊢
 by_cases c:onP L [63,63] s=true
 · simp only[if_pos c]at hb⊢;have hl:=hL.on hp.1 c;have p1:=(K.post (.level 0) (zB s) ⟨hl,yAF _⟩).adv;have b1:=zCF (K.post (.nullL (trN 47 [63,63] [x,(R (.level 0) (zB s)).1])) (R (.level 0) (zB s)).2 ⟨p1.hi,trivial⟩).adv hb;exact K.good (.nullL (trN 47 [63,63] [x,(R (.level 0) (zB s)).1])) (R (.level 0) (zB s)).2 ⟨p1.hi,trivial⟩ (zPH (.inr rfl) (by decide) (by decide) hi (K.good (.level 0) (zB s) ⟨hl,yAF _⟩ trivial b1)) hb
 · simp only[if_neg c]at hb⊢;exact hi
theorem zTC {x:Tr}:Gd L R s (.both x):=by
 intro hL hT K hp hi hb;unfold zF at hb⊢;dsimp only at hb⊢
 by_cases c:onP L [38,38] s=true
 · simp only[if_pos c]at hb⊢;have hl:=hL.on hp.1 c;have p1:=(K.post (.level 0) (zB s) ⟨hl,yAF _⟩).adv;have b1:=zCF (K.post (.both (trN 47 [38,38] [x,(R (.level 0) (zB s)).1])) (R (.level 0) (zB s)).2 ⟨p1.hi,trivial⟩).adv hb;exact K.good (.both (trN 47 [38,38] [x,(R (.level 0) (zB s)).1])) (R (.level 0) (zB s)).2 ⟨p1.hi,trivial⟩ (zPH (.inr rfl) (by decide) (by decide) hi (K.good (.level 0) (zB s) ⟨hl,yAF _⟩ trivial b1)) hb
 · simp only[if_neg c]at hb⊢;exact hi
theorem zT5 {x:Tr}:Gd L R s (.orL x):=by
 intro hL hT K hp hi hb;unfold zF at hb⊢;dsimp only at hb⊢
 by_cases c:onP L [124,124] s=true
 · simp only[if_pos c]at hb⊢;have hl:=hL.on hp.1 c;have p1:=(K.post (.level 0) (zB s) ⟨hl,yAF _⟩).adv;have p2:=(K.post (.both (R (.level 0) (zB s)).1) (R (.level 0) (zB s)).2 ⟨p1.hi,trivial⟩).adv;have b2:=zCF (K.post (.orL (trN 47 [124,124] [x,(R (.both (R (.level 0) (zB s)).1) (R (.level 0) (zB s)).2).1])) (R (.both (R (.level 0) (zB s)).1) (R (.level 0) (zB s)).2).2 ⟨p2.hi,trivial⟩).adv hb;have g2:GE (R (.both (R (.level 0) (zB s)).1) (R (.level 0) (zB s)).2).1:=K.good (.both (R (.level 0) (zB s)).1) (R (.level 0) (zB s)).2 ⟨p1.hi,trivial⟩ (K.good (.level 0) (zB s) ⟨hl,yAF _⟩ trivial (zCF p2 b2)) b2;exact K.good (.orL (trN 47 [124,124] [x,(R (.both (R (.level 0) (zB s)).1) (R (.level 0) (zB s)).2).1])) (R (.both (R (.level 0) (zB s)).1) (R (.level 0) (zB s)).2).2 ⟨p2.hi,trivial⟩ (zPH (.inr rfl) (by decide) (by decide) hi g2) hb
 · simp only[if_neg c]at hb⊢;exact hi
theorem zQg {n:Nat}:Gd L R s (.level n):=by
 intro hL hT K hp hi hb;unfold zF at hb⊢;dsimp only at hb⊢;have hn:n≤8:=hp.2
 by_cases c:n=8
 · simp only[if_pos c]at hb⊢;exact K.good .unary s ⟨hp.1,trivial⟩ trivial hb
 · simp only[if_neg c]at hb⊢;have x1:Eat L s (R (.level (n+1)) s).2:=K.post (.level (n+1)) s ⟨hp.1,(by show n+1≤8;omega)⟩;have hp2:Pre L (.levelL n (R (.level (n+1)) s).1) (R (.level (n+1)) s).2:=⟨x1.adv.hi,(by show n < 8;omega)⟩;exact K.good _ _ hp2 (K.good (.level (n+1)) s ⟨hp.1,(by show n+1≤8;omega)⟩ trivial (zCF (K.post _ _ hp2).adv hb)) hb
theorem zNo {n:Nat} {x:Tr}:Gd L R s (.levelL n x):=by
 intro hL hT K hp hi hb;unfold zF at hb⊢;dsimp only at hb⊢;have hn:n < 8:=hp.2
 by_cases c:zA9 (zH L s.k)=n
 · simp only[if_pos c]at hb⊢;have hl:=hL.lt hp.1 (zCZ (by omega));have p1:=(K.post (.level (n+1)) (zB s) ⟨hl,(by show n+1≤8;omega)⟩).adv;have hp2:Pre L (.levelL n (trN 46 (zH L s.k).text [x,(R (.level (n+1)) (zB s)).1])) (R (.level (n+1)) (zB s)).2:=⟨p1.hi,hn⟩;have b1:=zCF (K.post _ _ hp2).adv hb;have ho:=zNg (t:=zH L s.k) (by omega);have hnm:zAf 46 (zH L s.k).text=true:=by unfold zAf zIC;simp[zUU]at ho⊢;exact ho
   exact K.good _ _ hp2 (zPH (.inl rfl) (hT _).len hnm hi (K.good (.level (n+1)) (zB s) ⟨hl,(by show n+1≤8;omega)⟩ trivial b1)) hb
 · simp only[if_neg c]at hb⊢;exact hi
theorem zQh:Gd L R s .unary:=by
 intro hL hT K hp hi hb;unfold zF at hb⊢;dsimp only at hb⊢
 by_cases c:((zH L s.k).kind=5∨(zH L s.k).kind=6)∧(zH L s.k).text∈zH7
 · simp only[if_pos c]at hb⊢;have hl:=hL.lt hp.1 (by omega);have hnm:zAf 43 (zH L s.k).text=true:=by have ho:=c.2;unfold zAf zIC;simp[zH7]at ho⊢;exact ho
   exact⟨zJG (by decide) (hT _).len hnm (K.good .unary (zB s) ⟨hl,trivial⟩ trivial hb),rfl⟩
 simp only[if_neg c]at hb⊢
 by_cases c2:((zH L s.k).kind=5∨(zH L s.k).kind=6)∧(zH L s.k).text∈zDv
 · simp only[if_pos c2]at hb⊢;have hl:=hL.lt hp.1 (by omega)
   by_cases c3:(R .unary (zB s)).2.bad=0∧zAH (R .unary (zB s)).1.nd.kind=false
   · simp only[if_pos c3]at hb;exact absurd hb ze
   simp only[if_neg c3]at hb⊢;have hnm:zAf 44 (zH L s.k).text=true:=by have ho:=c2.2;unfold zAf zIC;simp[zDv]at ho⊢;exact ho
   have g:GE (R .unary (zB s)).1:=K.good .unary (zB s) ⟨hl,trivial⟩ trivial hb;have ht:zAH (R .unary (zB s)).1.nd.kind=true:=by
    cases h:zAH (R .unary (zB s)).1.nd.kind with
    | true=>rfl
    | false=>exact absurd ⟨hb,h⟩ c3
   exact zRp (.inl rfl) (hT _).len hnm g.1 ht
 simp only[if_neg c2]at hb⊢
 by_cases c3:(zH L (R .calls s).2.k).kind=5∧(zH L (R .calls s).2.k).text∈zDv∧(zH L (R .calls s).2.k).nl=false
 · simp only[if_pos c3]at hb⊢
   by_cases c4:zAH (R .calls s).1.nd.kind=false
   · simp only[if_pos c4]at hb;exact absurd hb ze
   simp only[if_neg c4]at hb⊢;have hnm:zAf 45 (zH L (R .calls s).2.k).text=true:=by have ho:=c3.2.1;unfold zAf zIC;simp[zDv]at ho⊢;exact ho
   have g:GE (R .calls s).1:=K.good .calls s ⟨hp.1,trivial⟩ trivial hb;exact zRp (.inr rfl) (hT _).len hnm g.1 (by simpa using c4)
 · simp only[if_neg c3]at hb⊢;exact K.good .calls s ⟨hp.1,trivial⟩ trivial hb
theorem zQi:Gd L R s .calls:=by
 intro hL hT K hp hi hb;unfold zF at hb⊢;dsimp only at hb⊢;have x1:Eat L s (R .head s).2:=K.post .head s ⟨hp.1,trivial⟩;have b1:=zCF (K.post (.callsL (R .head s).1) (R .head s).2 ⟨x1.adv.hi,trivial⟩).adv hb;exact K.good (.callsL (R .head s).1) (R .head s).2 ⟨x1.adv.hi,trivial⟩ (K.good .head s ⟨hp.1,trivial⟩ trivial b1) hb
theorem zNp {x:Tr}:Gd L R s (.callsL x):=by
 intro hL hT K hp hi hb;unfold zF at hb⊢;dsimp only at hb⊢
 by_cases c:onP L [40] s=true
 · simp only[if_pos c]at hb⊢;have hlt:=hL.on hp.1 c;have x1:Eat L s (R .args s).2:=K.post .args s ⟨hp.1,hlt⟩;have b1:=zCF (K.post (.callsL (trK 50 (x::(R .args s).1.subs))) (R .args s).2 ⟨x1.adv.hi,trivial⟩).adv hb;exact K.good (.callsL (trK 50 (x::(R .args s).1.subs))) (R .args s).2 ⟨x1.adv.hi,trivial⟩ (zML (.inl rfl) hi (K.good .args s ⟨hp.1,hlt⟩ trivial b1)) hb
 simp only[if_neg c]at hb⊢
 by_cases c2:onP L [46] s=true
 · simp only[if_pos c2]at hb⊢;have hlt:=hL.on hp.1 c2
   by_cases c3:(zH L (zB s).k).kind≠1∧(zH L (zB s).k).kind≠6
   · simp only[if_pos c3]at hb;exact absurd hb ze
   simp only[if_neg c3]at hb⊢;have hl2:(zB s).k < L.length - 1:=hL.lt hlt (by omega);have hr:zGt (zH L (zB s).k).text=true:=by
    by_cases h1:(zH L (zB s).k).kind=1
    · exact zHp ((hT _).name h1)
    · exact(hT _).word (by omega)
   exact K.good (.callsL (trN 52 (zH L (zB s).k).text [x])) (zB (zB s)) ⟨hl2,trivial⟩ ⟨zJG (by decide) (hT _).len (by unfold zAf;simp[hr]) hi,rfl⟩ hb
 simp only[if_neg c2]at hb⊢
 by_cases c4:onP L [91] s=true
 · simp only[if_pos c4]at hb⊢;have hlt:=hL.on hp.1 c4;have p1:=(K.post .assign (zB s) ⟨hlt,trivial⟩).adv;have y:=zN (w:=[93]) hL p1.hi;have p2:=(K.post (.callsL (trK 53 [x,(R .assign (zB s)).1])) (zM L [93] (R .assign (zB s)).2) ⟨y.adv.hi,trivial⟩).adv;have b1:=zCF (y.adv.trans p2) hb;exact K.good (.callsL (trK 53 [x,(R .assign (zB s)).1])) (zM L [93] (R .assign (zB s)).2) ⟨y.adv.hi,trivial⟩ (zMM hi (K.good .assign (zB s) ⟨hlt,trivial⟩ trivial b1)) hb
 · simp only[if_neg c4]at hb⊢;exact hi
theorem zQj {x:Tr}:Gd L R s (.headL x):=by
 intro hL hT K hp hi hb;unfold zF at hb⊢;dsimp only at hb⊢
 by_cases c2:onP L [46] s=true
 · simp only[if_pos c2]at hb⊢;have hlt:=hL.on hp.1 c2
   by_cases c3:(zH L (zB s).k).kind≠1∧(zH L (zB s).k).kind≠6
   · simp only[if_pos c3]at hb;exact absurd hb ze
   simp only[if_neg c3]at hb⊢;have hl2:(zB s).k < L.length - 1:=hL.lt hlt (by omega);have hr:zGt (zH L (zB s).k).text=true:=by
    by_cases h1:(zH L (zB s).k).kind=1
    · exact zHp ((hT _).name h1)
    · exact(hT _).word (by omega)
   exact K.good (.headL (trN 52 (zH L (zB s).k).text [x])) (zB (zB s)) ⟨hl2,trivial⟩ ⟨zJG (by decide) (hT _).len (by unfold zAf;simp[hr]) hi,rfl⟩ hb
 simp only[if_neg c2]at hb⊢
 by_cases c4:onP L [91] s=true
 · simp only[if_pos c4]at hb⊢;have hlt:=hL.on hp.1 c4;have p1:=(K.post .assign (zB s) ⟨hlt,trivial⟩).adv;have y:=zN (w:=[93]) hL p1.hi;have p2:=(K.post (.headL (trK 53 [x,(R .assign (zB s)).1])) (zM L [93] (R .assign (zB s)).2) ⟨y.adv.hi,trivial⟩).adv;have b1:=zCF (y.adv.trans p2) hb;exact K.good (.headL (trK 53 [x,(R .assign (zB s)).1])) (zM L [93] (R .assign (zB s)).2) ⟨y.adv.hi,trivial⟩ (zMM hi (K.good .assign (zB s) ⟨hlt,trivial⟩ trivial b1)) hb
 · simp only[if_neg c4]at hb⊢;exact hi
theorem zTD:Gd L R s .head:=by
 intro hL hT K hp hi hb;unfold zF at hb⊢;dsimp only at hb⊢
 by_cases c:onP L [110,101,119] s=true
 · simp only[if_pos c]at hb⊢;have hlt:=hL.on hp.1 c;have p1:=(K.post .head (zB s) ⟨hlt,trivial⟩).adv;have p2:=(K.post (.headL (R .head (zB s)).1) (R .head (zB s)).2 ⟨p1.hi,trivial⟩).adv;have g0:(R (.headL (R .head (zB s)).1) (R .head (zB s)).2).2.bad=0→GE (R (.headL (R .head (zB s)).1) (R .head (zB s)).2).1:=fun h=>K.good (.headL (R .head (zB s)).1) (R .head (zB s)).2 ⟨p1.hi,trivial⟩ (K.good .head (zB s) ⟨hlt,trivial⟩ trivial (zCF p2 h)) h
   by_cases c2:onP L [40] (R (.headL (R .head (zB s)).1) (R .head (zB s)).2).2=true
   · simp only[if_pos c2]at hb⊢;have hl2:=hL.on p2.hi c2;have b2:=zCF (K.post .args _ ⟨p2.hi,hl2⟩).adv hb;exact zML (.inr rfl) (g0 b2) (K.good .args _ ⟨p2.hi,hl2⟩ trivial hb)
   · simp only[if_neg c2]at hb⊢;exact zML (.inr rfl) (g0 hb) zB2
 · simp only[if_neg c]at hb⊢;exact K.good .primary s ⟨hp.1,trivial⟩ trivial hb
theorem zTE:Gd L R s .args:=by
 intro hL hT K hp hi hb;unfold zF at hb⊢;dsimp only at hb⊢;have x:=zN (w:=[40]) hL hp.1;exact K.good (.list [41]) (zM L [40] s) ⟨x.adv.hi,trivial⟩ trivial hb
theorem zTF {w:List UInt8}:Gd L R s (.list w):=by
 intro hL hT K hp hi hb;unfold zF at hb⊢;dsimp only at hb⊢
 by_cases c:onP L w s=true
 · simp only[if_pos c]at hb⊢;exact zB2
 · simp only[if_neg c]at hb⊢;exact K.good (.listL w []) s ⟨hp.1,trivial⟩ zB2 hb
theorem zQk {w:List UInt8} {acc:List Tr}:Gd L R s (.listL w acc):=by
 intro hL hT K hp hi hb;unfold zF at hb⊢;dsimp only at hb⊢;have x1:Eat L s (R .assign s).2:=K.post .assign s ⟨hp.1,trivial⟩
 by_cases c:(R .assign s).2.bad≠0
 · simp only[if_pos c]at hb;exact absurd hb c
 simp only[if_neg c]at hb⊢;have g1:=K.good .assign s ⟨hp.1,trivial⟩ trivial (yAL.1 c)
 by_cases c2:onP L w (R .assign s).2=true
 · simp only[if_pos c2]at hb⊢;exact zAW hi g1
 · simp only[if_neg c2]at hb⊢;have y:=zN (w:=[44]) hL x1.adv.hi;exact K.good (.listL w (acc++[(R .assign s).1])) (zM L [44] (R .assign s).2) ⟨y.adv.hi,trivial⟩ (zAW hi g1) hb
theorem zTG {acc:List Tr}:Gd L R s (.objL acc):=by
 intro hL hT K hp hi hb;unfold zF at hb⊢;dsimp only at hb⊢;have x1:Eat L s (R .prop s).2:=K.post .prop s ⟨hp.1,trivial⟩
 by_cases c:(R .prop s).2.bad≠0
 · simp only[if_pos c]at hb;exact absurd hb c
 simp only[if_neg c]at hb⊢;have g1:=K.good .prop s ⟨hp.1,trivial⟩ trivial (yAL.1 c)
 by_cases c2:onP L [125] (R .prop s).2=true
 · simp only[if_pos c2]at hb⊢;exact zJF (zAW hi g1)
 · simp only[if_neg c2]at hb⊢;have y:=zN (w:=[44]) hL x1.adv.hi;exact K.good (.objL (acc++[(R .prop s).1])) (zM L [44] (R .prop s).2) ⟨y.adv.hi,trivial⟩ (zAW hi g1) hb
theorem zNq:Gd L R s .object:=by
 intro hL hT K hp hi hb;unfold zF at hb⊢;dsimp only at hb⊢
 by_cases c:onP L [125] s=true
 · simp only[if_pos c]at hb⊢;exact zJF zB2
 · simp only[if_neg c]at hb⊢;exact K.good (.objL []) s ⟨hp.1,trivial⟩ zB2 hb
theorem zLF:∀(m n:Nat),n < 10^(m+1)→(zH8 n).length≤m+1:=by
 intro m
 induction m with
 | zero=>intro n h;rw[zE4 (by omega)];simp
 | succ m ih=>
  intro n h
  by_cases c:n < 10
  · rw[zE4 c];simp
  · rw[zID c,List.length_append];have h2:=ih (n / 10) (by rw[Nat.div_lt_iff_lt_mul (by decide)];rw[Nat.pow_succ]at h;exact h);simp only[List.length_singleton];omega
theorem zQl {t:Tok} (h:TG t) {u:List UInt16} (hu:zAb t=some u):u.length≤4096:=by
 have hl:∀a:List UInt8,(zAo a).length=a.length:=fun a=>by simp[zAo]
 unfold zAb at hu;split at hu
 · rename_i c;cases hu;exact h.str c
 split at hu
 · rename_i c;cases hu
   rw[hl];have:=zLF 15 t.nn.toNat (by have:=h.num c;omega);omega
 split at hu
 · cases hu;rw[hl];exact h.len
 · cases hu
theorem zLG:Gd L R s .primary:=by
 intro hL hT K hp hi hb;unfold zF at hb⊢;dsimp only at hb⊢
 by_cases c0:(zH L s.k).kind=0
 · simp only[if_pos c0]at hb;exact absurd hb ze
 simp only[if_neg c0]at hb⊢;have hlt:=hL.lt hp.1 c0
 by_cases c1:(zH L s.k).kind=2
 · simp only[if_pos c1]at hb⊢;obtain⟨h1,h2,h3⟩:=(hT s.k).num c1;show GE (.mk {zBS with kind:=30,nk:=(zH L s.k).nk,nn:=(zH L s.k).nn} []);rw[h1];exact zUj h2 h3
 simp only[if_neg c1]at hb⊢
 by_cases c2:(zH L s.k).kind=3
 · simp only[if_pos c2]at hb⊢;exact zUk ((hT _).big c2)
 simp only[if_neg c2]at hb⊢
 by_cases c3:(zH L s.k).kind=4
 · simp only[if_pos c3]at hb⊢;exact zUl ((hT _).str c3)
 simp only[if_neg c3]at hb⊢
 by_cases c4:(zH L s.k).kind=1
 · simp only[if_pos c4]at hb⊢;exact⟨zE9 (by decide) (hT _).len (zAy (by decide) ((hT _).name c4)),rfl⟩
 simp only[if_neg c4]at hb⊢
 by_cases d0:(zH L s.k).text=[116,114,117,101]
 · simp only[if_pos d0]at hb⊢;exact⟨zDB (by decide),rfl⟩
 simp only[if_neg d0]at hb⊢
 by_cases d1:(zH L s.k).text=[102,97,108,115,101]
 · simp only[if_pos d1]at hb⊢;exact⟨zDB (by decide),rfl⟩
 simp only[if_neg d1]at hb⊢
 by_cases d2:(zH L s.k).text=[110,117,108,108]
 · simp only[if_pos d2]at hb⊢;exact⟨zDB (by decide),rfl⟩
 simp only[if_neg d2]at hb⊢
 by_cases d3:(zH L s.k).text=[116,104,105,115]
 · simp only[if_pos d3]at hb⊢;exact⟨zDB (by decide),rfl⟩
 simp only[if_neg d3]at hb⊢
 by_cases e1:(zH L s.k).text=[91]
 · simp only[if_pos e1]at hb⊢;have g:∀t∈(R (.list [93]) (zB s)).1.subs,GE t:=K.good (.list [93]) (zB s) ⟨hlt,trivial⟩ trivial hb;exact zSP g
 simp only[if_neg e1]at hb⊢
 by_cases e2:(zH L s.k).text=[123]
 · simp only[if_pos e2]at hb⊢;exact K.good .object (zB s) ⟨hlt,trivial⟩ trivial hb
 simp only[if_neg e2]at hb⊢
 by_cases e3:(zH L s.k).text=[102,117,110,99,116,105,111,110]
 · simp only[if_pos e3]at hb⊢
   by_cases e4:(zH L (zB s).k).kind=1
   · simp only[if_pos e4]at hb⊢;have y:=zAD (s:=zB s) hL hlt;have b1:=zCF (K.post (.func 41 (zW L (zB s)).1) (zW L (zB s)).2 ⟨y.adv.hi,trivial⟩).adv hb;obtain⟨n1,n2,n3⟩:=zLD b1;have hg:GI (.func 41 (zW L (zB s)).1):=⟨.inr rfl,by rw[n2];exact(hT _).len,by rw[n2];exact zAy (by decide) ((hT _).name n1)⟩;obtain⟨g1,g2⟩:=K.good (.func 41 (zW L (zB s)).1) (zW L (zB s)).2 ⟨y.adv.hi,trivial⟩ hg hb;exact⟨g1,by rw[g2];decide⟩
   · simp only[if_neg e4]at hb⊢;obtain⟨g1,g2⟩:=K.good (.func 41 []) (zB s) ⟨hlt,trivial⟩ ⟨.inr rfl,by simp,by decide⟩ hb;exact⟨g1,by rw[g2];decide⟩
 simp only[if_neg e3]at hb⊢
 by_cases e5:(zH L s.k).text=[40]
 · simp only[if_pos e5]at hb⊢;have x1:Eat L _ (R .assign (zB s)).2:=K.post .assign (zB s) ⟨hlt,trivial⟩;have g:GE (R .assign (zB s)).1:=K.good .assign (zB s) ⟨hlt,trivial⟩ trivial (zCF (zN (w:=[41]) hL x1.adv.hi).adv hb);exact g
 simp only[if_neg e5]at hb⊢;exfalso;revert hb;show(if(onP L [47] s || onP L [47,61] s)=true then zCV L 6 s else zV L s).bad=0→False;split
 · exact zAt (by decide)
 · exact ze
theorem zTH:Gd L R s .prop:=by
 intro hL hT K hp hi hb;unfold zF at hb⊢;dsimp only at hb⊢;rcases ht:zAb (zH L s.k)with _ | u
 · simp only[ht]at hb;exact absurd hb ze
 simp only[ht]at hb⊢;have hu:=zQl (hT _) ht;have hlt:=hL.lt hp.1 (zCM ht)
 by_cases c:(zH L s.k).kind=1∧onP L [58] (zB s)=false
 · simp only[if_pos c]at hb⊢;exact zRq hu ⟨zE9 (by decide) (hT _).len (zAy (by decide) ((hT _).name c.1)),rfl⟩
 · simp only[if_neg c]at hb⊢;have y:=zN (s:=zB s) (w:=[58]) hL hlt;have g:GE (R .assign (zM L [58] (zB s))).1:=K.good .assign (zM L [58] (zB s)) ⟨y.adv.hi,trivial⟩ trivial hb;exact zRq hu g
theorem zHq:Gd L R s .statement:=by
 intro hL hT K hp hi hb;unfold zF at hb⊢;dsimp only at hb⊢
 by_cases c:(zH L s.k).kind=1∧isT (zx L s.k 1) [58]=true
 · simp only[if_pos c]at hb⊢;have hlt:=hL.lt hp.1 (by rw[c.1];decide);have h2:=zEs hL hlt c.2;have y:(zB (zB s)).k≤L.length - 1:=h2;have g:GD L (R .statement (zB (zB s))):=K.good .statement (zB (zB s)) ⟨y,trivial⟩ trivial hb;exact⟨⟨zSU (hT _).len (zAy (by decide) ((hT _).name c.1)) g.1,rfl⟩,fun h=>g.2 (by
    have h3:dangT (.mk {zBS with kind:=18,name:=(zH L s.k).text} [(R .statement (zB (zB s))).1])=true:=h;rw[zDR,if_neg (by simp),if_pos (.inr (.inr (.inr rfl))),zC9]at h3;exact h3)⟩
 simp only[if_neg c]at hb⊢
 by_cases c2:(zH L s.k).kind=6
 · simp only[if_pos c2]at hb⊢;exact K.good (.word (zH L s.k).text) s ⟨hp.1,hL.lt hp.1 (by rw[c2];decide)⟩ trivial hb
 simp only[if_neg c2]at hb⊢
 by_cases c3:onP L [59] s=true
 · simp only[if_pos c3]at hb⊢;exact GD.plain ⟨zDB (by decide),rfl⟩ (zCW (by decide))
 simp only[if_neg c3]at hb⊢
 by_cases c4:onP L [123] s=true
 · simp only[if_pos c4]at hb⊢;have g:GQ 4 (R .block s).1:=K.good .block s ⟨hp.1,trivial⟩ trivial hb;refine GD.plain ⟨g.1,by rw[g.2];decide⟩ ?_;have:=g.2;rcases hr:(R .block s).1 with⟨x,l⟩;rw[hr]at this;exact zCW (by rw[show x.kind=4 from this];decide)
 simp only[if_neg c4]at hb⊢;exact K.good .simple s ⟨hp.1,trivial⟩ trivial hb
theorem zNr:Gd L R s .simple:=by
 intro hL hT K hp hi hb;unfold zF at hb⊢;dsimp only at hb⊢;have x1:Eat L s (R .assign s).2:=K.post .assign s ⟨hp.1,trivial⟩;have g:GE (R .assign s).1:=K.good .assign s ⟨hp.1,trivial⟩ trivial (zCF (zAV hL x1.adv.hi) hb);exact GD.plain ⟨zSR (by decide) g,rfl⟩ (zCW (by decide))
theorem zTI {w:List UInt8}:Gd L R s (.word w):=by
 intro hL hT K hp hi hb;unfold zF at hb⊢;dsimp only at hb⊢;have hlt:s.k < L.length - 1:=hp.2
 by_cases c1:w=[105,102]
 · simp only[if_pos c1]at hb⊢;have p1:=(K.post .within (zB s) ⟨hlt,trivial⟩).adv;have p2:=(K.post .statement (R .within (zB s)).2 ⟨p1.hi,trivial⟩).adv;have gg:(R .statement (R .within (zB s)).2).2.bad=0→GE (R .within (zB s)).1∧GD L (R .statement (R .within (zB s)).2):=fun h=>
    ⟨K.good .within (zB s) ⟨hlt,trivial⟩ trivial (zCF p2 h),K.good .statement (R .within (zB s)).2 ⟨p1.hi,trivial⟩ trivial h⟩
   by_cases c:onP L [101,108,115,101] (R .statement (R .within (zB s)).2).2=true
   · simp only[if_pos c]at hb⊢;have hl2:=hL.on p2.hi c;have p3:=(K.post .statement (zB (R .statement (R .within (zB s)).2).2) ⟨hl2,trivial⟩).adv;obtain⟨g1,g2⟩:=gg (zCF (x:=zB (R .statement (R .within (zB s)).2).2) p3 hb);have g3:GD L (R .statement (zB (R .statement (R .within (zB s)).2).2)):=K.good .statement (zB (R .statement (R .within (zB s)).2).2) ⟨hl2,trivial⟩ trivial hb;have hd:dangT (R .statement (R .within (zB s)).2).1=false:=by
      cases h:dangT (R .statement (R .within (zB s)).2).1 with
      | false=>rfl
      | true=>exact absurd c (g2.2 h)
     exact⟨⟨zUh g1 g2.1 hd g3.1,by show zDt 8=true;decide⟩,fun h=>g3.2 (by
      have h3:dangT (.mk {zBS with kind:=8} [(R .within (zB s)).1,(R .statement (R .within (zB s)).2).1,(R .statement (zB (R .statement (R .within (zB s)).2).2)).1])=true:=h;rw[zDR,if_neg (by simp),if_pos (by decide),zCC,zCC,zC9]at h3;exact h3)⟩
   · simp only[if_neg c]at hb⊢;obtain⟨g1,g2⟩:=gg hb;exact⟨⟨zUg g1 g2.1,by show zDt 8=true;decide⟩,fun _=>c⟩
 simp only[if_neg c1]at hb⊢
 by_cases c2:w=[119,104,105,108,101]
 · simp only[if_pos c2]at hb⊢;have p1:=(K.post .within (zB s) ⟨hlt,trivial⟩).adv;have p2:=(K.post .statement (R .within (zB s)).2 ⟨p1.hi,trivial⟩).adv;have g1:GE (R .within (zB s)).1:=K.good .within (zB s) ⟨hlt,trivial⟩ trivial (zCF p2 hb);have g2:GD L (R .statement (R .within (zB s)).2):=K.good .statement (R .within (zB s)).2 ⟨p1.hi,trivial⟩ trivial hb;exact⟨⟨zSS g1 g2.1,by show zDt 9=true;decide⟩,fun h=>g2.2 (by
    have h3:dangT (.mk {zBS with kind:=9} [(R .within (zB s)).1,(R .statement (R .within (zB s)).2).1])=true:=h;rw[zDR,if_neg (by simp),if_pos (by decide),zCC,zC9]at h3;exact h3)⟩
 simp only[if_neg c2]at hb⊢
 by_cases c3:w=[102,111,114]
 · simp only[if_pos c3]at hb⊢;exact K.good .loop s ⟨hp.1,hlt⟩ trivial hb
 simp only[if_neg c3]at hb⊢
 by_cases c4:w=[98,114,101,97,107]
 · simp only[if_pos c4]at hb⊢;exact K.good (.jump 12) s ⟨hp.1,hlt⟩ (.inl rfl) hb
 simp only[if_neg c4]at hb⊢
 by_cases c5:w=[99,111,110,116,105,110,117,101]
 · simp only[if_pos c5]at hb⊢;exact K.good (.jump 13) s ⟨hp.1,hlt⟩ (.inr rfl) hb
 simp only[if_neg c5]at hb⊢
 by_cases c6:w=[114,101,116,117,114,110]
 · simp only[if_pos c6]at hb⊢
   by_cases c:zB1 L (zB s)=true
   · simp only[if_pos c]at hb⊢;exact GD.plain ⟨zDB (by decide),rfl⟩ (zCW (by decide))
   · simp only[if_neg c]at hb⊢;have x1:Eat L _ (R .assign (zB s)).2:=K.post .assign (zB s) ⟨hlt,trivial⟩;have g:GE (R .assign (zB s)).1:=K.good .assign (zB s) ⟨hlt,trivial⟩ trivial (zCF (zAV hL x1.adv.hi) hb);exact GD.plain ⟨zSR (by decide) g,rfl⟩ (zCW (by decide))
 simp only[if_neg c6]at hb⊢
 by_cases c7:w=[116,104,114,111,119]
 · simp only[if_pos c7]at hb⊢;have y:Adv L (zB s) (if(zH L (zB s).k).nl=true then zV L (zB s)else zB s):=by
    split
    · exact(zl (s:=zB s) hlt).adv
    · exact Adv.refl (s:=zB s) hlt
   obtain⟨s1,hs1⟩:∃s1,(if(zH L (zB s).k).nl=true then zV L (zB s)else zB s)=s1:=⟨_,rfl⟩;rw[hs1]at y hb⊢;have x1:Eat L _ (R .assign s1).2:=K.post .assign s1 ⟨y.hi,trivial⟩;have g:GE (R .assign s1).1:=K.good .assign s1 ⟨y.hi,trivial⟩ trivial (zCF (zAV hL x1.adv.hi) hb);exact GD.plain ⟨zSR (by decide) g,rfl⟩ (zCW (by decide))
 simp only[if_neg c7]at hb⊢
 by_cases c8:w=[116,114,121]
 · simp only[if_pos c8]at hb⊢;exact K.good .tries s ⟨hp.1,hlt⟩ trivial hb
 simp only[if_neg c8]at hb⊢
 by_cases c9:w=[102,117,110,99,116,105,111,110]∨w=[108,101,116]∨w=[99,111,110,115,116]
 · simp only[if_pos c9]at hb;exact absurd hb ze
 simp only[if_neg c9]at hb⊢;exact K.good .simple s ⟨hp.1,trivial⟩ trivial hb
theorem zEh (K:Kg L R) {a:Tr×Ps} (ha:a.2.k≤L.length - 1) (hg:a.2.bad=0→GB a.1)
 (hb:(R .statement (R (.clause [41]) (R (.clause [59]) a.2).2).2).2.bad=0):
 GD L (trK 10 [a.1,(R (.clause [59]) a.2).1,(R (.clause [41]) (R (.clause [59]) a.2).2).1,(R .statement (R (.clause [41]) (R (.clause [59]) a.2).2).2).1],(R .statement (R (.clause [41]) (R (.clause [59]) a.2).2).2).2):=by
 have p1:=(K.post (.clause [59]) a.2 ⟨ha,trivial⟩).adv;have p2:=(K.post (.clause [41]) (R (.clause [59]) a.2).2 ⟨p1.hi,trivial⟩).adv;have p3:=(K.post .statement (R (.clause [41]) (R (.clause [59]) a.2).2).2 ⟨p2.hi,trivial⟩).adv;have b2:=zCF p3 hb;have b1:=zCF p2 b2;have g1:GC (R (.clause [59]) a.2).1:=K.good (.clause [59]) a.2 ⟨ha,trivial⟩ trivial b1;have g2:GC (R (.clause [41]) (R (.clause [59]) a.2).2).1:=K.good (.clause [41]) (R (.clause [59]) a.2).2 ⟨p1.hi,trivial⟩ trivial b2;have g3:GD L (R .statement (R (.clause [41]) (R (.clause [59]) a.2).2).2):=K.good .statement _ ⟨p2.hi,trivial⟩ trivial hb;exact⟨⟨zUi (hg (zCF p1 b1)) g1 g2 g3.1,by show zDt 10=true;decide⟩,fun h=>g3.2 (by
  have h3:dangT (.mk {zBS with kind:=10} [a.1,(R (.clause [59]) a.2).1,(R (.clause [41]) (R (.clause [59]) a.2).2).1,(R .statement (R (.clause [41]) (R (.clause [59]) a.2).2).2).1])=true:=h;rw[zDR,if_neg (by simp),if_pos (by decide),zCC,zCC,zCC,zC9]at h3;exact h3)⟩
theorem zTJ:Gd L R s .loop:=by
 intro hL hT K hp hi hb;unfold zF at hb⊢;dsimp only at hb⊢;have hlt:s.k < L.length - 1:=hp.2;have x:=zN (s:=zB s) (w:=[40]) hL hlt;obtain⟨s1,hs1⟩:∃s1,zM L [40] (zB s)=s1:=⟨_,rfl⟩;rw[hs1]at x hb⊢
 by_cases c:(onP L [108,101,116] s1 || onP L [99,111,110,115,116] s1)=true
 · simp only[if_pos c]at hb⊢;have x1:Eat L s1 (R .declares s1).2:=K.post .declares s1 ⟨x.adv.hi,trivial⟩;have y:=zN (w:=[59]) hL x1.adv.hi;refine zEh K (a:=((R .declares s1).1,zM L [59] (R .declares s1).2)) y.adv.hi (fun h=>?_) hb;obtain⟨g1,g2⟩:=K.good .declares s1 ⟨x.adv.hi,trivial⟩ trivial (zCF y.adv h);exact⟨g1,by show zAS 10 (R .declares s1).1.nd.kind=true;rcases g2 with g2 | g2<;>(rw[g2];decide)⟩
 · simp only[if_neg c]at hb⊢;have x1:Eat L s1 (R (.clause [59]) s1).2:=K.post (.clause [59]) s1 ⟨x.adv.hi,trivial⟩;refine zEh K (a:=R (.clause [59]) s1) x1.adv.hi (fun h=>?_) hb;have g:GC (R (.clause [59]) s1).1:=K.good (.clause [59]) s1 ⟨x.adv.hi,trivial⟩ trivial h;exact g.begin
theorem zTK {k:Int}:Gd L R s (.jump k):=by
 intro hL hT K hp hi hb;unfold zF at hb⊢;dsimp only at hb⊢;have hlt:s.k < L.length - 1:=hp.2;have hk:k=12∨k=13:=hi;have hs:zDt k=true:=by rcases hk with rfl | rfl<;>decide
 have hno:¬(k=8∨k=9∨k=10∨k=18):=by omega
 by_cases c:(zH L (zB s).k).kind=1∧(zH L (zB s).k).nl=false
 · simp only[if_pos c]at hb⊢;have x:=zAD (s:=zB s) hL hlt;obtain⟨n1,n2,_⟩:=zLD (zCF (zAV hL x.adv.hi) hb);refine GD.plain ⟨?_,hs⟩ (zCW hno);rw[n2];rcases hk with rfl | rfl
   · exact zE9 (by decide) (hT _).len (zAy (by decide) ((hT _).name n1))
   · exact zE9 (by decide) (hT _).len (zAy (by decide) ((hT _).name n1))
 · simp only[if_neg c]at hb⊢;refine GD.plain ⟨?_,hs⟩ (zCW hno);rcases hk with rfl | rfl
   · exact zDB (by decide)
   · exact zDB (by decide)
theorem zEE (hL:Lst L) (K:Kg L R) {b0:Tr} {c:Tr×Ps} (hc:c.2.k≤L.length - 1) (hg:c.2.bad=0→GQ 4 b0∧goodT c.1=true∧(c.1.nd.kind=17∨(c.1.nd.kind=11∧onP L [102,105,110,97,108,108,121] c.2=true)))
 (hb:(if onP L [102,105,110,97,108,108,121] c.2=true then(trK 16 [b0,c.1,(R .block (zB c.2)).1],(R .block (zB c.2)).2)else(trK 16 [b0,c.1,trK 11 []],c.2)).2.bad=0):
 GD L (if onP L [102,105,110,97,108,108,121] c.2=true then(trK 16 [b0,c.1,(R .block (zB c.2)).1],(R .block (zB c.2)).2)else(trK 16 [b0,c.1,trK 11 []],c.2)):=by
 by_cases c1:onP L [102,105,110,97,108,108,121] c.2=true
 · simp only[if_pos c1]at hb⊢;have hl:=hL.on hc c1;have p:=(K.post .block (zB c.2) ⟨hl,trivial⟩).adv;obtain⟨g1,g2,g3⟩:=hg (zCF (x:=zB c.2) p hb);have g4:GQ 4 (R .block (zB c.2)).1:=K.good .block (zB c.2) ⟨hl,trivial⟩ trivial hb;exact GD.plain ⟨zTt g1 g2 g4.1 (by rcases g3 with h | h;exact .inr h;exact .inl h.1) (.inr g4.2) (.inr g4.2),by show zDt 16=true;decide⟩ (zCW (by decide))
 · simp only[if_neg c1]at hb⊢;obtain⟨g1,g2,g3⟩:=hg hb;have g5:c.1.nd.kind=17:=by
    rcases g3 with h | h
    · exact h
    · exact absurd h.2 c1
   exact GD.plain ⟨zTt g1 g2 (zDB (by decide)) (.inr g5) (.inl rfl) (.inl g5),by show zDt 16=true;decide⟩ (zCW (by decide))
theorem zDe (hL:Lst L) (hT:TL L) (K:Kg L R) {b0:Tr} {n:List UInt8×Ps} (hn:n.2.k≤L.length - 1) (hg:n.2.bad=0→GQ 4 b0∧n.1.length≤4096∧zAf 17 n.1=true)
 (hb:(if onP L [102,105,110,97,108,108,121] (R .block n.2).2=true then(trK 16 [b0,trN 17 n.1 [(R .block n.2).1],(R .block (zB (R .block n.2).2)).1],(R .block (zB (R .block n.2).2)).2)else(trK 16 [b0,trN 17 n.1 [(R .block n.2).1],trK 11 []],(R .block n.2).2)).2.bad=0):
 GD L (if onP L [102,105,110,97,108,108,121] (R .block n.2).2=true then(trK 16 [b0,trN 17 n.1 [(R .block n.2).1],(R .block (zB (R .block n.2).2)).1],(R .block (zB (R .block n.2).2)).2)else(trK 16 [b0,trN 17 n.1 [(R .block n.2).1],trK 11 []],(R .block n.2).2)):=by
 have _:=hT;have p:=(K.post .block n.2 ⟨hn,trivial⟩).adv;refine zEE hL K (c:=(trN 17 n.1 [(R .block n.2).1],(R .block n.2).2)) p.hi (fun h=>?_) hb;obtain⟨g1,g2,g3⟩:=hg (zCF p h);have g4:=zST g2 g3 (K.good .block n.2 ⟨hn,trivial⟩ trivial h);exact⟨g1,g4.1,.inl g4.2⟩
theorem zQm:Gd L R s .tries:=by
 intro hL hT K hp hi hb;unfold zF at hb⊢;dsimp only at hb⊢;have hlt:s.k < L.length - 1:=hp.2;have p1:=(K.post .block (zB s) ⟨hlt,trivial⟩).adv;have g0:(R .block (zB s)).2.bad=0→GQ 4 (R .block (zB s)).1:=K.good .block (zB s) ⟨hlt,trivial⟩ trivial;have hs:∃s1,(if(onP L [99,97,116,99,104] (R .block (zB s)).2 || onP L [102,105,110,97,108,108,121] (R .block (zB s)).2)=true then(R .block (zB s)).2 else zV L (R .block (zB s)).2)=s1∧Adv L (R .block (zB s)).2 s1∧(s1.bad=0→onP L [99,97,116,99,104] s1=true∨onP L [102,105,110,97,108,108,121] s1=true):=by
  refine⟨_,rfl,?_,?_⟩
  · split
    · exact Adv.refl p1.hi
    · exact(zl p1.hi).adv
  · split
    · rename_i h
      intro _;rw[Bool.or_eq_true]at h;exact h
    · intro h;exact absurd h ze
 obtain⟨s1,hs1,y,hor⟩:=hs;rw[hs1]at hb⊢
 by_cases c:onP L [99,97,116,99,104] s1=true
 · simp only[if_pos c]at hb⊢;have hl2:=hL.on y.hi c
   by_cases c2:onP L [40] (zB s1)=true
   · simp only[if_pos c2]at hb⊢;have hl3:=hL.on (s:=zB s1) hl2 c2;have u:=zAD (s:=zB (zB s1)) hL hl3;have v:=zN (w:=[41]) hL u.adv.hi;refine zDe hL hT K (n:=((zW L (zB (zB s1))).1,zM L [41] (zW L (zB (zB s1))).2)) v.adv.hi (fun h=>?_) hb;have h2:=zCF v.adv h;obtain⟨n1,n2,n3⟩:=zLD h2;rw[n3]at h2;exact⟨g0 (zCF y h2),by show(zW L (zB (zB s1))).1.length≤4096;rw[n2];exact(hT _).len,by show zAf 17 (zW L (zB (zB s1))).1=true;rw[n2];exact zAy (by decide) ((hT _).name n1)⟩
   · simp only[if_neg c2]at hb⊢;exact zDe hL hT K (n:=([],zB s1)) hl2 (fun h=>⟨g0 (zCF y h),by simp,by show zAf 17 []=true;decide⟩) hb
 · simp only[if_neg c]at hb⊢;refine zEE hL K (c:=(trK 11 [],s1)) y.hi (fun h=>⟨g0 (zCF y h),zDB (by decide),.inr ⟨rfl,?_⟩⟩) hb;rcases hor h with h1 | h1
   · exact absurd h1 c
   · exact h1
theorem zTL:∀p:Ph,Gd L R s p
 | .program _=>zLE
 | .block=>zQd
 | .blockL _=>zNh
 | .item=>zS8
 | .declares=>zIm
 | .declL _ _=>zQe
 | .func _ _=>zS9
 | .params=>zNi
 | .paramL _=>zNj
 | .statement=>zHq
 | .simple=>zNr
 | .word _=>zTI
 | .within=>zNk
 | .clause _=>zNl
 | .loop=>zTJ
 | .jump _=>zTK
 | .tries=>zQm
 | .assign=>zNm
 | .body _=>zTA
 | .cond=>zTB
 | .either=>zNn
 | .nullL _=>zQf
 | .orL _=>zT5
 | .both _=>zTC
 | .level _=>zQg
 | .levelL _ _=>zNo
 | .unary=>zQh
 | .calls=>zQi
 | .callsL _=>zNp
 | .head=>zTD
 | .headL _=>zQj
 | .args=>zTE
 | .list _=>zTF
 | .listL _ _=>zQk
 | .primary=>zLG
 | .object=>zNq
 | .objL _=>zTG
 | .prop=>zTH
end
theorem zT6 {L:List Tok} (hL:Lst L) (hT:TL L):∀(f:Nat) (p:Ph) (s:Ps),Pre L p s→GI p→(zCL L f p s).2.bad=0→GR L p (zCL L f p s):=by
 intro f
 induction f with
 | zero=>intro p s _ _ h;exact absurd h (zAt (by decide))
 | succ f ih=>
  intro p s hp hi hb;exact zTL p hL hT ⟨fun q s1 hq=>zCB hL f q s1 hq,fun q s1 hq hg h=>ih q s1 hq hg h⟩ hp hi hb
theorem zHr {L:List Tok} (hL:Lst L) (hT:TL L) (hb:(zG L (.program []) ⟨0,0,0⟩).2.bad=0):GQ 1 (zG L (.program []) ⟨0,0,0⟩).1:=
 zT6 hL hT _ (.program []) ⟨0,0,0⟩ ⟨yAF _,trivial⟩ zB2 hb
end Go.Proofs.YtlohaclgbfhijaaGreatDoor
