/- Joined for the claim ParseGood: the parser, the lexer and the trees as they are walked, made short by a program of mine. -/
import Derived.Test.YtlnbbaehihgigaaGreatDoorG02
import Derived.Test.YtlnbbaehihgigaaGreatDoorG06
import Derived.Test.YtlnbbaehihgigaaGreatDoorG09
import Derived.Test.YtlnbbaehihgigaaGreatDoorG07
import Derived.Deep.AppendLies
import Derived.Test.YtlnbbaehihgigaaGreatDoorG01
import Derived.Test.YtlnbbaehihgigaaGreatDoorG04
import Derived.Deep.RegionHeld3
import Derived.Deep.CutBlock
import Derived.Deep.DeepCutAuto
set_option maxHeartbeats 16000000
set_option maxRecDepth 1000000
namespace Go.Proofs.YtlnbbaehihgigaaGreatDoor
open Go.Proofs.Tryz
variable {l b:List Tr} {v:Value} {u:List UInt16} {xs c ks:List Value} {n tx:List UInt8} {ts:List Tok} {base a kd ps:Nat} {k nk nn z:Int} {t x:Tr} {e:TypeId} {A:Option Addr} {W:World} {nl:Bool}
set_option linter.unusedVariables false
structure TG (t:Tok):Prop where
 name:t.kind=1→zBi t.text=true
 word:t.kind=6→zFv t.text=true
 num:t.kind=2→t.nk=0∧0≤t.nn∧t.nn≤9007199254740991
 big:t.kind=3→zBR false t.mag=true
 str:t.kind=4→t.str.length≤4096
 len:t.text.length≤4096
def TL (L:List Tok):Prop:=∀i,TG (zG L i)
theorem zJ7 (h:zBi n=true):zFv n=true:=by
 unfold zBi at h;rw[Bool.and_eq_true]at h;exact h.1
theorem zBL (hk:k∈([7,12,13,17,18,19,20,33,41]:List Int)) (h:zBi n=true):zAe k n=true:=by
 simp only[List.mem_cons,List.not_mem_nil,or_false]at hk;rcases hk with rfl | rfl | rfl | rfl | rfl | rfl | rfl | rfl | rfl<;>(unfold zAe;simp[h])
theorem zQp {t:Tok} (h:zBE t≠9):t.text∈zU8:=by
 unfold zBE at h;split at h
 · unfold zEe at h;split at h
   · rename_i c;rw[c];decide
   split at h
   · rename_i c;rw[c];decide
   split at h
   · rename_i c;rw[c];decide
   split at h
   · rename_i c;rcases c with c | c | c | c<;>(rw[c];decide)
   split at h
   · rename_i c;rcases c with c | c | c | c | c<;>(rw[c];decide)
   split at h
   · rename_i c;rcases c with c | c | c<;>(rw[c];decide)
   split at h
   · rename_i c;rcases c with c | c<;>(rw[c];decide)
   split at h
   · rename_i c;rcases c with c | c | c<;>(rw[c];decide)
   · exact absurd rfl h
 · exact absurd rfl h
def GI:Ph→Prop
 | .program acc=>∀t∈acc,GS t
 | .blockL acc=>∀t∈acc,GS t
 | .declL k acc=>(k=5∨k=6)∧∀t∈acc,GQ 7 t
 | .func k n=>(k=19∨k=41)∧n.length≤4096∧zAe k n=true
 | .paramL acc=>∀t∈acc,GQ 20 t
 | .jump k=>k=12∨k=13
 | .body l=>∀t∈l,GQ 20 t
 | .nullL x=>GE x
 | .orL x=>GE x
 | .both x=>GE x
 | .levelL _ x=>GE x
 | .callsL x=>GE x
 | .headL x=>GE x
 | .listL _ acc=>∀t∈acc,GE t
 | .objL acc=>∀t∈acc,GQ 40 t
 | _=>True
def GD (L:List Tok) (r:Tr×Ps):Prop:=GU r.1∧(dangT r.1=true→¬onP L [101,108,115,101] r.2=true)
def GR (L:List Tok) (p:Ph) (r:Tr×Ps):Prop:=
 match p with
 | .program _=>GQ 1 r.1
 | .block=>GQ 4 r.1
 | .blockL _=>GQ 4 r.1
 | .item=>GS r.1
 | .declares=>goodT r.1=true∧(r.1.nd.kind=5∨r.1.nd.kind=6)
 | .declL _ _=>goodT r.1=true∧(r.1.nd.kind=5∨r.1.nd.kind=6)
 | .func k _=>GQ k r.1
 | .params=>∀t∈r.1.subs,GQ 20 t
 | .paramL _=>∀t∈r.1.subs,GQ 20 t
 | .statement=>GD L r
 | .simple=>GD L r
 | .word _=>GD L r
 | .loop=>GD L r
 | .jump _=>GD L r
 | .tries=>GD L r
 | .clause _=>GC r.1
 | .list _=>∀t∈r.1.subs,GE t
 | .listL _ _=>∀t∈r.1.subs,GE t
 | .args=>∀t∈r.1.subs,GE t
 | .prop=>GQ 40 r.1
 | _=>GE r.1
structure Kg (L:List Tok) (R:Ph→Ps→Tr×Ps):Prop where
 post:∀q s1,Pre L q s1→Post L q s1 (R q s1).2
 good:∀q s1,Pre L q s1→GI q→(R q s1).2.bad=0→GR L q (R q s1)
def Gd (L:List Tok) (R:Ph→Ps→Tr×Ps) (s:Ps) (p:Ph):Prop:=Lst L→TL L→Kg L R→Pre L p s→GI p→(zD L R p s).2.bad=0→GR L p (zD L R p s)
section
variable {L:List Tok} {R:Ph→Ps→Tr×Ps} {s:Ps}
theorem zCo {x y:Ps} (h:Adv L x y) (hb:y.bad=0):x.bad=0:=by
 rcases Nat.eq_zero_or_pos x.bad with b | b
 · exact b
 · exact absurd hb (h.bad jo)
theorem zNf {x:Ps} (h:(zc L x).2.bad=0):(zG L x.k).kind=1∧(zc L x).1=(zG L x.k).text∧(zc L x).2=zB x:=by
 unfold zc at h⊢
 by_cases c:(zG L x.k).kind=1
 · rw[if_pos c];exact⟨c,rfl,rfl⟩
 · rw[if_neg c]at h;exact absurd h zAp
theorem zC8 {x:Nd} (h:¬(x.kind=8∨x.kind=9∨x.kind=10∨x.kind=18)):dangT (.mk x l)=false:=by
 rw[zCw,if_neg (fun b=>h (.inl b.1)),if_neg h]
theorem GD.plain {e:Ps} (h:GU t) (c:dangT t=false):GD L (t,e):=⟨h,fun b=>by rw[c]at b;cases b⟩
theorem zNg:Gd L R s (.program b):=by
 intro f g K d hi hb;unfold zD at hb⊢;dsimp only at hb⊢
 by_cases c:(zG L s.k).kind=0
 · simp only[if_pos c]at hb⊢;exact⟨zOg (.inl rfl) hi,rfl⟩
 simp only[if_neg c]at hb⊢;have x1:Eat L s (R .item s).2:=K.post .item s ⟨d.1,trivial⟩;have e:=zCo (K.post (.program (b++[(R .item s).1])) (R .item s).2 ⟨x1.adv.hi,trivial⟩).adv hb;have g1:GS (R .item s).1:=K.good .item s ⟨d.1,trivial⟩ trivial e;exact K.good (.program (b++[(R .item s).1])) (R .item s).2 ⟨x1.adv.hi,trivial⟩ (zAj hi g1) hb
theorem zTw:Gd L R s .block:=by
 intro b d K c hi hb;unfold zD at hb⊢;dsimp only at hb⊢;have x:=zR (w:=[123]) b c.1;exact K.good (.blockL []) (zL L [123] s) ⟨x.adv.hi,trivial⟩ zCS hb
theorem zQq:Gd L R s (.blockL b):=by
 intro f g K d hi hb;unfold zD at hb⊢;dsimp only at hb⊢
 by_cases c:s.bad≠0
 · simp only[if_pos c]at hb;exact absurd hb c
 simp only[if_neg c]at hb⊢
 by_cases c2:onP L [125] s=true
 · simp only[if_pos c2]at hb⊢;exact⟨zOg (.inr rfl) hi,rfl⟩
 simp only[if_neg c2]at hb⊢;have x1:Eat L s (R .item s).2:=K.post .item s ⟨d.1,trivial⟩;have e:=zCo (K.post (.blockL (b++[(R .item s).1])) (R .item s).2 ⟨x1.adv.hi,trivial⟩).adv hb;have g1:GS (R .item s).1:=K.good .item s ⟨d.1,trivial⟩ trivial e;exact K.good (.blockL (b++[(R .item s).1])) (R .item s).2 ⟨x1.adv.hi,trivial⟩ (zAj hi g1) hb
theorem zWi:Gd L R s .item:=by
 intro d e K b hi hb;unfold zD at hb⊢;dsimp only at hb⊢
 by_cases c:(onP L [108,101,116] s || onP L [99,111,110,115,116] s)=true
 · simp only[if_pos c]at hb⊢;have x1:Eat L s (R .declares s).2:=K.post .declares s ⟨b.1,trivial⟩;obtain⟨g1,g2⟩:=K.good .declares s ⟨b.1,trivial⟩ trivial (zCo (zBV d x1.adv.hi) hb);exact⟨g1,by show zDc (R .declares s).1.nd.kind=true;rcases g2 with g2 | g2<;>(rw[g2];decide)⟩
 simp only[if_neg c]at hb⊢
 by_cases c2:onP L [102,117,110,99,116,105,111,110] s=true
 · simp only[if_pos c2]at hb⊢;have f:=d.on b.1 c2;have y:=zAi (s:=zB s) d f;have j:=zCo (K.post (.func 19 (zc L (zB s)).1) (zc L (zB s)).2 ⟨y.adv.hi,trivial⟩).adv hb;obtain⟨k,g,l⟩:=zNf j;have hg:GI (.func 19 (zc L (zB s)).1):=⟨.inl rfl,by rw[g];exact(e _).len,by rw[g];exact zBL jd ((e _).name k)⟩;obtain⟨g1,g2⟩:=K.good (.func 19 (zc L (zB s)).1) (zc L (zB s)).2 ⟨y.adv.hi,trivial⟩ hg hb;exact⟨g1,by rw[g2];decide⟩
 simp only[if_neg c2]at hb⊢;have:=K.good .statement s ⟨b.1,trivial⟩ trivial hb;exact this.1.stmt
theorem zK5:Gd L R s .declares:=by
 intro b e K d hi hb;unfold zD at hb⊢;dsimp only at hb⊢
 by_cases c:onP L [99,111,110,115,116] s=true
 · simp only[if_pos c]at hb⊢;exact K.good (.declL 6 []) (zB s) ⟨b.on d.1 c,trivial⟩ ⟨.inr rfl,zCS⟩ hb
 · simp only[if_neg c]at hb⊢;have x:=zR (w:=[108,101,116]) b d.1;exact K.good (.declL 5 []) (zL L [108,101,116] s) ⟨x.adv.hi,trivial⟩ ⟨.inl rfl,zCS⟩ hb
theorem zF3 (f:Lst L) (K:Kg L R) {e:Tr×Ps} (g:e.2.k≤L.length - 1) (hk:k=5∨k=6) (hi:∀t∈b,GQ 7 t) (j:e.2.bad=0→GQ 7 e.1)
 (hb:(if e.2.bad≠0 then(trK k (b++[e.1]),e.2)else if onP L [44] e.2=true then R (.declL k (b++[e.1])) (zB e.2)else(trK k (b++[e.1]),e.2)).2.bad=0):
 goodT (if e.2.bad≠0 then(trK k (b++[e.1]),e.2)else if onP L [44] e.2=true then R (.declL k (b++[e.1])) (zB e.2)else(trK k (b++[e.1]),e.2)).1=true∧((if e.2.bad≠0 then(trK k (b++[e.1]),e.2)else if onP L [44] e.2=true then R (.declL k (b++[e.1])) (zB e.2)else(trK k (b++[e.1]),e.2)).1.nd.kind=5∨(if e.2.bad≠0 then(trK k (b++[e.1]),e.2)else if onP L [44] e.2=true then R (.declL k (b++[e.1])) (zB e.2)else(trK k (b++[e.1]),e.2)).1.nd.kind=6):=by
 by_cases c:e.2.bad≠0
 · simp only[if_pos c]at hb;exact absurd hb c
 have d:=j (yAK.1 c);simp only[if_neg c]at hb⊢
 by_cases c2:onP L [44] e.2=true
 · simp only[if_pos c2]at hb⊢;exact K.good (.declL k (b++[e.1])) (zB e.2) ⟨f.on g c2,trivial⟩ ⟨hk,zAj hi d⟩ hb
 · simp only[if_neg c2]at hb⊢;exact⟨zVu hk js (zAj hi d),hk⟩
theorem zTx {g:List Tr}:Gd L R s (.declL k g):=by
 intro b j K m hi hb;unfold zD at hb⊢;dsimp only at hb⊢;have x:=zAi b m.1;have l:(zc L s).2.bad=0→(zc L s).1.length≤4096∧zAe 7 (zc L s).1=true:=fun h=>by
  obtain⟨o,p,_⟩:=zNf h;rw[p];exact⟨(j _).len,zBL jd ((j _).name o)⟩
 by_cases c:onP L [61] (zc L s).2=true
 · simp only[if_pos c]at hb⊢;have d:=b.on x.adv.hi c;have p1:=(K.post .assign (zB (zc L s).2) ⟨d,trivial⟩).adv;exact zF3 b K (e:=(trN 7 (zc L s).1 [(R .assign (zB (zc L s).2)).1],(R .assign (zB (zc L s).2)).2)) p1.hi hi.1 hi.2 (fun h=>by
    obtain⟨h1,f⟩:=l (show(zc L s).2.bad=0 from zCo (x:=zB (zc L s).2) p1 h);exact⟨zLa jd h1 f (K.good .assign (zB (zc L s).2) ⟨d,trivial⟩ trivial h),rfl⟩) hb
 · simp only[if_neg c]at hb⊢;exact zF3 b K (e:=(trN 7 (zc L s).1 [],(zc L s).2)) x.adv.hi hi.1 hi.2 (fun h=>by
    obtain⟨h1,f⟩:=l h;exact⟨zGf jd h1 f,rfl⟩) hb
theorem zWj:Gd L R s (.func k n):=by
 intro d e K b hi hb;unfold zD at hb⊢;dsimp only at hb⊢;have x1:Eat L s (R .params s).2:=K.post .params s ⟨b.1,trivial⟩;have c:=zCo (K.post .block (R .params s).2 ⟨x1.adv.hi,trivial⟩).adv hb;have g1:∀t∈(R .params s).1.subs,GQ 20 t:=K.good .params s ⟨b.1,trivial⟩ trivial c;have g2:GQ 4 (R .block (R .params s).2).1:=K.good .block (R .params s).2 ⟨x1.adv.hi,trivial⟩ trivial hb;exact⟨zXk hi.1 hi.2.1 hi.2.2 g1 g2,rfl⟩
theorem zQr:Gd L R s .params:=by
 intro b e K d hi hb;unfold zD at hb⊢;dsimp only at hb⊢;have x:=zR (w:=[40]) b d.1
 by_cases c:onP L [41] (zL L [40] s)=true
 · simp only[if_pos c]at hb⊢;exact zCS
 · simp only[if_neg c]at hb⊢;exact K.good (.paramL []) (zL L [40] s) ⟨x.adv.hi,trivial⟩ zCS hb
theorem zQs:Gd L R s (.paramL b):=by
 intro d e K g hi hb;unfold zD at hb⊢;dsimp only at hb⊢;have x:=zAi d g.1
 by_cases c:(zc L s).2.bad≠0
 · simp only[if_pos c]at hb;exact absurd hb c
 simp only[if_neg c]at hb⊢;obtain⟨j,f,_⟩:=zNf (yAK.1 c);have g1:GQ 20 (trN 20 (zc L s).1 []):=⟨zGf jd (by rw[f];exact(e _).len) (by rw[f];exact zBL jd ((e _).name j)),rfl⟩
 by_cases c2:onP L [41] (zc L s).2=true
 · simp only[if_pos c2]at hb⊢;exact zAj hi g1
 · simp only[if_neg c2]at hb⊢;have y:=zR (w:=[44]) d x.adv.hi;exact K.good (.paramL (b++[trN 20 (zc L s).1 []])) (zL L [44] (zc L s).2) ⟨y.adv.hi,trivial⟩ (zAj hi g1) hb
theorem zQt:Gd L R s .within:=by
 intro b d K c hi hb;unfold zD at hb⊢;dsimp only at hb⊢;have x:=zR (w:=[40]) b c.1;have x1:Eat L _ (R .assign (zL L [40] s)).2:=K.post .assign (zL L [40] s) ⟨x.adv.hi,trivial⟩;have g:GE (R .assign (zL L [40] s)).1:=K.good .assign (zL L [40] s) ⟨x.adv.hi,trivial⟩ trivial (zCo (zR (w:=[41]) b x1.adv.hi).adv hb);exact g
theorem zQu {w:List UInt8}:Gd L R s (.clause w):=by
 intro d e K b hi hb;unfold zD at hb⊢;dsimp only at hb⊢
 by_cases c:onP L w s=true
 · simp only[if_pos c]at hb⊢;exact⟨zDx jd,rfl⟩
 · simp only[if_neg c]at hb⊢;have x1:Eat L s (R .assign s).2:=K.post .assign s ⟨b.1,trivial⟩;have g:GE (R .assign s).1:=K.good .assign s ⟨b.1,trivial⟩ trivial (zCo (zR (w:=w) d x1.adv.hi).adv hb);exact g.clause
theorem zQv:Gd L R s .assign:=by
 intro g e K b hi hb;unfold zD at hb⊢;dsimp only at hb⊢
 by_cases c:(zG L s.k).kind=1∧isT (zAm L s.k 1) [61,62]=true∧(zAm L s.k 1).nl=false
 · simp only[if_pos c]at hb⊢;have j:=g.lt b.1 (by rw[c.1];decide);exact K.good (.body [trN 20 (zG L s.k).text []]) (zB s) ⟨j,trivial⟩ (zGD ⟨zGf jd (e _).len (zBL jd ((e _).name c.1)),rfl⟩) hb
 simp only[if_neg c]at hb⊢
 by_cases c2:zAh L s=true
 · simp only[if_pos c2]at hb⊢;have x1:Eat L s (R .params s).2:=K.post .params s ⟨b.1,trivial⟩;have f:=zCo (K.post (.body (R .params s).1.subs) (R .params s).2 ⟨x1.adv.hi,trivial⟩).adv hb;exact K.good (.body (R .params s).1.subs) (R .params s).2 ⟨x1.adv.hi,trivial⟩ (K.good .params s ⟨b.1,trivial⟩ trivial f) hb
 simp only[if_neg c2]at hb⊢;have x1:Eat L s (R .cond s).2:=K.post .cond s ⟨b.1,trivial⟩
 by_cases c3:(zG L (R .cond s).2.k).kind≠5∨¬(zG L (R .cond s).2.k).text∈zIF
 · simp only[if_pos c3]at hb⊢;exact K.good .cond s ⟨b.1,trivial⟩ trivial hb
 simp only[if_neg c3]at hb⊢
 by_cases c4:zAB (R .cond s).1.nd.kind=false
 · simp only[if_pos c4]at hb;exact absurd hb (zDT jd)
 simp only[if_neg c4]at hb⊢;have d:(R .cond s).2.k < L.length - 1:=g.lt x1.adv.hi (fun l=>c3 (.inl (by rw[l];decide)));have f:(R .cond s).2.bad=0:=zCo (x:=zB (R .cond s).2) (K.post .assign (zB (R .cond s).2) ⟨d,trivial⟩).adv hb;have g1:GE (R .cond s).1:=K.good .cond s ⟨b.1,trivial⟩ trivial f;have g2:GE (R .assign (zB (R .cond s).2)).1:=K.good .assign (zB (R .cond s).2) ⟨d,trivial⟩ trivial hb;exact zSE (e _).len (yAK.1 (fun h=>c3 (.inr h))) g1.1 (by simpa using c4) g2
theorem zWk:Gd L R s (.body l):=by
 intro e f K b hi hb;unfold zD at hb⊢;dsimp only at hb⊢;have y:Adv L s (if(zG L s.k).nl=true then za L s else s):=by
  split
  · exact(zy b.1).adv
  · exact Adv.refl b.1
 have x:=zR (w:=[61,62]) e y.hi;obtain⟨s1,d⟩:=jx (zL L [61,62] (if(zG L s.k).nl=true then za L s else s));rw[d]at x hb⊢
 by_cases c:onP L [123] s1=true
 · simp only[if_pos c]at hb⊢;have g:GQ 4 (R .block s1).1:=K.good .block s1 ⟨x.adv.hi,trivial⟩ trivial hb;exact zOj hi g.1 (by rw[g.2];decide)
 · simp only[if_neg c]at hb⊢;have g:GE (R .assign s1).1:=K.good .assign s1 ⟨x.adv.hi,trivial⟩ trivial hb;exact zOj hi g.1 (by unfold zx;simp[g.2])
theorem zWl:Gd L R s .cond:=by
 intro d j K b hi hb;unfold zD at hb⊢;dsimp only at hb⊢;have x1:Eat L s (R .either s).2:=K.post .either s ⟨b.1,trivial⟩
 by_cases c:onP L [63] (R .either s).2=true
 · simp only[if_pos c]at hb⊢;have e:=d.on x1.adv.hi c;have p2:=(K.post .assign (zB (R .either s).2) ⟨e,trivial⟩).adv;have y:=zR (w:=[58]) d p2.hi;have p3:=(K.post .assign (zL L [58] (R .assign (zB (R .either s).2)).2) ⟨y.adv.hi,trivial⟩).adv;have f:=zCo (y.adv.trans p3) hb;have g:(R .either s).2.bad=0:=zCo (x:=zB (R .either s).2) p2 f;exact zXi (K.good .either s ⟨b.1,trivial⟩ trivial g) (K.good .assign (zB (R .either s).2) ⟨e,trivial⟩ trivial f) (K.good .assign (zL L [58] (R .assign (zB (R .either s).2)).2) ⟨y.adv.hi,trivial⟩ trivial hb)
 · simp only[if_neg c]at hb⊢;exact K.good .either s ⟨b.1,trivial⟩ trivial hb
theorem zQw:Gd L R s .either:=by
 intro e f K b hi hb;unfold zD at hb⊢;dsimp only at hb⊢;have x1:Eat L s (R (.level 0) s).2:=K.post (.level 0) s ⟨b.1,yAE _⟩
 by_cases c:onP L [63,63] (R (.level 0) s).2=true
 · simp only[if_pos c]at hb⊢;have p:=(K.post (.nullL (R (.level 0) s).1) (R (.level 0) s).2 ⟨x1.adv.hi,trivial⟩).adv
   by_cases c2:(onP L [124,124] (R (.nullL (R (.level 0) s).1) (R (.level 0) s).2).2 || onP L [38,38] (R (.nullL (R (.level 0) s).1) (R (.level 0) s).2).2)=true
   · simp only[if_pos c2]at hb;exact absurd hb zAp
   simp only[if_neg c2]at hb⊢;exact K.good (.nullL (R (.level 0) s).1) (R (.level 0) s).2 ⟨x1.adv.hi,trivial⟩ (K.good (.level 0) s ⟨b.1,yAE _⟩ trivial (zCo p hb)) hb
 · simp only[if_neg c]at hb⊢;have p:=(K.post (.both (R (.level 0) s).1) (R (.level 0) s).2 ⟨x1.adv.hi,trivial⟩).adv;have q:=(K.post (.orL (R (.both (R (.level 0) s).1) (R (.level 0) s).2).1) (R (.both (R (.level 0) s).1) (R (.level 0) s).2).2 ⟨p.hi,trivial⟩).adv
   by_cases c2:onP L [63,63] (R (.orL (R (.both (R (.level 0) s).1) (R (.level 0) s).2).1) (R (.both (R (.level 0) s).1) (R (.level 0) s).2).2).2=true
   · simp only[if_pos c2]at hb;exact absurd hb zAp
   simp only[if_neg c2]at hb⊢;have d:=zCo q hb;exact K.good (.orL (R (.both (R (.level 0) s).1) (R (.level 0) s).2).1) (R (.both (R (.level 0) s).1) (R (.level 0) s).2).2 ⟨p.hi,trivial⟩ (K.good (.both (R (.level 0) s).1) (R (.level 0) s).2 ⟨x1.adv.hi,trivial⟩ (K.good (.level 0) s ⟨b.1,yAE _⟩ trivial (zCo p d)) d) hb
theorem zTy:Gd L R s (.nullL x):=by
 intro d g K e hi hb;unfold zD at hb⊢;dsimp only at hb⊢
 by_cases c:onP L [63,63] s=true
 · simp only[if_pos c]at hb⊢;have b:=d.on e.1 c;have p1:=(K.post (.level 0) (zB s) ⟨b,yAE _⟩).adv;have f:=zCo (K.post (.nullL (trN 47 [63,63] [x,(R (.level 0) (zB s)).1])) (R (.level 0) (zB s)).2 ⟨p1.hi,trivial⟩).adv hb;exact K.good (.nullL (trN 47 [63,63] [x,(R (.level 0) (zB s)).1])) (R (.level 0) (zB s)).2 ⟨p1.hi,trivial⟩ (zSD (.inr rfl) jd jd hi (K.good (.level 0) (zB s) ⟨b,yAE _⟩ trivial f)) hb
 · simp only[if_neg c]at hb⊢;exact hi
theorem zWm:Gd L R s (.both x):=by
 intro d g K e hi hb;unfold zD at hb⊢;dsimp only at hb⊢
 by_cases c:onP L [38,38] s=true
 · simp only[if_pos c]at hb⊢;have b:=d.on e.1 c;have p1:=(K.post (.level 0) (zB s) ⟨b,yAE _⟩).adv;have f:=zCo (K.post (.both (trN 47 [38,38] [x,(R (.level 0) (zB s)).1])) (R (.level 0) (zB s)).2 ⟨p1.hi,trivial⟩).adv hb;exact K.good (.both (trN 47 [38,38] [x,(R (.level 0) (zB s)).1])) (R (.level 0) (zB s)).2 ⟨p1.hi,trivial⟩ (zSD (.inr rfl) jd jd hi (K.good (.level 0) (zB s) ⟨b,yAE _⟩ trivial f)) hb
 · simp only[if_neg c]at hb⊢;exact hi
theorem zX4:Gd L R s (.orL x):=by
 intro e g K f hi hb;unfold zD at hb⊢;dsimp only at hb⊢
 by_cases c:onP L [124,124] s=true
 · simp only[if_pos c]at hb⊢;have b:=e.on f.1 c;have p1:=(K.post (.level 0) (zB s) ⟨b,yAE _⟩).adv;have p2:=(K.post (.both (R (.level 0) (zB s)).1) (R (.level 0) (zB s)).2 ⟨p1.hi,trivial⟩).adv;have d:=zCo (K.post (.orL (trN 47 [124,124] [x,(R (.both (R (.level 0) (zB s)).1) (R (.level 0) (zB s)).2).1])) (R (.both (R (.level 0) (zB s)).1) (R (.level 0) (zB s)).2).2 ⟨p2.hi,trivial⟩).adv hb;have g2:GE (R (.both (R (.level 0) (zB s)).1) (R (.level 0) (zB s)).2).1:=K.good (.both (R (.level 0) (zB s)).1) (R (.level 0) (zB s)).2 ⟨p1.hi,trivial⟩ (K.good (.level 0) (zB s) ⟨b,yAE _⟩ trivial (zCo p2 d)) d;exact K.good (.orL (trN 47 [124,124] [x,(R (.both (R (.level 0) (zB s)).1) (R (.level 0) (zB s)).2).1])) (R (.both (R (.level 0) (zB s)).1) (R (.level 0) (zB s)).2).2 ⟨p2.hi,trivial⟩ (zSD (.inr rfl) jd jd hi g2) hb
 · simp only[if_neg c]at hb⊢;exact hi
theorem zTz {n:Nat}:Gd L R s (.level n):=by
 intro e f K b hi hb;unfold zD at hb⊢;dsimp only at hb⊢;have g:n≤8:=b.2
 by_cases c:n=8
 · simp only[if_pos c]at hb⊢;exact K.good .unary s ⟨b.1,trivial⟩ trivial hb
 · simp only[if_neg c]at hb⊢;have x1:Eat L s (R (.level (n+1)) s).2:=K.post (.level (n+1)) s ⟨b.1,(by show n+1≤8;omega)⟩;have d:Pre L (.levelL n (R (.level (n+1)) s).1) (R (.level (n+1)) s).2:=⟨x1.adv.hi,(by show n < 8;omega)⟩;exact K.good _ _ d (K.good (.level (n+1)) s ⟨b.1,(by show n+1≤8;omega)⟩ trivial (zCo (K.post _ _ d).adv hb)) hb
theorem zQx {n:Nat}:Gd L R s (.levelL n x):=by
 intro j l K d hi hb;unfold zD at hb⊢;dsimp only at hb⊢;have m:n < 8:=d.2
 by_cases c:zBE (zG L s.k)=n
 · simp only[if_pos c]at hb⊢;have e:=j.lt d.1 (zEI jo);have p1:=(K.post (.level (n+1)) (zB s) ⟨e,(by show n+1≤8;omega)⟩).adv;have b:Pre L (.levelL n (trN 46 (zG L s.k).text [x,(R (.level (n+1)) (zB s)).1])) (R (.level (n+1)) (zB s)).2:=⟨p1.hi,m⟩;have o:=zCo (K.post _ _ b).adv hb;have f:=zQp (t:=zG L s.k) jo;have g:zAe 46 (zG L s.k).text=true:=by unfold zAe zI4;simp[zU8]at f⊢;exact f
   exact K.good _ _ b (zSD (.inl rfl) (l _).len g hi (K.good (.level (n+1)) (zB s) ⟨e,(by show n+1≤8;omega)⟩ trivial o)) hb
 · simp only[if_neg c]at hb⊢;exact hi
theorem zT0:Gd L R s .unary:=by
 intro l f K e hi hb;unfold zD at hb⊢;dsimp only at hb⊢
 by_cases c:((zG L s.k).kind=5∨(zG L s.k).kind=6)∧(zG L s.k).text∈zHK
 · simp only[if_pos c]at hb⊢;have j:=l.lt e.1 jo;have b:zAe 43 (zG L s.k).text=true:=by have d:=c.2;unfold zAe zI4;simp[zHK]at d⊢;exact d
   exact⟨zLa jd (f _).len b (K.good .unary (zB s) ⟨j,trivial⟩ trivial hb),rfl⟩
 simp only[if_neg c]at hb⊢
 by_cases c2:((zG L s.k).kind=5∨(zG L s.k).kind=6)∧(zG L s.k).text∈zDO
 · simp only[if_pos c2]at hb⊢;have j:=l.lt e.1 jo
   by_cases c3:(R .unary (zB s)).2.bad=0∧zAB (R .unary (zB s)).1.nd.kind=false
   · simp only[if_pos c3]at hb;exact absurd hb zAp
   simp only[if_neg c3]at hb⊢;have b:zAe 44 (zG L s.k).text=true:=by have d:=c2.2;unfold zAe zI4;simp[zDO]at d⊢;exact d
   have g:GE (R .unary (zB s)).1:=K.good .unary (zB s) ⟨j,trivial⟩ trivial hb;have m:zAB (R .unary (zB s)).1.nd.kind=true:=by
    cases h:zAB (R .unary (zB s)).1.nd.kind with
    | true=>rfl
    | false=>exact absurd ⟨hb,h⟩ c3
   exact zVD (.inl rfl) (f _).len b g.1 m
 simp only[if_neg c2]at hb⊢
 by_cases c3:(zG L (R .calls s).2.k).kind=5∧(zG L (R .calls s).2.k).text∈zDO∧(zG L (R .calls s).2.k).nl=false
 · simp only[if_pos c3]at hb⊢
   by_cases c4:zAB (R .calls s).1.nd.kind=false
   · simp only[if_pos c4]at hb;exact absurd hb zAp
   simp only[if_neg c4]at hb⊢;have b:zAe 45 (zG L (R .calls s).2.k).text=true:=by have d:=c3.2.1;unfold zAe zI4;simp[zDO]at d⊢;exact d
   have g:GE (R .calls s).1:=K.good .calls s ⟨e.1,trivial⟩ trivial hb;exact zVD (.inr rfl) (f _).len b g.1 (by simpa using c4)
 · simp only[if_neg c3]at hb⊢;exact K.good .calls s ⟨e.1,trivial⟩ trivial hb
theorem zT1:Gd L R s .calls:=by
 intro d e K b hi hb;unfold zD at hb⊢;dsimp only at hb⊢;have x1:Eat L s (R .head s).2:=K.post .head s ⟨b.1,trivial⟩;have c:=zCo (K.post (.callsL (R .head s).1) (R .head s).2 ⟨x1.adv.hi,trivial⟩).adv hb;exact K.good (.callsL (R .head s).1) (R .head s).2 ⟨x1.adv.hi,trivial⟩ (K.good .head s ⟨b.1,trivial⟩ trivial c) hb
theorem zQy:Gd L R s (.callsL x):=by
 intro d f K e hi hb;unfold zD at hb⊢;dsimp only at hb⊢
 by_cases c:onP L [40] s=true
 · simp only[if_pos c]at hb⊢;have b:=d.on e.1 c;have x1:Eat L s (R .args s).2:=K.post .args s ⟨e.1,b⟩;have g:=zCo (K.post (.callsL (trK 50 (x::(R .args s).1.subs))) (R .args s).2 ⟨x1.adv.hi,trivial⟩).adv hb;exact K.good (.callsL (trK 50 (x::(R .args s).1.subs))) (R .args s).2 ⟨x1.adv.hi,trivial⟩ (zOh (.inl rfl) hi (K.good .args s ⟨e.1,b⟩ trivial g)) hb
 simp only[if_neg c]at hb⊢
 by_cases c2:onP L [46] s=true
 · simp only[if_pos c2]at hb⊢;have b:=d.on e.1 c2
   by_cases c3:(zG L (zB s).k).kind≠1∧(zG L (zB s).k).kind≠6
   · simp only[if_pos c3]at hb;exact absurd hb zAp
   simp only[if_neg c3]at hb⊢;have j:(zB s).k < L.length - 1:=d.lt b jo;have l:zFv (zG L (zB s).k).text=true:=by
    by_cases h1:(zG L (zB s).k).kind=1
    · exact zJ7 ((f _).name h1)
    · exact(f _).word jo
   exact K.good (.callsL (trN 52 (zG L (zB s).k).text [x])) (zB (zB s)) ⟨j,trivial⟩ ⟨zLa jd (f _).len (by unfold zAe;simp[l]) hi,rfl⟩ hb
 simp only[if_neg c2]at hb⊢
 by_cases c4:onP L [91] s=true
 · simp only[if_pos c4]at hb⊢;have b:=d.on e.1 c4;have p1:=(K.post .assign (zB s) ⟨b,trivial⟩).adv;have y:=zR (w:=[93]) d p1.hi;have p2:=(K.post (.callsL (trK 53 [x,(R .assign (zB s)).1])) (zL L [93] (R .assign (zB s)).2) ⟨y.adv.hi,trivial⟩).adv;have g:=zCo (y.adv.trans p2) hb;exact K.good (.callsL (trK 53 [x,(R .assign (zB s)).1])) (zL L [93] (R .assign (zB s)).2) ⟨y.adv.hi,trivial⟩ (zOi hi (K.good .assign (zB s) ⟨b,trivial⟩ trivial g)) hb
 · simp only[if_neg c4]at hb⊢;exact hi
theorem zT2:Gd L R s (.headL x):=by
 intro c d K e hi hb;unfold zD at hb⊢;dsimp only at hb⊢
 by_cases c2:onP L [46] s=true
 · simp only[if_pos c2]at hb⊢;have b:=c.on e.1 c2
   by_cases c3:(zG L (zB s).k).kind≠1∧(zG L (zB s).k).kind≠6
   · simp only[if_pos c3]at hb;exact absurd hb zAp
   simp only[if_neg c3]at hb⊢;have f:(zB s).k < L.length - 1:=c.lt b jo;have g:zFv (zG L (zB s).k).text=true:=by
    by_cases h1:(zG L (zB s).k).kind=1
    · exact zJ7 ((d _).name h1)
    · exact(d _).word jo
   exact K.good (.headL (trN 52 (zG L (zB s).k).text [x])) (zB (zB s)) ⟨f,trivial⟩ ⟨zLa jd (d _).len (by unfold zAe;simp[g]) hi,rfl⟩ hb
 simp only[if_neg c2]at hb⊢
 by_cases c4:onP L [91] s=true
 · simp only[if_pos c4]at hb⊢;have b:=c.on e.1 c4;have p1:=(K.post .assign (zB s) ⟨b,trivial⟩).adv;have y:=zR (w:=[93]) c p1.hi;have p2:=(K.post (.headL (trK 53 [x,(R .assign (zB s)).1])) (zL L [93] (R .assign (zB s)).2) ⟨y.adv.hi,trivial⟩).adv;have j:=zCo (y.adv.trans p2) hb;exact K.good (.headL (trK 53 [x,(R .assign (zB s)).1])) (zL L [93] (R .assign (zB s)).2) ⟨y.adv.hi,trivial⟩ (zOi hi (K.good .assign (zB s) ⟨b,trivial⟩ trivial j)) hb
 · simp only[if_neg c4]at hb⊢;exact hi
theorem zWn:Gd L R s .head:=by
 intro e k K f hi hb;unfold zD at hb⊢;dsimp only at hb⊢
 by_cases c:onP L [110,101,119] s=true
 · simp only[if_pos c]at hb⊢;have b:=e.on f.1 c;have p1:=(K.post .head (zB s) ⟨b,trivial⟩).adv;have p2:=(K.post (.headL (R .head (zB s)).1) (R .head (zB s)).2 ⟨p1.hi,trivial⟩).adv;have g:(R (.headL (R .head (zB s)).1) (R .head (zB s)).2).2.bad=0→GE (R (.headL (R .head (zB s)).1) (R .head (zB s)).2).1:=fun h=>K.good (.headL (R .head (zB s)).1) (R .head (zB s)).2 ⟨p1.hi,trivial⟩ (K.good .head (zB s) ⟨b,trivial⟩ trivial (zCo p2 h)) h
   by_cases c2:onP L [40] (R (.headL (R .head (zB s)).1) (R .head (zB s)).2).2=true
   · simp only[if_pos c2]at hb⊢;have d:=e.on p2.hi c2;have j:=zCo (K.post .args _ ⟨p2.hi,d⟩).adv hb;exact zOh (.inr rfl) (g j) (K.good .args _ ⟨p2.hi,d⟩ trivial hb)
   · simp only[if_neg c2]at hb⊢;exact zOh (.inr rfl) (g hb) zCS
 · simp only[if_neg c]at hb⊢;exact K.good .primary s ⟨f.1,trivial⟩ trivial hb
theorem zWo:Gd L R s .args:=by
 intro b d K c hi hb;unfold zD at hb⊢;dsimp only at hb⊢;have x:=zR (w:=[40]) b c.1;exact K.good (.list [41]) (zL L [40] s) ⟨x.adv.hi,trivial⟩ trivial hb
theorem zWp {w:List UInt8}:Gd L R s (.list w):=by
 intro d e K b hi hb;unfold zD at hb⊢;dsimp only at hb⊢
 by_cases c:onP L w s=true
 · simp only[if_pos c]at hb⊢;exact zCS
 · simp only[if_neg c]at hb⊢;exact K.good (.listL w []) s ⟨b.1,trivial⟩ zCS hb
theorem zT3 {w:List UInt8}:Gd L R s (.listL w b):=by
 intro e f K d hi hb;unfold zD at hb⊢;dsimp only at hb⊢;have x1:Eat L s (R .assign s).2:=K.post .assign s ⟨d.1,trivial⟩
 by_cases c:(R .assign s).2.bad≠0
 · simp only[if_pos c]at hb;exact absurd hb c
 simp only[if_neg c]at hb⊢;have g1:=K.good .assign s ⟨d.1,trivial⟩ trivial (yAK.1 c)
 by_cases c2:onP L w (R .assign s).2=true
 · simp only[if_pos c2]at hb⊢;exact zAj hi g1
 · simp only[if_neg c2]at hb⊢;have y:=zR (w:=[44]) e x1.adv.hi;exact K.good (.listL w (b++[(R .assign s).1])) (zL L [44] (R .assign s).2) ⟨y.adv.hi,trivial⟩ (zAj hi g1) hb
theorem zWq:Gd L R s (.objL b):=by
 intro e f K d hi hb;unfold zD at hb⊢;dsimp only at hb⊢;have x1:Eat L s (R .prop s).2:=K.post .prop s ⟨d.1,trivial⟩
 by_cases c:(R .prop s).2.bad≠0
 · simp only[if_pos c]at hb;exact absurd hb c
 simp only[if_neg c]at hb⊢;have g1:=K.good .prop s ⟨d.1,trivial⟩ trivial (yAK.1 c)
 by_cases c2:onP L [125] (R .prop s).2=true
 · simp only[if_pos c2]at hb⊢;exact zLZ (zAj hi g1)
 · simp only[if_neg c2]at hb⊢;have y:=zR (w:=[44]) e x1.adv.hi;exact K.good (.objL (b++[(R .prop s).1])) (zL L [44] (R .prop s).2) ⟨y.adv.hi,trivial⟩ (zAj hi g1) hb
theorem zQz:Gd L R s .object:=by
 intro d e K b hi hb;unfold zD at hb⊢;dsimp only at hb⊢
 by_cases c:onP L [125] s=true
 · simp only[if_pos c]at hb⊢;exact zLZ zCS
 · simp only[if_neg c]at hb⊢;exact K.good (.objL []) s ⟨b.1,trivial⟩ zCS hb
theorem zNh:∀(m n:Nat),n < 10^(m+1)→(zBZ n).length≤m+1:=by
 intro m
 induction m with
 | zero=>intro n h;rw[zB6 jo];simp
 | succ m b=>
  intro n h
  by_cases c:n < 10
  · rw[zB6 c];simp
  · rw[zC5 c,List.length_append];have d:=b (n / 10) (by rw[Nat.div_lt_iff_lt_mul jd];rw[Nat.pow_succ]at h;exact h);simp only[List.length_singleton];omega
theorem zT4 {t:Tok} (h:TG t) (b:zBJ t=some u):u.length≤4096:=by
 have d:∀a:List UInt8,(zU a).length=a.length:=fun a=>by simp[zU]
 unfold zBJ at b;split at b
 · rename_i c;cases b;exact h.str c
 split at b
 · rename_i c;cases b
   rw[d];have:=zNh 15 t.nn.toNat (by have:=h.num c;omega);omega
 split at b
 · cases b;rw[d];exact h.len
 · cases b
theorem zNi:Gd L R s .primary:=by
 intro d c K f hi hb;unfold zD at hb⊢;dsimp only at hb⊢
 by_cases c0:(zG L s.k).kind=0
 · simp only[if_pos c0]at hb;exact absurd hb zAp
 simp only[if_neg c0]at hb⊢;have b:=d.lt f.1 c0
 by_cases c1:(zG L s.k).kind=2
 · simp only[if_pos c1]at hb⊢;obtain⟨h1,j,l⟩:=(c s.k).num c1;show GE (.mk {zBo with kind:=30,nk:=(zG L s.k).nk,nn:=(zG L s.k).nn} []);rw[h1];exact zYg j l
 simp only[if_neg c1]at hb⊢
 by_cases c2:(zG L s.k).kind=3
 · simp only[if_pos c2]at hb⊢;exact zYh ((c _).big c2)
 simp only[if_neg c2]at hb⊢
 by_cases c3:(zG L s.k).kind=4
 · simp only[if_pos c3]at hb⊢;exact zYi ((c _).str c3)
 simp only[if_neg c3]at hb⊢
 by_cases c4:(zG L s.k).kind=1
 · simp only[if_pos c4]at hb⊢;exact⟨zGf jd (c _).len (zBL jd ((c _).name c4)),rfl⟩
 simp only[if_neg c4]at hb⊢
 by_cases d0:(zG L s.k).text=[116,114,117,101]
 · simp only[if_pos d0]at hb⊢;exact⟨zDx jd,rfl⟩
 simp only[if_neg d0]at hb⊢
 by_cases d1:(zG L s.k).text=[102,97,108,115,101]
 · simp only[if_pos d1]at hb⊢;exact⟨zDx jd,rfl⟩
 simp only[if_neg d1]at hb⊢
 by_cases d2:(zG L s.k).text=[110,117,108,108]
 · simp only[if_pos d2]at hb⊢;exact⟨zDx jd,rfl⟩
 simp only[if_neg d2]at hb⊢
 by_cases d3:(zG L s.k).text=[116,104,105,115]
 · simp only[if_pos d3]at hb⊢;exact⟨zDx jd,rfl⟩
 simp only[if_neg d3]at hb⊢
 by_cases e1:(zG L s.k).text=[91]
 · simp only[if_pos e1]at hb⊢;have g:∀t∈(R (.list [93]) (zB s)).1.subs,GE t:=K.good (.list [93]) (zB s) ⟨b,trivial⟩ trivial hb;exact zVt g
 simp only[if_neg e1]at hb⊢
 by_cases e2:(zG L s.k).text=[123]
 · simp only[if_pos e2]at hb⊢;exact K.good .object (zB s) ⟨b,trivial⟩ trivial hb
 simp only[if_neg e2]at hb⊢
 by_cases e3:(zG L s.k).text=[102,117,110,99,116,105,111,110]
 · simp only[if_pos e3]at hb⊢
   by_cases e4:(zG L (zB s).k).kind=1
   · simp only[if_pos e4]at hb⊢;have y:=zAi (s:=zB s) d b;have m:=zCo (K.post (.func 41 (zc L (zB s)).1) (zc L (zB s)).2 ⟨y.adv.hi,trivial⟩).adv hb;obtain⟨o,e,p⟩:=zNf m;have hg:GI (.func 41 (zc L (zB s)).1):=⟨.inr rfl,by rw[e];exact(c _).len,by rw[e];exact zBL jd ((c _).name o)⟩;obtain⟨g1,g2⟩:=K.good (.func 41 (zc L (zB s)).1) (zc L (zB s)).2 ⟨y.adv.hi,trivial⟩ hg hb;exact⟨g1,by rw[g2];decide⟩
   · simp only[if_neg e4]at hb⊢;obtain⟨g1,g2⟩:=K.good (.func 41 []) (zB s) ⟨b,trivial⟩ ⟨.inr rfl,by simp,by decide⟩ hb;exact⟨g1,by rw[g2];decide⟩
 simp only[if_neg e3]at hb⊢
 by_cases e5:(zG L s.k).text=[40]
 · simp only[if_pos e5]at hb⊢;have x1:Eat L _ (R .assign (zB s)).2:=K.post .assign (zB s) ⟨b,trivial⟩;have g:GE (R .assign (zB s)).1:=K.good .assign (zB s) ⟨b,trivial⟩ trivial (zCo (zR (w:=[41]) d x1.adv.hi).adv hb);exact g
 simp only[if_neg e5]at hb⊢;exfalso;revert hb;show(if(onP L [47] s || onP L [47,61] s)=true then zC6 L 6 s else za L s).bad=0→False;split
 · exact zDT jd
 · exact zAp
theorem zWr:Gd L R s .prop:=by
 intro d b K j hi hb;unfold zD at hb⊢;dsimp only at hb⊢;rcases ht:zBJ (zG L s.k)with _ | u
 · simp only[ht]at hb;exact absurd hb zAp
 simp only[ht]at hb⊢;have e:=zT4 (b _) ht;have f:=d.lt j.1 (zDt ht)
 by_cases c:(zG L s.k).kind=1∧onP L [58] (zB s)=false
 · simp only[if_pos c]at hb⊢;exact zVE e ⟨zGf jd (b _).len (zBL jd ((b _).name c.1)),rfl⟩
 · simp only[if_neg c]at hb⊢;have y:=zR (s:=zB s) (w:=[58]) d f;have g:GE (R .assign (zL L [58] (zB s))).1:=K.good .assign (zL L [58] (zB s)) ⟨y.adv.hi,trivial⟩ trivial hb;exact zVE e g
theorem zJ8:Gd L R s .statement:=by
 intro d e K b hi hb;unfold zD at hb⊢;dsimp only at hb⊢
 by_cases c:(zG L s.k).kind=1∧isT (zAm L s.k 1) [58]=true
 · simp only[if_pos c]at hb⊢;have f:=d.lt b.1 (by rw[c.1];decide);have m:=zIK d f c.2;have y:(zB (zB s)).k≤L.length - 1:=m;have g:GD L (R .statement (zB (zB s))):=K.good .statement (zB (zB s)) ⟨y,trivial⟩ trivial hb;exact⟨⟨zVy (e _).len (zBL jd ((e _).name c.1)) g.1,rfl⟩,fun h=>g.2 (by
    have j:dangT (.mk {zBo with kind:=18,name:=(zG L s.k).text} [(R .statement (zB (zB s))).1])=true:=h;rw[zCw,if_neg js,if_pos (.inr (.inr (.inr rfl))),zDv]at j;exact j)⟩
 simp only[if_neg c]at hb⊢
 by_cases c2:(zG L s.k).kind=6
 · simp only[if_pos c2]at hb⊢;exact K.good (.word (zG L s.k).text) s ⟨b.1,d.lt b.1 (by rw[c2];decide)⟩ trivial hb
 simp only[if_neg c2]at hb⊢
 by_cases c3:onP L [59] s=true
 · simp only[if_pos c3]at hb⊢;exact GD.plain ⟨zDx jd,rfl⟩ (zC8 jd)
 simp only[if_neg c3]at hb⊢
 by_cases c4:onP L [123] s=true
 · simp only[if_pos c4]at hb⊢;have g:GQ 4 (R .block s).1:=K.good .block s ⟨b.1,trivial⟩ trivial hb;refine GD.plain ⟨g.1,by rw[g.2];decide⟩ ?_;have:=g.2;rcases hr:(R .block s).1 with⟨x,l⟩;rw[hr]at this;exact zC8 (by rw[show x.kind=4 from this];decide)
 simp only[if_neg c4]at hb⊢;exact K.good .simple s ⟨b.1,trivial⟩ trivial hb
theorem zQ0:Gd L R s .simple:=by
 intro c d K b hi hb;unfold zD at hb⊢;dsimp only at hb⊢;have x1:Eat L s (R .assign s).2:=K.post .assign s ⟨b.1,trivial⟩;have g:GE (R .assign s).1:=K.good .assign s ⟨b.1,trivial⟩ trivial (zCo (zBV c x1.adv.hi) hb);exact GD.plain ⟨zVv jd g,rfl⟩ (zC8 jd)
theorem zWs {w:List UInt8}:Gd L R s (.word w):=by
 intro j q K d hi hb;unfold zD at hb⊢;dsimp only at hb⊢;have b:s.k < L.length - 1:=d.2
 by_cases c1:w=[105,102]
 · simp only[if_pos c1]at hb⊢;have p1:=(K.post .within (zB s) ⟨b,trivial⟩).adv;have p2:=(K.post .statement (R .within (zB s)).2 ⟨p1.hi,trivial⟩).adv;have gg:(R .statement (R .within (zB s)).2).2.bad=0→GE (R .within (zB s)).1∧GD L (R .statement (R .within (zB s)).2):=fun h=>
    ⟨K.good .within (zB s) ⟨b,trivial⟩ trivial (zCo p2 h),K.good .statement (R .within (zB s)).2 ⟨p1.hi,trivial⟩ trivial h⟩
   by_cases c:onP L [101,108,115,101] (R .statement (R .within (zB s)).2).2=true
   · simp only[if_pos c]at hb⊢;have f:=j.on p2.hi c;have p3:=(K.post .statement (zB (R .statement (R .within (zB s)).2).2) ⟨f,trivial⟩).adv;obtain⟨g1,g2⟩:=gg (zCo (x:=zB (R .statement (R .within (zB s)).2).2) p3 hb);have l:GD L (R .statement (zB (R .statement (R .within (zB s)).2).2)):=K.good .statement (zB (R .statement (R .within (zB s)).2).2) ⟨f,trivial⟩ trivial hb;have p:dangT (R .statement (R .within (zB s)).2).1=false:=by
      cases h:dangT (R .statement (R .within (zB s)).2).1 with
      | false=>rfl
      | true=>exact absurd c (g2.2 h)
     exact⟨⟨zYe g1 g2.1 p l.1,by show zCM 8=true;decide⟩,fun h=>l.2 (by
      have e:dangT (.mk {zBo with kind:=8} [(R .within (zB s)).1,(R .statement (R .within (zB s)).2).1,(R .statement (zB (R .statement (R .within (zB s)).2).2)).1])=true:=h;rw[zCw,if_neg js,if_pos jd,zCg,zCg,zDv]at e;exact e)⟩
   · simp only[if_neg c]at hb⊢;obtain⟨g1,g2⟩:=gg hb;exact⟨⟨zYd g1 g2.1,by show zCM 8=true;decide⟩,fun _=>c⟩
 simp only[if_neg c1]at hb⊢
 by_cases c2:w=[119,104,105,108,101]
 · simp only[if_pos c2]at hb⊢;have p1:=(K.post .within (zB s) ⟨b,trivial⟩).adv;have p2:=(K.post .statement (R .within (zB s)).2 ⟨p1.hi,trivial⟩).adv;have g1:GE (R .within (zB s)).1:=K.good .within (zB s) ⟨b,trivial⟩ trivial (zCo p2 hb);have g2:GD L (R .statement (R .within (zB s)).2):=K.good .statement (R .within (zB s)).2 ⟨p1.hi,trivial⟩ trivial hb;exact⟨⟨zVw g1 g2.1,by show zCM 9=true;decide⟩,fun h=>g2.2 (by
    have e:dangT (.mk {zBo with kind:=9} [(R .within (zB s)).1,(R .statement (R .within (zB s)).2).1])=true:=h;rw[zCw,if_neg js,if_pos jd,zCg,zDv]at e;exact e)⟩
 simp only[if_neg c2]at hb⊢
 by_cases c3:w=[102,111,114]
 · simp only[if_pos c3]at hb⊢;exact K.good .loop s ⟨d.1,b⟩ trivial hb
 simp only[if_neg c3]at hb⊢
 by_cases c4:w=[98,114,101,97,107]
 · simp only[if_pos c4]at hb⊢;exact K.good (.jump 12) s ⟨d.1,b⟩ (.inl rfl) hb
 simp only[if_neg c4]at hb⊢
 by_cases c5:w=[99,111,110,116,105,110,117,101]
 · simp only[if_pos c5]at hb⊢;exact K.good (.jump 13) s ⟨d.1,b⟩ (.inr rfl) hb
 simp only[if_neg c5]at hb⊢
 by_cases c6:w=[114,101,116,117,114,110]
 · simp only[if_pos c6]at hb⊢
   by_cases c:zDe L (zB s)=true
   · simp only[if_pos c]at hb⊢;exact GD.plain ⟨zDx jd,rfl⟩ (zC8 jd)
   · simp only[if_neg c]at hb⊢;have x1:Eat L _ (R .assign (zB s)).2:=K.post .assign (zB s) ⟨b,trivial⟩;have g:GE (R .assign (zB s)).1:=K.good .assign (zB s) ⟨b,trivial⟩ trivial (zCo (zBV j x1.adv.hi) hb);exact GD.plain ⟨zVv jd g,rfl⟩ (zC8 jd)
 simp only[if_neg c6]at hb⊢
 by_cases c7:w=[116,104,114,111,119]
 · simp only[if_pos c7]at hb⊢;have y:Adv L (zB s) (if(zG L (zB s).k).nl=true then za L (zB s)else zB s):=by
    split
    · exact(zy (s:=zB s) b).adv
    · exact Adv.refl (s:=zB s) b
   obtain⟨s1,m⟩:=jx ((if(zG L (zB s).k).nl=true then za L (zB s)else zB s));rw[m]at y hb⊢;have x1:Eat L _ (R .assign s1).2:=K.post .assign s1 ⟨y.hi,trivial⟩;have g:GE (R .assign s1).1:=K.good .assign s1 ⟨y.hi,trivial⟩ trivial (zCo (zBV j x1.adv.hi) hb);exact GD.plain ⟨zVv jd g,rfl⟩ (zC8 jd)
 simp only[if_neg c7]at hb⊢
 by_cases c8:w=[116,114,121]
 · simp only[if_pos c8]at hb⊢;exact K.good .tries s ⟨d.1,b⟩ trivial hb
 simp only[if_neg c8]at hb⊢
 by_cases o:w=[102,117,110,99,116,105,111,110]∨w=[108,101,116]∨w=[99,111,110,115,116]
 · simp only[if_pos o]at hb;exact absurd hb zAp
 simp only[if_neg o]at hb⊢;exact K.good .simple s ⟨d.1,trivial⟩ trivial hb
theorem zF4 (K:Kg L R) {a:Tr×Ps} (b:a.2.k≤L.length - 1) (hg:a.2.bad=0→GB a.1)
 (hb:(R .statement (R (.clause [41]) (R (.clause [59]) a.2).2).2).2.bad=0):
 GD L (trK 10 [a.1,(R (.clause [59]) a.2).1,(R (.clause [41]) (R (.clause [59]) a.2).2).1,(R .statement (R (.clause [41]) (R (.clause [59]) a.2).2).2).1],(R .statement (R (.clause [41]) (R (.clause [59]) a.2).2).2).2):=by
 have p1:=(K.post (.clause [59]) a.2 ⟨b,trivial⟩).adv;have p2:=(K.post (.clause [41]) (R (.clause [59]) a.2).2 ⟨p1.hi,trivial⟩).adv;have p3:=(K.post .statement (R (.clause [41]) (R (.clause [59]) a.2).2).2 ⟨p2.hi,trivial⟩).adv;have c:=zCo p3 hb;have d:=zCo p2 c;have g1:GC (R (.clause [59]) a.2).1:=K.good (.clause [59]) a.2 ⟨b,trivial⟩ trivial d;have g2:GC (R (.clause [41]) (R (.clause [59]) a.2).2).1:=K.good (.clause [41]) (R (.clause [59]) a.2).2 ⟨p1.hi,trivial⟩ trivial c;have e:GD L (R .statement (R (.clause [41]) (R (.clause [59]) a.2).2).2):=K.good .statement _ ⟨p2.hi,trivial⟩ trivial hb;exact⟨⟨zYf (hg (zCo p1 d)) g1 g2 e.1,by show zCM 10=true;decide⟩,fun h=>e.2 (by
  have f:dangT (.mk {zBo with kind:=10} [a.1,(R (.clause [59]) a.2).1,(R (.clause [41]) (R (.clause [59]) a.2).2).1,(R .statement (R (.clause [41]) (R (.clause [59]) a.2).2).2).1])=true:=h;rw[zCw,if_neg js,if_pos jd,zCg,zCg,zCg,zDv]at f;exact f)⟩
theorem zWt:Gd L R s .loop:=by
 intro b j K f hi hb;unfold zD at hb⊢;dsimp only at hb⊢;have d:s.k < L.length - 1:=f.2;have x:=zR (s:=zB s) (w:=[40]) b d;obtain⟨s1,e⟩:=jx (zL L [40] (zB s));rw[e]at x hb⊢
 by_cases c:(onP L [108,101,116] s1 || onP L [99,111,110,115,116] s1)=true
 · simp only[if_pos c]at hb⊢;have x1:Eat L s1 (R .declares s1).2:=K.post .declares s1 ⟨x.adv.hi,trivial⟩;have y:=zR (w:=[59]) b x1.adv.hi;refine zF4 K (a:=((R .declares s1).1,zL L [59] (R .declares s1).2)) y.adv.hi (fun h=>?_) hb;obtain⟨g1,g2⟩:=K.good .declares s1 ⟨x.adv.hi,trivial⟩ trivial (zCo y.adv h);exact⟨g1,by show zx 10 (R .declares s1).1.nd.kind=true;rcases g2 with g2 | g2<;>(rw[g2];decide)⟩
 · simp only[if_neg c]at hb⊢;have x1:Eat L s1 (R (.clause [59]) s1).2:=K.post (.clause [59]) s1 ⟨x.adv.hi,trivial⟩;refine zF4 K (a:=R (.clause [59]) s1) x1.adv.hi (fun h=>?_) hb;have g:GC (R (.clause [59]) s1).1:=K.good (.clause [59]) s1 ⟨x.adv.hi,trivial⟩ trivial h;exact g.begin
theorem zWu:Gd L R s (.jump k):=by
 intro e b K j hi hb;unfold zD at hb⊢;dsimp only at hb⊢;have f:s.k < L.length - 1:=j.2;have hk:k=12∨k=13:=hi;have hs:zCM k=true:=by rcases hk with rfl | rfl<;>decide
 have d:¬(k=8∨k=9∨k=10∨k=18):=by omega
 by_cases c:(zG L (zB s).k).kind=1∧(zG L (zB s).k).nl=false
 · simp only[if_pos c]at hb⊢;have x:=zAi (s:=zB s) e f;obtain⟨g,l,_⟩:=zNf (zCo (zBV e x.adv.hi) hb);refine GD.plain ⟨?_,hs⟩ (zC8 d);rw[l];rcases hk with rfl | rfl
   · exact zGf jd (b _).len (zBL jd ((b _).name g))
   · exact zGf jd (b _).len (zBL jd ((b _).name g))
 · simp only[if_neg c]at hb⊢;refine GD.plain ⟨?_,hs⟩ (zC8 d);rcases hk with rfl | rfl
   · exact zDx jd
   · exact zDx jd
theorem zFP (j:Lst L) (K:Kg L R) {b:Tr} {c:Tr×Ps} (l:c.2.k≤L.length - 1) (hg:c.2.bad=0→GQ 4 b∧goodT c.1=true∧(c.1.nd.kind=17∨(c.1.nd.kind=11∧onP L [102,105,110,97,108,108,121] c.2=true)))
 (hb:(if onP L [102,105,110,97,108,108,121] c.2=true then(trK 16 [b,c.1,(R .block (zB c.2)).1],(R .block (zB c.2)).2)else(trK 16 [b,c.1,trK 11 []],c.2)).2.bad=0):
 GD L (if onP L [102,105,110,97,108,108,121] c.2=true then(trK 16 [b,c.1,(R .block (zB c.2)).1],(R .block (zB c.2)).2)else(trK 16 [b,c.1,trK 11 []],c.2)):=by
 by_cases c1:onP L [102,105,110,97,108,108,121] c.2=true
 · simp only[if_pos c1]at hb⊢;have f:=j.on l c1;have p:=(K.post .block (zB c.2) ⟨f,trivial⟩).adv;obtain⟨g1,g2,d⟩:=hg (zCo (x:=zB c.2) p hb);have e:GQ 4 (R .block (zB c.2)).1:=K.good .block (zB c.2) ⟨f,trivial⟩ trivial hb;exact GD.plain ⟨zXj g1 g2 e.1 (by rcases d with h | h;exact .inr h;exact .inl h.1) (.inr e.2) (.inr e.2),by show zCM 16=true;decide⟩ (zC8 jd)
 · simp only[if_neg c1]at hb⊢;obtain⟨g1,g2,d⟩:=hg hb;have g:c.1.nd.kind=17:=by
    rcases d with h | h
    · exact h
    · exact absurd h.2 c1
   exact GD.plain ⟨zXj g1 g2 (zDx jd) (.inr g) (.inl rfl) (.inl g),by show zCM 16=true;decide⟩ (zC8 jd)
theorem zEi (f:Lst L) (g:TL L) (K:Kg L R) {b:Tr} {n:List UInt8×Ps} (d:n.2.k≤L.length - 1) (hg:n.2.bad=0→GQ 4 b∧n.1.length≤4096∧zAe 17 n.1=true)
 (hb:(if onP L [102,105,110,97,108,108,121] (R .block n.2).2=true then(trK 16 [b,trN 17 n.1 [(R .block n.2).1],(R .block (zB (R .block n.2).2)).1],(R .block (zB (R .block n.2).2)).2)else(trK 16 [b,trN 17 n.1 [(R .block n.2).1],trK 11 []],(R .block n.2).2)).2.bad=0):
 GD L (if onP L [102,105,110,97,108,108,121] (R .block n.2).2=true then(trK 16 [b,trN 17 n.1 [(R .block n.2).1],(R .block (zB (R .block n.2).2)).1],(R .block (zB (R .block n.2).2)).2)else(trK 16 [b,trN 17 n.1 [(R .block n.2).1],trK 11 []],(R .block n.2).2)):=by
 have _:=g;have p:=(K.post .block n.2 ⟨d,trivial⟩).adv;refine zFP f K (c:=(trN 17 n.1 [(R .block n.2).1],(R .block n.2).2)) p.hi (fun h=>?_) hb;obtain⟨g1,g2,j⟩:=hg (zCo p h);have e:=zVx g2 j (K.good .block n.2 ⟨d,trivial⟩ trivial h);exact⟨g1,e.1,.inl e.2⟩
theorem zT5:Gd L R s .tries:=by
 intro b d K q hi hb;unfold zD at hb⊢;dsimp only at hb⊢;have e:s.k < L.length - 1:=q.2;have p1:=(K.post .block (zB s) ⟨e,trivial⟩).adv;have g:(R .block (zB s)).2.bad=0→GQ 4 (R .block (zB s)).1:=K.good .block (zB s) ⟨e,trivial⟩ trivial;have hs:∃s1,(if(onP L [99,97,116,99,104] (R .block (zB s)).2 || onP L [102,105,110,97,108,108,121] (R .block (zB s)).2)=true then(R .block (zB s)).2 else za L (R .block (zB s)).2)=s1∧Adv L (R .block (zB s)).2 s1∧(s1.bad=0→onP L [99,97,116,99,104] s1=true∨onP L [102,105,110,97,108,108,121] s1=true):=by
  refine⟨_,rfl,?_,?_⟩
  · split
    · exact Adv.refl p1.hi
    · exact(zy p1.hi).adv
  · split
    · rename_i h
      intro _;rw[Bool.or_eq_true]at h;exact h
    · intro h;exact absurd h zAp
 obtain⟨s1,l,y,m⟩:=hs;rw[l]at hb⊢
 by_cases c:onP L [99,97,116,99,104] s1=true
 · simp only[if_pos c]at hb⊢;have f:=b.on y.hi c
   by_cases c2:onP L [40] (zB s1)=true
   · simp only[if_pos c2]at hb⊢;have o:=b.on (s:=zB s1) f c2;have u:=zAi (s:=zB (zB s1)) b o;have v:=zR (w:=[41]) b u.adv.hi;refine zEi b d K (n:=((zc L (zB (zB s1))).1,zL L [41] (zc L (zB (zB s1))).2)) v.adv.hi (fun h=>?_) hb;have j:=zCo v.adv h;obtain⟨r,p,t⟩:=zNf j;rw[t]at j;exact⟨g (zCo y j),by show(zc L (zB (zB s1))).1.length≤4096;rw[p];exact(d _).len,by show zAe 17 (zc L (zB (zB s1))).1=true;rw[p];exact zBL jd ((d _).name r)⟩
   · simp only[if_neg c2]at hb⊢;exact zEi b d K (n:=([],zB s1)) f (fun h=>⟨g (zCo y h),by simp,by show zAe 17 []=true;decide⟩) hb
 · simp only[if_neg c]at hb⊢;refine zFP b K (c:=(trK 11 [],s1)) y.hi (fun h=>⟨g (zCo y h),zDx jd,.inr ⟨rfl,?_⟩⟩) hb;rcases m h with h1 | h1
   · exact absurd h1 c
   · exact h1
theorem zWv:∀p:Ph,Gd L R s p
 | .program _=>zNg
 | .block=>zTw
 | .blockL _=>zQq
 | .item=>zWi
 | .declares=>zK5
 | .declL _ _=>zTx
 | .func _ _=>zWj
 | .params=>zQr
 | .paramL _=>zQs
 | .statement=>zJ8
 | .simple=>zQ0
 | .word _=>zWs
 | .within=>zQt
 | .clause _=>zQu
 | .loop=>zWt
 | .jump _=>zWu
 | .tries=>zT5
 | .assign=>zQv
 | .body _=>zWk
 | .cond=>zWl
 | .either=>zQw
 | .nullL _=>zTy
 | .orL _=>zX4
 | .both _=>zWm
 | .level _=>zTz
 | .levelL _ _=>zQx
 | .unary=>zT0
 | .calls=>zT1
 | .callsL _=>zQy
 | .head=>zWn
 | .headL _=>zT2
 | .args=>zWo
 | .list _=>zWp
 | .listL _ _=>zT3
 | .primary=>zNi
 | .object=>zQz
 | .objL _=>zWq
 | .prop=>zWr
end
theorem zX5 {L:List Tok} (c:Lst L) (d:TL L):∀(f:Nat) (p:Ph) (s:Ps),Pre L p s→GI p→(zF9 L f p s).2.bad=0→GR L p (zF9 L f p s):=by
 intro f
 induction f with
 | zero=>intro p s _ _ h;exact absurd h (zDT jd)
 | succ f e=>
  intro p s g hi hb;exact zWv p c d ⟨fun q s1 b=>zIM c f q s1 b,fun q s1 b hg h=>e q s1 b hg h⟩ g hi hb
theorem zJ9 {L:List Tok} (b:Lst L) (c:TL L) (hb:(zE L (.program []) ⟨0,0,0⟩).2.bad=0):GQ 1 (zE L (.program []) ⟨0,0,0⟩).1:=
 zX5 b c _ (.program []) ⟨0,0,0⟩ ⟨yAE _,trivial⟩ zCS hb
theorem zNj:∀{f w:Nat},w < 4294967296^f→zBQ f w=[]→w=0:=by
 intro f w h b;cases f with
 | zero=>omega
 | succ f=>
  rw[zBQ]at b;split at b
  · assumption
  · cases b
theorem zK6:∀(f v:Nat),v < 4294967296^f→∀x,(zBQ f v).getLast? =some x→x≠0:=by
 intro f
 induction f with
 | zero=>intro v _ x h;cases h
 | succ f c=>
  intro v hv x h;rw[zBQ]at h;split at h
  · cases h
  · rename_i d
    have b:v / 4294967296 < 4294967296^f:=by
     rw[Nat.div_lt_iff_lt_mul jd];rw[Nat.pow_succ]at hv;exact hv
    rw[List.getLast?_cons]at h;injection h with h;cases hl:(zBQ f (v / 4294967296)).getLast? with
    | none=>
     rw[hl]at h;have h1:zBQ f (v / 4294967296)=[]:=List.getLast?_eq_none_iff.1 hl;have e:=zNj b h1;simp only[Option.getD_none]at h;omega
    | some y=>
     rw[hl]at h;simp only[Option.getD_some]at h;subst h;exact c _ b _ hl
theorem zWw {v:Nat} (h:v < zGR):zBR false (limbs v)=true:=by
 unfold zBR;rw[decide_eq_true (zE9 h),Bool.true_and];cases hl:(limbs v).getLast? with
 | none=>rfl
 | some x=>
  have b:v < 4294967296^9:=yAA h (by unfold zGR;exact Nat.pow_le_pow_right jd jd);have:=zK6 9 v b x hl;simp[this]
structure TGn (t:Tok):Prop where
 num:t.kind=2→t.nk=0∧0≤t.nn∧t.nn≤9007199254740991
 big:t.kind=3→zBR false t.mag=true
 limb:∀y∈t.mag,y < 4294967296
theorem TGn.other {t:Tok} (b:t.kind≠2) (c:t.kind≠3) (d:t.mag=[]):TGn t:=⟨fun h=>absurd h b,fun h=>absurd h c,by rw[d];simp⟩
theorem zQ1 {z:Bool} {l:List UInt16} (h:(zAY z l).1=0):TGn (zAY z l).2.1:=by
 cases l with
 | nil=>exact absurd (show(5:Nat)=0 from h) jd
 | cons x r=>
  rw[zBC]at h⊢;split
  · unfold zCp;split
    · exact .other (by simp[zq,bad]) (by simp[zq,bad]) (by simp[zq,bad])
    · refine .other ?_ ?_ rfl<;>(simp only;split<;>decide)
  · rename_i c
    rw[if_neg c]at h;split
    · rename_i b
      rw[if_pos b]at h;unfold zBn zB1 at h⊢;split
      · exact .other (by simp[zq,bad]) (by simp[zq,bad]) (by simp[zq,bad])
      · rename_i c1
        rw[if_neg c1]at h;split
        · rename_i c2
          rw[if_pos c2]at h;unfold zI1 at h⊢;split
          · exact .other (by simp[zq,bad]) (by simp[zq,bad]) (by simp[zq,bad])
          · rename_i c3
            split
            · exact .other (by simp[zq,bad]) (by simp[zq,bad]) (by simp[zq,bad])
            · exact⟨fun h=>absurd h js,fun _=>zWw (Nat.lt_of_not_le c3),zGG _⟩
        · split
          · exact .other (by simp[zq,bad]) (by simp[zq,bad]) (by simp[zq,bad])
          · split
            · exact .other (by simp[zq,bad]) (by simp[zq,bad]) (by simp[zq,bad])
            · split
              · exact .other (by simp[zq,bad]) (by simp[zq,bad]) (by simp[zq,bad])
              · rename_i c5
                exact⟨fun _=>⟨rfl,Int.natCast_nonneg _,by show((zw _:Nat):Int)≤_;omega⟩,fun h=>absurd h js,by simp[zq]⟩
    · rename_i b
      rw[if_neg b]at h;split
      · unfold zA3;split<;>exact .other (by simp[zq,bad]) (by simp[zq,bad]) (by simp[zq,bad])
      · split
        · exact .other (by simp[zq,bad]) (by simp[zq,bad]) (by simp[zq,bad])
        · unfold zCL;split
          · split<;>exact .other (by simp[zq,bad]) (by simp[zq,bad]) (by simp[zq,bad])
          · split<;>exact .other (by simp[zq,bad]) (by simp[zq,bad]) (by simp[zq,bad])
theorem zQ2 (h:zC3 u=(ts,a,0)):TL ts:=by
 have d:u.length≤4096:=by
  apply Nat.le_of_not_lt;intro d;unfold zC3 at h;rw[if_pos d]at h;simp only[Prod.mk.injEq]at h;omega
 have c:=zHy d;rw[h]at c;have f:∀t∈ts,t.kind=0∨(TGn t∧(t.kind=1→zBi t.text=true)∧(t.kind=6→zFv t.text=true)):=by
  have g:ts=(zEX (u.length+1) 0 u).1:=by
   unfold zC3 at h;rw[jn]at h;rw[h]
  rw[g];refine zS9 (Q:=fun t=>TGn t∧(t.kind=1→zBi t.text=true)∧(t.kind=6→zFv t.text=true)) (fun z l j k nl=>?_) _ _ _;have b:=zQ1 j;have m:=zL9 j;refine⟨⟨b.num,b.big,b.limb⟩,fun hk=>?_,fun hk=>?_⟩
  · exact(m.txt (.inl hk)).2.2.1.1 hk
  · exact zS4 ((m.txt (.inr (.inr hk))).2.2.2.2.1 hk)
 intro i
 by_cases hi:i < ts.length
 · have o:zG ts i∈ts:=by
    unfold zG;rw[yAG,yAB hi];exact List.getElem_mem hi
   have hs:=(c _ o).1;rcases f _ o with p | ⟨h1,g,b⟩
   · exact⟨fun h=>by omega,fun h=>by omega,fun h=>by omega,fun h=>by omega,fun h=>by omega,by have:=hs.text;omega⟩
   · exact⟨g,b,h1.num,h1.big,fun _=>by have:=hs.str;omega,by have:=hs.text;omega⟩
 · have e:zG ts i=zq:=by
    unfold zG;rw[yAG,List.getElem?_eq_none jo];rfl
   rw[e];exact⟨fun h=>absurd h jd,fun h=>absurd h jd,fun h=>absurd h jd,fun h=>absurd h jd,fun h=>absurd h jd,by simp[zq]⟩
theorem zQ3 {Q:Tok→Prop} (c:∀k nl,Q (setAt zq k nl)) (d:∀z l,(zAY z l).1=0→∀k nl,Q (setAt (zAY z l).2.1 k nl)):∀(f k:Nat) (l:List UInt16),∀t∈(zEX f k l).1,Q t:=by
 intro f
 induction f with
 | zero=>intro k l t b;cases b
 | succ f e=>
  intro k l t b;rw[zEX]at b;split at b
  · cases b
  · split at b
    · simp only[List.mem_singleton]at b;subst b;exact c _ _
    · split at b
      · cases b
      · rename_i g
        unfold zFW at b;split at b
        · cases b
        · rcases List.mem_cons.1 b with rfl | j
          · exact d _ _ (yAK.1 g) _ _
          · exact e _ _ t j
def zX6 (L:List Tok):Prop:=∀i,∀y∈(zG L i).mag,y < 4294967296
theorem zQ4 (h:zC3 u=(ts,a,0)):zX6 ts:=by
 have b:¬4096 < u.length:=by
  intro b;unfold zC3 at h;rw[if_pos b]at h;simp only[Prod.mk.injEq]at h;omega
 have c:∀t∈ts,∀y∈t.mag,y < 4294967296:=by
  have d:ts=(zEX (u.length+1) 0 u).1:=by
   unfold zC3 at h;rw[if_neg b]at h;rw[h]
  rw[d];exact zQ3 (Q:=fun t=>∀y∈t.mag,y < 4294967296) (fun k nl=>by simp[setAt,zq]) (fun z l f k nl=>(zQ1 f).limb) _ _ _
 intro i
 by_cases hi:i < ts.length
 · have g:zG ts i∈ts:=by
    unfold zG;rw[yAG,yAB hi];exact List.getElem_mem hi
   exact c _ g
 · have e:zG ts i=zq:=by
    unfold zG;rw[yAG,List.getElem?_eq_none jo];rfl
   rw[e];simp[zq]
theorem zWx {ts:List Nd} {e:Nat} (h:zBF u=(ts,a,e)) (d:e≠0):ts=[]∧a≤u.length:=by
 unfold zBF at h;have b:(zC3 u).2.2≠0→(zC3 u).2.1≤u.length:=by
  unfold zC3;split
  · exact fun _=>yAE _
  · intro h;have:=(zWK _ 0 u h).2;omega
 have c:∀j,(zG (zC3 u).1 j).pos≤u.length:=by
  intro j
  by_cases f:4096 < u.length
  · rw[show zC3 u=([],0,3)from if_pos f];exact yAE _
  unfold zG;rw[yAG];cases hj:(zC3 u).1[j]? with
  | none=>exact yAE _
  | some t=>exact(zHy jo t (List.mem_of_getElem? hj)).2
 dsimp only at h
 repeat' split at h
 all_goals simp only[Prod.mk.injEq]at h
 · rename_i h1
   exact⟨h.1.symm,by have:=b h1;rwa[h.2]at this⟩
 · exact⟨h.1.symm,by rw[←h.2.1];exact c _⟩
 · exact⟨h.1.symm,by omega⟩
 · exact⟨h.1.symm,by omega⟩
 · exact absurd h.2.2.symm d
mutual
theorem gkidsT (n:Nat) (t:Tr):(zAx (flatT n t)).length+1=t.size:=by
 cases t with
 | mk x l=>
  rw[zA8,zF1,List.length_append,zBd,zi];have:=gkidsL (n+1) l;omega
theorem gkidsL (n:Nat) (l:List Tr):l.length+(zAx (flatL n l)).length=sizes l:=by
 cases l with
 | nil=>rfl
 | cons t r=>
  rw[zAS,zDZ,List.length_append,zH,List.length_cons];have h1:=gkidsT n t;have h2:=gkidsL (n+t.size) r;omega
end
theorem zQ5 {ts:List Nd} (h:zBF u=(ts,a,0)):a=0∧zRh ts=true∧(zAx ts).length≤20000∧∃t,May ts t:=by
 obtain⟨L,g1,g2,d,e,f,b,g⟩:=zTv h;have hg:=zJ9 g2 (zQ2 g1) d;have c:Good (zE L (.program []) s0).1:=⟨e,hg.2,hg.1,f⟩;refine⟨g,zSA.2 ⟨_,b,c⟩,?_,_,b▸zIP.2 c⟩;have:=gkidsT 0 (zE L (.program []) s0).1;rw[b];omega
open Go.RowKit
def zWy (x:Nd) (vs vm vo:Value):List Value:=[x.kind,x.name,vs,x.nk,x.nn,x.neg,vm,(),vo]
mutual
def TrC (w:World) (F:Nat→Prop):Tr→List Value→Prop
 | .mk x l,cs=>∃vs vm vo ks,cs=zWy x vs vm vo∧x.kids=[]∧w.ownsRow 0 65 1 vs x.str.length (zAM x.str)∧w.ownsRow 0 67 1 vm x.mag.length (zBq x.mag)∧w.ownsRow 0 58 9 vo l.length ks∧(∀b,vo.ownBlock=some b→F b)∧TrsC w F l ks
def TrsC (w:World) (F:Nat→Prop):List Tr→List Value→Prop
 | [],cs=>cs=[]
 | t::r,cs=>∃c0 rest,cs=c0++rest∧TrC w F t c0∧TrsC w F r rest
end
theorem zFQ {w:World} {F:Nat→Prop} {x:Nd} {cs:List Value}:TrC w F (.mk x l) cs↔∃vs c vo ks,cs=zWy x vs c vo∧x.kids=[]∧w.ownsRow 0 65 1 vs x.str.length (zAM x.str)∧w.ownsRow 0 67 1 c x.mag.length (zBq x.mag)∧w.ownsRow 0 58 9 vo l.length ks∧(∀b,vo.ownBlock=some b→F b)∧TrsC w F l ks:=by rw[TrC]
theorem zC1 {w:World} {F:Nat→Prop} {cs:List Value}:TrsC w F [] cs↔cs=[]:=by rw[TrsC]
theorem zB0 {w:World} {F:Nat→Prop} {r:List Tr} {cs:List Value}:TrsC w F (t::r) cs↔∃c0 rest,cs=c0++rest∧TrC w F t c0∧TrsC w F r rest:=by rw[TrsC]
def Bx (w:World) (R:Nat) (T:TypeId) (cs:List Value):Prop:=w.heap[R]? =some (.cells cs.toArray T (0,0))
def Fz (w:World) (P:Nat→Prop) (r:Option Nat):Prop:=∀b,r=some b→¬P b∧∃cur T,w.heap[b]? =some (.cells cur T (0,0))∧T≠65∧T≠67
section
variable {w w':World} {P Q F G:Nat→Prop} {r:Option Nat} {R:Nat} {T:TypeId} {cs:List Value}
theorem Bx.lt (h:Bx w R T cs):R < w.heap.size:=by
 rcases Nat.lt_or_ge R w.heap.size with h1 | h1
 · exact h1
 · unfold Bx at h;rw[Array.getElem?_eq_none h1]at h;cases h
theorem Bx.cell (h:Bx w R T cs) (j:Nat):w.cell? ⟨R,j,none⟩=cs[j]? :=by
 unfold World.cell?;have b:w.heap[(⟨R,j,none⟩:Addr).block]? =_:=h;rw[b];simp
theorem Bx.frozen (h:Bx w R T cs) (j:Nat):w.frozen? ⟨R,j,none⟩=false:=by
 unfold World.frozen?;have b:w.heap[(⟨R,j,none⟩:Addr).block]? =_:=h;rw[b];simp
theorem Bx.new (w:World) (cs:List Value) (T:TypeId):Bx (w.alloc (.cells cs.toArray T)) w.heap.size T cs:=by
 unfold Bx World.alloc;simp
theorem Bx.grown (h:Bx w R T cs) (hg:w.grownBy w' r) (b:r≠some R):Bx w' R T cs:=(hg.block R h.lt (fun e=>b e.symm)).trans h
theorem Bx.alloc (h:Bx w R T cs) (o:Obj):Bx (w.alloc o) R T cs:=h.grown (zF w o none) js
theorem Bx.set (h:Bx w R T cs) (j:Nat) (v:Value):Bx (w.setCell ⟨R,j,none⟩ v) R T (cs.set j v):=by
 unfold Bx at h⊢;unfold World.setCell;show(w.heap.modify R _)[R]? =_;rw[Array.getElem?_modify,if_pos rfl,h];simp
theorem Fz.none_ (w:World) (P:Nat→Prop):Fz w P none:=fun b h=>by cases h
theorem Fz.box (h:Bx w R T cs) (h1:T≠65) (c:T≠67) (d:¬P R):Fz w P (some R):=fun b e=>by
 injection e with e;subst e;exact⟨d,_,_,h,h1,c⟩
theorem Fz.own {n:Nat} (h:w.ownsRow base 58 9 v n xs) (d:∀b,v.ownBlock=some b→¬P b):Fz w P v.ownBlock:=fun b e=>by
 refine⟨d b e,?_⟩;rcases h.2 with⟨rfl,_⟩ | ⟨g,cap,c,rfl,_,hg,_⟩
 · cases e
 · simp only[Value.ownBlock,Option.some.injEq]at e;subst e;exact⟨c,_,hg,by decide,by decide⟩
theorem zBk {n s:Nat} (h:w.ownsRow base e s v n xs) {b:Nat} (hb:v.ownBlock=some b):∃c,w.heap[b]? =some (.cells c e (0,0)):=by
 rcases h.2 with⟨rfl,_⟩ | ⟨g,cap,c,rfl,_,hg,_⟩
 · cases hb
 · simp only[Value.ownBlock,Option.some.injEq]at hb;subst hb;exact⟨c,hg⟩
theorem zCJ {n:Nat} (h:w.ownsRow base e 1 v n xs) (c:e=65∨e=67) (hg:w.grownBy w' r) (f:Fz w P r):w'.ownsRow base e 1 v n xs:=by
 refine h.kept hg ?_;cases hb:v.ownBlock with
 | none=>exact .inl rfl
 | some b=>
  right;intro e2;obtain⟨_,l,T,h1,g,j⟩:=f b e2.symm;obtain⟨k,d⟩:=zBk h hb;rw[h1]at d;injection d with d;injection d with _ h5 _;subst h5;rcases c with c | c
  · exact g c
  · exact j c
theorem zMK {n s:Nat} (h:w.ownsRow base e s v n xs) (c:∀b,v.ownBlock=some b→P b) (hg:w.grownBy w' r) (d:Fz w P r):w'.ownsRow base e s v n xs:=by
 refine h.kept hg ?_;cases hb:v.ownBlock with
 | none=>exact .inl rfl
 | some b=>exact .inr (fun e2=>(d b e2.symm).1 (c b hb))
mutual
theorem TrC.keep {w w':World} {P:Nat→Prop} {r:Option Nat} (hg:w.grownBy w' r) (hz:Fz w P r) (t:Tr) (cs:List Value) (h:TrC w P t cs):TrC w' P t cs:=by
 cases t with
 | mk x l=>
  rw[zFQ]at h⊢;obtain⟨vs,vm,vo,ks,h1,h2,h3,h4,h5,h6,h7⟩:=h;exact⟨vs,vm,vo,ks,h1,h2,zCJ h3 (.inl rfl) hg hz,zCJ h4 (.inr rfl) hg hz,zMK h5 h6 hg hz,h6,TrsC.keep hg hz l ks h7⟩
theorem TrsC.keep {w w':World} {P:Nat→Prop} {r:Option Nat} (hg:w.grownBy w' r) (hz:Fz w P r) (l:List Tr) (cs:List Value) (h:TrsC w P l cs):TrsC w' P l cs:=by
 cases l with
 | nil=>rw[zC1]at h⊢;exact h
 | cons t q=>
  rw[zB0]at h⊢;obtain⟨c0,rest,h1,h2,h3⟩:=h;exact⟨c0,rest,h1,TrC.keep hg hz t c0 h2,TrsC.keep hg hz q rest h3⟩
end
mutual
theorem TrC.sub {w:World} {P Q:Nat→Prop} (hs:∀b,P b→b < w.heap.size→Q b) (t:Tr) (cs:List Value) (h:TrC w P t cs):TrC w Q t cs:=by
 cases t with
 | mk x l=>
  rw[zFQ]at h⊢;obtain⟨vs,vm,vo,ks,h1,h2,h3,h4,h5,h6,h7⟩:=h;exact⟨vs,vm,vo,ks,h1,h2,h3,h4,h5,fun b hb=>hs b (h6 b hb) (h5.lt b hb).2,TrsC.sub hs l ks h7⟩
theorem TrsC.sub {w:World} {P Q:Nat→Prop} (hs:∀b,P b→b < w.heap.size→Q b) (l:List Tr) (cs:List Value) (h:TrsC w P l cs):TrsC w Q l cs:=by
 cases l with
 | nil=>rw[zC1]at h⊢;exact h
 | cons t q=>
  rw[zB0]at h⊢;obtain⟨c0,rest,h1,h2,h3⟩:=h;exact⟨c0,rest,h1,TrC.sub hs t c0 h2,TrsC.sub hs q rest h3⟩
end
theorem TrC.len (h:TrC w F t cs):cs.length=9:=by
 cases t with
 | mk x l=>
  rw[zFQ]at h;obtain⟨vs,b,vo,ks,rfl,_⟩:=h;rfl
theorem TrC.one (h:TrC w F t cs):(cs.all fun u=>u.oneCell')=true:=by
 cases t with
 | mk x l=>
  rw[zFQ]at h;obtain⟨vs,e,vo,ks,rfl,_,b,c,d,_⟩:=h;obtain⟨_,_,rfl,_⟩:=zS b;obtain⟨_,_,rfl,_⟩:=zS c;obtain⟨_,_,rfl,_⟩:=zS d;rfl
end
section
variable {w w':World} {P Q F G:Nat→Prop} {r:Option Nat}
theorem TrsC.len:∀{l:List Tr} {cs:List Value},TrsC w F l cs→cs.length=l.length*9:=by
 intro l
 induction l with
 | nil=>intro cs h;rw[zC1]at h;rw[h];rfl
 | cons t r b=>
  intro cs h;rw[zB0]at h;obtain⟨c0,rest,rfl,h1,c⟩:=h;rw[List.length_append,h1.len,b c,List.length_cons];omega
theorem TrsC.one:∀{l:List Tr} {cs:List Value},TrsC w F l cs→(cs.all fun u=>u.oneCell')=true:=by
 intro l
 induction l with
 | nil=>intro cs h;rw[zC1]at h;rw[h];rfl
 | cons t r b=>
  intro cs h;rw[zB0]at h;obtain⟨c0,rest,rfl,h1,c⟩:=h;rw[List.all_append,h1.one,b c];rfl
theorem TrsC.app:∀{l r:List Tr} {cs ds:List Value},TrsC w F l cs→TrsC w F r ds→TrsC w F (l++r) (cs++ds):=by
 intro l
 induction l with
 | nil=>intro r cs ds h b;rw[zC1]at h;subst h;exact b
 | cons t l c=>
  intro r cs ds h b;rw[zB0]at h;obtain⟨c0,rest,rfl,d,e⟩:=h;rw[List.cons_append,zB0];exact⟨c0,rest++ds,by rw[List.append_assoc],d,c e b⟩
theorem TrsC.cons {cs:List Value} (h:TrC w F t c) (b:TrsC w F l cs):TrsC w F (t::l) (c++cs):=by
 rw[zB0];exact⟨c,cs,rfl,h,b⟩
theorem TrsC.nil (w:World) (F:Nat→Prop):TrsC w F [] []:=by rw[zC1]
theorem TrsC.single (h:TrC w F t c):TrsC w F [t] c:=by
 have:=TrsC.cons h (.nil w F);rwa [List.append_nil]at this
theorem TrsC.snoc {cs:List Value} (h:TrsC w F l cs) (b:TrC w F t c):TrsC w F (l++[t]) (cs++c):=h.app (.single b)
structure RowK (w:World) (P:Nat→Prop) (v:Value) (l:List Tr) (ks:List Value) (F:Nat→Prop):Prop where
 own:w.ownsRow 0 58 9 v l.length ks
 blk:∀b,v.ownBlock=some b→P b
 subs:TrsC w F l ks
 off:∀b,v.ownBlock=some b→¬F b
 low:∀b,F b→P b∧b < w.heap.size
def RowP (w:World) (P:Nat→Prop) (v:Value) (l:List Tr):Prop:=∃ks F,RowK w P v l ks F
theorem RowP.nil (w:World) (P:Nat→Prop):RowP w P (.slice none 0 0) []:=⟨[],fun _=>False,yAJ _ _ _ _,(fun _ h=>by cases h),.nil _ _,(fun _ h=>by cases h),fun _ h=>h.elim⟩
theorem Fz.less (h:Fz w P r) (hs:∀b,F b→P b):Fz w F r:=fun b e=>⟨fun hb=>(h b e).1 (hs b hb),(h b e).2⟩
theorem RowK.keep (h:RowK w P v l ks F) (hg:w.grownBy w' r) (c:Fz w P r):RowK w' P v l ks F:=
 ⟨zMK h.own h.blk hg c,h.blk,.keep hg (c.less fun b hb=>(h.low b hb).1) l ks h.subs,h.off,fun b hb=>⟨(h.low b hb).1,yAA (h.low b hb).2 hg.size⟩⟩
theorem RowP.keep (h:RowP w P v l) (hg:w.grownBy w' r) (b:Fz w P r):RowP w' P v l:=by
 obtain⟨ks,F,h⟩:=h;exact⟨ks,F,h.keep hg b⟩
theorem RowP.new (h:RowP w P v l) (hg:w.grownBy w' none):RowP w' P v l:=h.keep hg (.none_ w P)
theorem RowP.sub (h:RowP w P v l) (hs:∀b,P b→b < w.heap.size→Q b):RowP w Q v l:=by
 obtain⟨ks,F,h⟩:=h;exact⟨ks,F,h.own,fun b hb=>hs b (h.blk b hb) (h.own.lt b hb).2,h.subs,h.off,fun b hb=>⟨hs b (h.low b hb).1 (h.low b hb).2,(h.low b hb).2⟩⟩
theorem RowP.shape (h:RowP w P v l):∃A c,v=.slice A l.length c∧l.length≤c∧c≤maxLen:=by
 obtain⟨ks,F,h⟩:=h;exact zS h.own
theorem RowP.tree {x:Nd} {vs c:Value} (h:RowP w P v l) (hk:x.kids=[]) (h1:w.ownsRow 0 65 1 vs x.str.length (zAM x.str)) (d:w.ownsRow 0 67 1 c x.mag.length (zBq x.mag)):TrC w P (.mk x l) (zWy x vs c v):=by
 obtain⟨ks,F,h⟩:=h;rw[zFQ];exact⟨vs,c,v,ks,rfl,hk,h1,d,h.own,h.blk,.sub (fun b hb _=>(h.low b hb).1) l ks h.subs⟩
def zZo (k:Int) (n:List UInt8) (v:Value):List Value:=[k,n,(),(0:Int),(0:Int),false,(),(),v]
theorem RowP.treeN (h:RowP w P v l):TrC w P (trN k n l) (zZo k n v):=h.tree (x:={zBo with kind:=k,name:=n}) rfl (yAJ _ _ _ _) (yAJ _ _ _ _)
theorem RowP.treeK (h:RowP w P v l):TrC w P (trK k l) (zZo k [] v):=h.tree (x:={zBo with kind:=k}) rfl (yAJ _ _ _ _) (yAJ _ _ _ _)
theorem RowK.snoc {w1:World} {v':Value} (h:RowK w1 P v l ks F) (k:TrC w1 Q t c) (m:∀b,Q b→b < w1.heap.size→P b) (f:∀b,v.ownBlock=some b→¬Q b) (o:P w1.heap.size)
 (p:w'.ownsRow 0 58 9 v' (l.length+1) (ks++c)) (hg:w1.grownBy w' v.ownBlock) (g:v'.ownBlock=v.ownBlock∨v'.ownBlock=some w1.heap.size):RowP w' P v' (l++[t]):=by
 have j:=hg.size;refine⟨ks++c,fun b=>F b∨(Q b∧b < w1.heap.size),by rw[List.length_append];exact p,?_,?_,?_,?_⟩
 · intro b hb;rcases g with e | e
   · rw[e]at hb;exact h.blk b hb
   · rw[e]at hb;injection hb with hb;subst hb;exact o
 · refine .snoc (.sub (fun b hb _=>.inl hb) l ks (.keep hg (.own h.own h.off) l ks h.subs)) ?_;have h1:TrC w1 (fun b=>Q b∧b < w1.heap.size) t c:=.sub (fun b hb q=>⟨hb,q⟩) t c k;exact .sub (fun b hb _=>.inr hb) t c (.keep hg (.own h.own fun b hb d=>f b hb d.1) t c h1)
 · intro b hb d;rcases g with e | e
   · rw[e]at hb;rcases d with d | d
     · exact h.off b hb d
     · exact f b hb d.1
   · rw[e]at hb;injection hb with hb;subst hb;rcases d with d | d
     · have:=(h.low _ d).2;omega
     · omega
 · intro b hb;rcases hb with hb | hb
   · exact⟨(h.low b hb).1,yAA (h.low b hb).2 j⟩
   · exact⟨m b hb.1 hb.2,by omega⟩
theorem RowP.lit {cs:List Value} {n:Nat} (f:n=l.length) (h:TrsC w P l cs) (g:P w.heap.size) (c:l.length≤maxLen):RowP (w.alloc (.cells cs.toArray 58)) P (.slice (some ⟨w.heap.size,0,none⟩) n n) l:=by
 subst f;have hb:=Bx.new w cs 58;have j:TrsC w (fun b=>P b∧b < w.heap.size) l cs:=.sub (fun b hb c=>⟨hb,c⟩) l cs h;have k:=TrsC.keep (zF w (.cells cs.toArray 58) none) (.none_ w _) l cs j;refine⟨cs,_,⟨h.len,.inr ⟨w.heap.size,l.length,cs.toArray,rfl,yAE _,hb,yAC _,c,?_,?_⟩⟩,?_,k,?_,?_⟩
 · simp[h.len]
 · rw[←h.len];simp
 · intro b e;simp only[Value.ownBlock,Option.some.injEq]at e;subst e;exact g
 · intro b e d;simp only[Value.ownBlock,Option.some.injEq]at e;subst e;omega
 · intro b d;exact⟨d.1,by simp;omega⟩
end
def LexPost (q:List Tok×Nat×Nat) (w:World) (ev:Ending) (w':World):Prop:=
 ∃v,ev=.returned (.tuple #[v,q.2.1,q.2.2])∧TokL w' w.heap.size q.1 v∧Below w.heap.size w w'
theorem LexPost.mk {q:List Tok×Nat×Nat} {w w':World} {e:Nat} (b:q=(ts,a,e)) (h:TokL w' w.heap.size ts v) (hb:Below w.heap.size w w'):LexPost q w (.returned (.tuple #[v,a,e])) w':=by
 subst b;exact⟨v,rfl,h,hb⟩
theorem zK7 {c B n:Nat} {w:World} (hB:B≤w.heap.size) (hn:u.length=n) (ha:Reads w B 1 A n (zAM u)) (hc:n≤c) (_b:c≤maxLen):
 Calls prog 15 #[.slice A n c] w (LexPost (zC3 u) w):=by
 subst hn
 by_cases l:4096 < u.length
 · have HQ:=zA (show zC3 u=([],0,3) by unfold zC3;rw[if_pos l]);have b6:(4096:Int) < (u.length:Int):=by omega
   go_enter func15,ntmps15;go_wp2_with fail
   go_ret3
   exact LexPost.mk HQ (TokL.nil _ _) (Below.refl _ _)
 · obtain⟨i0,W,X,Y,a0⟩:=info_parts Tryz.info_tok;have hl:u.length≤4096:=by omega
   have HF:=zA (zB9 l);have HA:=zA ha;have b7:=zA (show LxS w (w.alloc (.cells #[.slice A u.length c,(0:Int)] 76)) A u.length c 0 (.slice none 0 0) []from
    ⟨⟨by go_simp,by go_simp,by go_simp⟩,ja,TokL.nil _ _⟩)
   clear ha l;go_enter func15,ntmps15;go_wp2_with fail
   go_loopg [6] (u.length+1) (fun r v wr=>∃(p:Nat) (d:List Tok),p+r=u.length+1∧Hid (LxS w wr A u.length c p v d)∧Hid (AtLex u p d))
   case atStart=>exact⟨0,[],by omega,b7,AtLex.start u⟩
   case round=>
    obtain⟨p,d,c8,H,j⟩:=hrel;have b8:=j.out.2.1;have c7:=j.out.1;obtain⟨⟨m,nl,e⟩,I⟩:=jx (zAJ (u.drop p));have J:=zIY (u.drop p);rw[I,List.length_drop]at J;simp only at J;have s:=zA I;clear I;have D:=zA (HA.out.below (H.out.below.mono hB));go_wp2_with fail;refine(zPm H.out.rd rfl D hB b8 hl s).mono ?_;rintro e1 w1 ⟨rfl,a1,a2⟩;have a3:=zA a1;have a4:=zA (zEt H.out.below a2);clear a1 a2
    by_cases U:e=0
    · subst U;have b:=zA (H.out.mov (a3.out rfl));clear H a3 D a4;have b9:=b.out.rd.c1;rw[if_pos rfl];obtain⟨k,hk⟩:=jx (p+m);rw[hk]at b b9;have z:=zA hk;have c9:k≤u.length:=by omega
      have d0:p≤k:=by omega
      obtain⟨cs,ho,a5⟩:=b.out.toks;obtain⟨Av,cv,hv,_,_⟩:=zS ho;subst hv;have HO:=zA ho;have a6:=zA a5;have o:w.heap.size+1≤w1.heap.size:=b.out.rd.lt;clear ho a5
      by_cases g:k=u.length
      · have e1:((k:Int)==(u.length:Int))=true:=by rw[g];simp
        have V:=zA (j.out.last s (by rw[z.out];exact g));have b4:=zA g;clear g hk;go_wp2_with (at_builtin;refine zGz rfl _ _ 50 rfl 80 i0 _ 9 112 underlying50 W X Y a0 rfl jd (w.heap.size+1) o (.slice Av d.length cv) cs d.length rfl HO.out (zFp (setAt zq k nl) (.slice none 0 0) (.slice none 0 0)) 1 1 w1.heap.size rfl rfl rfl rfl jo jo ?_;intro v' w' L y)
        go_ret3
        have c0:=TokL.snoc HO a6 (yAJ _ _ _ _) (yAJ _ _ _ _) L y;have M:=b.out.app y c0;rw[b4.out]at M;exact LexPost.mk (HF.out.trans V) (M.toks.base jo) M.below
      · have e1:((k:Int)==(u.length:Int))=false:=yA.2 jo;have C:k < u.length:=by omega
        clear g hk;obtain⟨⟨e2,t,tk⟩,a7⟩:=jx (zAY (k==0) (u.drop k));have N:=zA a7;clear a7;have D:=zA (HA.out.below (b.out.below.mono hB));go_wp2_with fail;refine(zNC (m:=tk) (e:=e2) (t:=t) b.out.rd rfl D hB C hl hc N).mono ?_;rintro e3 w3 ⟨v,rfl,O,E,a8⟩;have P:=zA O;have F:=zA E;have a9:=zA a8;clear O E a8
        by_cases G:e2=0
        · subst G;obtain⟨⟨vs,vm,hv,Q,R⟩,b0⟩:=F.out rfl;subst hv;obtain⟨As,c1,rfl,_,_⟩:=zS Q;obtain⟨Am,cm,rfl,_,_⟩:=zS R;have f:=zA (j.out.more s (by rw[z.out];exact C) (by rw[z.out];exact N.out));rw[z.out]at f;have S:=zA (b.out.mov b0);obtain⟨c2,b1,T⟩:=S.out.toks;have b2:=zA b1;have b5:=zA T;have c3:=zA (zAg Q o);have c4:=zA (zAg R o);have c5:w.heap.size+1≤w3.heap.size:=S.out.rd.lt;clear Q R b1 T b0 F P HO a6;go_wp2_with (at_builtin;refine zGz rfl _ _ 50 rfl 80 i0 _ 9 112 underlying50 W X Y a0 rfl jd (w.heap.size+1) (by simp;omega) (.slice Av d.length cv) c2 d.length rfl (b2.out.alloc _) (zFp (setAt t k nl) (.slice As t.str.length c1) (.slice Am t.mag.length cm)) 1 1 (w3.heap.size+1) js rfl rfl rfl jo jo ?_;intro v' w' L y);have d1:=f.out.2
          go_roundg (u.length+1 - (k+tk))
          case measure=>omega
          case rel=>
           refine⟨k+tk,d++[setAt t k nl],?_,(S.out.new (zF w3 _ none)).app y (TokL.snoc (b2.out.alloc _) (b5.out.map fun _ _ _ _ _ h=>h.alloc _) (c3.out.alloc _) (c4.out.alloc _) L y),f.out.1⟩;have:=f.out.1.2.1;omega
        · obtain rfl:=P.out G;have d2:((e2:Int) !=0)=true:=by rw[bne_iff_ne];omega
          have b3:=zA (j.out.bad s (by rw[z.out];exact C) (by rw[z.out];exact N.out) G);clear G;unfold noV;go_wp2_with fail
          go_ret3
          rw[z.out]at b3;exact LexPost.mk (HF.out.trans b3) (TokL.nil _ _) ((zEt b.out.below a9).alloc (yAD b.out.below.size a9.out.size) _)
    · have c6:=zA (j.out.pass s U);have e1:((e:Int) !=0)=true:=by rw[bne_iff_ne];omega
      rw[if_neg U];clear U;go_wp2_with fail
      go_ret3
      exact LexPost.mk (HF.out.trans c6) (TokL.nil _ _) a4
theorem TokC.get {w:World}:∀{ts:List Tok} {cs:List Value} (_:TokC w base ts cs) (i:Nat) (hi:i < ts.length),∃vs b,(∀j,j < 9→cs[i*9+j]? =(zFp ts[i] vs b)[j]?)∧w.ownsRow base 65 1 vs ts[i].str.length (zAM ts[i].str)∧w.ownsRow base 67 1 b ts[i].mag.length (zBq ts[i].mag):=by
 intro ts
 induction ts with
 | nil=>intro cs h i hi;simp at hi
 | cons t r f=>
  intro cs h i hi;obtain⟨vs,b,rest,rfl,h1,g,k⟩:=h;cases i with
  | zero=>
   refine⟨vs,b,fun j c=>?_,h1,g⟩;rw[Nat.zero_mul,Nat.zero_add,List.getElem?_append_left (by simp[zFp];omega)];rfl
  | succ i=>
   obtain⟨d,e,g1,g2,l⟩:=f k i (by simpa using hi);refine⟨d,e,fun j c=>?_,g2,l⟩;rw[List.getElem?_append_right (by simp[zFp];omega),show(i+1)*9+j - (zFp t vs b).length=i*9+j by simp[zFp];omega];exact g1 j c
structure TokAt (w:World) (base g i:Nat) (t:Tok) (As Am:Option Addr) (cs cm:Nat):Prop where
 k0:w.cell? ⟨g,i*9,none⟩=some (.int .i64 (t.kind:Int))
 k1:w.cell? ⟨g,i*9+1,none⟩=some (.string ⟨t.text.toArray⟩)
 k2:w.cell? ⟨g,i*9+2,none⟩=some (.slice As t.str.length cs)
 k3:w.cell? ⟨g,i*9+3,none⟩=some (.int .i64 t.nk)
 k4:w.cell? ⟨g,i*9+4,none⟩=some (.int .i64 t.nn)
 k5:w.cell? ⟨g,i*9+5,none⟩=some (.bool false)
 k6:w.cell? ⟨g,i*9+6,none⟩=some (.slice Am t.mag.length cm)
 k7:w.cell? ⟨g,i*9+7,none⟩=some (.int .i64 (t.pos:Int))
 k8:w.cell? ⟨g,i*9+8,none⟩=some (.bool t.nl)
 str:w.ownsRow base 65 1 (.slice As t.str.length cs) t.str.length (zAM t.str)
 mag:w.ownsRow base 67 1 (.slice Am t.mag.length cm) t.mag.length (zBq t.mag)
theorem TokL.at_ {w:World} {n c:Nat} (h:TokL w base ts (.slice A n c)) (p:0 < ts.length):∃g,A=some ⟨g,0,none⟩∧base≤g∧g < w.heap.size∧∀i (hi:i < ts.length),∃As Am c1 c2,TokAt w base g i ts[i] As Am c1 c2:=by
 obtain⟨cs,e,f⟩:=h;obtain⟨g,cap,hv,k,l⟩:=e.form p;injection hv with hA hn d;subst hA hn d;refine⟨g,rfl,k,l,fun i hi=>?_⟩;obtain⟨vs,q,d,h1,m⟩:=f.get i hi;obtain⟨As,c1,rfl,_,_⟩:=zS h1;obtain⟨Am,c2,rfl,_,_⟩:=zS m;have b:∀j (o:j < 9),w.cell? ⟨g,i*9+j,none⟩=(zFp ts[i] (.slice As ts[i].str.length c1) (.slice Am ts[i].mag.length c2))[j]? :=by
  intro j o;rw[e.cellAt (i*9+j) jo,d j o]
 exact⟨As,Am,c1,c2,⟨b 0 jo,b 1 jo,b 2 jo,b 3 jo,b 4 jo,b 5 jo,b 6 jo,b 7 jo,b 8 jo,h1,m⟩⟩
structure Pc where
 g:Nat
 L:List Tok
 A:Option Addr
 N:Nat
 c:Nat
 w0:World
instance jPc:Coe Pc Value:=⟨fun C=>.pointer (some ⟨C.g,0,none⟩)⟩
def zVO (L:List Tok) (s:Ps):Nat:=if s.bad=0 then 0 else(zG L s.far).pos
structure Pcx (C:Pc):Prop where
 lst:Lst C.L
 n:C.L.length=C.N
 n4:C.N≤4097
 tok:TokL C.w0 0 C.L (.slice C.A C.N C.c)
 lo:C.w0.heap.size≤C.g
def psV (C:Pc) (s:Ps):List Value:=[.slice C.A C.N C.c,s.k,s.bad,(zVO C.L s:Int)]
structure Pa (C:Pc) (s:Ps) (w:World):Prop where
 cx:Pcx C
 keep:Below C.w0.heap.size C.w0 w
 box:Bx w C.g 55 (psV C s)
 hi:s.k≤C.L.length - 1
section
variable {C:Pc} {s:Ps} {w w':World} {r:Option Nat}
theorem Pa.lt (h:Pa C s w):C.g < w.heap.size:=h.box.lt
theorem Pa.grown (h:Pa C s w) (hg:w.grownBy w' r) (c:∀b,r=some b→C.g < b):Pa C s w':=
 ⟨h.cx,h.keep.grown hg h.keep.size (fun b hb=>by have:=c b hb;have:=h.cx.lo;omega),h.box.grown hg (fun e=>by have:=c _ e;omega),h.hi⟩
theorem Pa.new (h:Pa C s w) (hg:w.grownBy w' none):Pa C s w':=h.grown hg (fun b hb=>by cases hb)
theorem Pa.alloc (h:Pa C s w) (o:Obj):Pa C s (w.alloc o):=h.new (zF w o none)
theorem Pa.drew (h:Pa C s w):Pa C s w.drew:=h.new (zBT w none)
theorem Pa.c0 (h:Pa C s w):w.cell? C.g=some (.slice C.A C.N C.c):=h.box.cell 0
theorem Pa.c1 (h:Pa C s w):w.cell? ⟨C.g,1,none⟩=some (.int .i64 (s.k:Int)):=h.box.cell 1
theorem Pa.c2 (h:Pa C s w):w.cell? ⟨C.g,2,none⟩=some (.int .i64 (s.bad:Int)):=h.box.cell 2
theorem Pa.c3 (h:Pa C s w):w.cell? ⟨C.g,3,none⟩=some (.int .i64 (zVO C.L s:Int)):=h.box.cell 3
theorem Pa.f (h:Pa C s w) (j:Nat):w.frozen? ⟨C.g,j,none⟩=false:=h.box.frozen j
theorem Pa.kN (h:Pa C s w):s.k < C.N:=by
 have:=h.hi;have:=h.cx.lst.pos;have:=h.cx.n;omega
theorem Pa.to (h:Pa C s w) {k':Nat} (c:z=(k':Int)) (hk:k'≤C.L.length - 1):Pa C {s with k:=k'} (w.setCell ⟨C.g,1,none⟩ (.int .i64 z)):=by
 subst c;exact⟨h.cx,h.keep.grown (zQ w C.g 1 _) h.keep.size (fun b hb=>by injection hb with hb;have:=h.cx.lo;omega),h.box.set 1 _,hk⟩
theorem Pa.at_ (h:Pa C s w) (i:Nat) (hi:i < C.N):∃c As Am c1 c2,C.A=some ⟨c,0,none⟩∧c < C.w0.heap.size∧TokAt w 0 c i (zG C.L i) As Am c1 c2:=by
 have g:=h.cx.n;obtain⟨c,h1,_,d,f⟩:=h.cx.tok.at_ jo;obtain⟨As,Am,c1,c2,t⟩:=f i jo;have e:C.L[i]' jo=zG C.L i:=by
  unfold zG;rw[yAG,yAB jo];rfl
 rw[e]at t;have b:∀(j:Nat) (v:Value),C.w0.cell? ⟨c,j,none⟩=some v→w.cell? ⟨c,j,none⟩=some v:=fun j v hv=>(h.keep.cell (p:=⟨c,j,none⟩) d).trans hv;exact⟨c,As,Am,c1,c2,h1,d,b _ _ t.k0,b _ _ t.k1,b _ _ t.k2,b _ _ t.k3,b _ _ t.k4,b _ _ t.k5,b _ _ t.k6,b _ _ t.k7,b _ _ t.k8,zDn t.str h.keep,zDn t.mag h.keep⟩
def zX7 (t:Tok) (As Am:Option Addr) (c1 c2:Nat):Value:=.agg #[t.kind,t.text,.slice As t.str.length c1,t.nk,t.nn,false,.slice Am t.mag.length c2,t.pos,t.nl]
def zWz (t:Tok) (As Am:Option Addr) (c1 c2:Nat):List Value:=[t.kind,t.text,.slice As t.str.length c1,t.nk,t.nn,false,.slice Am t.mag.length c2,t.pos,t.nl]
def zaj (C:Pc) (s:Ps) (t:Tok) (w:World) (e:Ending) (w':World):Prop:=
 ∃As Am c1 c2,e=.returned (.agg #[t.kind,t.text,.slice As t.str.length c1,t.nk,t.nn,false,.slice Am t.mag.length c2,t.pos,t.nl])∧
  w'.ownsRow 0 65 1 (.slice As t.str.length c1) t.str.length (zAM t.str)∧w'.ownsRow 0 67 1 (.slice Am t.mag.length c2) t.mag.length (zBq t.mag)∧Pa C s w'∧w.grownBy w' none
def zNk (C:Pc) (s:Ps) (b:Bool) (w:World) (e:Ending) (w':World):Prop:=e=.returned b∧Pa C s w'∧w.grownBy w' none
def zYW (C:Pc) (s:Ps) (b:Bool) (w:World) (e:Ending) (w':World):Prop:=e=.returned b∧Pa C s w'∧w.grownBy w' (some C.g)
def zX8 (C:Pc) (s:Ps) (w:World) (e:Ending) (w':World):Prop:=e=.returned (.tuple #[])∧Pa C s w'∧w.grownBy w' (some C.g)
def zYX (C:Pc) (r:List UInt8×Ps) (w:World) (e:Ending) (w':World):Prop:=e=.returned r.1∧Pa C r.2 w'∧w.grownBy w' (some C.g)
def zDk (C:Pc) (r:Tr×Ps) (w:World) (e:Ending) (w':World):Prop:=
 ∃d0 d1 d2 d3 d4 d5 d6 d7 d8,e=.returned (.agg #[d0,d1,d2,d3,d4,d5,d6,d7,d8])∧TrC w' (w.heap.size≤·) r.1 [d0,d1,d2,d3,d4,d5,d6,d7,d8]∧Pa C r.2 w'∧w.grownBy w' (some C.g)
def LstQ (C:Pc) (r:Tr×Ps) (w:World) (e:Ending) (w':World):Prop:=
 ∃A n c,e=.returned (.slice A n c)∧r.1.subs.length=n∧n≤c∧c≤maxLen∧RowP w' (w.heap.size≤·) (.slice A n c) r.1.subs∧Pa C r.2 w'∧w.grownBy w' (some C.g)
theorem zAd (h:w.grownBy w' none) (r:Option Nat):w.grownBy w' r:=⟨h.os,h.tape,h.output,h.size,fun i hi _=>h.block i hi js⟩
theorem zCK {a:World} {R:Nat} (h:a.grownBy w r) (c:a.heap.size≤R) (hg:w.grownBy w' (some R)):a.grownBy w' r:=
 ⟨hg.os.trans h.os,hg.tape.trans h.tape,hg.output.trans h.output,yAD h.size hg.size,fun i hi b=>(hg.block i (yAA hi h.size) (fun e=>by injection e with e;omega)).trans (h.block i hi b)⟩
theorem zKA {a:World} (h:a.grownBy w r) (hv:∀b,v.ownBlock=some b→a.heap.size≤b) (hg:w.grownBy w' v.ownBlock):a.grownBy w' r:=
 ⟨hg.os.trans h.os,hg.tape.trans h.tape,hg.output.trans h.output,yAD h.size hg.size,fun i hi c=>(hg.block i (yAA hi h.size) (fun e=>by have:=hv i e.symm;omega)).trans (h.block i hi c)⟩
end
theorem Tryz.info_pnode:(prog.info? 58).map (fun i=>(i.zero,i.size,i.bytes))=some (some (.agg #[(0:Int),"",(),(0:Int),(0:Int),false,(),(),()]),9,144):=by kernel_rfl
theorem Bx.set9 {w:World} {R:Nat} {T:TypeId} {cs:List Value} {v0 v1 v2 v3 v4 v5 v6 v7 v8:Value} (h:Bx w R T cs) (c:cs.length=9):Bx (((((((((w.setCell R v0).setCell ⟨R,1,none⟩ v1).setCell ⟨R,2,none⟩ v2).setCell ⟨R,3,none⟩ v3).setCell ⟨R,4,none⟩ v4).setCell ⟨R,5,none⟩ v5).setCell ⟨R,6,none⟩ v6).setCell ⟨R,7,none⟩ v7).setCell ⟨R,8,none⟩ v8) R T [v0,v1,v2,v3,v4,v5,v6,v7,v8]:=by
 have b:=((((((((h.set 0 v0).set 1 v1).set 2 v2).set 3 v3).set 4 v4).set 5 v5).set 6 v6).set 7 v7).set 8 v8;have e:((((((((cs.set 0 v0).set 1 v1).set 2 v2).set 3 v3).set 4 v4).set 5 v5).set 6 v6).set 7 v7).set 8 v8=[v0,v1,v2,v3,v4,v5,v6,v7,v8]:=by
  match cs,c with
  | [_,_,_,_,_,_,_,_,_],_=>rfl
 rw[e]at b;exact b
theorem Bx.drew {w:World} {R:Nat} {T:TypeId} {cs:List Value} (h:Bx w R T cs):Bx w.drew R T cs:=h
theorem zML {P:Program} {f:Func} {Q:Ending→World→Prop} {a:Act} {F:World→Prop} (h:F W) (k:∀V,F V→bodyPost P f Q .ret a V):bodyPost P f Q .ret a W:=k W h
theorem Bx.nine {w:World} {R:Nat} {T:TypeId} {v0 v1 v2 v3 v4 v5 v6 v7 v8:Value} (h:Bx w R T [v0,v1,v2,v3,v4,v5,v6,v7,v8]):
 w.cell? R=some v0∧w.cell? ⟨R,1,none⟩=some v1∧w.cell? ⟨R,2,none⟩=some v2∧w.cell? ⟨R,3,none⟩=some v3∧w.cell? ⟨R,4,none⟩=some v4∧w.cell? ⟨R,5,none⟩=some v5∧w.cell? ⟨R,6,none⟩=some v6∧w.cell? ⟨R,7,none⟩=some v7∧w.cell? ⟨R,8,none⟩=some v8:=
 ⟨h.cell 0,h.cell 1,h.cell 2,h.cell 3,h.cell 4,h.cell 5,h.cell 6,h.cell 7,h.cell 8⟩
theorem Bx.nineF {w:World} {R:Nat} {T:TypeId} {cs:List Value} (h:Bx w R T cs):
 w.frozen? R=false∧w.frozen? ⟨R,1,none⟩=false∧w.frozen? ⟨R,2,none⟩=false∧w.frozen? ⟨R,3,none⟩=false∧w.frozen? ⟨R,4,none⟩=false∧w.frozen? ⟨R,5,none⟩=false∧w.frozen? ⟨R,6,none⟩=false∧w.frozen? ⟨R,7,none⟩=false∧w.frozen? ⟨R,8,none⟩=false:=
 ⟨h.frozen 0,h.frozen 1,h.frozen 2,h.frozen 3,h.frozen 4,h.frozen 5,h.frozen 6,h.frozen 7,h.frozen 8⟩
theorem zHD {C:Pc} {s:Ps} {w:World} (h:Pa C s w):
 Calls prog 33 #[C] w (zaj C s (zG C.L s.k) w):=by
 have o:=h.kN;obtain⟨W,j⟩:=jx (w.alloc (.cells zBY.toArray 80));have d:w.grownBy W none:=by rw[←j];exact zF w _ none
 have c:Bx W w.heap.size 80 zBY:=by rw[←j];exact Bx.new w zBY 80
 have l:=zA (h.new d);have u:=zA h;obtain⟨gT,As,Am,c1,c2,y,a0,t⟩:=l.out.at_ s.k o;have q:=zA t;have x0:=l.out.c0;have x1:=l.out.c1;rw[y]at x0;obtain⟨m,p⟩:=jx (zG C.L s.k);rw[p]at t q⊢;obtain⟨D,E,G,H,I,J,M,O,P,_,_⟩:=t;obtain⟨k,hk⟩:∃k,s.k=k:=⟨_,rfl⟩;rw[hk]at x1 D E G H I J M O P o;have Q:C.N≤4097:=h.cx.n4;have z:=zA d;have f:=zA c;obtain⟨R,S,T,U,Y,z5,z6,z7,z8⟩:=c.nine;obtain⟨f0,f1,f2,f3,f4,f5,f6,f7,f8⟩:=c.nineF;obtain⟨X,r⟩:=jx w.heap.size;have A:=zA r;unfold zBY at j;clear p y h d c;go_enter func33,ntmps33;go_upto_region 1 with(fail);clear j;rw[r]at R S T U Y z5 z6 z7 z8 f0 f1 f2 f3 f4 f5 f6 f7 f8 f;clear r;go_region
 all_goals go_wp2_with fail
 all_goals
  refine zML (F:=fun V=>Bx V X 80 (zWz m As Am c1 c2)∧W.grownBy V (some X)) ⟨(f.out.set9 rfl).drew,zC zBr (zBT _ _)⟩ ?_;rintro V ⟨hb,hg⟩;obtain⟨q0,q1,q2,q3,q4,q5,q6,q7,q8⟩:=hb.nine;refine bodyPost_ret (v:=zX7 m As Am c1 c2) (by simp[results,results33,go_sem,q0,q1,q2,q3,q4,q5,q6,q7,q8,zX7]) rfl ?_;have B:Fz W (fun _=>False) (some X):=.box f jd jd js;have a1:C.g < X:=by rw[←A.out];exact u.out.lt
  refine⟨As,Am,c1,c2,rfl,zCJ q.out.str (.inl rfl) hg B,zCJ q.out.mag (.inr rfl) hg B,l.out.grown hg (fun b e=>by injection e with e;omega),?_⟩;exact zCK z (by rw[←A.out];exact yAC _) hg
theorem zK8 (n k:Nat):((n:Int)==(k:Int))=(n==k):=by
 rw[Bool.eq_iff_iff,beq_iff_eq,beq_iff_eq];omega
def zYY (C:Pc) (s:Ps) (kd:Nat) (tx:List UInt8) (st:List UInt16) (nk nn:Int) (mg:List Nat) (ps:Nat) (nl:Bool) (w:World) (e:Ending) (w':World):Prop:=
 ∃As Am c1 c2,e=.returned (.agg #[kd,tx,.slice As st.length c1,nk,nn,false,.slice Am mg.length c2,ps,nl])∧
  w'.ownsRow 0 65 1 (.slice As st.length c1) st.length (zAM st)∧w'.ownsRow 0 67 1 (.slice Am mg.length c2) mg.length (zBq mg)∧Pa C s w'∧w.grownBy w' none
theorem zu {C:Pc} {s:Ps} {w:World} (h:Pa C s w) {b:List UInt16} {c:List Nat} (d:zG C.L s.k=⟨kd,tx,b,nk,nn,c,ps,nl⟩):
 Calls prog 33 #[C] w (zYY C s kd tx b nk nn c ps nl w):=by
 have h1:=zHD h;rw[d]at h1;exact h1
theorem zYZ (c0 c1 c2 c3 c4 c5 c6 c7 c8:Value) (w:World):(Instr.field 80 (.agg #[c0,c1,c2,c3,c4,c5,c6,c7,c8]) 0).run prog w=.ok c0 w:=by
 unfold Instr.field
 go_simp
 simp[asAgg]
theorem zak (c0 c1 c2 c3 c4 c5 c6 c7 c8:Value) (w:World):(Instr.field 80 (.agg #[c0,c1,c2,c3,c4,c5,c6,c7,c8]) 1).run prog w=.ok c1 w:=by
 unfold Instr.field
 go_simp
 simp[asAgg]
theorem zal (c0 c1 c2 c3 c4 c5 c6 c7 c8:Value) (w:World):(Instr.field 80 (.agg #[c0,c1,c2,c3,c4,c5,c6,c7,c8]) 5).run prog w=.ok c7 w:=by
 unfold Instr.field
 go_simp
 simp[asAgg]
theorem zNl (c0 c1 c2 c3 c4 c5 c6 c7 c8:Value) (w:World):(Instr.field 80 (.agg #[c0,c1,c2,c3,c4,c5,c6,c7,c8]) 6).run prog w=.ok c8 w:=by
 unfold Instr.field
 go_simp
 simp[asAgg]
theorem zVP {t:Tok} {As Am:Option Addr} {c1 c2:Nat} (w:List UInt8) {b:Bool} (hb:isT t w=b):
 Calls prog 67 #[.agg #[t.kind,t.text,.slice As t.str.length c1,t.nk,t.nn,false,.slice Am t.mag.length c2,t.pos,t.nl],w] W fun e w'=>e=.returned b∧W.grownBy w' none:=by
 go_enter func67,ntmps67;go_wp2_with fail
 all_goals go_ret
 all_goals refine⟨?_,zF _ _ _⟩
 all_goals refine zJ ?_
 all_goals rw[←hb]
 all_goals unfold isT
 · have c:t.kind=5:=by omega
   simp[*]
 · rename_i h1 d
   have e5:((t.kind:Int)==5)=(t.kind==5):=zK8 t.kind 5;have e6:((t.kind:Int)==6)=(t.kind==6):=zK8 t.kind 6;rw[h1,e5,e6];simp
 · simp[*]
theorem zDa {c:List UInt16} {d:List Nat} {As Am:Option Addr} {c1 c2:Nat} (w:List UInt8) {b:Bool} (hb:isT ⟨kd,tx,c,nk,nn,d,ps,nl⟩ w=b):
 Calls prog 67 #[.agg #[kd,tx,.slice As c.length c1,nk,nn,false,.slice Am d.length c2,ps,nl],w] W fun e w'=>e=.returned b∧W.grownBy w' none:=zVP (t:=⟨kd,tx,c,nk,nn,d,ps,nl⟩) w hb
theorem zBm {C:Pc} {s:Ps} {w:World} (h:Pa C s w) {b:Bool} (hb:(s.bad==0)=b):
 Calls prog 107 #[C] w (zNk C s b w):=by
 have d:=h.c2;have c:=zA h;clear h;go_enter func107,ntmps107;go_wp2_with fail;go_ret;refine⟨zJ ?_,c,World.grownBy.refl _ _⟩;rw[←hb];exact zK8 s.bad 0
theorem zAo {C:Pc} {s:Ps} {w:World} (h:Pa C s w) (v:List UInt8) {b:Bool} (hb:onP C.L v s=b):
 Calls prog 109 #[C,v] w (zNk C s b w):=by
 have l:=zA h;have m:=zA hb;clear h hb;go_enter func109,ntmps109;go_wp2_with fail;refine(zHD l).mono ?_;rintro e1 w1 ⟨As,Am,c1,c2,rfl,_,_,c,d⟩;have j:=zA c;have k:=zA d;clear c d;go_wp2_with fail;refine(zVP v m).mono ?_;rintro e2 w2 ⟨rfl,e⟩;have f:=zA e;clear e;go_wp2_with fail;go_ret;exact⟨rfl,j.out.new f,zC k f⟩
theorem Pa.last {C:Pc} {s:Ps} {w:World} (h:Pa C s w):((C.N:Int) - 1)=((C.L.length - 1:Nat):Int):=by
 have:=h.cx.n;have:=h.cx.lst.pos;omega
theorem Pa.sets {C:Pc} {s s':Ps} {w w':World} (h:Pa C s w) (hg:w.grownBy w' (some C.g)) (hb:Bx w' C.g 55 (psV C s')) (hk:s'.k≤C.L.length - 1):Pa C s' w':=
 ⟨h.cx,h.keep.grown hg h.keep.size (fun b e=>by injection e with e;have:=h.cx.lo;omega),hb,hk⟩
theorem Pa.fail0 {C:Pc} {s:Ps} {w:World} {e:Nat} (h:Pa C s w) (hb:s.bad=0) (b:e≠0) (c:((C.N:Int) - 1)=((C.L.length - 1:Nat):Int)):Pa C (zC6 C.L e s) (((w.setCell ⟨C.g,2,none⟩ (.int .i64 (e:Int))).setCell ⟨C.g,3,none⟩ (.int .i64 ((zG C.L s.k).pos:Int))).setCell ⟨C.g,1,none⟩ (.int .i64 ((C.N:Int) - 1))):=by
 refine h.sets (zC (zC (zQ _ _ _ _) (zQ _ _ _ _)) (zQ _ _ _ _)) ?_ (yAC _);have:=((h.box.set 2 (.int .i64 (e:Int))).set 3 (.int .i64 ((zG C.L s.k).pos:Int))).set 1 (.int .i64 ((C.N:Int) - 1));have e1:psV C (zC6 C.L e s)=(((psV C s).set 2 (.int .i64 (e:Int))).set 3 (.int .i64 ((zG C.L s.k).pos:Int))).set 1 (.int .i64 ((C.N:Int) - 1)):=by
  unfold psV zC6 zVO;simp[hb,b,c]
 rw[e1];exact this
theorem Pa.fail1 {C:Pc} {s:Ps} {w:World} {e:Nat} (h:Pa C s w) (hb:¬s.bad=0) (b:((C.N:Int) - 1)=((C.L.length - 1:Nat):Int)):Pa C (zC6 C.L e s) (w.setCell ⟨C.g,1,none⟩ (.int .i64 ((C.N:Int) - 1))):=by
 refine h.sets (zQ _ _ _ _) ?_ (yAC _);have:=h.box.set 1 (.int .i64 ((C.N:Int) - 1));have e1:psV C (zC6 C.L e s)=(psV C s).set 1 (.int .i64 ((C.N:Int) - 1)):=by
  unfold psV zC6 zVO;simp[hb,b]
 rw[e1];exact this
theorem zC2 {C:Pc} {s:Ps} {w:World} (h:Pa C s w) (e:Nat) (m:e≠0):
 Calls prog 135 #[C,e] w (zX8 C (zC6 C.L e s) w):=by
 have o:=h.c2;have x0:=h.c0;have x1:=h.c1;have f1:=h.f 1;have p:C.N≤4097:=h.cx.n4;have d:=zA h.last;have j:=zA h
 by_cases hb:s.bad=0
 · have e1:((s.bad:Int)==0)=true:=by rw[hb];rfl
   clear x0 x1 f1 h;have q:=zA hb;clear hb;go_enter func135,ntmps135;go_wp2_with fail;refine(zHD j).mono ?_;rintro e1 w1 ⟨As,Am,c1,c2,rfl,_,_,b,c⟩;have k:=zA b;have l:=zA c;have r:=b.c0;have t:=b.c1;have u:=b.c2;have v:=b.c3;have g1:=b.f 1;have g2:=b.f 2;have y:=b.f 3;clear b c o;have z:=zal;go_wp2_with fail
   go_end0
   exact⟨rfl,k.out.fail0 q m d,zC (zAd l _) (zC (zC (zQ _ _ _ _) (zQ _ _ _ _)) (zQ _ _ _ _))⟩
 · have e1:((s.bad:Int)==0)=false:=by rw[yA];omega
   go_enter func135,ntmps135;go_wp2_with fail
   go_end0
   exact⟨rfl,j.out.fail1 hb d,zQ _ _ _ _⟩
theorem Pa.stepI {C:Pc} {s:Ps} {w:World} (h:Pa C s w) (hk:s.k < C.L.length - 1) (b:z=(s.k:Int)+1):Pa C (zB s) (w.setCell ⟨C.g,1,none⟩ (.int .i64 z)):=
 h.to (k':=s.k+1) jo hk
theorem zAO {C:Pc} {s:Ps} {w:World} (h:Pa C s w):
 Calls prog 108 #[C] w (zX8 C (za C.L s) w):=by
 have q:=zA h;clear h;go_enter func108,ntmps108;go_wp2_with fail;refine(zHD q).mono ?_;rintro e1 w1 ⟨As,Am,c1,c2,rfl,_,_,o,p⟩;have f:=zA o;have j:=zA p;clear o p
 by_cases hk:(zG C.L s.k).kind=6
 · have e6:(((zG C.L s.k).kind:Int)==6)=true:=by rw[hk];rfl
   by_cases l:zCW (zG C.L s.k).text=2
   · have e2:((zCW (zG C.L s.k).text:Int)==2)=true:=by rw[l];rfl
     have m:=zA (show za C.L s=zC6 C.L 6 s by unfold za;rw[if_pos ⟨hk,l⟩]);clear hk l;go_wp2_with (go_at_call 97;refine(zD7 _ _).mono ?_;rintro e3 w3 ⟨rfl,rfl⟩);refine(zC2 (f.out.alloc _) 6 jd).mono ?_;rintro e2 w2 ⟨rfl,b,c⟩;have d:=zA b;have e:=zA c;clear b c;go_wp2_with fail;refine jr ?_;rw[m.out];exact⟨rfl,d,zC (zAd j _) (zC (zF _ _ _) e)⟩
   · have e2:((zCW (zG C.L s.k).text:Int)==2)=false:=by rw[yA];omega
     have m:=zA (show za C.L s=zC6 C.L 5 s by unfold za;rw[if_neg (fun h=>l h.2)]);clear hk l;go_wp2_with (go_at_call 97;refine(zD7 _ _).mono ?_;rintro e3 w3 ⟨rfl,rfl⟩);refine(zC2 (f.out.alloc _) 5 jd).mono ?_;rintro e2 w2 ⟨rfl,b,c⟩;have d:=zA b;have e:=zA c;clear b c;go_wp2_with fail
     go_end0
     rw[m.out];exact⟨rfl,d,zC (zAd j _) (zC (zF _ _ _) e)⟩
 · have e6:(((zG C.L s.k).kind:Int)==6)=false:=by rw[yA];omega
   have m:=zA (show za C.L s=zC6 C.L 5 s by unfold za;rw[if_neg (fun h=>hk h.1)]);clear hk;go_wp2_with fail;refine(zC2 (f.out.alloc _) 5 jd).mono ?_;rintro e2 w2 ⟨rfl,b,c⟩;have d:=zA b;have e:=zA c;clear b c;go_wp2_with fail
   go_end0
   rw[m.out];exact⟨rfl,d,zC (zAd j _) (zC (zF _ _ _) e)⟩
def zZp (b:Bool) (s:Ps):Ps:=if b=true then zB s else s
theorem zA9 {C:Pc} {s:Ps} {w:World} (h:Pa C s w) (v:List UInt8) {b:Bool} (hb:onP C.L v s=b):
 Calls prog 70 #[C,v] w (zYW C (zZp b s) b w):=by
 have l:=zA h;have k:=zA hb;have m:C.N≤4097:=h.cx.n4;have o:=h.kN;clear h hb;go_enter func70,ntmps70;go_wp2_with fail;refine(zAo l v k).mono ?_;rintro e1 w1 ⟨rfl,c,e⟩;have d:=zA c;have j:=zA e;have x1:=c.c1;have f1:=c.f 1;clear c e;cases b with
 | false=>
  go_wp2_with fail;go_ret;exact⟨rfl,d,zAd j _⟩
 | true=>
  go_wp2_with fail;go_ret;exact⟨rfl,d.out.stepI (d.out.cx.lst.on d.out.hi k) jo,zC (zAd j _) (zQ _ _ _ _)⟩
theorem zAK {C:Pc} {s:Ps} {w:World} (h:Pa C s w) (v:List UInt8):
 Calls prog 104 #[C,v] w (zX8 C (zL C.L v s) w):=by
 have m:=zA h;clear h
 by_cases hb:onP C.L v s=true
 · have k:=zA (show zL C.L v s=zB s by unfold zL;rw[if_pos hb]);have l:=zA hb;clear hb;go_enter func104,ntmps104;go_wp2_with fail;refine(zA9 m v l).mono ?_;rintro e1 w1 ⟨rfl,b,c⟩;have d:=zA b;have e:=zA c;clear b c;go_wp2_with fail
   go_end0
   rw[k.out];exact⟨rfl,d,e⟩
 · have k:=zA (show zL C.L v s=za C.L s by unfold zL;rw[if_neg hb]);have l:=zA (show onP C.L v s=false by simpa using hb);clear hb;go_enter func104,ntmps104;go_wp2_with fail;refine(zA9 m v l).mono ?_;rintro e1 w1 ⟨rfl,b,c⟩;have d:=zA (show Pa C s w1 from b);have e:=zA c;clear b c;go_wp2_with fail;refine(zAO d).mono ?_;rintro e2 w2 ⟨rfl,f,j⟩;have o:=zA f;have p:=zA j;clear f j;go_wp2_with fail
   go_end0
   rw[k.out];exact⟨rfl,o,zC e p⟩
theorem zER {C:Pc} {s:Ps} {w:World} (h:Pa C s w):
 Calls prog 71 #[C] w (zYX C (zc C.L s) w):=by
 have y:=zA h;have z:C.N≤4097:=h.cx.n4;have B:=h.kN;clear h;go_enter func71,ntmps71;go_wp2_with fail;refine(zHD y).mono ?_;rintro e1 w1 ⟨As,Am,c1,c2,rfl,_,_,b,c⟩;have j:=zA (zAd c (some C.g))
 by_cases hk:(zG C.L s.k).kind=1
 · have e6:(((zG C.L s.k).kind:Int) !=1)=false:=by rw[hk];rfl
   have o:=zA (show zc C.L s=((zG C.L s.k).text,zB s) by unfold zc;rw[if_pos hk]);have A:=zA (b.cx.lst.lt b.hi jo);obtain⟨W,p⟩:=jx (w1.alloc (.cells #[((zG C.L s.k).kind:Int),.string ⟨(zG C.L s.k).text.toArray⟩,.slice As (zG C.L s.k).str.length c1,.int .i64 (zG C.L s.k).nk,.int .i64 (zG C.L s.k).nn,false,.slice Am (zG C.L s.k).mag.length c2,((zG C.L s.k).pos:Int),.bool (zG C.L s.k).nl] 80));have d:w1.grownBy W none:=by rw[←p];exact zF _ _ _
   have q:=zA (show Bx W w1.heap.size 80 (zWz (zG C.L s.k) As Am c1 c2) by rw[←p];exact Bx.new w1 (zWz (zG C.L s.k) As Am c1 c2) 80);have e:=zA (b.new d);have r:=zA (zAd d (some C.g));have x1:=e.out.c1;have f1:=e.out.f 1;obtain⟨E,F,G,H,I,J,M,O,P⟩:=q.out.nine;have D:=b.lt;clear hk b c d;go_wp2_with fail;go_ret;rw[o.out];exact⟨rfl,e.out.stepI A jo,zC j (zC r (zQ _ _ _ _))⟩
 · have e6:(((zG C.L s.k).kind:Int) !=1)=true:=by rw[bne_iff_ne];omega
   have o:=zA (show zc C.L s=([],za C.L s) by unfold zc;rw[if_neg hk]);have t:=zA b;clear hk b c;go_wp2_with fail;refine(zAO (t.out.alloc _)).mono ?_;rintro e2 w2 ⟨rfl,l,m⟩;have u:=zA l;have v:=zA m;clear l m;go_wp2_with fail;go_ret;rw[o.out];exact⟨rfl,u,zC j (zC (zF _ _ _) v)⟩
theorem zEB {L:List Tok} {s:Ps} {t:Tok} {v:List UInt8} (h:zG L s.k=t):onP L v s=isT t v:=by unfold onP;rw[h]
theorem zCD {C:Pc} {s:Ps} {w:World} (h:Pa C s w):
 Calls prog 69 #[C] w (zX8 C (zEY C.L s) w):=by
 have HP:=zA h;obtain⟨⟨kd,tx,u,nk,nn,y,ps,nl⟩,c⟩:=jx (zG C.L s.k);have HT:=zA c;obtain⟨I,j⟩:=jx (onP C.L [59] s);obtain⟨J,l⟩:=jx (isT ⟨kd,tx,u,nk,nn,y,ps,nl⟩ [125]);have m:=zA (show zEY C.L s=if I=true then zB s else if(J || kd==0 || nl)=true then s else za C.L s by unfold zEY;rw[j,zEB c,c,l]);have M:=zA j;have N:=zA l;clear h j l c;go_enter func69,ntmps69;go_upto_region 1 with(fail);refine(zu HP HT).mono ?_;rintro e1 w1 ⟨As,Am,c1,c2,rfl,O,P,o,A⟩;obtain⟨W,H⟩:=jx (w1.alloc (.cells #[kd,tx,.slice As u.length c1,nk,nn,false,.slice Am y.length c2,ps,nl] 80));have p:w1.grownBy W none:=by rw[←H];exact zF _ _ _
 have q:=zA (show Bx W w1.heap.size 80 [kd,tx,.slice As u.length c1,nk,nn,false,.slice Am y.length c2,ps,nl] by rw[←H];exact Bx.new w1 [kd,tx,.slice As u.length c1,nk,nn,false,.slice Am y.length c2,ps,nl] 80);have Q:=zA (o.new p);have R:=zA (zC A p);obtain⟨X,z⟩:=jx w1.heap.size;have a3:C.g < X:=by rw[←z];exact o.lt
 rw[z]at q;clear O P o A p;go_upto_region 1 with(fail);clear H
 (try rw[z])
 clear z;go_wp2_with fail;refine(zA9 Q [59] M).mono ?_;rintro e2 w2 ⟨rfl,B,r⟩;have D:=zA B;have E:=zA (zC (zAd R (some C.g)) r);have t:=zA (q.out.grown r (by simp;omega));clear B r q;obtain⟨S,T,U,V,Y,z5,z6,z7,z8⟩:=t.out.nine;cases I with
 | true=>
  go_wp2_with fail;refine jr ?_;rw[m.out];exact⟨rfl,D,E⟩
 | false=>
  go_wp2_with fail;refine(zDa [125] N).mono ?_;rintro e3 w3 ⟨rfl,d⟩;have e:=zA (D.out.new d);have f:=zA (zC E (zAd d _));have a0:=zA (t.out.grown d js);clear d t S T U V Y z5 z6 z7 z8;obtain⟨S,T,U,V,Y,z5,z6,z7,z8⟩:=a0.out.nine;cases J with
  | true=>
   go_wp2_with fail;refine jr ?_;rw[m.out];exact⟨rfl,e,f⟩
  | false=>
   by_cases hk:kd=0
   · subst hk;go_wp2_with fail;refine jr ?_;rw[m.out];exact⟨rfl,e,f⟩
   · have e0:((kd:Int)==0)=false:=by rw[yA];omega
     have E0:=zA (show(kd==0)=false by rw[yA];omega);clear hk;cases nl with
     | true=>
      go_wp2_with fail;refine jr ?_;rw[m.out,E0.out];exact⟨rfl,e,f⟩
     | false=>
      go_wp2_with fail;refine(zAO e).mono ?_;rintro e4 w4 ⟨rfl,F,G⟩;have a1:=zA F;have a2:=zA (zC f G);clear F G;go_wp2_with fail
      go_end0
      rw[m.out,E0.out];exact⟨rfl,a1,a2⟩
theorem zKB {C:Pc} {s:Ps} {w:World} (h:Pa C s w) {b:Bool} (hb:zDe C.L s=b):
 Calls prog 139 #[C] w (zNk C s b w):=by
 have HP:=zA h;obtain⟨⟨kd,tx,f,nk,nn,j,ps,nl⟩,c⟩:=jx (zG C.L s.k);have HT:=zA c;obtain⟨D,l⟩:=jx (isT ⟨kd,tx,f,nk,nn,j,ps,nl⟩ [59]);obtain⟨b1,m⟩:=jx (isT ⟨kd,tx,f,nk,nn,j,ps,nl⟩ [125]);have u:=zA (show b=(nl || kd==0 || D || b1) by rw[←hb];unfold zDe;rw[zEB c,zEB c,c,l,m]);have E:=zA l;have F:=zA m;clear h l m c hb;go_enter func139,ntmps139;go_upto_region 2 with(fail);refine(zu HP HT).mono ?_;rintro e1 w1 ⟨As,Am,c1,c2,rfl,G,H,o,y⟩;obtain⟨W,B⟩:=jx (w1.alloc (.cells #[kd,tx,.slice As f.length c1,nk,nn,false,.slice Am j.length c2,ps,nl] 80));have p:w1.grownBy W none:=by rw[←B];exact zF _ _ _
 have d:=zA (show Bx W w1.heap.size 80 [kd,tx,.slice As f.length c1,nk,nn,false,.slice Am j.length c2,ps,nl] by rw[←B];exact Bx.new w1 [kd,tx,.slice As f.length c1,nk,nn,false,.slice Am j.length c2,ps,nl] 80);have q:=zA (o.new p);have r:=zA (zC y p);obtain⟨X,v⟩:=jx w1.heap.size;have a0:C.g < X:=by rw[←v];exact o.lt
 rw[v]at d;clear G H o y p;go_upto_region 2 with(fail);clear B
 (try rw[v])
 clear v;obtain⟨I,J,M,N,O,P,Q,R,S⟩:=d.out.nine;cases nl with
 | true=>
  go_wp2_with fail;go_ret;exact⟨zJ (by rw[u.out];rfl),q,r⟩
 | false=>
  by_cases hk:kd=0
  · subst hk;go_wp2_with fail;go_ret;exact⟨zJ (by rw[u.out];rfl),q,r⟩
  · have e0:((kd:Int)==0)=false:=by rw[yA];omega
    have T:=zA (show(kd==0)=false by rw[yA];omega);clear hk;go_wp2_with fail;refine(zDa [59] E).mono ?_;rintro e3 w3 ⟨rfl,e⟩;have z:=zA (q.out.new e);have A:=zA (zC r e);have U:=zA (d.out.grown e js);clear e d I J M N O P Q R S;obtain⟨I,J,M,N,O,P,Q,R,S⟩:=U.out.nine;cases D with
    | true=>
     go_wp2_with fail;go_ret;exact⟨zJ (by rw[u.out,T.out];rfl),z,A⟩
    | false=>
     go_wp2_with fail;refine(zDa [125] F).mono ?_;rintro e4 w4 ⟨rfl,t⟩;have V:=zA (z.out.new t);have Y:=zA (zC A t);clear t;go_wp2_with fail;go_ret;exact⟨zJ (by rw[u.out,T.out];rfl),V,Y⟩
theorem zA0 {w:World} (k:Int) (A:Option Addr) (n c:Nat):
 Calls prog 32 #[k,.slice A n c] w fun e w'=>e=.returned (.agg #[k,"",(),(0:Int),(0:Int),false,(),(),.slice A n c])∧w.grownBy w' none:=by
 go_enter func32,ntmps32;obtain⟨q0,q1,q2,q3,q4,q5,q6,q7,q8⟩:=(Bx.new w [k,"",(),(0:Int),(0:Int),false,(),(),.slice A n c] 58).nine;go_wp2_with fail;refine bodyPost_ret (v:=.agg #[k,"",(),(0:Int),(0:Int),false,(),(),.slice A n c]) (by simp[results,results32,go_sem,q0,q1,q2,q3,q4,q5,q6,q7,q8]) rfl ?_;exact⟨rfl,zF _ _ _⟩
theorem zDM {w:World} (k:Int) (b:ByteArray) (A:Option Addr) (n c:Nat):
 Calls prog 105 #[k,.string b,.slice A n c] w fun e w'=>e=.returned (.agg #[k,.string b,(),(0:Int),(0:Int),false,(),(),.slice A n c])∧w.grownBy w' none:=by
 go_enter func105,ntmps105;obtain⟨q0,q1,q2,q3,q4,q5,q6,q7,q8⟩:=(Bx.new w [k,.string b,(),(0:Int),(0:Int),false,(),(),.slice A n c] 58).nine;go_wp2_with fail;refine bodyPost_ret (v:=.agg #[k,.string b,(),(0:Int),(0:Int),false,(),(),.slice A n c]) (by simp[results,results105,go_sem,q0,q1,q2,q3,q4,q5,q6,q7,q8]) rfl ?_;exact⟨rfl,zF _ _ _⟩
theorem zBH {C:Pc} {s:Ps} {w:World} (h:Pa C s w) (j:Nat) (c:Int) (y:c=(j:Int)) (z:j≤10000) {m:List UInt16} {o:List Nat} (r:zG C.L (min (s.k+j) (C.N - 1))=⟨kd,tx,m,nk,nn,o,ps,nl⟩):
 Calls prog 112 #[C,c] w (zYY C s kd tx m nk nn o ps nl w):=by
 have A:=h.kN;have O:C.N≤4097:=h.cx.n4;obtain⟨i,hi⟩:=jx (min (s.k+j) (C.N - 1));rw[hi]at r;have B:i < C.N:=by omega
 obtain⟨W,p⟩:=jx (w.alloc (.cells zBY.toArray 80));have f:w.grownBy W none:=by rw[←p];exact zF w _ none
 have d:Bx W w.heap.size 80 zBY:=by rw[←p];exact Bx.new w zBY 80
 have D:=zA h;have q:=zA (h.new f);obtain⟨gT,As,Am,c1,c2,E,a0,t⟩:=q.out.at_ i B;have x0:=q.out.c0;have x1:=q.out.c1;rw[E]at x0;rw[r]at t;have G:=zA t;obtain⟨y0,y1,y2,y3,y4,y5,y6,y7,y8,_,_⟩:=t;obtain⟨k,hk⟩:∃k,s.k=k:=⟨_,rfl⟩;rw[hk]at x1 A hi;have M:min ((k:Int)+c) ((C.N:Int) - 1)=(i:Int):=by omega
 have P:(if(C.N:Int) - 1 < (k:Int)+c then(C.N:Int) - 1 else(k:Int)+c)=(i:Int):=by subst y;split<;>omega
 have a1:0≤c:=by omega
 have a2:c≤10000:=by omega
 have H:=zA f;have l:=zA d;obtain⟨Q,R,S,T,U,Y,z6,z7,z8⟩:=d.nine;obtain⟨f0,f1,f2,f3,f4,f5,f6,f7,f8⟩:=d.nineF;obtain⟨X,u⟩:=jx w.heap.size;have I:=zA u;unfold zBY at p;clear E h f d r hi y hk z;go_enter func112,ntmps112;go_upto_region 1 with(fail);clear p;rw[u]at Q R S T U Y z6 z7 z8 f0 f1 f2 f3 f4 f5 f6 f7 f8 l;clear u;go_region
 all_goals go_wp2_with fail
 all_goals
  refine zML (F:=fun V=>Bx V X 80 [kd,tx,.slice As m.length c1,nk,nn,false,.slice Am o.length c2,ps,nl]∧W.grownBy V (some X)) ⟨(l.out.set9 rfl).drew,zC zBr (zBT _ _)⟩ ?_;rintro V ⟨hb,hg⟩;obtain⟨q0,q1,q2,q3,q4,q5,q6,q7,q8⟩:=hb.nine;refine bodyPost_ret (v:=.agg #[kd,tx,.slice As m.length c1,nk,nn,false,.slice Am o.length c2,ps,nl]) (by simp[results,results112,go_sem,q0,q1,q2,q3,q4,q5,q6,q7,q8]) rfl ?_;have J:Fz W (fun _=>False) (some X):=.box l jd jd js;have a3:C.g < X:=by rw[←I.out];exact D.out.lt
  refine⟨As,Am,c1,c2,rfl,zCJ G.out.str (.inl rfl) hg J,zCJ G.out.mag (.inr rfl) hg J,q.out.grown hg (fun b e=>by injection e with e;omega),?_⟩;exact zCK H (by rw[←I.out];exact yAC _) hg
end Go.Proofs.YtlnbbaehihgigaaGreatDoor
