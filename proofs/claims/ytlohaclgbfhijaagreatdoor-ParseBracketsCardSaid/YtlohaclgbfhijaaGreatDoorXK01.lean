/- Joined for the claim ParseBrackets: the parser, the lexer and the trees as they are walked, made short by a program of mine. -/
import Derived.Lib.SliceRun
import Derived.Deep.CutBlock
import Derived.Deep.DeepCutAuto
import Derived.Deep.RegionHeld3
import Derived.Deep.LoopGhost
import Derived.Test.YtlohaclgbfhijaaGreatDoorS01
import Derived.Test.YtlohaclgbfhijaaGreatDoorS02
import Derived.Test.YtlohaclgbfhijaaGreatDoorS03
import Derived.Test.YtlohaclgbfhijaaGreatDoorS04
import Derived.Test.YtlohaclgbfhijaaGreatDoorS05
import Derived.Test.YtlohaclgbfhijaaGreatDoorS06
import Derived.Test.YtlohaclgbfhijaaGreatDoorS07
import Derived.Test.YtlohaclgbfhijaaGreatDoorS08
import Derived.Test.YtlohaclgbfhijaaGreatDoorS09
import Derived.Test.YtlohaclgbfhijaaGreatDoorS10
import Derived.Test.YtlohaclgbfhijaaGreatDoorS11
import Derived.Test.YtlohaclgbfhijaaGreatDoorS12
import Derived.Test.YtlohaclgbfhijaaGreatDoorS13
import Derived.Test.YtlohaclgbfhijaaGreatDoorS14
import Derived.Test.YtlohaclgbfhijaaGreatDoorS15
import Derived.Test.YtlohaclgbfhijaaGreatDoorS16
import Derived.Test.YtlohaclgbfhijaaGreatDoorS17
import Derived.Test.YtlohaclgbfhijaaGreatDoorS18
import Derived.Test.YtlohaclgbfhijaaGreatDoorS19
import Derived.Test.YtlohaclgbfhijaaGreatDoorS20
import Derived.Test.YtlohaclgbfhijaaGreatDoorS21
import Derived.Test.YtlohaclgbfhijaaGreatDoorS22
import Derived.Test.YtlohaclgbfhijaaGreatDoorS23
import Derived.Test.YtlohaclgbfhijaaGreatDoorS24
import Derived.Test.YtlohaclgbfhijaaGreatDoorS25
set_option maxHeartbeats 16000000
set_option maxRecDepth 1000000
namespace Go.Proofs.YtlohaclgbfhijaaGreatDoor
open Go.Proofs.Tryz
open Go.RowKit
theorem Made.empty (w:World) (e:TypeId):Made w (w.alloc (.cells #[] e)) e (.slice (some ⟨w.heap.size,0,none⟩) 0 0) []:=
 ⟨World.ownsRow_made w #[] 0 (yAD _) (yAF _) rfl,(Below.refl _ _).alloc (yAD _) _⟩
theorem zVH {t:Tok} (h:isT t [59]=true) (hk:t.kind=5):Stop t:=by
 obtain⟨ht,_⟩:=zCh h;refine⟨by omega,?_,fun w hw=>zCE h (by revert w;decide),fun _=>?_,fun _ hp=>?_⟩
 · unfold zA9;rw[if_pos (.inl hk),ht];decide
 · rw[ht];decide
 · rw[ht]at hp;exact absurd hp (by decide)
theorem zVG {t:Tok} (h:isT t [41]=true) (hk:t.kind=5):Stop t:=by
 obtain⟨ht,_⟩:=zCh h;refine⟨by omega,?_,fun w hw=>zCE h (by revert w;decide),fun _=>?_,fun _ hp=>?_⟩
 · unfold zA9;rw[if_pos (.inl hk),ht];decide
 · rw[ht];decide
 · rw[ht]at hp;exact absurd hp (by decide)
def LN (L:List Tok) (s e:Ps):Prop:=e.bad=0→s.k < e.k→isT (zH L (e.k - 1)) [59]=false
section
variable {L:List Tok} {a s e c:Ps}
theorem LN.refl (s:Ps):LN L s s:=fun _ h=>absurd h (Nat.lt_irrefl _)
theorem LN.bad (h:e.bad≠0):LN L s e:=fun hb=>absurd hb h
theorem LN.of_lt (k:LN L s e) (h:e.bad=0→s.k < e.k):LN L a e:=fun hb _=>k hb (h hb)
theorem LN.of_eat (k:LN L s e) (x:Eat L s e) (hs:s.k≤L.length - 1):LN L a e:=k.of_lt (fun hb=>x.lt hs (fun h=>h hb))
theorem LN.trans (h:LN L a s) (k:LN L s e) (y:Adv L s e):LN L a e:=fun hb hk=>by
 rcases Nat.lt_or_ge s.k e.k with h1 | h1
 · exact k hb h1
 · have e1:s.k=e.k:=by have:=y.le;omega
   have hb1:s.bad=0:=by
    rcases Nat.eq_zero_or_pos s.bad with hz | hz
    · exact hz
    · exact absurd hb (y.bad (by omega))
   have:=h hb1 (by omega);rwa [e1]at this
theorem LN.step (h:isT (zH L s.k) [59]=false):LN L s (zB s):=fun _ _=>h
theorem LN.on {w:List UInt8} (h:onP L w s=true) (hw:w≠[59]):LN L s (zB s):=LN.step (zCE h hw)
theorem LN.need {w:List UInt8} (hw:w≠[59]):LN L s (zM L w s):=by
 unfold zM;split
 · rename_i h;exact LN.on h hw
 · exact LN.bad ze
theorem LN.word {t:List UInt8} (h:(zH L s.k).text=t) (hw:t≠[59]):LN L s (zB s):=LN.step (by unfold isT;rw[h,yAJ hw];rfl)
end
def isE:Ph→Bool
 | .assign=>true
 | .body _=>true
 | .cond=>true
 | .either=>true
 | .nullL _=>true
 | .orL _=>true
 | .both _=>true
 | .level _=>true
 | .levelL _ _=>true
 | .unary=>true
 | .calls=>true
 | .callsL _=>true
 | .head=>true
 | .headL _=>true
 | .args=>true
 | .list w=> !decide (w=[59])
 | .listL w _=> !decide (w=[59])
 | .primary=>true
 | .object=>true
 | .objL _=>true
 | .func _ _=>true
 | .block=>true
 | .blockL _=>true
 | _=>false
def Semi (L:List Tok):Prop:=∀i,isT (zH L i) [59]=true→(zH L i).kind=5
structure Kl (L:List Tok) (R:Ph→Ps→Tr×Ps):Prop where
 post:∀q s1,Pre L q s1→Post L q s1 (R q s1).2
 ln:∀q s1,Pre L q s1→isE q=true→LN L s1 (R q s1).2
 blk:∀acc s1,Pre L (.blockL acc) s1→(R (.blockL acc) s1).2.bad=0→s1.k < (R (.blockL acc) s1).2.k
section
variable {L:List Tok} {R:Ph→Ps→Tr×Ps} {s:Ps}
theorem Semi.kind (hS:Semi L) {i:Nat} (h:(zH L i).kind≠5):isT (zH L i) [59]=false:=by
 cases hh:isT (zH L i) [59]with
 | false=>rfl
 | true=>exact absurd (hS i hh) h
theorem zVT (hL:Lst L) (K:Kl L R) (hp:Pre L .assign s):LN L s (zF L R .assign s).2:=by
 unfold zF;dsimp only;split
 · rename_i c
   have hlt:=hL.lt hp.1 (by rw[c.1];decide);exact(K.ln (.body [trN 20 (zH L s.k).text []]) (zB s) ⟨hlt,trivial⟩ rfl).of_eat (K.post (.body [trN 20 (zH L s.k).text []]) (zB s) ⟨hlt,trivial⟩) hlt
 · split
   · have x1:Eat L s (R .params s).2:=K.post .params s ⟨hp.1,trivial⟩;exact(K.ln (.body (R .params s).1.subs) (R .params s).2 ⟨x1.adv.hi,trivial⟩ rfl).of_eat (K.post (.body (R .params s).1.subs) (R .params s).2 ⟨x1.adv.hi,trivial⟩) x1.adv.hi
   · have x1:Eat L s (R .cond s).2:=K.post .cond s ⟨hp.1,trivial⟩;split
     · exact K.ln .cond s ⟨hp.1,trivial⟩ rfl
     · rename_i c3
       split
       · exact LN.bad (zAt (by decide))
       · have hl2:(R .cond s).2.k < L.length - 1:=hL.lt x1.adv.hi (fun h0=>c3 (.inl (by rw[h0];decide)));exact(K.ln .assign (zB (R .cond s).2) ⟨hl2,trivial⟩ rfl).of_eat (K.post .assign (zB (R .cond s).2) ⟨hl2,trivial⟩) hl2
theorem zVy {l:List Tr} (hL:Lst L) (K:Kl L R) (hp:Pre L (.body l) s):LN L s (zF L R (.body l) s).2:=by
 unfold zF;dsimp only;have y:Adv L s (if(zH L s.k).nl=true then zV L s else s):=by
  split
  · exact(zl hp.1).adv
  · exact Adv.refl hp.1
 have x1:=zN (w:=[61,62]) hL y.hi;obtain⟨s1,hs1⟩:∃s1,zM L [61,62] (if(zH L s.k).nl=true then zV L s else s)=s1:=⟨_,rfl⟩;rw[hs1]at x1⊢;split
 · exact(K.ln .block s1 ⟨x1.adv.hi,trivial⟩ rfl).of_eat (K.post .block s1 ⟨x1.adv.hi,trivial⟩) x1.adv.hi
 · exact(K.ln .assign s1 ⟨x1.adv.hi,trivial⟩ rfl).of_eat (K.post .assign s1 ⟨x1.adv.hi,trivial⟩) x1.adv.hi
theorem zVz (hL:Lst L) (K:Kl L R) (hp:Pre L .cond s):LN L s (zF L R .cond s).2:=by
 unfold zF;dsimp only;have x1:Eat L s (R .either s).2:=K.post .either s ⟨hp.1,trivial⟩;split
 · rename_i c
   have hl:=hL.on x1.adv.hi c;have p2:=(K.post .assign (zB (R .either s).2) ⟨hl,trivial⟩).adv;have y:=zN (w:=[58]) hL p2.hi;exact(K.ln .assign (zM L [58] (R .assign (zB (R .either s).2)).2) ⟨y.adv.hi,trivial⟩ rfl).of_eat (K.post .assign (zM L [58] (R .assign (zB (R .either s).2)).2) ⟨y.adv.hi,trivial⟩) y.adv.hi
 · exact K.ln .either s ⟨hp.1,trivial⟩ rfl
theorem zVU (hL:Lst L) (K:Kl L R) (hp:Pre L .either s):LN L s (zF L R .either s).2:=by
 unfold zF;dsimp only;have _:=hL.pos;have x1:Eat L s (R (.level 0) s).2:=K.post (.level 0) s ⟨hp.1,yAF _⟩;have l1:=K.ln (.level 0) s ⟨hp.1,yAF _⟩ rfl;split
 · have p:=(K.post (.nullL (R (.level 0) s).1) (R (.level 0) s).2 ⟨x1.adv.hi,trivial⟩).adv;have l2:=l1.trans (K.ln (.nullL (R (.level 0) s).1) (R (.level 0) s).2 ⟨x1.adv.hi,trivial⟩ rfl) p;show LN L s (if _ then _ else _);split
   · exact LN.bad ze
   · exact l2
 · have p:=(K.post (.both (R (.level 0) s).1) (R (.level 0) s).2 ⟨x1.adv.hi,trivial⟩).adv;have l2:=l1.trans (K.ln (.both (R (.level 0) s).1) (R (.level 0) s).2 ⟨x1.adv.hi,trivial⟩ rfl) p;have q:=(K.post (.orL (R (.both (R (.level 0) s).1) (R (.level 0) s).2).1) (R (.both (R (.level 0) s).1) (R (.level 0) s).2).2 ⟨p.hi,trivial⟩).adv;have l3:=l2.trans (K.ln (.orL (R (.both (R (.level 0) s).1) (R (.level 0) s).2).1) (R (.both (R (.level 0) s).1) (R (.level 0) s).2).2 ⟨p.hi,trivial⟩ rfl) q;show LN L s (if _ then _ else _);split
   · exact LN.bad ze
   · exact l3
theorem zVg {x:Tr} (hL:Lst L) (K:Kl L R) (hp:Pre L (.nullL x) s):LN L s (zF L R (.nullL x) s).2:=by
 unfold zF;dsimp only;split
 · rename_i c
   have hl:=hL.on hp.1 c;have p1:Eat L (zB s) (R (.level 0) (zB s)).2:=K.post (.level 0) (zB s) ⟨hl,yAF _⟩;have l1:LN L s (R (.level 0) (zB s)).2:=(K.ln (.level 0) (zB s) ⟨hl,yAF _⟩ rfl).of_eat p1 hl;exact l1.trans (K.ln (.nullL (trN 47 [63,63] [x,(R (.level 0) (zB s)).1])) (R (.level 0) (zB s)).2 ⟨p1.adv.hi,trivial⟩ rfl) (K.post (.nullL (trN 47 [63,63] [x,(R (.level 0) (zB s)).1])) (R (.level 0) (zB s)).2 ⟨p1.adv.hi,trivial⟩).adv
 · exact LN.refl _
theorem zV0 {x:Tr} (hL:Lst L) (K:Kl L R) (hp:Pre L (.both x) s):LN L s (zF L R (.both x) s).2:=by
 unfold zF;dsimp only;split
 · rename_i c
   have hl:=hL.on hp.1 c;have p1:Eat L (zB s) (R (.level 0) (zB s)).2:=K.post (.level 0) (zB s) ⟨hl,yAF _⟩;have l1:LN L s (R (.level 0) (zB s)).2:=(K.ln (.level 0) (zB s) ⟨hl,yAF _⟩ rfl).of_eat p1 hl;exact l1.trans (K.ln (.both (trN 47 [38,38] [x,(R (.level 0) (zB s)).1])) (R (.level 0) (zB s)).2 ⟨p1.adv.hi,trivial⟩ rfl) (K.post (.both (trN 47 [38,38] [x,(R (.level 0) (zB s)).1])) (R (.level 0) (zB s)).2 ⟨p1.adv.hi,trivial⟩).adv
 · exact LN.refl _
theorem zWD {x:Tr} (hL:Lst L) (K:Kl L R) (hp:Pre L (.orL x) s):LN L s (zF L R (.orL x) s).2:=by
 unfold zF;dsimp only;split
 · rename_i c
   have hl:=hL.on hp.1 c;have p1:Eat L (zB s) (R (.level 0) (zB s)).2:=K.post (.level 0) (zB s) ⟨hl,yAF _⟩;have l1:LN L s (R (.level 0) (zB s)).2:=(K.ln (.level 0) (zB s) ⟨hl,yAF _⟩ rfl).of_eat p1 hl;have p2:=(K.post (.both (R (.level 0) (zB s)).1) (R (.level 0) (zB s)).2 ⟨p1.adv.hi,trivial⟩).adv;have l2:=l1.trans (K.ln (.both (R (.level 0) (zB s)).1) (R (.level 0) (zB s)).2 ⟨p1.adv.hi,trivial⟩ rfl) p2;exact l2.trans (K.ln (.orL (trN 47 [124,124] [x,(R (.both (R (.level 0) (zB s)).1) (R (.level 0) (zB s)).2).1])) (R (.both (R (.level 0) (zB s)).1) (R (.level 0) (zB s)).2).2 ⟨p2.hi,trivial⟩ rfl) (K.post (.orL (trN 47 [124,124] [x,(R (.both (R (.level 0) (zB s)).1) (R (.level 0) (zB s)).2).1])) (R (.both (R (.level 0) (zB s)).1) (R (.level 0) (zB s)).2).2 ⟨p2.hi,trivial⟩).adv
 · exact LN.refl _
theorem zVh {n:Nat} (hL:Lst L) (K:Kl L R) (hp:Pre L (.level n) s):LN L s (zF L R (.level n) s).2:=by
 unfold zF;dsimp only;have hn:n≤8:=hp.2;have _:=hL.pos;split
 · exact K.ln .unary s ⟨hp.1,trivial⟩ rfl
 · rename_i c
   have x1:Eat L s (R (.level (n+1)) s).2:=K.post (.level (n+1)) s ⟨hp.1,(by show n+1≤8;omega)⟩;have hp2:Pre L (.levelL n (R (.level (n+1)) s).1) (R (.level (n+1)) s).2:=⟨x1.adv.hi,(by show n < 8;omega)⟩;exact(K.ln (.level (n+1)) s ⟨hp.1,(by show n+1≤8;omega)⟩ rfl).trans (K.ln _ _ hp2 rfl) (K.post _ _ hp2).adv
theorem zVV {n:Nat} {x:Tr} (hL:Lst L) (K:Kl L R) (hp:Pre L (.levelL n x) s):LN L s (zF L R (.levelL n x) s).2:=by
 unfold zF;dsimp only;have hn:n < 8:=hp.2;split
 · rename_i c
   have hl:=hL.lt hp.1 (zCZ (by omega));have p1:Eat L (zB s) (R (.level (n+1)) (zB s)).2:=K.post (.level (n+1)) (zB s) ⟨hl,(by show n+1≤8;omega)⟩;have l1:LN L s (R (.level (n+1)) (zB s)).2:=(K.ln (.level (n+1)) (zB s) ⟨hl,(by show n+1≤8;omega)⟩ rfl).of_eat p1 hl;have hp2:Pre L (.levelL n (trN 46 (zH L s.k).text [x,(R (.level (n+1)) (zB s)).1])) (R (.level (n+1)) (zB s)).2:=⟨p1.adv.hi,hn⟩;exact l1.trans (K.ln _ _ hp2 rfl) (K.post _ _ hp2).adv
 · exact LN.refl _
theorem zVi (hL:Lst L) (K:Kl L R) (hp:Pre L .unary s):LN L s (zF L R .unary s).2:=by
 unfold zF;dsimp only;split
 · have hl:=hL.lt hp.1 (by omega);exact(K.ln .unary (zB s) ⟨hl,trivial⟩ rfl).of_eat (K.post .unary (zB s) ⟨hl,trivial⟩) hl
 · split
   · have hl:=hL.lt hp.1 (by omega);show LN L s (if _ then _ else _);split
     · exact LN.bad ze
     · exact(K.ln .unary (zB s) ⟨hl,trivial⟩ rfl).of_eat (K.post .unary (zB s) ⟨hl,trivial⟩) hl
   · have x1:Eat L s (R .calls s).2:=K.post .calls s ⟨hp.1,trivial⟩;have l1:=K.ln .calls s ⟨hp.1,trivial⟩ rfl;split
     · rename_i c
       split
       · exact LN.bad ze
       · refine l1.trans (LN.step ?_) (zAC (hL.lt x1.adv.hi (by omega)));cases hh:isT (zH L (R .calls s).2.k) [59]with
         | false=>rfl
         | true=>
          have h2:=c.2.1;rw[(zCh hh).1]at h2;exact absurd h2 (by decide)
     · exact l1
theorem zVj (hL:Lst L) (K:Kl L R) (hp:Pre L .calls s):LN L s (zF L R .calls s).2:=by
 unfold zF;dsimp only;have _:=hL.pos;have x1:Eat L s (R .head s).2:=K.post .head s ⟨hp.1,trivial⟩;exact(K.ln .head s ⟨hp.1,trivial⟩ rfl).trans (K.ln (.callsL (R .head s).1) (R .head s).2 ⟨x1.adv.hi,trivial⟩ rfl) (K.post (.callsL (R .head s).1) (R .head s).2 ⟨x1.adv.hi,trivial⟩).adv
theorem zVW {x:Tr} (hL:Lst L) (hS:Semi L) (K:Kl L R) (hp:Pre L (.callsL x) s):LN L s (zF L R (.callsL x) s).2:=by
 unfold zF;dsimp only;split
 · rename_i c
   have hl:=hL.on hp.1 c;have x1:Eat L s (R .args s).2:=K.post .args s ⟨hp.1,hl⟩;exact(K.ln .args s ⟨hp.1,hl⟩ rfl).trans (K.ln (.callsL (trK 50 (x::(R .args s).1.subs))) (R .args s).2 ⟨x1.adv.hi,trivial⟩ rfl) (K.post (.callsL (trK 50 (x::(R .args s).1.subs))) (R .args s).2 ⟨x1.adv.hi,trivial⟩).adv
 · split
   · rename_i c
     have hl:=hL.on hp.1 c;split
     · exact LN.bad ze
     · have hl2:(zB s).k < L.length - 1:=hL.lt (s:=zB s) hl (by omega);have l1:LN L s (zB (zB s)):=fun _ _=>hS.kind (i:=s.k+1) (by
        show(zH L (zB s).k).kind≠5;omega)
       exact l1.trans (K.ln (.callsL (trN 52 (zH L (zB s).k).text [x])) (zB (zB s)) ⟨hl2,trivial⟩ rfl) (K.post (.callsL (trN 52 (zH L (zB s).k).text [x])) (zB (zB s)) ⟨hl2,trivial⟩).adv
   · split
     · rename_i c
       have hl:=hL.on hp.1 c;have p1:=(K.post .assign (zB s) ⟨hl,trivial⟩).adv;have y:=zN (w:=[93]) hL p1.hi;have l1:LN L s (zM L [93] (R .assign (zB s)).2):=(LN.need (by decide)).of_eat y p1.hi;exact l1.trans (K.ln (.callsL (trK 53 [x,(R .assign (zB s)).1])) _ ⟨y.adv.hi,trivial⟩ rfl) (K.post (.callsL (trK 53 [x,(R .assign (zB s)).1])) _ ⟨y.adv.hi,trivial⟩).adv
     · exact LN.refl _
theorem zVk {x:Tr} (hL:Lst L) (hS:Semi L) (K:Kl L R) (hp:Pre L (.headL x) s):LN L s (zF L R (.headL x) s).2:=by
 unfold zF;dsimp only;split
 · rename_i c
   have hl:=hL.on hp.1 c;split
   · exact LN.bad ze
   · have hl2:(zB s).k < L.length - 1:=hL.lt (s:=zB s) hl (by omega);have l1:LN L s (zB (zB s)):=fun _ _=>hS.kind (i:=s.k+1) (by
      show(zH L (zB s).k).kind≠5;omega)
     exact l1.trans (K.ln (.headL (trN 52 (zH L (zB s).k).text [x])) (zB (zB s)) ⟨hl2,trivial⟩ rfl) (K.post (.headL (trN 52 (zH L (zB s).k).text [x])) (zB (zB s)) ⟨hl2,trivial⟩).adv
 · split
   · rename_i c
     have hl:=hL.on hp.1 c;have p1:=(K.post .assign (zB s) ⟨hl,trivial⟩).adv;have y:=zN (w:=[93]) hL p1.hi;have l1:LN L s (zM L [93] (R .assign (zB s)).2):=(LN.need (by decide)).of_eat y p1.hi;exact l1.trans (K.ln (.headL (trK 53 [x,(R .assign (zB s)).1])) _ ⟨y.adv.hi,trivial⟩ rfl) (K.post (.headL (trK 53 [x,(R .assign (zB s)).1])) _ ⟨y.adv.hi,trivial⟩).adv
   · exact LN.refl _
theorem zV1 (hL:Lst L) (K:Kl L R) (hp:Pre L .head s):LN L s (zF L R .head s).2:=by
 unfold zF;dsimp only;split
 · rename_i c
   have hl:=hL.on hp.1 c;have p1:Eat L (zB s) (R .head (zB s)).2:=K.post .head (zB s) ⟨hl,trivial⟩;have l1:LN L s (R .head (zB s)).2:=(K.ln .head (zB s) ⟨hl,trivial⟩ rfl).of_eat p1 hl;have p2:=(K.post (.headL (R .head (zB s)).1) (R .head (zB s)).2 ⟨p1.adv.hi,trivial⟩).adv;have l2:=l1.trans (K.ln (.headL (R .head (zB s)).1) (R .head (zB s)).2 ⟨p1.adv.hi,trivial⟩ rfl) p2;split
   · rename_i c2
     have hl2:=hL.on p2.hi c2;exact l2.trans (K.ln .args _ ⟨p2.hi,hl2⟩ rfl) (K.post .args _ ⟨p2.hi,hl2⟩).adv
   · exact l2
 · exact K.ln .primary s ⟨hp.1,trivial⟩ rfl
theorem zV2 (hL:Lst L) (K:Kl L R) (hp:Pre L .args s):LN L s (zF L R .args s).2:=by
 unfold zF;dsimp only;have x:=zN (w:=[40]) hL hp.1;exact(K.ln (.list [41]) (zM L [40] s) ⟨x.adv.hi,trivial⟩ (by decide)).of_eat (K.post (.list [41]) (zM L [40] s) ⟨x.adv.hi,trivial⟩) x.adv.hi
theorem zV3 {w:List UInt8} (hw:w≠[59]) (K:Kl L R) (hp:Pre L (.list w) s):LN L s (zF L R (.list w) s).2:=by
 unfold zF;dsimp only;split
 · rename_i c
   exact LN.on c hw
 · exact K.ln (.listL w []) s ⟨hp.1,trivial⟩ (by simp[isE,hw])
theorem zVl {w:List UInt8} {acc:List Tr} (hL:Lst L) (hw:w≠[59]) (K:Kl L R) (hp:Pre L (.listL w acc) s):LN L s (zF L R (.listL w acc) s).2:=by
 unfold zF;dsimp only;have x1:Eat L s (R .assign s).2:=K.post .assign s ⟨hp.1,trivial⟩;split
 · rename_i c;exact LN.bad c
 · split
   · rename_i c2
     exact(LN.on c2 hw).of_eat (zAm (hL.on x1.adv.hi c2)) x1.adv.hi
   · have y:=zN (w:=[44]) hL x1.adv.hi;exact(K.ln (.listL w (acc++[(R .assign s).1])) (zM L [44] (R .assign s).2) ⟨y.adv.hi,trivial⟩ (by simp[isE,hw])).of_eat (K.post (.listL w (acc++[(R .assign s).1])) (zM L [44] (R .assign s).2) ⟨y.adv.hi,trivial⟩) y.adv.hi
theorem zV4 {acc:List Tr} (hL:Lst L) (K:Kl L R) (hp:Pre L (.objL acc) s):LN L s (zF L R (.objL acc) s).2:=by
 unfold zF;dsimp only;have x1:Eat L s (R .prop s).2:=K.post .prop s ⟨hp.1,trivial⟩;split
 · rename_i c;exact LN.bad c
 · split
   · rename_i c2
     exact(LN.on c2 (by decide)).of_eat (zAm (hL.on x1.adv.hi c2)) x1.adv.hi
   · have y:=zN (w:=[44]) hL x1.adv.hi;exact(K.ln (.objL (acc++[(R .prop s).1])) (zM L [44] (R .prop s).2) ⟨y.adv.hi,trivial⟩ rfl).of_eat (K.post (.objL (acc++[(R .prop s).1])) (zM L [44] (R .prop s).2) ⟨y.adv.hi,trivial⟩) y.adv.hi
theorem zVX (hL:Lst L) (K:Kl L R) (hp:Pre L .object s):LN L s (zF L R .object s).2:=by
 unfold zF;dsimp only;have _:=hL.pos;split
 · rename_i c
   exact LN.on c (by decide)
 · exact K.ln (.objL []) s ⟨hp.1,trivial⟩ rfl
theorem zV5 {k:Int} {n:List UInt8} (hL:Lst L) (K:Kl L R) (hp:Pre L (.func k n) s):LN L s (zF L R (.func k n) s).2:=by
 unfold zF;dsimp only;have _:=hL.pos;have x1:Eat L s (R .params s).2:=K.post .params s ⟨hp.1,trivial⟩;exact(K.ln .block (R .params s).2 ⟨x1.adv.hi,trivial⟩ rfl).of_eat (K.post .block (R .params s).2 ⟨x1.adv.hi,trivial⟩) x1.adv.hi
theorem zVm (hL:Lst L) (K:Kl L R) (hp:Pre L .block s):LN L s (zF L R .block s).2:=by
 unfold zF;dsimp only;have x:=zN (w:=[123]) hL hp.1;have l1:LN L s (zM L [123] s):=LN.need (by decide);exact l1.trans (K.ln (.blockL []) (zM L [123] s) ⟨x.adv.hi,trivial⟩ rfl) (K.post (.blockL []) (zM L [123] s) ⟨x.adv.hi,trivial⟩).adv
theorem zVY {acc:List Tr} (hL:Lst L) (K:Kl L R) (hp:Pre L (.blockL acc) s):LN L s (zF L R (.blockL acc) s).2:=by
 unfold zF;dsimp only;have _:=hL.pos;split
 · rename_i c;exact LN.bad c
 · split
   · rename_i c2;exact LN.on c2 (by decide)
   · have x1:Eat L s (R .item s).2:=K.post .item s ⟨hp.1,trivial⟩;exact(K.ln (.blockL (acc++[(R .item s).1])) (R .item s).2 ⟨x1.adv.hi,trivial⟩ rfl).of_lt (K.blk _ _ ⟨x1.adv.hi,trivial⟩)
theorem zVP (hL:Lst L) (hS:Semi L) (K:Kl L R) (hp:Pre L .primary s):LN L s (zF L R .primary s).2:=by
 unfold zF;dsimp only
 by_cases c0:(zH L s.k).kind=0
 · rw[if_pos c0];exact LN.bad ze
 rw[if_neg c0];have hlt:=hL.lt hp.1 c0
 by_cases c1:(zH L s.k).kind=2
 · rw[if_pos c1];exact LN.step (hS.kind (by omega))
 rw[if_neg c1]
 by_cases c2:(zH L s.k).kind=3
 · rw[if_pos c2];exact LN.step (hS.kind (by omega))
 rw[if_neg c2]
 by_cases c3:(zH L s.k).kind=4
 · rw[if_pos c3];exact LN.step (hS.kind (by omega))
 rw[if_neg c3]
 by_cases c4:(zH L s.k).kind=1
 · rw[if_pos c4];exact LN.step (hS.kind (by omega))
 rw[if_neg c4]
 by_cases c5:(zH L s.k).text=[116,114,117,101]
 · rw[if_pos c5];exact LN.word c5 (by decide)
 rw[if_neg c5]
 by_cases c6:(zH L s.k).text=[102,97,108,115,101]
 · rw[if_pos c6];exact LN.word c6 (by decide)
 rw[if_neg c6]
 by_cases c7:(zH L s.k).text=[110,117,108,108]
 · rw[if_pos c7];exact LN.word c7 (by decide)
 rw[if_neg c7]
 by_cases c8:(zH L s.k).text=[116,104,105,115]
 · rw[if_pos c8];exact LN.word c8 (by decide)
 rw[if_neg c8]
 by_cases d1:(zH L s.k).text=[91]
 · rw[if_pos d1];exact(K.ln (.list [93]) (zB s) ⟨hlt,trivial⟩ (by decide)).of_eat (K.post (.list [93]) (zB s) ⟨hlt,trivial⟩) hlt
 rw[if_neg d1]
 by_cases d2:(zH L s.k).text=[123]
 · rw[if_pos d2];exact(K.ln .object (zB s) ⟨hlt,trivial⟩ rfl).of_eat (K.post .object (zB s) ⟨hlt,trivial⟩) hlt
 rw[if_neg d2]
 by_cases d3:(zH L s.k).text=[102,117,110,99,116,105,111,110]
 · rw[if_pos d3]
   by_cases d4:(zH L (zB s).k).kind=1
   · rw[if_pos d4];have y:=zAD (s:=zB s) hL hlt;exact(K.ln (.func 41 (zW L (zB s)).1) (zW L (zB s)).2 ⟨y.adv.hi,trivial⟩ rfl).of_eat (K.post (.func 41 (zW L (zB s)).1) (zW L (zB s)).2 ⟨y.adv.hi,trivial⟩) y.adv.hi
   · rw[if_neg d4];exact(K.ln (.func 41 []) (zB s) ⟨hlt,trivial⟩ rfl).of_eat (K.post (.func 41 []) (zB s) ⟨hlt,trivial⟩) hlt
 rw[if_neg d3]
 by_cases d5:(zH L s.k).text=[40]
 · rw[if_pos d5];have p1:=(K.post .assign (zB s) ⟨hlt,trivial⟩).adv;exact(LN.need (by decide)).of_eat (zN (w:=[41]) hL p1.hi) p1.hi
 rw[if_neg d5];refine LN.bad ?_;show(if _ then _ else _:Ps).bad≠0;split
 · exact zAt (by decide)
 · exact ze
theorem zV6 (hL:Lst L) (hS:Semi L) (K:Kl L R) (p:Ph) (s:Ps) (hp:Pre L p s) (he:isE p=true):LN L s (zF L R p s).2:=by
 cases p with
 | assign=>exact zVT hL K hp
 | body l=>exact zVy hL K hp
 | cond=>exact zVz hL K hp
 | either=>exact zVU hL K hp
 | nullL x=>exact zVg hL K hp
 | orL x=>exact zWD hL K hp
 | both x=>exact zV0 hL K hp
 | level n=>exact zVh hL K hp
 | levelL n x=>exact zVV hL K hp
 | unary=>exact zVi hL K hp
 | calls=>exact zVj hL K hp
 | callsL x=>exact zVW hL hS K hp
 | head=>exact zV1 hL K hp
 | headL x=>exact zVk hL hS K hp
 | args=>exact zV2 hL K hp
 | list w=>exact zV3 (by simpa [isE]using he) K hp
 | listL w acc=>exact zVl hL (by simpa [isE]using he) K hp
 | primary=>exact zVP hL hS K hp
 | object=>exact zVX hL K hp
 | objL acc=>exact zV4 hL K hp
 | func k n=>exact zV5 hL K hp
 | block=>exact zVm hL K hp
 | blockL acc=>exact zVY hL K hp
 | _=>cases he
theorem zWE (hL:Lst L) (hS:Semi L):∀f:Nat,Kl L (zCL L f):=by
 intro f
 induction f with
 | zero=>exact⟨zCB hL 0,fun q s1 _ _=>LN.bad (zAt (by decide)),zNd hL 0⟩
 | succ f ih=>exact⟨zCB hL (f+1),fun q s1 hq he=>zV6 hL hS ih q s1 hq he,zNd hL (f+1)⟩
theorem zWF (hL:Lst L) (hS:Semi L) {p:Ph} (hp:Pre L p s) (he:isE p=true):LN L s (zG L p s).2:=(zWE hL hS (zf L p s+1)).ln p s hp he
end
section
variable {L L1 L3:List Tok} {s e:Ps} {y:Tr}
theorem Stop.off (h:Stop (zH L e.k)) {w:List UInt8} (hw:w∈zUr):¬onP L w e=true:=by
 unfold onP;rw[h.words w hw];decide
theorem zVn (hL:Lst L) (hs:s.k≤L.length - 1) (hp:zG L .primary s=(y,e)) (he:Stop (zH L e.k)) (h1:isT (zH L s.k) [110,101,119]=false) (h2:¬(((zH L s.k).kind=5∨(zH L s.k).kind=6)∧(zH L s.k).text∈zH7)) (h3:¬(((zH L s.k).kind=5∨(zH L s.k).kind=6)∧(zH L s.k).text∈zDv)):zG L .unary s=(y,e):=by
 have hk:e.k≤L.length - 1:=by
  have:=(zS hL (p:=.primary) (s:=s) ⟨hs,trivial⟩).adv.hi;rwa [hp]at this
 have g1:zG L .head s=(y,e):=by
  rw[zt hL ⟨hs,trivial⟩];unfold zF;dsimp only;rw[if_neg (by unfold onP;rw[h1];decide)];exact hp
 have g2:zG L (.callsL y) e=(y,e):=by
  rw[zt hL ⟨hk,trivial⟩];unfold zF;dsimp only;rw[if_neg (he.off (by decide)),if_neg (he.off (by decide)),if_neg (he.off (by decide))]
 have g3:zG L .calls s=(y,e):=by
  rw[zt hL ⟨hs,trivial⟩];unfold zF;dsimp only;rw[g1];exact g2
 rw[zt hL ⟨hs,trivial⟩];unfold zF;dsimp only;rw[if_neg h2,if_neg h3,g3];dsimp only;rw[if_neg];rintro⟨a1,a2,a3⟩;rw[he.post a1 a2]at a3;cases a3
theorem zVo (hL:Lst L) (hs:s.k≤L.length - 1) (hk:e.k≤L.length - 1) (hu:zG L .unary s=(y,e)) (he:Stop (zH L e.k)):∀k n,n+k=8→zG L (.level n) s=(y,e):=by
 intro k
 induction k with
 | zero=>
  intro n hn;rw[zt hL ⟨hs,(by show n≤8;omega)⟩];unfold zF;dsimp only;rw[if_pos (by omega)];exact hu
 | succ k ih=>
  intro n hn;rw[zt hL ⟨hs,(by show n≤8;omega)⟩];unfold zF;dsimp only;rw[if_neg (by omega),ih (n+1) (by omega)];dsimp only;rw[zt hL ⟨hk,(by show n < 8;omega)⟩];unfold zF;dsimp only;rw[if_neg (by rw[he.binds];omega)]
theorem zV7 (hL:Lst L) (hs:s.k≤L.length - 1) (hk:e.k≤L.length - 1) (hu:zG L (.level 0) s=(y,e)) (he:Stop (zH L e.k)):zG L .cond s=(y,e):=by
 have g1:zG L (.both y) e=(y,e):=by
  rw[zt hL ⟨hk,trivial⟩];unfold zF;dsimp only;rw[if_neg (he.off (by decide))]
 have g2:zG L (.orL y) e=(y,e):=by
  rw[zt hL ⟨hk,trivial⟩];unfold zF;dsimp only;rw[if_neg (he.off (by decide))]
 have g3:zG L .either s=(y,e):=by
  rw[zt hL ⟨hs,trivial⟩];unfold zF;dsimp only;rw[hu];dsimp only;rw[if_neg (he.off (by decide)),g1];dsimp only;rw[g2];dsimp only;rw[if_neg (he.off (by decide))]
 rw[zt hL ⟨hs,trivial⟩];unfold zF;dsimp only;rw[g3];dsimp only;rw[if_neg (he.off (by decide))]
theorem zVZ (hL:Lst L) (hs:s.k≤L.length - 1) (hc:zG L .cond s=(y,e)) (he:Stop (zH L e.k)) (h1:¬((zH L s.k).kind=1∧isT (zx L s.k 1) [61,62]=true∧(zx L s.k 1).nl=false)) (h2:¬zAR L s=true):zG L .assign s=(y,e):=by
 rw[zt hL ⟨hs,trivial⟩];unfold zF;dsimp only;rw[if_neg h1,if_neg h2,hc];dsimp only;rw[if_pos]
 by_cases h5:(zH L e.k).kind=5
 · exact .inr (he.asgn h5)
 · exact .inl h5
theorem zVQ (hL:Lst L) (hs:s.k < L.length - 1) (h0:isT (zH L s.k) [40]=true) (hk0:(zH L s.k).kind=5) (h1:isT (zH L (s.k+1)) [40]=true) (hk1:(zH L (s.k+1)).kind=5)
 (hi:zG L .assign (zB s)=(y,e)) (hc:onP L [41] e=true) (he:Stop (zH L (e.k+1))):zG L .assign s=(y,zB e):=by
 have ht:=(zCh h0).1;have hs':=Nat.le_of_lt hs;have hke:e.k≤L.length - 1:=by
  have:=(zS hL (p:=.assign) (s:=zB s) ⟨hs,trivial⟩).adv.hi;rwa [hi]at this
 have hke2:(zB e).k≤L.length - 1:=hL.on hke hc;have gp:zG L .primary s=(y,zB e):=by
  rw[zt hL ⟨hs',trivial⟩];unfold zF;dsimp only;rw[if_neg (by omega),if_neg (by omega),if_neg (by omega),if_neg (by omega),if_neg (by omega),ht,if_neg (by decide),if_neg (by decide),if_neg (by decide),if_neg (by decide),if_neg (by decide),if_neg (by decide),if_neg (by decide),if_pos rfl,hi];dsimp only;unfold zM;rw[if_pos hc]
 have gu:=zVn hL hs' gp he (zCE h0 (by decide)) (by rw[ht];rintro⟨_,h⟩;exact absurd h (by decide)) (by rw[ht];rintro⟨_,h⟩;exact absurd h (by decide));refine zVZ hL hs' (zV7 hL hs' hke2 (zVo hL hs' hke2 gu he 8 0 rfl) he) he (by omega) ?_;intro h;unfold zAR at h;rw[Bool.and_eq_true,if_neg (by rw[zCE h1 (by decide)];decide)]at h;have hpos:=hL.pos;obtain⟨f,hf⟩:∃f,L.length=f+1:=⟨L.length - 1,by omega⟩;rw[hf]at h;unfold zBT at h;rw[if_neg (by omega)]at h;cases h.2
theorem zVM (h1:Lst L1) (h3:Lst L3) (hS:Semi L1) {k:Nat} (hlen:L3.length=L1.length+2*k) (hn:3 < L1.length)
 (h0:isT (zH L1 0) [40]=true) (hk0:(zH L1 0).kind=5) (hs1:isT (zH L1 (L1.length - 2)) [59]=true)
 (ho:∀i,i < k→isT (zH L3 i) [40]=true∧(zH L3 i).kind=5)
 (hU:∀i,i < L1.length - 2→zS5 (zH L1 i) (zH L3 (i+k))∧(0 < i→(zH L1 i).nl=(zH L3 (i+k)).nl))
 (hc:∀j,j < k→isT (zH L3 (L1.length - 2+k+j)) [41]=true∧(zH L3 (L1.length - 2+k+j)).kind=5)
 (hs:isT (zH L3 (L1.length - 2+k+k)) [59]=true) (hks:(zH L3 (L1.length - 2+k+k)).kind=5)
 (r1:(zG L1 (.program []) s0).2.bad=0) {x:Tr} (hx:(zG L1 (.program []) s0).1=trK 1 [x]):(zG L3 (.program []) s0).1=trK 1 [x]∧(zG L3 (.program []) s0).2.bad=0:=by
 obtain⟨IA,e1,p1,k1,b1,g1⟩:=zN0 h1 (L1.length+1) [] s0 (by show L1.length - 0 < _;omega) (yAF _) r1;rw[g1]at hx;have hIA:IA=[x]:=by
  unfold trK at hx;simp only[List.nil_append,Tr.mk.injEq]at hx;exact hx.2
 subst hIA;have simp_item:∀{L:List Tok} (hL:Lst L) (h:isT (zH L 0) [40]=true) (hk:(zH L 0).kind=5),zG L .item s0=(trK 3 [(zG L .assign s0).1],zBR L (zG L .assign s0).2):=by
  intro L hL h hk;have g3:zG L .simple s0=(trK 3 [(zG L .assign s0).1],zBR L (zG L .assign s0).2):=by
   rw[zt hL ⟨yAF _,trivial⟩];rfl
  have g2:zG L .statement s0=zG L .simple s0:=by
   rw[zt hL ⟨yAF _,trivial⟩];unfold zF;dsimp only;have hk':(zH L s0.k).kind=5:=hk;have h':isT (zH L s0.k) [40]=true:=h;rw[if_neg (by omega),if_neg (by omega),if_neg (by unfold onP;rw[zCE h' (by decide)];decide),if_neg (by unfold onP;rw[zCE h' (by decide)];decide)]
  rw[zt hL ⟨yAF _,trivial⟩];unfold zF;dsimp only;have h':isT (zH L s0.k) [40]=true:=h;rw[if_neg (by unfold onP;rw[zCE h' (by decide),zCE h' (by decide)];decide),if_neg (by unfold onP;rw[zCE h' (by decide)];decide),g2,g3]
 have it:=simp_item h1 h0 hk0;obtain⟨yr,hyr⟩:∃yr,zG L1 .assign s0=yr:=⟨_,rfl⟩;obtain⟨y,r⟩:=yr;rw[hyr]at it;dsimp only at it;have hitem:x=trK 3 [y]∧zBR L1 r=e1:=by
  generalize hq:([x]:List Tr)=q at p1;cases p1 with
  | nil=>cases hq
  | cons hkk p2=>
   rw[it]at hq p2;simp only[List.cons.injEq]at hq;obtain⟨hq1,hq2⟩:=hq;subst hq2;cases p2;exact⟨hq1,rfl⟩
 have post:=zS h1 (p:=.assign) (s:=s0) ⟨yAF _,trivial⟩;rw[hyr]at post;have xr:Eat L1 s0 r:=post;have ln:=zWF h1 hS (p:=.assign) (s:=s0) ⟨yAF _,trivial⟩ rfl;rw[hyr]at ln;have hre:r=⟨L1.length - 2,0,0⟩:=by
  have hb:r.bad=0:=by
   rcases Nat.eq_zero_or_pos r.bad with hz | hz
   · exact hz
   · have:=(zAV h1 xr.adv.hi).bad (by omega);rw[hitem.2]at this;exact absurd b1 this
  have hfar:r.far=0:=xr.adv.far hb;have hk:r.k=L1.length - 2:=by
   by_cases c:onP L1 [59] r=true
   · have:zBR L1 r=zB r:=by unfold zBR;rw[if_pos c]
     rw[this]at hitem;have:(zB r).k=L1.length - 1:=by rw[hitem.2];exact k1
     have:r.k+1=L1.length - 1:=this;omega
   · have hee:zBR L1 r=r:=by
      unfold zBR;rw[if_neg c];split
      · rfl
      · rename_i c2
        have:zBR L1 r=zV L1 r:=by unfold zBR;rw[if_neg c,if_neg c2]
        rw[this]at hitem;rw[←hitem.2]at b1;exact absurd b1 ze
     rw[hee]at hitem;have hk2:r.k=L1.length - 1:=by rw[hitem.2];exact k1
     have:=ln hb (by show 0 < r.k;omega);rw[hk2,show L1.length - 1 - 1=L1.length - 2 by omega]at this;rw[this]at hs1;cases hs1
  cases r;simp only at hb hfar hk;rw[hb,hfar,hk]
 subst hre;have hstop:Stop (zH L3 (L1.length - 2+k)):=by
  rcases Nat.eq_zero_or_pos k with hz | hz
  · subst hz;exact zVH hs hks
  · obtain⟨c1,c2⟩:=hc 0 hz;exact zVG c1 c2
 have hnext:∀j,j < k→Stop (zH L3 (L1.length - 2+k+j+1)):=by
  intro j hj;rcases Nat.lt_or_ge (j+1) k with h4 | h4
  · obtain⟨c1,c2⟩:=hc (j+1) h4;exact zVG c1 c2
  · rw[show L1.length - 2+k+j+1=L1.length - 2+k+k by omega];exact zVH hs hks
 have S:Sim L1 L3 0 k (L1.length - 2) false:=⟨h1,h3,by omega,by omega,fun i _ hi=>(hU i hi).1,fun i hi0 hi=>(hU i hi).2 hi0,hstop,(fun h=>by
  rcases Nat.eq_zero_or_pos k with hz | hz
  · subst hz;rw[show L1.length - 2+0=L1.length - 2+0+0 by omega,zCE hs (by decide)]at h;cases h
  · exact(hnext 0 hz).words _ (by decide)),fun h=>by cases h⟩
 have base:zG L3 .assign (shP k s0)=(y,⟨L1.length - 2+k,0,0⟩):=by
  have:=zUv S (p:=.assign) (s:=s0) (fun _ h=>by cases h) ⟨yAF _,trivial⟩ ⟨by show 0+k≤_;omega,trivial⟩ (yAF _) (fun h=>by cases h) (by rw[hyr];exact⟨rfl,yAD _⟩);rw[hyr]at this;exact this
 have up:∀j,j≤k→zG L3 .assign ⟨k - j,0,0⟩=(y,⟨L1.length - 2+k+j,0,0⟩):=by
  intro j
  induction j with
  | zero=>
   intro _;have:(⟨k - 0,0,0⟩:Ps)=shP k s0:=by unfold shP s0;simp
   rw[this];exact base
  | succ j ih=>
   intro hj;have hi:=ih (by omega);have est:zB (⟨k - (j+1),0,0⟩:Ps)=⟨k - j,0,0⟩:=by unfold zB;simp only[Ps.mk.injEq,and_true];omega
   rw[←est]at hi;obtain⟨o1,o2⟩:=ho (k - (j+1)) (by omega);have o3:isT (zH L3 (k - (j+1)+1)) [40]=true∧(zH L3 (k - (j+1)+1)).kind=5:=by
    rcases Nat.eq_zero_or_pos j with hz | hz
    · subst hz;rw[show k - (0+1)+1=0+k by omega];have:=(hU 0 (by omega)).1;exact⟨(zBc this _).trans h0,this.1.symm.trans hk0⟩
    · rw[show k - (j+1)+1=k - j by omega];exact ho (k - j) (by omega)
   obtain⟨c1,c2⟩:=hc j (by omega);have:=zVQ h3 (s:=⟨k - (j+1),0,0⟩) (by show k - (j+1) < _;omega) o1 o2 o3.1 o3.2 hi (by unfold onP;exact c1) (hnext j (by omega));rw[this];rfl
 have top:=up k (yAD _);rw[Nat.sub_self]at top;have h30:isT (zH L3 0) [40]=true∧(zH L3 0).kind=5:=by
  rcases Nat.eq_zero_or_pos k with hz | hz
  · subst hz;have:=(hU 0 (by omega)).1;exact⟨(zBc this _).trans h0,this.1.symm.trans hk0⟩
  · exact ho 0 hz
 have it3:=simp_item h3 h30.1 h30.2;have top':zG L3 .assign s0=(y,⟨L1.length - 2+k+k,0,0⟩):=top;rw[top']at it3;dsimp only at it3;have hend:zBR L3 ⟨L1.length - 2+k+k,0,0⟩=⟨L1.length - 2+k+k+1,0,0⟩:=by
  unfold zBR;rw[if_pos (show onP L3 [59] ⟨L1.length - 2+k+k,0,0⟩=true from hs)];rfl
 rw[hend]at it3;have hp:Path L3 s0 [trK 3 [y]] ⟨L1.length - 2+k+k+1,0,0⟩:=by
  have:=Path.cons (L:=L3) (s:=s0) (items:=[]) (e:=⟨L1.length - 2+k+k+1,0,0⟩) (by show(zH L3 0).kind≠0;omega) (by rw[it3];exact .nil _);rw[it3]at this;exact this
 have h9:=hp.prog h3 (yAF _) (by
  show(zH L3 (L1.length - 2+k+k+1)).kind=0;rw[show L1.length - 2+k+k+1=L3.length - 1 by omega];exact h3.last) []
 rw[h9,hitem.1];exact⟨rfl,rfl⟩
end
theorem zVp {z:Bool} {l:List UInt16} (h:(zA2 z l).1=0):(zA2 z l).2.1.kind=6→(zA2 z l).2.1.text≠[59]:=by
 cases l with
 | nil=>exact absurd (show(5:Nat)=0 from h) (by decide)
 | cons x r=>
  rw[zAj]at h⊢;split
  · rename_i hx
    intro _;rw[if_pos hx]at h;unfold zDg at h⊢;split
    · rename_i h2;rw[if_pos h2]at h;exact absurd h (by decide)
    · show asc ((x::r).takeWhile zAw)≠[59];rw[List.takeWhile_cons_of_pos (by unfold zAw;rw[hx];rfl)];intro h3;have h4:x.toUInt8=59:=by
       have:asc (x::r.takeWhile zAw)=x.toUInt8::asc (r.takeWhile zAw):=rfl;rw[this]at h3;injection h3
      have h5:x.toNat % 256=59:=by
       have:=congrArg UInt8.toNat h4;simpa using this
      unfold zA4 at hx;simp only[Bool.or_eq_true,Bool.and_eq_true,decide_eq_true_eq,beq_iff_eq]at hx;omega
  · rename_i hx
    rw[if_neg hx]at h;split
    · rename_i h2
      rw[if_pos h2]at h;unfold zBw zB7 at h⊢;intro h6;split at h6
      · cases h6
      · split at h6
        · unfold zH6 at h6;split at h6
          · cases h6
          · split at h6<;>cases h6
        · split at h6
          · cases h6
          · split at h6
            · cases h6
            · split at h6<;>cases h6
    · rename_i h2
      rw[if_neg h2]at h;split
      · intro h6;unfold zA5 at h6;split at h6<;>cases h6
      · split
        · intro h6;cases h6
        · intro h6;unfold zBp at h6;split at h6
          · split at h6<;>cases h6
          · split at h6<;>cases h6
theorem zVa (u:List UInt16):Semi (zCk u).1:=by
 intro i h;have hall:∀t∈(zCk u).1,t.kind=0∨(t.kind=6→t.text≠[59]):=by
  unfold zCk;split
  · intro t ht;cases ht
  · exact zQ7 (Q:=fun t=>t.kind=6→t.text≠[59]) (fun z l h k nl=>zVp h) _ _ _
 obtain⟨h1,h2⟩:=zCh h;rcases h2 with h2 | h2
 · exact h2
 · exfalso;unfold zH at h1 h2
   by_cases hi:i < (zCk u).1.length
   · rw[yAH,yAC hi]at h1 h2;simp only[Option.getD_some]at h1 h2;rcases hall _ (List.getElem_mem hi)with h3 | h3
     · omega
     · exact h3 h2 h1
   · rw[yAH,List.getElem?_eq_none (by omega)]at h2;exact absurd h2 (by decide)
theorem zRj {w:World} {base base' n size:Nat} {e:TypeId} {v:Value} {xs:List Value} (h:w.ownsRow base e size v n xs) (hb:base'≤base):w.ownsRow base' e size v n xs:=by
 refine⟨h.1,?_⟩;rcases h.2 with h1 | ⟨g,cap,cur,h1,h2,h3⟩
 · exact .inl h1
 · exact .inr ⟨g,cap,cur,h1,yAE hb h2,h3⟩
theorem zLm {A:Option Addr} {B n c:Nat} {xs:List Int} {w:World} (hn:xs.length=n) (ha:Reads w B 1 A n (zDY xs)) (hl:n≤1000000):
 Calls prog 38 #[.slice A n c] w fun e w'=>∃v,e=.returned v∧Made w w' 3 v (zDY xs):=by
 rcases Nat.eq_zero_or_pos n with h0 | h0
 · subst h0;have hx:xs=[]:=List.eq_nil_of_length_eq_zero hn;subst hx;cases A with
   | none=>
    refine(Tryz.slices_Clone_int_nil 0 c w).mono ?_;rintro e w' ⟨rfl,rfl⟩;exact⟨_,rfl,Made.nil _ _⟩
   | some a=>
    refine(Tryz.slices_Clone_int_zero a c w).mono ?_;rintro e w' ⟨v',rfl,ho,_,hb⟩;exact⟨v',rfl,ho,hb⟩
 · obtain⟨b,o,rfl,_,hc⟩:=ha.spotR h0;refine(Tryz.slices_Clone_int b o n c xs w (by omega) (by omega) (fun j hj=>?_)).mono ?_
   · have:=hc j (.int .i64 xs[j]) (by simp[zDY,yAC hj]);rw[this];simp[List.getD,hj]
   · rintro e w' ⟨v',rfl,ho,_,hb⟩;refine⟨v',rfl,?_,hb⟩;rw[List.take_of_length_le (by omega)]at ho;rw[zI8,hn];exact ho
theorem zRk {A:Option Addr} {c B n k:Nat} {ts:List Nd} {x:Nd} {w:World} (hN:NdsR w B A n ts) (hB:B≤w.heap.size) (hk:k < n) (hx:ts[k]? =some x) (hl:x.kids.length≤1000000):
 Calls prog 18 #[.agg #[.slice A n c],.int .i64 (k:Int)] w fun e w'=>∃v,e=.returned v∧Made w w' 3 v (zDY x.kids):=by
 obtain⟨b,o,x',s,rfl,hbB,hx',hC,hR⟩:=hN.get hk;obtain rfl:x=x':=Option.some.inj (hx.symm.trans hx');have k7:=hC.k7;have hbw:b < w.heap.size:=by omega
 have CC:=zD (fun(W:World) (hb:Below w.heap.size w W)=>zLm (c:=s.ck) rfl (hR.kids.below (hb.mono hB)) hl);have h1:¬(n:Int)≤(k:Int):=by omega
 have h2:¬(k:Int) < 0:=by omega
 have h3:(k:Int) < (n:Int):=by omega
 obtain⟨L,hL⟩:∃L,x.kids.length=L:=⟨_,rfl⟩;rw[hL]at k7;have CC2:=zD (show∀(W:World),Below w.heap.size w W→Calls prog 38 #[.slice s.Ak L s.ck] W fun e w'=>∃v,e=.returned v∧Made W w' 3 v (zDY x.kids)from by rw[←hL];exact CC.out);clear hN hx hx' hC hR CC hl hL;go_enter func18,ntmps18;go_wp2_with fail;refine(CC2.out _ ((Below.refl _ _).alloc (yAD _) _)).mono ?_;rintro e1 w1 ⟨v,rfl,hm⟩;have HM:=zD (show Made w w1 3 v (zDY x.kids)from⟨zRj hm.own (by simp),((Below.refl w.heap.size w).alloc (yAD _) _).trans (hm.below.mono (by simp))⟩);clear hm;go_wp2_with fail;go_ret;exact⟨v,rfl,HM.out⟩
theorem zVq {A:Option Addr} {c B n k:Nat} {ts:List Nd} {w:World} (hN:NdsR w B A n ts) (hB:B≤w.heap.size) (h0:0 < n) (hk:zJu ts=k) (hl:k≤1000000):
 Calls prog 18 #[.agg #[.slice A n c],.int .i64 0] w fun e w'=>∃A' c',e=.returned (.slice A' k c')∧Below w.heap.size w w':=by
 obtain⟨x,hx⟩:∃x,ts[0]? =some x:=⟨_,yAC (by rw[hN.1];exact h0)⟩;have hkx:x.kids.length=k:=by
  rw[←hk];unfold zJu atN;rw[yAH,show(0:Int).toNat=0 from rfl,hx];rfl
 refine(zRk (k:=0) hN hB h0 hx (by omega)).mono ?_;rintro e w' ⟨v,rfl,hm⟩;obtain⟨A',c',rfl,_,_⟩:=zZ hm.own;rw[zI8,hkx];exact⟨A',c',rfl,hm.below⟩
theorem zAn {a b c:World} (h:Below a.heap.size a b) (k:Below b.heap.size b c):Below a.heap.size a c:=h.trans (k.mono h.size)
theorem zGN (u:List UInt16):(zAg u).1.length≤4096:=by
 unfold zAg;simp only;split
 · simp
 · split
   · simp
   · split
     · simp
     · split
       · simp
       · rw[flatT_len];omega
theorem zJw:(l:List Tr)→l.length≤sizes l
 | []=>by simp
 | x::l=>by
  rw[zL,List.length_cons];have:=zJw l;obtain⟨y,m⟩:=x;rw[zd];omega
theorem zI7 (u:List UInt16):zJu (zAg u).1≤4096:=by
 unfold zAg;simp only;have h0:zJu []=0:=rfl;split
 · rw[h0];omega
 · split
   · rw[h0];omega
   · split
     · rw[h0];omega
     · split
       · rw[h0];omega
       · rename_i h1 _
         generalize zG (zCk u).1 (Ph.program []) ⟨0,0,0⟩=r at h1⊢;obtain⟨⟨x,l⟩,q⟩:=r;simp only at h1⊢;rw[zLh];rw[zd]at h1;have:=zJw l;omega
theorem zVr {n m:Nat} {r:List UInt16} (h:(more n (zB8 m r)).1=0):(zB8 m r).1=0∧(more n (zB8 m r)).2.2=n+m:=by
 unfold more at h⊢
 by_cases h0:(zB8 m r).1=0
 · rw[if_pos h0];refine⟨h0,?_⟩;have:=(zJJ h0).1;simp only;omega
 · rw[if_neg h0]at h;exact absurd h h0
theorem zV8 {k:Nat} {l:List UInt16} (h:(zBh k l).2.2=0):(za l).2.2=0∧((za l).1=l.length∧zBh k l=([setAt zm (k+(za l).1) (za l).2.1],0,0)∨
 (za l).1 < l.length∧(zz k l).1=0∧(zBh (k+(za l).1+(zz k l).2.2) (l.drop ((za l).1+(zz k l).2.2))).2.2=0∧
  zBh k l=zBq (setAt (zz k l).2.1 (k+(za l).1) (za l).2.1) (zBh (k+(za l).1+(zz k l).2.2) (l.drop ((za l).1+(zz k l).2.2)))):=by
 have hpe:(za l).2.2=0:=by
  by_cases h1:(za l).2.2≠0
  · rw[zD5 h1]at h;exact absurd h h1
  · exact yAL.1 h1
 have hpl:=zFA l;refine⟨hpe,?_⟩
 by_cases h2:l.drop (za l).1=[]
 · have hpn:(za l).1=l.length:=by
    have:=congrArg List.length h2;rw[List.length_drop]at this;simp at this;omega
   exact .inl ⟨hpn,zD6 hpe h2⟩
 · have hpn:(za l).1 < l.length:=by
    rcases Nat.lt_or_ge (za l).1 l.length with h3 | h3
    · exact h3
    · exact absurd (List.drop_of_length_le h3) h2
   have hte:(zz k l).1=0:=by
    by_cases h3:(zz k l).1≠0
    · rw[zEv hpe h2 h3]at h;exact absurd h h3
    · exact yAL.1 h3
   have hm:=zCd hpe h2 hte;refine .inr ⟨hpn,hte,?_,hm⟩;rw[hm]at h;unfold zBq at h
   by_cases h5:(zBh (k+(za l).1+(zz k l).2.2) (l.drop ((za l).1+(zz k l).2.2))).2.2≠0
   · rw[if_pos h5]at h;exact absurd h h5
   · exact yAL.1 h5
theorem zWG {q:List Tok×Nat×Nat} (h:q.2.2=0) (h2:q.2.1=0):q=(q.1,0,0):=by
 obtain⟨a,b,c⟩:=q;simp only at h h2;rw[h,h2]
theorem zVb {t:Tok} {q:List Tok×Nat×Nat} (h:q.2.2=0):zBq t q=(t::q.1,0,0):=by
 unfold zBq;rw[if_neg (by rw[h];simp)]
def z0 (t:Tok):Tok:={t with pos:=0}
theorem zVN:∀(l:List UInt16) (nl st:Bool),(zBe true (l++[10,41,59]) nl st).2.2=0→(zBe true l nl st).2.2=0:=by
 intro l
 induction l with
 | nil=>
  intro nl st h;simp[zBe,zg,List.isPrefixOf,zCi]at h
 | cons c r ih=>
  intro nl st;rw[List.cons_append,zBe,zBe,←List.cons_append,zBk (by decide)]
  by_cases h1:(true&&zg [42,47] (c::r))=true
  · rw[if_pos h1,if_pos h1];exact id
  rw[if_neg h1,if_neg h1,if_neg (by simp),if_neg (by simp)];exact ih _ _
theorem zVs:∀(n:Nat) (l:List UInt16) (b:Bool),l.length < n→(zBJ (l++[10,41,59]) b).2.2=0→(zBJ l b).2.2=0:=by
 intro n
 induction n with
 | zero=>intro l b h;omega
 | succ n ih=>
  intro l b hn;cases l with
  | nil=>intro _;rfl
  | cons c r=>
   simp only[List.length_cons]at hn
   by_cases h1:(zGO c || zw c)=true
   · rw[List.cons_append,zCm h1,zCm h1];exact ih r _ (by omega)
   · have h1':(zGO c || zw c)=false:=by simpa using h1
     by_cases h2:(zg [47,47] (c::r) || zg [47,42] (c::r))=true
     · have h2':(zg [47,47] (c::r++[10,41,59]) || zg [47,42] (c::r++[10,41,59]))=true:=by rw[zBk (by decide),zBk (by decide)];exact h2
       have hrl:=zDC (zB4 h2);have h2b:(zg [47,47] (c::(r++[10,41,59])) || zg [47,42] (c::(r++[10,41,59])))=true:=by rw[←List.cons_append];exact h2'
       have hp:=zCO (x:=c) (r:=r++[10,41,59]) h1' h2b b;rw[←List.cons_append]at hp;rw[hp,zCO h1' h2]
       by_cases h3:(zq (c::r++[10,41,59])).2.2≠0
       · rw[if_pos h3];intro h;exact absurd h h3
       have h4:(zq (c::r)).2.2=0:=by
        have h3':=yAL.1 h3;have h5:=zB4 h2;unfold zq at h3'⊢;rw[zBk (by decide),List.drop_append_of_le_length h5]at h3';cases hs:zg [47,42] (c::r)with
        | true=>rw[hs]at h3';exact zVN _ _ _ h3'
        | false=>rw[hs,zIz]at h3';exact h3'
       have h5:=zI0 (x:=10) (v:=[41,59]) (.inl rfl) h2 h4;rw[if_neg h3,if_neg (fun h=>h h4),h5,List.drop_append_of_le_length hrl.2];exact ih _ _ (by rw[List.length_drop,List.length_cons];omega)
     · have h2':(zg [47,47] (c::r) || zg [47,42] (c::r))=false:=by simpa using h2
       rw[zDS h1' h2'];intro _;rfl
theorem zVt {l v:List UInt16} (h:(zDb (l++10::v)).1=0):(zDb l).1=0∧zDb (l++10::v)=zDb l:=by
 have h0:(zDb l).1=0:=by
  cases l with
  | nil=>
   rw[List.nil_append,zD3,if_neg (by decide)]at h;unfold zR2 at h;rw[if_neg (fun h=>by rw[Bool.and_eq_true]at h;exact absurd h.1 (by decide)),if_neg (by decide),if_pos (by rw[show zw 10=true from by decide];rfl)]at h;cases h
  | cons c r=>
   have hcode:∀n,(more 1 (zB8 n (r++10::v))).1=0→(more 1 (zB8 n r)).1=0:=by
    intro n hn;obtain⟨m1,_⟩:=zVr hn;have h3:(zB8 n r).1=0:=by
     unfold zB8 at m1⊢;split at m1
     · rename_i c
       rw[Bool.and_eq_true,decide_eq_true_eq]at c;rcases Nat.lt_or_ge r.length n with h4 | h4
       · have:=List.all_eq_true.1 c.2 10 (by
          rw[List.take_append];refine List.mem_append_right _ ?_;obtain⟨m,hm⟩:∃m,n - r.length=m+1:=⟨n - r.length - 1,by omega⟩;rw[hm,List.take_succ_cons];simp)
         cases this
       · rw[List.take_append_of_le_length h4]at c;rw[decide_eq_true h4,c.2];rfl
     · cases m1
    unfold more;rw[if_pos h3]
   rw[List.cons_append,zD3]at h;rw[zD3]
   by_cases hs:(zB9 c).isSome=true
   · rw[if_pos hs]
   · rw[if_neg hs]at h⊢;unfold zR2 at h⊢;rw[zCt (by decide) (yAF _),zDq (by decide)]at h
     by_cases c1:(c.toNat==48&& !zBF 0 zP r)=true
     · rw[if_pos c1]
     rw[if_neg c1]at h⊢
     by_cases c2:zP c=true
     · rw[if_pos c2]at h;cases h
     rw[if_neg c2]at h⊢
     by_cases c3:(zw c || zGP c || (c.toNat==117&&zg [123] r))=true
     · rw[if_pos c3]at h;cases h
     rw[if_neg c3]at h⊢
     by_cases c4:c.toNat=120
     · rw[if_pos c4]at h⊢;exact hcode _ h
     rw[if_neg c4]at h⊢
     by_cases c5:c.toNat=117
     · rw[if_pos c5]at h⊢;exact hcode _ h
     rw[if_neg c5]
 exact⟨h0,zQ3 (.inl rfl) h0⟩
theorem zVu (q:UInt16) {v:List UInt16}:∀(f:Nat) (l acc:List UInt16),(zCz q f (l++10::v) acc).1=0→(zCz q f l acc).1=0:=by
 intro f
 induction f with
 | zero=>intro l acc h;cases h
 | succ f ih=>
  intro l acc;cases l with
  | nil=>intro h;rw[List.nil_append,zCz,if_pos (by decide)]at h;cases h
  | cons c r=>
   rw[List.cons_append,zCz,zCz]
   by_cases h1:zw c=true
   · rw[if_pos h1];intro h;cases h
   rw[if_neg h1,if_neg h1]
   by_cases h2:c=q
   · rw[if_pos h2,if_pos h2];exact id
   rw[if_neg h2,if_neg h2]
   by_cases h3:c.toNat=92
   · rw[if_pos h3,if_pos h3]
     by_cases h4:(zDb (r++10::v)).1≠0
     · rw[if_pos h4];intro h;exact absurd h h4
     · obtain⟨h5,h6⟩:=zVt (yAL.1 h4);rw[if_neg h4,if_neg (fun h=>h h5),h6,List.drop_append_of_le_length (zEO h5).2];exact ih _ _
   · rw[if_neg h3,if_neg h3];exact ih _ _
theorem zVR {z:Bool} {l v:List UInt16} (hl:l≠[]) (h:(zA2 z (l++10::v)).1=0):(zA2 z l).1=0:=by
 cases l with
 | nil=>exact absurd rfl hl
 | cons c r=>
  rw[List.cons_append,zAj,←List.cons_append]at h;rw[zAj]
  by_cases c1:zA4 c=true
  · rw[if_pos c1,zOA (.inl rfl)]at h;rw[if_pos c1];exact h
  rw[if_neg c1]at h⊢
  by_cases c2:zP c=true
  · rw[if_pos c2,zHz (.inl rfl)]at h;rw[if_pos c2];exact h
  rw[if_neg c2]at h⊢
  by_cases c3:(c.toNat==39 || c.toNat==34)=true
  · rw[if_pos c3]at h⊢;unfold zA5 at h⊢
    by_cases h1:(zJz c (r++10::v)).1≠0
    · rw[if_pos h1]at h;exact absurd h h1
    · have h2:=yAL.1 h1;unfold zJz at h2;have h3:=zVu c _ _ _ h2;have h4:(zJz c r).1=0:=by
       unfold zJz;rw[zPM c _ ((r++10::v).length+1) _ _ (yAG _) (by rw[List.length_append];omega)];exact h3
      rw[if_neg (fun h=>h h4)]
  rw[if_neg c3]at h⊢;rw[zCt (by decide) (yAF _)]at h
  by_cases c4:(c.toNat==46&&zBF 0 zP r)=true
  · rw[if_pos c4]at h;cases h
  rw[if_neg c4]at h⊢;unfold zBp at h⊢;rw[zOC (.inl rfl)]at h;cases hs:zA6 (c::r) 4 with
  | none=>
   rw[hs]at h;simp only at h;split at h<;>cases h
  | some n=>
   rw[hs]at h;simp only at h⊢;rw[zGI (.inl rfl)]at h
   by_cases h2:zAc (c::r) n=2
   · rw[if_pos h2]at h;cases h
   · rw[if_neg h2]
theorem zV9:∀(n:Nat) (l:List UInt16) (k:Nat),l.length < n→(zBh k (l++[10,41,59])).2.2=0→(zBh k l).2.2=0:=by
 intro n
 induction n with
 | zero=>intro l k h;omega
 | succ n ih=>
  intro l k hn h;obtain⟨hpe,h1⟩:=zV8 h;have hpl:(za l).2.2=0:=zVs (l.length+1) l false (yAG _) hpe;have hpa:=zOE (x:=10) (v:=[41,59]) (l.length+1) l false (yAG _) (.inl rfl) hpl;rw[show zBJ l false=za l from rfl]at hpa
  by_cases hc:(za l).1 < l.length
  · rw[if_pos hc]at hpa;have hpa':za (l++[10,41,59])=za l:=hpa;rcases h1 with⟨h1,_⟩ | ⟨h1,h2,h3,_⟩
    · rw[hpa',List.length_append]at h1;omega
    · have hdr:(l++[10,41,59]).drop (za l).1=l.drop (za l).1++[10,41,59]:=List.drop_append_of_le_length (by omega);have hne:l.drop (za l).1≠[]:=by
       intro e;have:=congrArg List.length e;rw[List.length_drop]at this;simp only[List.length_nil]at this;omega
      have ht:(zz k l).1=0:=by
       unfold zz at h2⊢;rw[hpa',hdr]at h2;exact zVR hne h2
      have hte:zz k (l++[10,41,59])=zz k l:=by
       unfold zz at ht⊢;rw[hpa',hdr,zLc (.inl rfl) ht]
      have hlen:=zCc ht;rw[hte,hpa',List.drop_append_of_le_length hlen.2]at h3;have h4:=ih _ _ (by rw[List.length_drop];omega) h3;rw[zCd hpl hne ht,zVb h4]
  · rw[zD6 hpl (List.drop_of_length_le (by omega))]
def tk (c:UInt8) (k:Nat):Tok:={zm with kind:=5,text:=[c],pos:=k}
def zVF (c:UInt8) (n k:Nat):List Tok:=(List.range n).map fun i=>tk c (k+i)
theorem zVD (c:UInt8) (n k:Nat):(zVF c n k).length=n:=by simp[zVF]
theorem zVc (c:UInt8) (n k i:Nat) (h:i < n):isT (zH (zVF c n k) i) [c]=true∧(zH (zVF c n k) i).kind=5:=by
 have:zH (zVF c n k) i=tk c (k+i):=by
  unfold zH zVF;rw[yAH,List.getElem?_map,List.getElem?_range h];rfl
 rw[this];exact⟨by unfold isT;simp[tk],rfl⟩
theorem zVd (c:UInt8) (n k:Nat):zVF c (n+1) k=tk c (k)::zVF c n (k+1):=by
 unfold zVF;rw[List.range_succ_eq_map,List.map_cons,List.map_map];refine congrArg (tk c k::·) (List.map_congr_left fun i _=>?_);simp only[Function.comp];rw[show k+i.succ=k+1+i by omega]
theorem zVI {c:UInt8} (hc:c∈zUd) (s:List UInt16) {B:List Tok}:∀(n k:Nat),zBh (k+n) s=(B,0,0)→zBh k (List.replicate n c.toUInt16++s)=(zVF c n k++B,0,0):=by
 intro n
 induction n with
 | zero=>intro k h;exact h
 | succ n ih=>
  intro k h;rw[List.replicate_succ,List.cons_append,zJr hc,ih (k+1) (by rw[show k+1+n=k+(n+1) by omega];exact h),zJs,zVd];rfl
theorem zVJ (t:Tok) (j:Nat):zS5 t (zCw j t)∧t.nl=(zCw j t).nl:=⟨⟨rfl,rfl,rfl,rfl,rfl,rfl⟩,rfl⟩
theorem zVK {u:List UInt16} {A:List Tok} {n:Nat} (hA:zBh 0 (40::u++10::[41,59])=(A,0,0)):
 ∃I a E a' E',A=I++a::tk 59 (u.length+3)::[E]∧I≠[]∧zH I 0=tk 40 (0)∧zS5 a a'∧a.nl=a'.nl∧a'.kind=5∧
  zBh 0 (List.replicate n 40++(40::u++10::41::(List.replicate n 41++[59])))=
   (zVF 40 n 0++(I.map (zCw n)++a'::(zVF 41 n (n+(u.length+1)+2)++tk 59 (n+(u.length+1)+2+n)::[E'])),0,0):=by
 have hp:(zBh 0 (40::u)).2.2=0:=zV9 ((40::u).length+1) _ 0 (yAG _) (by rw[show(40::u)++[10,41,59]=40::u++10::[41,59]from rfl,hA]);have hq:∃T,zBh 0 (40::u)=(T,0,0):=⟨_,zWG hp (zFO _ _ _ hp)⟩;obtain⟨T,hT⟩:=hq;have hTn:zBh n (40::u)=(T.map (zCw n),0,0):=by rw[zIt n (fun x r e=>by cases e;decide),hT,zTS]
 have h41:(41:UInt16)=(41:UInt8).toUInt16:=rfl;have h59:(59:UInt16)=(59:UInt8).toUInt16:=rfl;have hend:∀k,zBh k []=([setAt zm k false],0,0):=fun k=>by
  have:=zD6 (k:=k) (l:=[]) rfl rfl;exact this
 have hsemi:∀k,zBh k [59]=(tk 59 (k)::[setAt zm (k+1) false],0,0):=by
  intro k;have:=zJr (c:=59) (by decide) k [];rw[hend,zJs]at this;exact this
 have hs:∀m k,zBh k (10::41::(List.replicate m 41++[59]))=({tk 41 (k+1)with nl:=true}::(zVF 41 m (k+2)++tk 59 (k+2+m)::[setAt zm (k+2+m+1) false]),0,0):=by
  intro m k;rw[zLV (by decide),if_pos (by decide)];have h1:=zVI (c:=41) (by decide) [59] m (k+2) (hsemi (k+2+m));have h2:=zJr (c:=41) (by decide) (k+1) (List.replicate m 41++[59]);rw[show zBh (k+1+1) (List.replicate m 41++[59])=_ from h1,zJs]at h2;rw[show zBh (k+1) (41::(List.replicate m 41++[59]))=_ from h2,zRz];rfl
 have hs0:=hs 0;simp only[List.replicate_zero,List.nil_append]at hs0;obtain⟨I,b,i1,i2⟩:=zQ6 (x:=10) (v:=[41,59]) ((40::u).length+1) (40::u) 0 (yAG _) (.inl rfl) hp;obtain⟨J,b',j1,j2⟩:=zQ6 (x:=10) (v:=41::(List.replicate n 41++[59])) ((40::u).length+1) (40::u) n (yAG _) (.inl rfl) (by rw[hTn]);rw[hT]at i1;rw[hTn]at j1;simp only at i1 j1;have hJ:J=I.map (zCw n):=by
  rw[i1,List.map_append]at j1;exact(List.append_inj_left' j1 rfl).symm
 rw[hs0,zRz]at i2;rw[hs n,zRz]at j2;have hA':A=I++{tk 41 (0+(40::u).length+1)with nl:=true}::(zVF 41 0 (0+(40::u).length+2)++tk 59 (0+(40::u).length+2+0)::[setAt zm (0+(40::u).length+2+0+1) false]):=by
  rw[hA]at i2;cases b
  · rw[if_neg (by decide),zOL]at i2;exact congrArg Prod.fst i2
  · rw[if_pos rfl,zOL]at i2;exact congrArg Prod.fst i2
 have h40:=zJr (c:=40) (by decide) 0 u;rw[show(40:UInt8).toUInt16::u=40::u from rfl,hT]at h40;have hI:∃I2,I=tk 40 (0)::I2:=by
  unfold zBq at h40;split at h40
  · have:=congrArg Prod.fst h40;simp only at this;rw[i1]at this;simp at this
  · rename_i hc
    have:=congrArg Prod.fst h40;simp only at this;rw[i1]at this;cases I with
    | nil=>
     rw[List.nil_append]at this;have:=congrArg (fun l=>(l.getD 0 zm).kind) this;cases this
    | cons x I2=>
     rw[List.cons_append]at this;exact⟨I2,by rw[List.cons.inj this |>.1];rfl⟩
 obtain⟨I2,hI⟩:=hI;have hw:=zVI (c:=40) (by decide) (40::u++10::41::(List.replicate n 41++[59])) n 0 (B:=J++{tk 41 (n+(40::u).length+1)with nl:=true}::(zVF 41 n (n+(40::u).length+2)++tk 59 (n+(40::u).length+2+n)::[setAt zm (n+(40::u).length+2+n+1) false])) (by
  rw[Nat.zero_add,j2];cases b'
  · rw[if_neg (by decide),zOL]
  · rw[if_pos rfl,zOL];rfl)
 refine⟨I,{tk 41 (0+(40::u).length+1)with nl:=true},setAt zm (0+(40::u).length+2+0+1) false,{tk 41 (n+(40::u).length+1)with nl:=true},setAt zm (n+(40::u).length+2+n+1) false,?_,by rw[hI];simp,by rw[hI];rfl,⟨rfl,rfl,rfl,rfl,rfl,rfl⟩,rfl,rfl,?_⟩;rotate_left
 · rw[←hJ];exact hw
 · rw[hA'];simp[zVF]
theorem zVL {u:List UInt16} {n:Nat} {ta:List Nd} {a:Nat} (hl:u.length≤1000) (hn:n≤20) (hv:zAg (40::(u++[10,41,59]))=(ta,a,0)) (hk:zJu ta=1):
 zAg (List.replicate n 40++40::(u++10::41::(List.replicate n 41++[59])))=(ta,0,0):=by
 obtain⟨A,g1,g2,g3,g4,g5,g6,_⟩:=zJt hv;have hS:Semi A:=by have:=zVa (40::(u++[10,41,59]));rw[g1]at this;exact this
 rw[zBU (by simp;omega)]at g1;obtain⟨I,b,E,b',E',e1,e2,e3,e4,e5,e6,e7⟩:=zVK (n:=n) g1;obtain⟨C,hC⟩:∃C,zVF 40 n 0++(I.map (zCw n)++b'::(zVF 41 n (n+(u.length+1)+2)++tk 59 (n+(u.length+1)+2+n)::[E']))=C:=⟨_,rfl⟩;rw[hC]at e7;have c1:zCk (List.replicate n 40++40::(u++10::41::(List.replicate n 41++[59])))=(C,0,0):=by
  rw[zBU (by simp;omega)];exact e7
 have hLC:=zEz c1;obtain⟨IA,e,p1,_,_,q1⟩:=zN0 g2 (A.length+1) [] s0 (by show A.length - 0 < _;omega) (yAF _) g3;have hx:∃x,(zG A (.program []) s0).1=trK 1 [x]:=by
  rw[g6,q1]at hk;simp only[List.nil_append]at hk;unfold trK at hk;rw[zLh]at hk;obtain⟨x,rfl⟩:=List.length_eq_one_iff.1 hk;exact⟨x,by rw[q1];rfl⟩
 obtain⟨x,hx⟩:=hx;have hIl:0 < I.length:=List.length_pos_iff.2 e2;have hAl:A.length=I.length+3:=by rw[e1];simp
 have hCl:C.length=I.length+3+2*n:=by rw[←hC];simp[zVD];omega
 have hcons:∀(t:Tok) (R:List Tok) (i:Nat),zH (t::R) (i+1)=zH R i:=fun t R i=>by unfold zH;simp
 have hc1:∀i,zH C (i+n)=zH (I.map (zCw n)++b'::(zVF 41 n (n+(u.length+1)+2)++tk 59 (n+(u.length+1)+2+n)::[E'])) i:=by
  intro i;have:=zGJ (I:=zVF 40 n 0) (R:=I.map (zCw n)++b'::(zVF 41 n (n+(u.length+1)+2)++tk 59 (n+(u.length+1)+2+n)::[E'])) (i:=i);rw[hC,zVD]at this;exact this
 have hc2:∀i,zH C (i+I.length+n)=zH (b'::(zVF 41 n (n+(u.length+1)+2)++tk 59 (n+(u.length+1)+2+n)::[E'])) i:=by
  intro i;rw[hc1];have:=zGJ (I:=I.map (zCw n)) (R:=b'::(zVF 41 n (n+(u.length+1)+2)++tk 59 (n+(u.length+1)+2+n)::[E'])) (i:=i);rw[List.length_map]at this;exact this
 have hA0:∀i,i < I.length→zH A i=zH I i:=fun i hi=>by rw[e1];exact zH1 hi
 have hA1:∀i,zH A (i+I.length)=zH (b::tk 59 (u.length+3)::[E]) i:=fun i=>by rw[e1];exact zGJ
 obtain⟨r1,r2⟩:=zVM (k:=n) g2 hLC hS (by rw[hCl,hAl]) (by omega) (by rw[hA0 0 hIl,e3];decide) (by rw[hA0 0 hIl,e3];rfl)
  (by rw[hAl,show I.length+3 - 2=1+I.length by omega,hA1,hcons];rfl)
  (fun i hi=>by
   have:zH C i=zH (zVF 40 n 0) i:=by rw[←hC];exact zH1 (by rw[zVD];exact hi)
   rw[this];exact zVc 40 n 0 i hi)
  (fun i hi=>by
   rcases Nat.lt_or_ge i I.length with h | h
   · rw[hA0 i h,hc1,zH1 (by rw[List.length_map];exact h),zQ9 _ _ _ h];exact⟨(zVJ _ n).1,fun _=>(zVJ _ n).2⟩
   · obtain rfl:i=0+I.length:=by omega
     rw[hA1,hc2];exact⟨e4,fun _=>e5⟩)
  (fun j hj=>by
   rw[hAl,show I.length+3 - 2+n+j=j+1+I.length+n by omega,hc2,hcons,zH1 (by rw[zVD];exact hj)];exact zVc 41 n _ j hj)
  (by
   have:=zGJ (I:=zVF 41 n (n+(u.length+1)+2)) (R:=tk 59 (n+(u.length+1)+2+n)::[E']) (i:=0);rw[zVD,Nat.zero_add]at this;rw[hAl,show I.length+3 - 2+n+n=n+1+I.length+n by omega,hc2,hcons,this];rfl)
  (by
   have:=zGJ (I:=zVF 41 n (n+(u.length+1)+2)) (R:=tk 59 (n+(u.length+1)+2+n)::[E']) (i:=0);rw[zVD,Nat.zero_add]at this;rw[hAl,show I.length+3 - 2+n+n=n+1+I.length+n by omega,hc2,hcons,this];rfl)
  g3 hx
 rw[zRA c1 r2 (by rw[r1,←hx];exact g4) (by rw[r1,←hx];exact g5),r1,←hx,g6]
end Go.Proofs.YtlohaclgbfhijaaGreatDoor
