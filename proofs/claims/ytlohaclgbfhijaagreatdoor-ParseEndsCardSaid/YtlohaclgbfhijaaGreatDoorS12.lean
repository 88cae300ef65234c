/- Joined for the claim ParseEnds: the parser, the lexer and the trees as they are walked, made short by a program of mine. -/
import Derived.Test.YtlohaclgbfhijaaGreatDoorS11
import Derived.Deep.RegionLaw
import Derived.Test.YtlohaclgbfhijaaGreatDoorS05
import Derived.Test.YtlohaclgbfhijaaGreatDoorS01
import Derived.Test.YtlohaclgbfhijaaGreatDoorS10
set_option maxHeartbeats 16000000
set_option maxRecDepth 1000000
namespace Go.Proofs.YtlohaclgbfhijaaGreatDoor
open Go.RowKit
inductive Ob where
 | bx (R:Nat) (T:TypeId) (cs:List Value)
 | tr (t:Tr) (cs:List Value)
 | tn (lo:Nat) (t:Tr) (cs:List Value)
 | ro (v:Value) (l:List Tr)
 | rn (hi:Nat) (v:Value) (l:List Tr)
 | lf (T:TypeId) (v:Value) (n:Nat) (xs:List Value)
 | vs (cs:List Value)
def Ob.blk:Ob→Option Nat
 | .bx R _ _=>some R
 | _=>none
def Ob.cells:Ob→List Value
 | .tr _ cs=>cs
 | .tn _ _ cs=>cs
 | .vs cs=>cs
 | .bx _ _ cs=>cs
 | _=>[]
def Ob.Ok (D:List Nat) (P:Nat→Prop) (w:World):Ob→Prop
 | .bx R T cs=>Bx w R T cs∧R∈D∧T≠24∧T≠87
 | .tr t cs=>TrC w P t cs
 | .tn lo t cs=>TrC w (fun b=>P b∧lo≤b) t cs∧lo≤w.heap.size
 | .ro v l=>RowP w P v l
 | .rn hi v l=>RowP w (fun b=>P b∧b < hi) v l
 | .lf T v n xs=>(T=24∨T=87)∧w.ownsRow 0 T 1 v n xs
 | .vs _=>True
def Off (B:Nat→Prop) (D:List Nat) (b:Nat):Prop:=B b∧b∉D
structure FrR (C:Pc) (B:Nat→Prop) (a:World) (D:List Nat) (os:List Ob) (s:Ps) (w:World):Prop where
 pa:Pa C s w
 gr:a.grownBy w (some C.g)
 bl:∀b,B b→C.g < b
 bh:∀b,a.heap.size≤b→B b
 ds:∀b∈D,a.heap.size≤b∧b < w.heap.size
 nd:∀(i j:Nat) (x y:Ob) (R:Nat),os[i]? =some x→os[j]? =some y→x.blk=some R→y.blk=some R→i=j
 ob:∀(i:Nat) (x:Ob),os[i]? =some x→x.Ok D (Off B D) w
structure Fr (C:Pc) (B:Nat→Prop) (a:World) (D:List Nat) (os:List Ob) (s:Ps) (w:World):Prop where
 out:FrR C B a D os s w
theorem Ob.Ok.keep {D:List Nat} {P:Nat→Prop} {w w':World} {r:Option Nat} {o:Ob} (h:o.Ok D P w) (hg:w.grownBy w' r) (hz:Fz w P r) (hr:∀R,o.blk=some R→r≠some R):o.Ok D P w':=by
 cases o with
 | bx R T cs=>exact⟨h.1.grown hg (hr R rfl),h.2⟩
 | tr t cs=>exact TrC.keep hg hz _ _ h
 | tn lo t cs=>exact⟨TrC.keep hg (hz.less fun b hb=>hb.1) _ _ h.1,Nat.le_trans h.2 hg.size⟩
 | ro v l=>exact RowP.keep h hg hz
 | rn hi v l=>exact RowP.keep h hg (hz.less fun b hb=>hb.1)
 | lf T v n xs=>exact⟨h.1,zBa h.2 h.1 hg hz⟩
 | vs cs=>trivial
theorem Ob.Ok.sub {D E:List Nat} {P Q:Nat→Prop} {w:World} {o:Ob} (h:o.Ok D P w) (hs:∀b,P b→b < w.heap.size→Q b) (hd:∀b∈D,b∈E):o.Ok E Q w:=by
 cases o with
 | bx R T cs=>exact⟨h.1,hd R h.2.1,h.2.2⟩
 | tr t cs=>exact TrC.sub hs _ _ h
 | tn lo t cs=>exact⟨TrC.sub (fun b hb hl=>⟨hs b hb.1 hl,hb.2⟩) _ _ h.1,h.2⟩
 | ro v l=>exact RowP.sub h hs
 | rn hi v l=>exact RowP.sub h fun b hb hl=>⟨hs b hb.1 hl,hb.2⟩
 | lf T v n xs=>exact h
 | vs cs=>trivial
theorem zDI {l:List Ob} {x:Ob} {i:Nat} {y:Ob} (h:(l++[x])[i]? =some y):(i < l.length∧l[i]? =some y)∨(i=l.length∧y=x):=by
 rcases Nat.lt_or_ge i l.length with h1 | h1
 · rw[List.getElem?_append_left h1]at h;exact .inl ⟨h1,h⟩
 · rw[List.getElem?_append_right h1]at h
   rcases Nat.eq_or_lt_of_le h1 with h2 | h2
   · rw[h2,Nat.sub_self]at h;simp at h;exact .inr ⟨h2.symm,h.symm⟩
   · rw[List.getElem?_eq_none (by simp;omega)]at h;cases h
section
variable {C:Pc} {B:Nat→Prop} {a:World} {D:List Nat} {os:List Ob} {s s':Ps} {w w':World} {rr:Option Nat}
theorem FrR.lt (F:FrR C B a D os s w):C.g < a.heap.size:=F.bl _ (F.bh _ (Nat.le_refl _))
theorem FrR.off (F:FrR C B a D os s w) {b:Nat} (h:w.heap.size≤b):Off B D b:=⟨F.bh b (Nat.le_trans F.gr.size h),fun hd=>by have:=(F.ds b hd).2;omega⟩
theorem FrR.go' (F:FrR C B a D os s w) (hp:Pa C s' w') (hg:w.grownBy w' rr) (hr:rr=none∨rr=some C.g):FrR C B a D os s' w':=by
 have hz:Fz w (Off B D) rr:=by
  rcases hr with rfl | rfl
  · exact .none_ _ _
  · exact .box F.pa.box (by decide) (by decide) (fun h=>by have:=F.bl _ h.1;omega)
 refine⟨hp,zF F.gr ?_,F.bl,F.bh,fun b hb=>⟨(F.ds b hb).1,Nat.lt_of_lt_of_le (F.ds b hb).2 hg.size⟩,F.nd,fun i x hx=>(F.ob i x hx).keep hg hz ?_⟩
 · rcases hr with rfl | rfl
   · exact zAL hg _
   · exact hg
 · intro R hR e
   have h1:=F.ob i x hx
   rcases hr with rfl | rfl
   · cases e
   · injection e with e
     cases x with
     | bx R' T cs=>injection hR with hR;subst hR;have:=(F.ds _ h1.2.1).1;have:=F.lt;omega
     | _=>cases hR
theorem FrR.snoc (F:FrR C B a D os s w) {x:Ob} (hx:x.blk=none) (h:x.Ok D (Off B D) w):FrR C B a D (os++[x]) s w:=by
 refine⟨F.pa,F.gr,F.bl,F.bh,F.ds,?_,?_⟩
 · intro i j y z R h1 h2 h3 h4
   rcases zDI h1 with⟨_,h1⟩ | ⟨rfl,rfl⟩
   · rcases zDI h2 with⟨_,h2⟩ | ⟨rfl,rfl⟩
     · exact F.nd i j y z R h1 h2 h3 h4
     · rw[hx]at h4;cases h4
   · rw[hx]at h3;cases h3
 · intro i y h1
   rcases zDI h1 with⟨_,h1⟩ | ⟨rfl,rfl⟩
   · exact F.ob i y h1
   · exact h
theorem Fr.n (F:Fr C B a D os s w) (hg:w.grownBy w' none):Fr C B a D os s w':=.mk (F.out.go' (F.out.pa.new hg) hg (.inl rfl))
theorem Fr.m (F:Fr C B a D os s w) (hp:Pa C s' w') (hg:w.grownBy w' (some C.g)):Fr C B a D os s' w':=.mk (F.out.go' hp hg (.inr rfl))
theorem Fr.dr (F:Fr C B a D os s w):Fr C B a D os s w.drew:=F.n (zAc w none)
theorem Fr.P (F:Fr C B a D os s w):Pa C s w:=F.out.pa
theorem Fr.hi (F:Fr C B a D os s w):s.k≤C.L.length - 1:=F.out.pa.hi
theorem Fr.box (F:Fr C B a D os s w) (cs:List Value) (T:TypeId) {R:Nat} (hR:w.heap.size=R) (h1:T≠24) (h2:T≠87):Fr C B a (R::D) (os++[.bx R T cs]) s (w.alloc (.cells cs.toArray T)):=by
 subst hR
 have G:=F.out
 have hg:=zL w (.cells cs.toArray T) none
 have hs:w.heap.size < (w.alloc (.cells cs.toArray T)).heap.size:=by simp
 refine .mk ⟨G.pa.new hg,zF G.gr (zAL hg _),G.bl,G.bh,?_,?_,?_⟩
 · intro b hb
   rcases List.mem_cons.1 hb with rfl | hb
   · exact⟨G.gr.size,hs⟩
   · exact⟨(G.ds b hb).1,Nat.lt_trans (G.ds b hb).2 hs⟩
 · have hn:∀(i:Nat) (y:Ob) (R:Nat),os[i]? =some y→y.blk=some R→R < w.heap.size:=by
    intro i y R h3 h4
    have h5:=G.ob i y h3
    cases y with
    | bx R' T' cs'=>injection h4 with h4;subst h4;exact(G.ds _ h5.2.1).2
    | _=>cases h4
   intro i j y z R h3 h4 h5 h6
   rcases zDI h3 with⟨_,h3⟩ | ⟨rfl,rfl⟩
   · rcases zDI h4 with⟨_,h4⟩ | ⟨rfl,rfl⟩
     · exact G.nd i j y z R h3 h4 h5 h6
     · injection h6 with h6;have:=hn _ _ _ h3 h5;omega
   · rcases zDI h4 with⟨_,h4⟩ | ⟨rfl,rfl⟩
     · injection h5 with h5;have:=hn _ _ _ h4 h6;omega
     · rfl
 · intro i y h3
   rcases zDI h3 with⟨_,h3⟩ | ⟨rfl,rfl⟩
   · refine((G.ob i y h3).sub (E:=w.heap.size::D) (Q:=Off B (w.heap.size::D)) ?_ (fun b hb=>List.mem_cons_of_mem _ hb)).keep hg (.none_ _ _) (fun R _=>by simp)
     intro b hb hl
     refine⟨hb.1,fun h4=>?_⟩
     rcases List.mem_cons.1 h4 with rfl | h4
     · omega
     · exact hb.2 h4
   · exact⟨Bx.new w cs T,by simp,h1,h2⟩
theorem Fr.bt (F:Fr C B a D os s w) (i:Nat) (T:TypeId) {R:Nat} {x:Ob} {d0 d1 d2 d3 d4 d5 d6 d7 d8:Value} (hR:w.heap.size=R) (_hi:os[i]? =some x:=by rfl) (_hc:x.cells=[d0,d1,d2,d3,d4,d5,d6,d7,d8]:=by rfl) (h1:T≠24:=by decide) (h2:T≠87:=by decide):Fr C B a (R::D) (os++[.bx R T [d0,d1,d2,d3,d4,d5,d6,d7,d8]]) s (w.alloc (.cells #[d0,d1,d2,d3,d4,d5,d6,d7,d8] T)):=F.box [d0,d1,d2,d3,d4,d5,d6,d7,d8] T hR h1 h2
theorem Fr.b (F:Fr C B a D os s w) (i:Nat) {R:Nat} {T:TypeId} {cs:List Value} (h:os[i]? =some (.bx R T cs):=by rfl):Bx w R T cs:=(F.out.ob i _ h).1
theorem Fr.c (F:Fr C B a D os s w) (i:Nat) {R:Nat} {T:TypeId} {v0 v1 v2 v3 v4 v5 v6 v7 v8:Value} (h:os[i]? =some (.bx R T [v0,v1,v2,v3,v4,v5,v6,v7,v8]):=by rfl):w.cell? ⟨R,0,none⟩=some v0∧w.cell? ⟨R,1,none⟩=some v1∧w.cell? ⟨R,2,none⟩=some v2∧w.cell? ⟨R,3,none⟩=some v3∧w.cell? ⟨R,4,none⟩=some v4∧w.cell? ⟨R,5,none⟩=some v5∧w.cell? ⟨R,6,none⟩=some v6∧w.cell? ⟨R,7,none⟩=some v7∧w.cell? ⟨R,8,none⟩=some v8:=(F.b i h).nine
theorem Fr.f (F:Fr C B a D os s w) (i:Nat) {R:Nat} {T:TypeId} {cs:List Value} (h:os[i]? =some (.bx R T cs):=by rfl):w.frozen? ⟨R,0,none⟩=false∧w.frozen? ⟨R,1,none⟩=false∧w.frozen? ⟨R,2,none⟩=false∧w.frozen? ⟨R,3,none⟩=false∧w.frozen? ⟨R,4,none⟩=false∧w.frozen? ⟨R,5,none⟩=false∧w.frozen? ⟨R,6,none⟩=false∧w.frozen? ⟨R,7,none⟩=false∧w.frozen? ⟨R,8,none⟩=false:=(F.b i h).nineF
theorem Fr.t (F:Fr C B a D os s w) (i:Nat) {t:Tr} {cs:List Value} (h:os[i]? =some (.tr t cs):=by rfl):TrC w (Off B D) t cs:=F.out.ob i _ h
theorem Fr.r (F:Fr C B a D os s w) (i:Nat) {v:Value} {l:List Tr} (h:os[i]? =some (.ro v l):=by rfl):RowP w (Off B D) v l:=F.out.ob i _ h
theorem Fr.k1 (F:Fr C B a D os s w):w.cell? ⟨C.g,1,none⟩=some (.int .i64 (s.k:Int))∧w.frozen? ⟨C.g,1,none⟩=false∧s.k < C.N:=⟨F.P.c1,F.P.f 1,F.P.kN⟩
theorem Fr.step (F:Fr C B a D os s w) (hk:s.k < C.L.length - 1):Fr C B a D os (stepP s) (w.setCell ⟨C.g,1,none⟩ (.int .i64 ((s.k:Int)+1))):=F.m (F.P.stepI hk rfl) (zR w C.g 1 _)
theorem Fr.to (F:Fr C B a D os s w) {z:Int} {k':Nat} (hz:z=(k':Int)) (hk:k'≤C.L.length - 1):Fr C B a D os {s with k:=k'} (w.setCell ⟨C.g,1,none⟩ (.int .i64 z)):=F.m (F.P.to hz hk) (zR w C.g 1 _)
theorem Fr.step2 (F:Fr C B a D os s w) (hk:s.k+1+1≤C.L.length - 1):Fr C B a D os (stepP (stepP s)) (w.setCell ⟨C.g,1,none⟩ (.int .i64 ((s.k:Int)+2))):=F.to (k':=s.k+1+1) (by omega) hk
theorem Fr.back (F:Fr C B a D os (stepP s) w) (hk:s.k≤C.L.length - 1):Fr C B a D os s (w.setCell ⟨C.g,1,none⟩ (.int .i64 (s.k:Int))):=F.to (k':=s.k) rfl hk
theorem FrR.setAt (F:FrR C B a D os s w) {i R:Nat} {T:TypeId} {cs cs':List Value} (hi:os[i]? =some (.bx R T cs)) (hg:w.grownBy w' (some R)) (hb:Bx w' R T cs'):FrR C B a D (os.set i (.bx R T cs')) s w':=by
 obtain⟨h1,h2,h3,h4⟩:=F.ob i _ hi
 have hl:=F.ds R h2
 have hil:i < os.length:=by
  rcases Nat.lt_or_ge i os.length with h5 | h5
  · exact h5
  · rw[List.getElem?_eq_none h5]at hi;cases hi
 refine⟨F.pa.grown hg (fun b hb=>by injection hb with hb;have:=F.lt;omega),zBc F.gr hl.1 hg,F.bl,F.bh,fun b hb=>⟨(F.ds b hb).1,Nat.lt_of_lt_of_le (F.ds b hb).2 hg.size⟩,?_,?_⟩
 · have hx:∀(j:Nat) (y:Ob),(os.set i (.bx R T cs'))[j]? =some y→∃z,os[j]? =some z∧z.blk=y.blk:=by
    intro j y hy
    rw[List.getElem?_set]at hy
    split at hy
    · rename_i e
      subst e
      (try rw[if_pos hil]at hy)
      injection hy with hy
      subst hy
      exact⟨_,hi,rfl⟩
    · exact⟨y,hy,rfl⟩
   intro j k y z R' h5 h6 h7 h8
   obtain⟨y',h9,h10⟩:=hx j y h5
   obtain⟨z',h11,h12⟩:=hx k z h6
   exact F.nd j k y' z' R' h9 h11 (h10.trans h7) (h12.trans h8)
 · intro j y hy
   rw[List.getElem?_set]at hy
   split at hy
   · rename_i e
     subst e
     (try rw[if_pos hil]at hy)
     injection hy with hy
     subst hy
     exact⟨hb,h2,h3,h4⟩
   · rename_i e
     refine(F.ob j y hy).keep hg (.box h1 h3 h4 (fun h=>h.2 h2)) ?_
     intro R' h5 h6
     injection h6 with h6
     subst h6
     exact e (F.nd i j _ y R hi hy rfl h5)
theorem Fr.put9 (F:Fr C B a D os s w) (i:Nat) {R:Nat} {T:TypeId} {v0 v1 v2 v3 v4 v5 v6 v7 v8 d0 d1 d2 d3 d4 d5 d6 d7 d8:Value} (hi:os[i]? =some (.bx R T [v0,v1,v2,v3,v4,v5,v6,v7,v8])):Fr C B a D (os.set i (.bx R T [d0,d1,d2,d3,d4,d5,d6,d7,d8])) s (((((((((w.setCell ⟨R,0,none⟩ d0).setCell ⟨R,1,none⟩ d1).setCell ⟨R,2,none⟩ d2).setCell ⟨R,3,none⟩ d3).setCell ⟨R,4,none⟩ d4).setCell ⟨R,5,none⟩ d5).setCell ⟨R,6,none⟩ d6).setCell ⟨R,7,none⟩ d7).setCell ⟨R,8,none⟩ d8):=
 .mk (F.out.setAt hi zBG ((F.b i hi).set9 rfl))
theorem Fr.put (F:Fr C B a D os s w) (i j:Nat) {R:Nat} {T:TypeId} {x:Ob} {v0 v1 v2 v3 v4 v5 v6 v7 v8 d0 d1 d2 d3 d4 d5 d6 d7 d8:Value} (hi:os[i]? =some (.bx R T [v0,v1,v2,v3,v4,v5,v6,v7,v8]):=by rfl) (_hj:os[j]? =some x:=by rfl) (_hc:x.cells=[d0,d1,d2,d3,d4,d5,d6,d7,d8]:=by rfl):Fr C B a D (os.set i (.bx R T [d0,d1,d2,d3,d4,d5,d6,d7,d8])) s (((((((((w.setCell ⟨R,0,none⟩ d0).setCell ⟨R,1,none⟩ d1).setCell ⟨R,2,none⟩ d2).setCell ⟨R,3,none⟩ d3).setCell ⟨R,4,none⟩ d4).setCell ⟨R,5,none⟩ d5).setCell ⟨R,6,none⟩ d6).setCell ⟨R,7,none⟩ d7).setCell ⟨R,8,none⟩ d8):=F.put9 i hi
theorem Fr.set (F:Fr C B a D os s w) (i j:Nat) (v:Value) {R:Nat} {T:TypeId} {cs:List Value} (hi:os[i]? =some (.bx R T cs):=by rfl):Fr C B a D (os.set i (.bx R T (cs.set j v))) s (w.setCell ⟨R,j,none⟩ v):=.mk (F.out.setAt hi (zR w R j v) ((F.b i hi).set j v))
theorem zDB {Pg:Program} {c:Code} {Qp:Exit→Act→World→Prop} {A:Act} (F:Fr C B a D os s w) (k:∀V,Fr C B a D os s V→Code.wp Pg c Qp A V):Code.wp Pg c Qp A w:=k w F
theorem zP {Pg:Program} {f:Func} {Ret:Ending→World→Prop} {A:Act} (F:Fr C B a D os s w) (k:∀V,Fr C B a D os s V→bodyPost Pg f Ret .ret A V):bodyPost Pg f Ret .ret A w:=k w F
theorem Fr.kB {f:FuncId} {args:Array Value} {b:Bool} (F:Fr C B a D os s w) (h:Calls Tryz.prog f args w (zJ3 C s b w)) {Q:Ending→World→Prop} (k:∀w',Fr C B a D os s w'→Q (.returned (.bool b)) w'):Calls Tryz.prog f args w Q:=h.mono fun _ w' ⟨h1,_,h3⟩=>h1▸k w' (F.n h3)
theorem Fr.kM {f:FuncId} {args:Array Value} {b:Bool} (F:Fr C B a D os s w) (h:Calls Tryz.prog f args w (zSV C s' b w)) {Q:Ending→World→Prop} (k:∀w',Fr C B a D os s' w'→Q (.returned (.bool b)) w'):Calls Tryz.prog f args w Q:=h.mono fun _ w' ⟨h1,h2,h3⟩=>h1▸k w' (F.m h2 h3)
theorem Fr.kN {f:FuncId} {args:Array Value} (F:Fr C B a D os s w) (h:Calls Tryz.prog f args w (zR0 C s' w)) {Q:Ending→World→Prop} (k:∀w',Fr C B a D os s' w'→Q (.returned (.tuple #[])) w'):Calls Tryz.prog f args w Q:=h.mono fun _ w' ⟨h1,h2,h3⟩=>h1▸k w' (F.m h2 h3)
theorem Fr.kS {f:FuncId} {args:Array Value} {p:List UInt8×Ps} (F:Fr C B a D os s w) (h:Calls Tryz.prog f args w (zSW C p w)) {Q:Ending→World→Prop} (k:∀w',Fr C B a D os p.2 w'→Q (.returned (.string ⟨p.1.toArray⟩)) w'):Calls Tryz.prog f args w Q:=h.mono fun _ w' ⟨h1,h2,h3⟩=>h1▸k w' (F.m h2 h3)
theorem Fr.kS2 {f:FuncId} {args:Array Value} {nb:List UInt8} (F:Fr C B a D os s w) (h:Calls Tryz.prog f args w (zSW C (nb,s') w)) {Q:Ending→World→Prop} (k:∀w',Fr C B a D os s' w'→Q (.returned (.string ⟨nb.toArray⟩)) w'):Calls Tryz.prog f args w Q:=h.mono fun _ w' ⟨h1,h2,h3⟩=>h1▸k w' (F.m h2 h3)
theorem Fr.kQ {f:FuncId} {args:Array Value} {v:Value} (F:Fr C B a D os s w) (h:Calls Tryz.prog f args w (fun e w'=>e=.returned v∧w.grownBy w' none)) {Q:Ending→World→Prop} (k:∀w',Fr C B a D os s w'→Q (.returned v) w'):Calls Tryz.prog f args w Q:=h.mono fun _ w' ⟨h1,h3⟩=>h1▸k w' (F.n h3)
theorem Fr.addT {t:Tr} {cs:List Value} (F:Fr C B a D os s w) (hm:Pa C s' w') (hg:w.grownBy w' (some C.g)) (ht:TrC w' (w.heap.size≤·) t cs):Fr C B a D (os++[.tr t cs]) s' w':=
 .mk ((F.m hm hg).out.snoc rfl (TrC.sub (fun _ hb _=>F.out.off hb) _ _ ht))
theorem Fr.kD {f:FuncId} {args:Array Value} {p:Tr×Ps} (F:Fr C B a D os s w) (h:Calls Tryz.prog f args w (zCk C p w)) {Q:Ending→World→Prop} (k:∀w' d0 d1 d2 d3 d4 d5 d6 d7 d8,Fr C B a D (os++[.tr p.1 [d0,d1,d2,d3,d4,d5,d6,d7,d8]]) p.2 w'→Q (.returned (.agg #[d0,d1,d2,d3,d4,d5,d6,d7,d8])) w'):Calls Tryz.prog f args w Q:=
 h.mono fun _ w' ⟨d0,d1,d2,d3,d4,d5,d6,d7,d8,h1,h2,h3,h4⟩=>h1▸k w' d0 d1 d2 d3 d4 d5 d6 d7 d8 (F.addT h3 h4 h2)
theorem Fr.kX {f:FuncId} {args:Array Value} {p:Tr×Ps} (F:Fr C B a D os s w) (h:Calls Tryz.prog f args w (zCk C p w)) {Q:Ending→World→Prop} (k:∀x,Hid (p=x)→∀w' d0 d1 d2 d3 d4 d5 d6 d7 d8,Fr C B a D (os++[.tr x.1 [d0,d1,d2,d3,d4,d5,d6,d7,d8]]) x.2 w'→Q (.returned (.agg #[d0,d1,d2,d3,d4,d5,d6,d7,d8])) w'):Calls Tryz.prog f args w Q:=F.kD h (k p (zD rfl))
theorem Fr.al (F:Fr C B a D os s w) (o:Obj):Fr C B a D os s (w.alloc o):=F.n (zL w o none)
theorem Fr.kL {f:FuncId} {args:Array Value} {p:Tr×Ps} (F:Fr C B a D os s w) (h:Calls Tryz.prog f args w (LstQ C p w)) {Q:Ending→World→Prop} (k:∀w' A n c,Hid (p.1.subs.length=n)→n≤c→c≤maxLen→Fr C B a D (os++[.ro (.slice A n c) p.1.subs]) p.2 w'→Q (.returned (.slice A n c)) w'):Calls Tryz.prog f args w Q:=
 h.mono fun _ w' ⟨A,n,c,h1,h2,h3,h4,h5,h6,h7⟩=>h1▸k w' A n c (zD h2) h3 h4 (.mk ((F.m h6 h7).out.snoc rfl (h5.sub fun _ hb _=>F.out.off hb)))
theorem zQV {os:List Ob} {i:Nat} {x:Ob} (h:os[i]? =some x):i < os.length:=by
 rcases Nat.lt_or_ge i os.length with h5 | h5
 · exact h5
 · rw[List.getElem?_eq_none h5]at h;cases h
theorem FrR.rep (F:FrR C B a D os s w) {j:Nat} {x y:Ob} (hj:os[j]? =some x) (_hx:x.blk=none) (hy:y.blk=none) (h:y.Ok D (Off B D) w):FrR C B a D (os.set j y) s w:=by
 have hz:∀(i:Nat) (z:Ob) (R:Nat),(os.set j y)[i]? =some z→z.blk=some R→os[i]? =some z:=by
  intro i z R h1 h2
  rw[List.getElem?_set]at h1
  split at h1
  · split at h1
    · injection h1 with h1;subst h1;rw[hy]at h2;cases h2
    · cases h1
  · exact h1
 refine⟨F.pa,F.gr,F.bl,F.bh,F.ds,fun i k z z' R h1 h2 h3 h4=>F.nd i k z z' R (hz i z R h1 h3) (hz k z' R h2 h4) h3 h4,?_⟩
 intro i z h1
 rw[List.getElem?_set]at h1
 split at h1
 · (try rw[if_pos (by rename_i e;subst e;exact zQV hj)]at h1)
   injection h1 with h1;subst h1;exact h
 · exact F.ob i z h1
theorem Fr.kR {f:FuncId} {args:Array Value} {p:Tr×Ps} (F:Fr C B a D os s w) (j:Nat) {v:Value} {l:List Tr} (hj:os[j]? =some (.ro v l)) (h:Calls Tryz.prog f args w (zCk C p w)) {Q:Ending→World→Prop} (k:∀w' d0 d1 d2 d3 d4 d5 d6 d7 d8,Fr C B a D (os.set j (.rn w.heap.size v l)++[.tn w.heap.size p.1 [d0,d1,d2,d3,d4,d5,d6,d7,d8]]) p.2 w'→Q (.returned (.agg #[d0,d1,d2,d3,d4,d5,d6,d7,d8])) w'):Calls Tryz.prog f args w Q:=
 h.mono fun _ w' ⟨d0,d1,d2,d3,d4,d5,d6,d7,d8,h1,h2,h3,h4⟩=>h1▸k w' d0 d1 d2 d3 d4 d5 d6 d7 d8
  (.mk (((F.out.rep (y:=.rn w.heap.size v l) hj rfl rfl ((F.r j hj).sub fun _ hb hl=>⟨hb,hl⟩)).go' h3 h4 (.inr rfl)).snoc (x:=.tn _ _ _) rfl ⟨TrC.sub (fun _ hb _=>⟨F.out.off hb,hb⟩) _ _ h2,h4.size⟩))
theorem Fr.kRX {f:FuncId} {args:Array Value} {p:Tr×Ps} (F:Fr C B a D os s w) (j:Nat) {v:Value} {l:List Tr} (hj:os[j]? =some (.ro v l)) (h:Calls Tryz.prog f args w (zCk C p w)) {Q:Ending→World→Prop} (k:∀x,Hid (p=x)→∀w' d0 d1 d2 d3 d4 d5 d6 d7 d8,Fr C B a D (os.set j (.rn w.heap.size v l)++[.tn w.heap.size x.1 [d0,d1,d2,d3,d4,d5,d6,d7,d8]]) x.2 w'→Q (.returned (.agg #[d0,d1,d2,d3,d4,d5,d6,d7,d8])) w'):Calls Tryz.prog f args w Q:=F.kR j hj h (k p (zD rfl))
def Ob.calm:Ob→Ob
 | .tr _ cs=>.vs cs
 | .tn _ _ cs=>.vs cs
 | .ro _ _=>.vs []
 | .rn _ _ _=>.vs []
 | x=>x
theorem FrR.grow (F:FrR C B a D os s w) {j:Nat} {v v':Value} {l l':List Tr} {x:Ob} (hj:os[j]? =some x) (hx:x.blk=none) (hr:RowP w (Off B D) v l) (hg:w.grownBy w' v.ownBlock) (hn:RowP w' (Off B D) v' l') (hB:∀b,B b→a.heap.size≤b):FrR C B a D ((os.map Ob.calm).set j (.ro v' l')) s w':=by
 have hcb:∀y:Ob,y.calm.blk=y.blk:=fun y=>by cases y<;>rfl
 have F1:FrR C B a D (os.map Ob.calm) s w':=by
  refine⟨F.pa.row hr (fun b hb=>F.bl b hb.1) hg,zGV F.gr (fun b hb=>?_) hg,F.bl,F.bh,fun b hb=>⟨(F.ds b hb).1,Nat.lt_of_lt_of_le (F.ds b hb).2 hg.size⟩,?_,?_⟩
  · exact hB b (hr.lt b hb).1.1
  · intro i k y z R h1 h2 h3 h4
    rw[List.getElem?_map]at h1 h2
    cases h5:os[i]? with
    | none=>rw[h5]at h1;cases h1
    | some y'=>
     cases h6:os[k]? with
     | none=>rw[h6]at h2;cases h2
     | some z'=>
      rw[h5]at h1;rw[h6]at h2
      injection h1 with h1;injection h2 with h2
      subst h1 h2
      rw[hcb]at h3 h4
      exact F.nd i k y' z' R h5 h6 h3 h4
  · intro i y h1
    rw[List.getElem?_map]at h1
    cases h5:os[i]? with
    | none=>rw[h5]at h1;cases h1
    | some y'=>
     rw[h5]at h1
     injection h1 with h1
     subst h1
     have h6:=F.ob i y' h5
     cases y' with
     | bx R T cs=>exact⟨h6.1.row hr (fun h=>h.2 h6.2.1) hg,h6.2⟩
     | lf T v n xs=>
      refine⟨h6.1,zBa h6.2 h6.1 hg (hr.fz (Q:=fun _=>False) (fun _ _ _ h=>h))⟩
     | _=>trivial
 exact F1.rep (x:=x.calm) (by rw[List.getElem?_map,hj];rfl) ((hcb x).trans hx) rfl hn
theorem Fr.snocS {ops:Array Oper} {o:Oper} {ac:Act} {K:Act→World→Prop} {Qx:Exit→Act→World→Prop} {E:Prop} (F:Fr C B a D os s w) (j m:Nat) {hi n cp:Nat} {A:Option Addr} {l:List Tr} {t:Tr} {c0 c1 c2 c3 c4 c5 c6 c7 c8:Value} (hj:os[j]? =some (.rn hi (.slice A n cp) l)) (hm:os[m]? =some (.tn hi t [c0,c1,c2,c3,c4,c5,c6,c7,c8])) (hB:∀b,B b→a.heap.size≤b) (hl:n≤4097) (hgd:o.guard=none) (x y:Operand)
 (ho:o.op=.call {callee:=.builtin .append,args:=#[x,y],argTypes:=#[70,70]})
 (hs:ac.eval x=.slice A n cp) (hx:ac.eval y=.slice (some ⟨w.heap.size,0,none⟩) 1 1)
 (h:∀A' cp' w',Fr C B a D ((os.map Ob.calm).set j (.ro (.slice A' (n+1) cp') (l++[t]))) s w'→K (ac.put o.dst (.slice A' (n+1) cp')) w'):
 if Region.wanted o (yielded ops ac.tmps)=true then Oper.wp Tryz.prog o ac (w.alloc (.cells #[c0,c1,c2,c3,c4,c5,c6,c7,c8] 72)) K Qx else E:=by
 have hr:RowP w (fun b=>Off B D b∧b < hi) (.slice A n cp) l:=F.out.ob j _ hj
 have hr2:=hr.sub (Q:=Off B D) fun _ hb _=>hb.1
 have ht:TrC w (fun b=>Off B D b∧hi≤b) t [c0,c1,c2,c3,c4,c5,c6,c7,c8]:=(F.out.ob m _ hm).1
 refine zGY (Px:=Off B D) (Q:=fun b=>Off B D b∧hi≤b) hgd x y ho hs hr.bounds.1 hr2 ht (fun b hb _=>hb.1) (fun b hb h2=>?_) (F.out.off (Nat.le_succ _)) hl hx ?_
 · have:=(hr.lt b hb).1.2;have:=h2.2;omega
 · intro A' cp' w' h1 h2
   exact h A' cp' w' (.mk ((F.al (.cells #[c0,c1,c2,c3,c4,c5,c6,c7,c8] 72)).out.grow hj rfl (hr2.new (zL _ _ _)) h2 h1 hB))
theorem Fr.snocL {ops:Array Oper} {rest:List Oper} {o:Oper} {ac:Act} {Qx:Exit→Act→World→Prop} (F:Fr C B a D os s w) (j m:Nat) {hi n cp:Nat} {A:Option Addr} {l:List Tr} {t:Tr} {c0 c1 c2 c3 c4 c5 c6 c7 c8:Value} (hj:os[j]? =some (.rn hi (.slice A n cp) l)) (hm:os[m]? =some (.tn hi t [c0,c1,c2,c3,c4,c5,c6,c7,c8])) (hB:∀b,B b→a.heap.size≤b) (hl:n≤4097) (hgd:o.guard=none) (x y:Operand)
 (ho:o.op=.call {callee:=.builtin .append,args:=#[x,y],argTypes:=#[70,70]})
 (hs:ac.eval x=.slice A n cp) (hx:ac.eval y=.slice (some ⟨w.heap.size,0,none⟩) 1 1)
 (h:∀A' cp' w',Fr C B a D ((os.map Ob.calm).set j (.ro (.slice A' (n+1) cp') (l++[t]))) s w'→wpList Tryz.prog ops Qx rest (ac.put o.dst (.slice A' (n+1) cp')) w'):
 wpList Tryz.prog ops Qx (o::rest) ac (w.alloc (.cells #[c0,c1,c2,c3,c4,c5,c6,c7,c8] 72)):=by
 have hr:RowP w (fun b=>Off B D b∧b < hi) (.slice A n cp) l:=F.out.ob j _ hj
 have hr2:=hr.sub (Q:=Off B D) fun _ hb _=>hb.1
 have ht:TrC w (fun b=>Off B D b∧hi≤b) t [c0,c1,c2,c3,c4,c5,c6,c7,c8]:=(F.out.ob m _ hm).1
 refine zDH (Px:=Off B D) (Q:=fun b=>Off B D b∧hi≤b) hgd x y ho hs hr.bounds.1 hr2 ht (fun b hb _=>hb.1) (fun b hb h2=>?_) (F.out.off (Nat.le_succ _)) hl hx ?_
 · have:=(hr.lt b hb).1.2;have:=h2.2;omega
 · intro A' cp' w' h1 h2
   exact h A' cp' w' (.mk ((F.al (.cells #[c0,c1,c2,c3,c4,c5,c6,c7,c8] 72)).out.grow hj rfl (hr2.new (zL _ _ _)) h2 h1 hB))
theorem Fr.snoc0 {ops:Array Oper} {o:Oper} {ac:Act} {K:Act→World→Prop} {Qx:Exit→Act→World→Prop} {E:Prop} (F:Fr C B a D os s w) (m:Nat) (kk:Int) (nm:List UInt8) {lo:Nat} {t:Tr} {c0 c1 c2 c3 c4 c5 c6 c7 c8:Value} (hm:os[m]? =some (.tn lo t [c0,c1,c2,c3,c4,c5,c6,c7,c8])) (hgd:o.guard=none) (x y:Operand)
 (ho:o.op=.call {callee:=.builtin .append,args:=#[x,y],argTypes:=#[70,70]})
 (hs:ac.eval x=.slice none 0 0) (hx:ac.eval y=.slice (some ⟨w.heap.size,0,none⟩) 1 1)
 (h:∀A' cp' w',Fr C B a D (os++[.tn lo (trN kk nm [t]) [.int .i64 kk,.string ⟨nm.toArray⟩,.slice none 0 0,.int .i64 0,.int .i64 0,.bool false,.slice none 0 0,.slice none 0 0,.slice A' 1 cp']]) s w'→K (ac.put o.dst (.slice A' (0+1) cp')) w'):
 if Region.wanted o (yielded ops ac.tmps)=true then Oper.wp Tryz.prog o ac (w.alloc (.cells #[c0,c1,c2,c3,c4,c5,c6,c7,c8] 72)) K Qx else E:=by
 have ht:=F.out.ob m _ hm
 refine zGY (Px:=fun b=>Off B D b∧lo≤b) (Q:=fun b=>Off B D b∧lo≤b) hgd x y ho hs (l:=[]) rfl (RowP.nil _ _) ht.1 (fun b hb _=>hb) (fun b hb _=>by cases hb) ⟨F.out.off (Nat.le_succ _),Nat.le_succ_of_le ht.2⟩ (by omega) hx ?_
 intro A' cp' w' h1 h2
 have F2:=(F.al (.cells #[c0,c1,c2,c3,c4,c5,c6,c7,c8] 72)).n (w':=w') h2
 refine h A' cp' w' (.mk (F2.out.snoc (x:=.tn _ _ _) rfl ⟨(show TrC _ _ _ _ from RowP.treeN h1),?_⟩))
 have h3:=h2.size
 have h4:=ht.2
 simp at h3
 omega
theorem Fr.nar (F:Fr C B a D os s w) (j:Nat) {v:Value} {l:List Tr} (hj:os[j]? =some (.ro v l)):Fr C B a D (os.set j (.rn w.heap.size v l)) s w:=.mk (F.out.rep hj rfl rfl (RowP.sub (F.r j hj) fun _ hb hl=>⟨hb,hl⟩))
theorem Fr.leafM (F:Fr C B a D os s w) (kk:Int) (nm:List UInt8):Fr C B a D (os++[.tn w.heap.size (trN kk nm []) [.int .i64 kk,.string ⟨nm.toArray⟩,.slice none 0 0,.int .i64 0,.int .i64 0,.bool false,.slice none 0 0,.slice none 0 0,.slice none 0 0]]) s w:=.mk (F.out.snoc (x:=.tn _ _ _) rfl ⟨(show TrC _ _ _ _ from(RowP.nil _ _).treeN),Nat.le_refl _⟩)
theorem Fr.rowN (F:Fr C B a D os s w) (i:Nat) {v:Value} {l:List Tr} (h:os[i]? =some (.ro v l)) (kk:Int) (nm:List UInt8):Fr C B a D (os++[.tr (trN kk nm l) [.int .i64 kk,.string ⟨nm.toArray⟩,.slice none 0 0,.int .i64 0,.int .i64 0,.bool false,.slice none 0 0,.slice none 0 0,v]]) s w:=.mk (F.out.snoc rfl (show TrC _ _ _ _ from(F.r i h).treeN))
theorem Fr.rowK (F:Fr C B a D os s w) (i:Nat) {v:Value} {l:List Tr} (h:os[i]? =some (.ro v l)) (kk:Int):Fr C B a D (os++[.tr (trK kk l) [.int .i64 kk,.string ⟨#[]⟩,.slice none 0 0,.int .i64 0,.int .i64 0,.bool false,.slice none 0 0,.slice none 0 0,v]]) s w:=.mk (F.out.snoc rfl (show TrC _ _ _ _ from(F.r i h).treeK))
theorem Fr.nil (F:Fr C B a D os s w):Fr C B a D (os++[.ro (.slice none 0 0) []]) s w:=.mk (F.out.snoc rfl (show RowP _ _ _ _ from RowP.nil _ _))
theorem Fr.leafN (F:Fr C B a D os s w) (kk:Int) (nm:List UInt8):Fr C B a D (os++[.tr (trN kk nm []) [.int .i64 kk,.string ⟨nm.toArray⟩,.slice none 0 0,.int .i64 0,.int .i64 0,.bool false,.slice none 0 0,.slice none 0 0,.slice none 0 0]]) s w:=.mk (F.out.snoc rfl (show TrC _ _ _ _ from(RowP.nil _ _).treeN))
theorem Fr.leafK (F:Fr C B a D os s w) (kk:Int):Fr C B a D (os++[.tr (trK kk []) [.int .i64 kk,.string ⟨#[]⟩,.slice none 0 0,.int .i64 0,.int .i64 0,.bool false,.slice none 0 0,.slice none 0 0,.slice none 0 0]]) s w:=.mk (F.out.snoc rfl (show TrC _ _ _ _ from(RowP.nil _ _).treeK))
def pkL (os:List Ob) (l:List Nat):List Ob:=l.map fun i=>os.getD i (.vs [])
theorem Fr.pkc (F:Fr C B a D os s w) (E:List Nat) (l:List Nat) (hE:∀b∈E,b∈D) (hl:l.Nodup) (hk:∀R∈(pkL os l).filterMap Ob.blk,R∈E):Fr C B a E (pkL os l) s w:=by
 have G:=F.out
 have hat:∀(i:Nat) (x:Ob),(pkL os l)[i]? =some x→∃k,l[i]? =some k∧x=os.getD k (.vs []):=by
  intro i x h
  unfold pkL at h
  rw[List.getElem?_map]at h
  cases h5:l[i]? with
  | none=>rw[h5]at h;cases h
  | some k=>rw[h5]at h;injection h with h;exact⟨k,rfl,h.symm⟩
 have hgd:∀k:Nat,os.getD k (.vs [])=.vs []∨os[k]? =some (os.getD k (.vs [])):=by
  intro k
  rw[List.getD_eq_getElem?_getD]
  cases h5:os[k]? with
  | none=>exact .inl rfl
  | some x=>exact .inr rfl
 refine .mk ⟨G.pa,G.gr,G.bl,G.bh,fun b hb=>G.ds b (hE b hb),?_,?_⟩
 · intro i j x y R h1 h2 h3 h4
   obtain⟨k1,e1,rfl⟩:=hat i x h1
   obtain⟨k2,e2,rfl⟩:=hat j y h2
   rcases hgd k1 with e3 | e3
   · rw[e3]at h3;cases h3
   rcases hgd k2 with e4 | e4
   · rw[e4]at h4;cases h4
   have e5:=G.nd k1 k2 _ _ R e3 e4 h3 h4
   subst e5
   have l1:i < l.length:=by
    rcases Nat.lt_or_ge i l.length with h5 | h5
    · exact h5
    · rw[List.getElem?_eq_none h5]at e1;cases e1
   exact(List.getElem?_inj l1 hl).1 (e1.trans e2.symm)
 · intro i x h1
   obtain⟨k,e1,rfl⟩:=hat i x h1
   rcases hgd k with e3 | e3
   · rw[e3];trivial
   · have h2:=G.ob k _ e3
     have hs:∀b,Off B D b→Off B E b:=fun b hb=>⟨hb.1,fun h=>hb.2 (hE b h)⟩
     have hk:∀R,(os.getD k (.vs [])).blk=some R→R∈E:=fun R h=>hk R (List.mem_filterMap.2 ⟨_,List.mem_of_getElem? h1,h⟩)
     generalize os.getD k (.vs [])=z at hk h2
     cases z with
     | bx R T cs=>exact⟨h2.1,hk R rfl,h2.2.2⟩
     | tr t cs=>exact TrC.sub (fun b hb _=>hs b hb) _ _ h2
     | tn lo t cs=>exact⟨TrC.sub (fun b hb _=>⟨hs b hb.1,hb.2⟩) _ _ h2.1,h2.2⟩
     | ro v l=>exact RowP.sub h2 fun b hb _=>hs b hb
     | rn hi v l=>exact RowP.sub h2 fun b hb _=>⟨hs b hb.1,hb.2⟩
     | lf T v n xs=>exact h2
     | vs cs=>trivial
theorem Fr.pk (F:Fr C B a D os s w) (E:List Nat) (l:List Nat) (hE:∀b∈E,b∈D) (hl:l.Nodup) {r0 r1:Nat} (hr:(pkL os l).filterMap Ob.blk=[r0,r1]) (h0:r0∈E) (h1:r1∈E):Fr C B a E (pkL os l) s w:=F.pkc E l hE hl fun R h=>by
 rw[hr]at h
 rcases List.mem_cons.1 h with rfl | h
 · assumption
 · rw[List.mem_singleton.1 h];assumption
theorem Fr.pk1 (F:Fr C B a D os s w) (E:List Nat) (l:List Nat) (hE:∀b∈E,b∈D) (hl:l.Nodup) {r0:Nat} (hr:(pkL os l).filterMap Ob.blk=[r0]) (h0:r0∈E):Fr C B a E (pkL os l) s w:=F.pkc E l hE hl fun R h=>by
 rw[hr]at h
 rw[List.mem_singleton.1 h];assumption
theorem Fr.pk3 (F:Fr C B a D os s w) (E:List Nat) (l:List Nat) (hE:∀b∈E,b∈D) (hl:l.Nodup) {r0 r1 r2:Nat} (hr:(pkL os l).filterMap Ob.blk=[r0,r1,r2]) (h0:r0∈E) (h1:r1∈E) (h2:r2∈E):Fr C B a E (pkL os l) s w:=F.pkc E l hE hl fun R h=>by
 rw[hr]at h
 rcases List.mem_cons.1 h with rfl | h
 · assumption
 rcases List.mem_cons.1 h with rfl | h
 · assumption
 · rw[List.mem_singleton.1 h];assumption
theorem Fr.kT {f:FuncId} {args:Array Value} {kd:Nat} {tx:List UInt8} {st:List UInt16} {nk nn:Int} {mg:List Nat} {ps:Nat} {nl:Bool} (F:Fr C B a D os s w) (h:Calls Tryz.prog f args w (zSX C s kd tx st nk nn mg ps nl w)) {Q:Ending→World→Prop} (k:∀w' As Am c1 c2,Fr C B a D (os++[.vs [.int .i64 (kd:Int),.string ⟨tx.toArray⟩,.slice As st.length c1,.int .i64 nk,.int .i64 nn,.bool false,.slice Am mg.length c2,.int .i64 (ps:Int),.bool nl]]) s w'→Q (.returned (.agg #[.int .i64 (kd:Int),.string ⟨tx.toArray⟩,.slice As st.length c1,.int .i64 nk,.int .i64 nn,.bool false,.slice Am mg.length c2,.int .i64 (ps:Int),.bool nl])) w'):Calls Tryz.prog f args w Q:=
 h.mono fun _ w' ⟨As,Am,c1,c2,h1,_,_,_,h5⟩=>h1▸k w' As Am c1 c2 (.mk ((F.n h5).out.snoc rfl trivial))
theorem Fr.kTl {f:FuncId} {args:Array Value} {kd:Nat} {tx:List UInt8} {st:List UInt16} {nk nn:Int} {mg:List Nat} {ps:Nat} {nl:Bool} (F:Fr C B a D os s w) (h:Calls Tryz.prog f args w (zSX C s kd tx st nk nn mg ps nl w)) {Q:Ending→World→Prop} (k:∀w' As Am c1 c2,Fr C B a D (os++[.vs [.int .i64 (kd:Int),.string ⟨tx.toArray⟩,.slice As st.length c1,.int .i64 nk,.int .i64 nn,.bool false,.slice Am mg.length c2,.int .i64 (ps:Int),.bool nl]]++[.lf 24 (.slice As st.length c1) st.length (zAH st)]++[.lf 87 (.slice Am mg.length c2) mg.length (zBv mg)]) s w'→Q (.returned (.agg #[.int .i64 (kd:Int),.string ⟨tx.toArray⟩,.slice As st.length c1,.int .i64 nk,.int .i64 nn,.bool false,.slice Am mg.length c2,.int .i64 (ps:Int),.bool nl])) w'):Calls Tryz.prog f args w Q:=
 h.mono fun _ w' ⟨As,Am,c1,c2,h1,h2,h3,_,h5⟩=>h1▸k w' As Am c1 c2 (.mk ((((F.n h5).out.snoc (x:=.vs _) rfl trivial).snoc (x:=.lf _ _ _ _) rfl ⟨.inl rfl,h2⟩).snoc (x:=.lf _ _ _ _) rfl ⟨.inr rfl,h3⟩))
theorem Fr.l (F:Fr C B a D os s w) (i:Nat) {T:TypeId} {v:Value} {n:Nat} {xs:List Value} (h:os[i]? =some (.lf T v n xs):=by rfl):w.ownsRow 0 T 1 v n xs:=(F.out.ob i _ h).2
theorem zSo {w:World} {P:Nat→Prop} {x:Nd} {vs vm:Value} (hk:x.kids=[]) (hs:w.ownsRow 0 24 1 vs x.str.length (zAH x.str)) (hm:w.ownsRow 0 87 1 vm x.mag.length (zBv x.mag)):TrC w P (.mk x []) (zQr x vs vm (.slice none 0 0)):=by
 rw[zC8]
 exact⟨vs,vm,.slice none 0 0,[],rfl,hk,hs,hm,World.ownsRow_nil _ _ _ _,(fun _ h=>by cases h),zBw.mpr rfl⟩
theorem Fr.leafX (F:Fr C B a D os s w) (x:Nd) {vs vm:Value} (hk:x.kids=[]) (hs:w.ownsRow 0 24 1 vs x.str.length (zAH x.str)) (hm:w.ownsRow 0 87 1 vm x.mag.length (zBv x.mag)):Fr C B a D (os++[.tr (.mk x []) (zQr x vs vm (.slice none 0 0))]) s w:=.mk (F.out.snoc rfl (zSo hk hs hm))
theorem Fr.kA {f:FuncId} {args:Array Value} {p:Tr×Ps} {w1:World} (F:Fr C B a D os s w) (h:Calls Tryz.prog f args w1 (zQU C w p)) {Q:Ending→World→Prop} (k:∀x,Hid (p=x)→∀w' d0 d1 d2 d3 d4 d5 d6 d7 d8,Fr C B a D (os++[.tr x.1 [d0,d1,d2,d3,d4,d5,d6,d7,d8]]) x.2 w'→Q (.returned (.agg #[d0,d1,d2,d3,d4,d5,d6,d7,d8])) w'):Calls Tryz.prog f args w1 Q:=
 h.mono fun _ w' ⟨d0,d1,d2,d3,d4,d5,d6,d7,d8,h1,h2,h3,h4⟩=>h1▸k p (zD rfl) w' d0 d1 d2 d3 d4 d5 d6 d7 d8 (F.addT h3 h4 h2)
theorem Fr.kO {f:FuncId} {args:Array Value} {p:Tr×Ps} (F:Fr C B a D os s w) (h:Calls Tryz.prog f args w (NodR C (Off B D) p w)) {Q:Ending→World→Prop} (k:∀w' d0 d1 d2 d3 d4 d5 d6 d7 d8,Fr C B a D (os++[.tr p.1 [d0,d1,d2,d3,d4,d5,d6,d7,d8]]) p.2 w'→Q (.returned (.agg #[d0,d1,d2,d3,d4,d5,d6,d7,d8])) w'):Calls Tryz.prog f args w Q:=
 h.mono fun _ w' ⟨d0,d1,d2,d3,d4,d5,d6,d7,d8,h1,h2,h3,h4⟩=>h1▸k w' d0 d1 d2 d3 d4 d5 d6 d7 d8 (.mk ((F.m h3 h4).out.snoc rfl (TrC.sub (fun _ hb _=>hb.elim id F.out.off) _ _ h2)))
theorem Fr.both (F:Fr C B a D os s w) (j:Nat) {x:Tr} {d0 d1 d2 d3 d4 d5 d6 d7 d8:Value} (hj:os[j]? =some (.tr x [d0,d1,d2,d3,d4,d5,d6,d7,d8])) (h:zk C s w (.both x)):Calls Tryz.prog 202 #[.pointer (some ⟨C.g,0,none⟩),.agg #[d0,d1,d2,d3,d4,d5,d6,d7,d8]] w (NodR C (Off B D) (zI C.L (.both x) s) w):=h _ _ _ _ _ _ _ _ _ _ (fun b hb=>F.out.bl b hb.1) (F.t j hj)
theorem Fr.made0 (F:Fr C B a D os s w) (kk:Int) {Q:Ending→World→Prop} (k:∀w',Fr C B a D (os++[.tr (trK kk []) [.int .i64 kk,.string ⟨#[]⟩,.slice none 0 0,.int .i64 0,.int .i64 0,.bool false,.slice none 0 0,.slice none 0 0,.slice none 0 0]]) s w'→Q (.returned (.agg #[.int .i64 kk,.string ⟨#[]⟩,.slice none 0 0,.int .i64 0,.int .i64 0,.bool false,.slice none 0 0,.slice none 0 0,.slice none 0 0])) w'):Calls Tryz.prog 58 #[.int .i64 kk,.slice none 0 0] w Q:=
 (zAZ kk none 0 0).mono fun _ w' ⟨h1,h2⟩=>h1▸k w' (.mk ((F.n h2).out.snoc rfl (show TrC _ _ _ _ from(RowP.nil _ _).treeK)))
theorem Fr.named0 (F:Fr C B a D os s w) (kk:Int) (nm:List UInt8) {Q:Ending→World→Prop} (k:∀w',Fr C B a D (os++[.tr (trN kk nm []) [.int .i64 kk,.string ⟨nm.toArray⟩,.slice none 0 0,.int .i64 0,.int .i64 0,.bool false,.slice none 0 0,.slice none 0 0,.slice none 0 0]]) s w'→Q (.returned (.agg #[.int .i64 kk,.string ⟨nm.toArray⟩,.slice none 0 0,.int .i64 0,.int .i64 0,.bool false,.slice none 0 0,.slice none 0 0,.slice none 0 0])) w'):Calls Tryz.prog 139 #[.int .i64 kk,.string ⟨nm.toArray⟩,.slice none 0 0] w Q:=
 (zCE kk ⟨nm.toArray⟩ none 0 0).mono fun _ w' ⟨h1,h2⟩=>h1▸k w' (.mk ((F.n h2).out.snoc rfl (show TrC _ _ _ _ from(RowP.nil _ _).treeN)))
theorem Fr.litG {l:List Tr} {cs:List Value} {n R:Nat} (F:Fr C B a D os s w) (hT:TrsC w (Off B D) l cs) (hn:n=l.length) (hl:n≤4097) (hR:w.heap.size=R) (hg:(w.alloc (.cells cs.toArray 72)).grownBy w' none):FrR C B a D os s w'∧RowP w' (Off B D) (.slice (some ⟨R,0,none⟩) n n) l:=by
 subst hR
 exact⟨(F.n (zF (zL w (.cells cs.toArray 72) none) hg)).out,zHz hn hT hl (F.out.off (Nat.le_refl _)) hg⟩
theorem Fr.litK {l:List Tr} {cs:List Value} {n R:Nat} (F:Fr C B a D os s w) (kk:Int) (hT:TrsC w (Off B D) l cs) (hn:n=l.length) (hl:n≤4097) (hR:w.heap.size=R) {Q:Ending→World→Prop} (k:∀w',Fr C B a D (os++[.tr (trK kk l) [.int .i64 kk,.string ⟨#[]⟩,.slice none 0 0,.int .i64 0,.int .i64 0,.bool false,.slice none 0 0,.slice none 0 0,.slice (some ⟨R,0,none⟩) n n]]) s w'→Q (.returned (.agg #[.int .i64 kk,.string ⟨#[]⟩,.slice none 0 0,.int .i64 0,.int .i64 0,.bool false,.slice none 0 0,.slice none 0 0,.slice (some ⟨R,0,none⟩) n n])) w'):Calls Tryz.prog 58 #[.int .i64 kk,.slice (some ⟨R,0,none⟩) n n] (w.alloc (.cells cs.toArray 72)) Q:=
 (zAZ kk _ n n).mono fun _ w' ⟨h1,h2⟩=>h1▸k w' (.mk ((F.litG hT hn hl hR h2).1.snoc rfl (show TrC _ _ _ _ from(F.litG hT hn hl hR h2).2.treeK)))
theorem Fr.litN {l:List Tr} {cs:List Value} {n R:Nat} (F:Fr C B a D os s w) (kk:Int) (nm:List UInt8) (hT:TrsC w (Off B D) l cs) (hn:n=l.length) (hl:n≤4097) (hR:w.heap.size=R) {Q:Ending→World→Prop} (k:∀w',Fr C B a D (os++[.tr (trN kk nm l) [.int .i64 kk,.string ⟨nm.toArray⟩,.slice none 0 0,.int .i64 0,.int .i64 0,.bool false,.slice none 0 0,.slice none 0 0,.slice (some ⟨R,0,none⟩) n n]]) s w'→Q (.returned (.agg #[.int .i64 kk,.string ⟨nm.toArray⟩,.slice none 0 0,.int .i64 0,.int .i64 0,.bool false,.slice none 0 0,.slice none 0 0,.slice (some ⟨R,0,none⟩) n n])) w'):Calls Tryz.prog 139 #[.int .i64 kk,.string ⟨nm.toArray⟩,.slice (some ⟨R,0,none⟩) n n] (w.alloc (.cells cs.toArray 72)) Q:=
 (zCE kk ⟨nm.toArray⟩ _ n n).mono fun _ w' ⟨h1,h2⟩=>h1▸k w' (.mk ((F.litG hT hn hl hR h2).1.snoc rfl (show TrC _ _ _ _ from(F.litG hT hn hl hR h2).2.treeN)))
theorem Fr.litR {l:List Tr} {cs:List Value} {n R:Nat} (F:Fr C B a D os s w) (kk:Int) (hT:TrsC w (Off B D) l cs) (hn:n=l.length) (hl:n≤4097) (hR:w.heap.size=R) {Q:Ending→World→Prop} (k:∀w',Fr C B a D (os++[.ro (.slice (some ⟨R,0,none⟩) n n) l]++[.tr (trK kk l) [.int .i64 kk,.string ⟨#[]⟩,.slice none 0 0,.int .i64 0,.int .i64 0,.bool false,.slice none 0 0,.slice none 0 0,.slice (some ⟨R,0,none⟩) n n]]) s w'→Q (.returned (.agg #[.int .i64 kk,.string ⟨#[]⟩,.slice none 0 0,.int .i64 0,.int .i64 0,.bool false,.slice none 0 0,.slice none 0 0,.slice (some ⟨R,0,none⟩) n n])) w'):Calls Tryz.prog 58 #[.int .i64 kk,.slice (some ⟨R,0,none⟩) n n] (w.alloc (.cells cs.toArray 72)) Q:=
 (zAZ kk _ n n).mono fun _ w' ⟨h1,h2⟩=>h1▸k w' (.mk (((F.litG hT hn hl hR h2).1.snoc (x:=.ro (.slice (some ⟨R,0,none⟩) n n) l) rfl (F.litG hT hn hl hR h2).2).snoc rfl (show TrC _ _ _ _ from(F.litG hT hn hl hR h2).2.treeK)))
section
variable {kk:Int} {nm:List UInt8} {R:Nat} {t1 t2 t3:Tr} {e0 e1 e2 e3 e4 e5 e6 e7 e8 a0 a1 a2 a3 a4 a5 a6 a7 a8 p0 p1 p2 p3 p4 p5 p6 p7 p8:Value}
theorem Fr.ts1 (F:Fr C B a D os s w) (i:Nat) (h1:os[i]? =some (.tr t1 [e0,e1,e2,e3,e4,e5,e6,e7,e8]):=by rfl):TrsC w (Off B D) [t1] [e0,e1,e2,e3,e4,e5,e6,e7,e8]:=.single (F.t i h1)
theorem Fr.ts2 (F:Fr C B a D os s w) (i j:Nat) (h1:os[i]? =some (.tr t1 [e0,e1,e2,e3,e4,e5,e6,e7,e8]):=by rfl) (h2:os[j]? =some (.tr t2 [a0,a1,a2,a3,a4,a5,a6,a7,a8]):=by rfl):TrsC w (Off B D) [t1,t2] [e0,e1,e2,e3,e4,e5,e6,e7,e8,a0,a1,a2,a3,a4,a5,a6,a7,a8]:=TrsC.cons (F.t i h1) (.single (F.t j h2))
theorem Fr.ts3 (F:Fr C B a D os s w) (i j m:Nat) (h1:os[i]? =some (.tr t1 [e0,e1,e2,e3,e4,e5,e6,e7,e8]):=by rfl) (h2:os[j]? =some (.tr t2 [a0,a1,a2,a3,a4,a5,a6,a7,a8]):=by rfl) (h3:os[m]? =some (.tr t3 [p0,p1,p2,p3,p4,p5,p6,p7,p8]):=by rfl):TrsC w (Off B D) [t1,t2,t3] [e0,e1,e2,e3,e4,e5,e6,e7,e8,a0,a1,a2,a3,a4,a5,a6,a7,a8,p0,p1,p2,p3,p4,p5,p6,p7,p8]:=TrsC.cons (F.t i h1) (TrsC.cons (F.t j h2) (.single (F.t m h3)))
end
theorem Fr.sto (F:Fr C B a D os s w) (i:Nat) {t:Tr} {e0 e1 e2 e3 e4 e5 e6 e7 e8:Value} (h:os[i]? =some (.tr t [e0,e1,e2,e3,e4,e5,e6,e7,e8]):=by rfl):(∀(v:World) (a:Addr),(store a e0).run Tryz.prog v=stored Tryz.prog v a e0 .plain)∧(∀(v:World) (a:Addr),(store a e1).run Tryz.prog v=stored Tryz.prog v a e1 .plain)∧(∀(v:World) (a:Addr),(store a e2).run Tryz.prog v=stored Tryz.prog v a e2 .plain)∧(∀(v:World) (a:Addr),(store a e3).run Tryz.prog v=stored Tryz.prog v a e3 .plain)∧(∀(v:World) (a:Addr),(store a e4).run Tryz.prog v=stored Tryz.prog v a e4 .plain)∧(∀(v:World) (a:Addr),(store a e5).run Tryz.prog v=stored Tryz.prog v a e5 .plain)∧(∀(v:World) (a:Addr),(store a e6).run Tryz.prog v=stored Tryz.prog v a e6 .plain)∧(∀(v:World) (a:Addr),(store a e7).run Tryz.prog v=stored Tryz.prog v a e7 .plain)∧(∀(v:World) (a:Addr),(store a e8).run Tryz.prog v=stored Tryz.prog v a e8 .plain):=(F.t i h).sto
theorem Fr.kind (F:Fr C B a D os s w) (i:Nat) {t:Tr} {e0 e1 e2 e3 e4 e5 e6 e7 e8:Value} (h:os[i]? =some (.tr t [e0,e1,e2,e3,e4,e5,e6,e7,e8]):=by rfl):e0=.int .i64 t.nd.kind:=by
 have h1:=F.t i h
 cases t with
 | mk x l=>
  rw[zC8]at h1
  obtain⟨vs,vm,vo,ks,h1,_⟩:=h1
  injection h1
theorem Fr.ret {Pg:Program} {fn:Func} {A:Act} {p:Tr×Ps} {t:Tr} (F:Fr C B a D os s w) (j:Nat) {d0 d1 d2 d3 d4 d5 d6 d7 d8:Value} (hj:os[j]? =some (.tr t [d0,d1,d2,d3,d4,d5,d6,d7,d8])) (hr:(results fn A.tmps).run Pg w=.ok (.agg #[d0,d1,d2,d3,d4,d5,d6,d7,d8]) w) (hd:A.defers=[]) (e:p=(t,s)) (hB:∀b,B b→a.heap.size≤b):bodyPost Pg fn (zCk C p a) .ret A w:=by
 subst e
 exact bodyPost_ret hr hd ⟨d0,d1,d2,d3,d4,d5,d6,d7,d8,rfl,.sub (fun b hb _=>hB b hb.1) _ _ (F.t j hj),F.P,F.out.gr⟩
end
theorem zU (L:List Tok) (k:Nat):∃tk,Hid (zM L k=tk):=⟨_,zD rfl⟩
theorem zA6 {C:Pc} {s:Ps} {w:World} (h:Pa C s w) (v:List UInt8) (hb:onP C.L v s=true):Calls Tryz.prog 95 #[.pointer (some ⟨C.g,0,none⟩),.string ⟨v.toArray⟩] w (zSV C (stepP s) true w):=zAe h v hb
theorem zA9 {C:Pc} {s:Ps} {w:World} (h:Pa C s w) (v:List UInt8) (hb:onP C.L v s=false):Calls Tryz.prog 95 #[.pointer (some ⟨C.g,0,none⟩),.string ⟨v.toArray⟩] w (zSV C s false w):=zAe h v hb
theorem zAl {C:Pc} {s:Ps} {w:World} {ph:Ph} {f:FuncId} {args:Array Value} (hp:Pre C.L ph s) (h:Pa C s w) (k:Hid (Lst C.L)→C.N≤4097→s.k≤C.L.length - 1→∀r W X,Hid (zE C.L (zI C.L) ph s=r)→w.alloc (.cells #[.int .i64 0,.string ⟨#[]⟩,.slice none 0 0,.int .i64 0,.int .i64 0,.bool false,.slice none 0 0,.slice none 0 0,.slice none 0 0] 72)=W→w.heap.size=X→Fr C (w.heap.size≤·) w [X] [.bx X 72 [.int .i64 0,.string ⟨#[]⟩,.slice none 0 0,.int .i64 0,.int .i64 0,.bool false,.slice none 0 0,.slice none 0 0,.slice none 0 0]] s W→Calls Tryz.prog f args w (zCk C r w)):Calls Tryz.prog f args w (zCk C (zI C.L ph s) w):=by
 refine k (zD h.cx.lst) h.cx.n4 hp.1 _ _ _ (zD (zt h.cx.lst hp).symm) rfl rfl ?_
 have F0:FrR C (w.heap.size≤·) w [] [] s w:=⟨h,⟨rfl,rfl,rfl,Nat.le_refl _,fun _ _ _=>rfl⟩,fun b hb=>Nat.lt_of_lt_of_le h.lt hb,fun _ hb=>hb,(fun _ hb=>by cases hb),(fun _ _ _ _ _ hb=>by cases hb),fun _ _ hb=>by cases hb⟩
 exact(Fr.mk F0).box zFE 72 rfl (by decide) (by decide)
theorem zR1 {C:Pc} {s:Ps} {w:World} {x:Tr} {Q:Nat→Prop} {d0 d1 d2 d3 d4 d5 d6 d7 d8:Value} {f:FuncId} {args:Array Value} {Ret:Ending→World→Prop} (h:Pa C s w) (hQ:∀b,Q b→C.g < b) (ht:TrC w Q x [d0,d1,d2,d3,d4,d5,d6,d7,d8]) (k:Hid (Lst C.L)→C.N≤4097→s.k≤C.L.length - 1→∀W0 W R X,w.alloc (.cells #[d0,d1,d2,d3,d4,d5,d6,d7,d8] 72)=W0→W0.alloc (.cells #[.int .i64 0,.string ⟨#[]⟩,.slice none 0 0,.int .i64 0,.int .i64 0,.bool false,.slice none 0 0,.slice none 0 0,.slice none 0 0] 72)=W→w.heap.size=R→W0.heap.size=X→R+1=X→Fr C (fun b=>Q b∨w.heap.size≤b) w [X,R] [.tr x [d0,d1,d2,d3,d4,d5,d6,d7,d8],.bx R 72 [d0,d1,d2,d3,d4,d5,d6,d7,d8],.bx X 72 [.int .i64 0,.string ⟨#[]⟩,.slice none 0 0,.int .i64 0,.int .i64 0,.bool false,.slice none 0 0,.slice none 0 0,.slice none 0 0]] s W→Calls Tryz.prog f args w Ret):Calls Tryz.prog f args w Ret:=by
 refine k (zD h.cx.lst) h.cx.n4 h.hi _ _ _ _ rfl rfl rfl rfl (by simp) ?_
 have F0:FrR C (fun b=>Q b∨w.heap.size≤b) w [] [] s w:=⟨h,⟨rfl,rfl,rfl,Nat.le_refl _,fun _ _ _=>rfl⟩,fun b hb=>hb.elim (hQ b) (fun hb=>Nat.lt_of_lt_of_le h.lt hb),fun _ hb=>.inr hb,(fun _ hb=>by cases hb),(fun _ _ _ _ _ hb=>by cases hb),fun _ _ hb=>by cases hb⟩
 exact((Fr.mk (F0.snoc (x:=.tr x _) rfl (TrC.sub (fun b hb _=>⟨.inl hb,by simp⟩) _ _ ht))).box [d0,d1,d2,d3,d4,d5,d6,d7,d8] 72 rfl (by decide) (by decide)).box zFE 72 rfl (by decide) (by decide)
theorem zSZ {C:Pc} {s:Ps} {w:World} {l:List Tr} {f:FuncId} {args:Array Value} (hp:Pre C.L (.body l) s) (h:Pa C s w) {a:World} {A:Option Addr} {n cp:Nat} (hga:a.grownBy w (some C.g)) (hgA:C.g < a.heap.size) (hrow:RowP w (a.heap.size≤·) (.slice A n cp) l) (k:Hid (Lst C.L)→C.N≤4097→s.k≤C.L.length - 1→∀r W X,Hid (zE C.L (zI C.L) (.body l) s=r)→w.alloc (.cells #[.int .i64 0,.string ⟨#[]⟩,.slice none 0 0,.int .i64 0,.int .i64 0,.bool false,.slice none 0 0,.slice none 0 0,.slice none 0 0] 72)=W→w.heap.size=X→Fr C (a.heap.size≤·) a [X] [.ro (.slice A n cp) l,.bx X 72 [.int .i64 0,.string ⟨#[]⟩,.slice none 0 0,.int .i64 0,.int .i64 0,.bool false,.slice none 0 0,.slice none 0 0,.slice none 0 0]] s W→Calls Tryz.prog f args w (zQU C a r)):Calls Tryz.prog f args w (zQU C a (zI C.L (.body l) s)):=by
 refine k (zD h.cx.lst) h.cx.n4 hp.1 _ _ _ (zD (zt h.cx.lst hp).symm) rfl rfl ?_
 have F0:FrR C (a.heap.size≤·) a [] [] s w:=⟨h,hga,fun b hb=>Nat.lt_of_lt_of_le hgA hb,fun _ hb=>hb,(fun _ hb=>by cases hb),(fun _ _ _ _ _ hb=>by cases hb),fun _ _ hb=>by cases hb⟩
 exact(Fr.mk (F0.snoc (x:=.ro (.slice A n cp) l) rfl (RowP.sub hrow fun b hb _=>⟨hb,by simp⟩))).box zFE 72 rfl (by decide) (by decide)
theorem zJ6 {C:Pc} {s:Ps} {w:World} (hp:Pre C.L (.within) s) (K:KP C (zh C.L (.within) s)) (h:Pa C s w):zk C s w (.within):=by
 refine zAl hp h fun HL hlen hsk r W X HR hW hX F0=>?_
 have HK:=zD K
 clear K h hp
 go_enter Tryz.func178,Tryz.ntmps178
 go_upto_region 1 with(fail)
 clear hW hX
 have hn:=zD (zS (w:=[40]) HL.out hsk)
 go_wp2_with fail
 refine F0.kN (zAE F0.P [40]) fun w1 F1=>?_
 go_wp2_with fail
 refine F1.kD (HK.out.rank (q:=.assign) ⟨F1.P.hi,trivial⟩ F1.P hn.out.adv.le (by simp[zn])) fun w2 d2_0 d2_1 d2_2 d2_3 d2_4 d2_5 d2_6 d2_7 d2_8 F2=>?_
 obtain⟨_,_,_,_,_,_,_,_,_⟩:=F2.sto 1
 have F3:=F2.bt 1 72 rfl
 go_wp2_with fail
 refine F3.kN (zAE F3.P [41]) fun w4 F4=>?_
 obtain⟨_,_,_,_,_,_,_,_,_⟩:=F4.c 2
 obtain⟨_,_,_,_,_,_,_,_,_⟩:=F4.c 0
 obtain⟨_,_,_,_,_,_,_,_,_⟩:=F4.f 0
 go_wp2_with fail
 refine zP (F4.put 0 1) fun V5 F5=>?_
 have q:=F5.c 0
 exact F5.ret 1 rfl (by simp[results,Tryz.results178,go_sem,q]) rfl (HR.out.symm.trans (by
  unfold zE
  dsimp only
  )) (fun _ h=>h)
theorem zJ7 {C:Pc} {s:Ps} {w:World} (hp:Pre C.L (.simple) s) (K:KP C (zh C.L (.simple) s)) (h:Pa C s w):zk C s w (.simple):=by
 refine zAl hp h fun HL hlen hsk r W X HR hW hX F0=>?_
 have HK:=zD K
 clear K h hp
 go_enter Tryz.func148,Tryz.ntmps148
 go_upto_region 1 with(fail)
 clear hW hX
 go_wp2_with fail
 refine F0.kD (HK.out.rank (q:=.assign) ⟨F0.P.hi,trivial⟩ F0.P (Nat.le_refl _) (by simp[zn])) fun w1 d1_0 d1_1 d1_2 d1_3 d1_4 d1_5 d1_6 d1_7 d1_8 F1=>?_
 obtain⟨_,_,_,_,_,_,_,_,_⟩:=F1.sto 1
 go_wp2_with fail
 refine F1.litK _ (n:=1) (F1.ts1 1) rfl (by simp) rfl fun w2 F2=>?_
 have F3:=F2.bt 2 72 rfl
 go_wp2_with fail
 refine F3.kN (zBW F3.P) fun w4 F4=>?_
 obtain⟨_,_,_,_,_,_,_,_,_⟩:=F4.c 3
 obtain⟨_,_,_,_,_,_,_,_,_⟩:=F4.c 0
 obtain⟨_,_,_,_,_,_,_,_,_⟩:=F4.f 0
 go_wp2_with fail
 refine zP (F4.put 0 2) fun V5 F5=>?_
 have q:=F5.c 0
 exact F5.ret 2 rfl (by simp[results,Tryz.results148,go_sem,q]) rfl (HR.out.symm.trans (by
  unfold zE
  dsimp only
  )) (fun _ h=>h)
theorem zJ8 {C:Pc} {v:List UInt8} {s:Ps} {w:World} (hp:Pre C.L (.clause v) s) (K:KP C (zh C.L (.clause v) s)) (h:Pa C s w):zk C s w (.clause v):=by
 refine zAl hp h fun HL hlen hsk r W X HR hW hX F0=>?_
 have HK:=zD K
 clear K h hp
 go_enter Tryz.func197,Tryz.ntmps197
 go_upto_region 1 with(fail)
 clear hW hX
 go_wp2_with fail
 refine F0.made0 _ fun w1 F1=>?_
 have F2:=F1.bt 1 72 rfl
 by_cases hon:onP C.L v s=true
 · have HO:=zD hon
   clear hon
   go_wp2_with fail
   refine F2.kB (zAR F2.P v HO.out) fun w3 F3=>?_
   go_wp2_with fail
   refine F3.kN (zAE F3.P v) fun w4 F4=>?_
   obtain⟨_,_,_,_,_,_,_,_,_⟩:=F4.c 2
   obtain⟨_,_,_,_,_,_,_,_,_⟩:=F4.c 0
   obtain⟨_,_,_,_,_,_,_,_,_⟩:=F4.f 0
   go_wp2_with fail
   refine zP (F4.put 0 1) fun V5 F5=>?_
   have q:=F5.c 0
   exact F5.ret 1 rfl (by simp[results,Tryz.results197,go_sem,q]) rfl (HR.out.symm.trans (by
    unfold zE
    dsimp only
    rw[if_pos HO.out])) (fun _ h=>h)
 · have HO:=zD (show onP C.L v s=false by simpa using hon)
   clear hon
   go_wp2_with fail
   refine F2.kB (zAR F2.P v HO.out) fun w6 F6=>?_
   go_wp2_with fail
   refine F6.kD (HK.out.rank (q:=.assign) ⟨F6.P.hi,trivial⟩ F6.P (Nat.le_refl _) (by simp[zn])) fun w7 d7_0 d7_1 d7_2 d7_3 d7_4 d7_5 d7_6 d7_7 d7_8 F7=>?_
   obtain⟨_,_,_,_,_,_,_,_,_⟩:=F7.sto 3
   obtain⟨_,_,_,_,_,_,_,_,_⟩:=F7.c 2
   obtain⟨_,_,_,_,_,_,_,_,_⟩:=F7.f 2
   go_upto_region 4 with(fail)
   refine zDB (F7.put 2 3) fun w8 F8=>?_
   go_wp2_with fail
   refine F8.kN (zAE F8.P v) fun w9 F9=>?_
   obtain⟨_,_,_,_,_,_,_,_,_⟩:=F9.c 2
   obtain⟨_,_,_,_,_,_,_,_,_⟩:=F9.c 0
   obtain⟨_,_,_,_,_,_,_,_,_⟩:=F9.f 0
   go_wp2_with fail
   refine zP (F9.put 0 3) fun V10 F10=>?_
   have q:=F10.c 0
   exact F10.ret 3 rfl (by simp[results,Tryz.results197,go_sem,q]) rfl (HR.out.symm.trans (by
    unfold zE
    dsimp only
    rw[if_neg (by rw[HO.out];decide)])) (fun _ h=>h)
theorem zOk {C:Pc} {s:Ps} {w:World} (hp:Pre C.L (.cond) s) (K:KP C (zh C.L (.cond) s)) (h:Pa C s w):zk C s w (.cond):=by
 refine zAl hp h fun HL hlen hsk r W X HR hW hX F0=>?_
 have HK:=zD K
 clear K h hp
 go_enter Tryz.func175,Tryz.ntmps175
 go_upto_region 1 with(fail)
 clear hW hX
 have hx:=zD (zV HL.out (p:=.either) (s:=s) ⟨hsk,trivial⟩).adv.le
 go_wp2_with fail
 refine F0.kD (HK.out.rank (q:=.either) ⟨F0.P.hi,trivial⟩ F0.P (Nat.le_refl _) (by simp[zn])) fun w1 d1_0 d1_1 d1_2 d1_3 d1_4 d1_5 d1_6 d1_7 d1_8 F1=>?_
 obtain⟨_,_,_,_,_,_,_,_,_⟩:=F1.sto 1
 have F2:=F1.bt 1 72 rfl
 by_cases hon:onP C.L [63] ((zI C.L (.either) (s)).2)=true
 · have HO:=zD hon
   clear hon
   go_wp2_with fail
   refine F2.kM (zA6 F2.P [63] HO.out) fun w3 F3=>?_
   have hlt:=zD (HL.out.on (s:=(zI C.L (.either) (s)).2) (by have:=hsk;exact(zV HL.out (p:=.either) (s:=s) ⟨hsk,trivial⟩).adv.hi) HO.out)
   have hl2:=zD (show s.k < (stepP ((zI C.L (.either) (s)).2)).k from by have:=hx.out;show s.k < ((zI C.L (.either) (s)).2).k+1;omega)
   have ha:=zD (zV HL.out (p:=.assign) (s:=stepP ((zI C.L (.either) (s)).2)) ⟨hlt.out,trivial⟩).adv
   go_wp2_with fail
   refine F3.kD (HK.out.more (q:=.assign) ⟨F3.P.hi,trivial⟩ F3.P hl2.out) fun w4 d4_0 d4_1 d4_2 d4_3 d4_4 d4_5 d4_6 d4_7 d4_8 F4=>?_
   obtain⟨_,_,_,_,_,_,_,_,_⟩:=F4.sto 3
   have F5:=F4.bt 3 72 rfl
   go_wp2_with fail
   refine F5.kN (zAE F5.P [58]) fun w6 F6=>?_
   have hn:=zD (zS (w:=[58]) HL.out ha.out.hi).adv
   have CL7:=zD (fun Q=>F6.dr.kD (Q:=Q) (HK.out.more (q:=.assign) ⟨F6.dr.P.hi,trivial⟩ F6.dr.P (Nat.lt_of_lt_of_le hl2.out (Nat.le_trans ha.out.le hn.out.le))))
   obtain⟨_,_,_,_,_,_,_,_,_⟩:=F6.c 2
   obtain⟨_,_,_,_,_,_,_,_,_⟩:=F6.c 4
   go_wp2_with fail
   go_region_law (first | (go_simp;go_at_call 140;(with_reducible refine CL7.out _ fun w7 d7_0 d7_1 d7_2 d7_3 d7_4 d7_5 d7_6 d7_7 d7_8 F7=>?_);obtain⟨_,_,_,_,_,_,_,_,_⟩:=F7.c 2;obtain⟨_,_,_,_,_,_,_,_,_⟩:=F7.c 4;obtain⟨_,_,_,_,_,_,_,_,_⟩:=F7.c 0;have LT7:=zD (fun Q=>F7.litK 48 (n:=3) (Q:=Q) (F7.ts3 1 3 5) rfl (by simp) rfl)) | (go_simp;go_at_call 58;(with_reducible refine LT7.out _ fun w8 F8=>?_);obtain⟨_,_,_,_,_,_,_,_,_⟩:=F8.c 0;obtain⟨_,_,_,_,_,_,_,_,_⟩:=F8.f 0))
   all_goals
    obtain⟨_,_,_,_,_,_,_,_,_⟩:=F8.c 0
    obtain⟨_,_,_,_,_,_,_,_,_⟩:=F8.f 0
    go_wp2_with fail
    refine zP (F8.put 0 6) fun V9 F9=>?_
    have q:=F9.c 0
    exact F9.ret 6 rfl (by simp[results,Tryz.results175,go_sem,q]) rfl (HR.out.symm.trans (by
     unfold zE
     dsimp only
     rw[if_pos HO.out])) (fun _ h=>h)
 · have HO:=zD (show onP C.L [63] ((zI C.L (.either) (s)).2)=false by simpa using hon)
   clear hon
   go_wp2_with fail
   refine F2.kM (zA9 F2.P [63] HO.out) fun w10 F10=>?_
   obtain⟨_,_,_,_,_,_,_,_,_⟩:=F10.c 2
   obtain⟨_,_,_,_,_,_,_,_,_⟩:=F10.c 0
   obtain⟨_,_,_,_,_,_,_,_,_⟩:=F10.f 0
   go_wp2_with fail
   refine zP (F10.put 0 1) fun V11 F11=>?_
   have q:=F11.c 0
   exact F11.ret 1 rfl (by simp[results,Tryz.results175,go_sem,q]) rfl (HR.out.symm.trans (by
    unfold zE
    dsimp only
    rw[if_neg (by rw[HO.out];decide)])) (fun _ h=>h)
def zKy (l:List Nat):List Value:=l.map fun n:Nat=>Value.int .i64 (n:Int)
theorem zOl (l:List Nat):(zKy l).length=l.length:=by simp[zKy]
theorem zMe (w:World) (cs:List Value) (T:TypeId):Reads (w.alloc (.cells cs.toArray T)) (w.heap.size+1) 1 (some ⟨w.heap.size,0,none⟩) cs.length cs:=by
 refine⟨by simp,fun _=>⟨_,rfl,by show w.heap.size < _;omega,fun j u hu=>?_⟩⟩
 rw[Addr.add_lit,World.cell?_alloc_at _ _ _ _ rfl]
 simpa using hu
def zOm (l:List (List UInt8)):List Value:=l.map fun s=>Value.string ⟨s.toArray⟩
theorem zOn (l:List (List UInt8)):(zOm l).length=l.length:=by simp[zOm]
def zS5 (s:List UInt8) (xs:List (List UInt8)) (w:World) (e:Ending) (w':World):Prop:=∃r:Int,e=.returned (.int .i64 r)∧w=w'∧decide (0≤r)=decide (s∈xs)∧ -1≤r∧r≤4096
theorem zMf {A:Option Addr} {B n c:Nat} {xs:List (List UInt8)} (s:ByteArray) {w:World} (hn:xs.length=n) (ha:Reads w B 1 A n (zOm xs)) (hl:n≤4096):
 Calls Tryz.prog 161 #[.slice A n c,.string s] w (zS5 s.data.toList xs w):=by
 have HN:=zD hn
 have HA:=zD ha
 clear hn ha
 go_enter Tryz.func161,Tryz.ntmps161
 go_wp2_with fail
 go_loop [8] (fun i=>∃k:Nat,k≤n∧i=.int .i64 k∧Hid (s.data.toList∉xs.take k)) (fun i=>n - (intOf i).toNat)
 case atStart=>exact⟨0,Nat.zero_le _,rfl,by simp[Hid]⟩
 case round=>
  obtain⟨k,hk,rfl,hno⟩:=hrel
  by_cases hlt:k < n
  · have hx:k < xs.length:=by rw[HN.out];exact hlt
    obtain⟨b,off,rfl,_,hcell⟩:=HA.out.spotR (by omega)
    have hca:=hcell k (.string ⟨xs[k].toArray⟩) (by simp[zOm,List.getElem?_eq_getElem hx])
    have HM:=zD (show xs[k]∈xs from List.getElem_mem hx)
    have HT:=zD (show xs.take (k+1)=xs.take k++[xs[k]]from List.take_succ_eq_append_getElem hx)
    obtain⟨x,hxx⟩:∃x,xs[k]=x:=⟨_,rfl⟩
    rw[hxx]at hca HM HT
    clear hcell hxx hx
    by_cases hxs:x=s.data.toList
    · have es:(⟨x.toArray⟩:ByteArray)=s:=by rw[hxs]
      have HR:=zD (show decide (s.data.toList∈xs)=true from decide_eq_true (by rw[←hxs];exact HM.out))
      rw[es]at hca
      clear hxs es
      go_wp2_with fail
      (try rw[Exit.noGoto_ret])
      go_ret
      exact⟨_,rfl,rfl,by rw[HR.out];exact decide_eq_true (by omega),by omega,by omega⟩
    · have e1:((⟨x.toArray⟩:ByteArray).toList==s.toList)=false:=by
       rw[beq_eq_false_iff_ne,ByteArray.toList_eq,ByteArray.toList_eq]
       exact hxs
      have e2:(s.toList==(⟨x.toArray⟩:ByteArray).toList)=false:=by
       rw[beq_eq_false_iff_ne,ByteArray.toList_eq,ByteArray.toList_eq]
       exact fun h=>hxs h.symm
      have hn2:=zD (show s.data.toList∉xs.take (k+1) by
       rw[HT.out,List.mem_append,List.mem_singleton]
       rintro(h | h)
       · exact hno.out h
       · exact hxs h.symm)
      obtain⟨y,hy⟩:∃y:ByteArray,⟨x.toArray⟩=y:=⟨_,rfl⟩
      rw[hy]at hca e1 e2
      clear hxs hy
      go_wp2_with fail
      go_round
      case rel=>exact⟨k+1,by omega,by go_num,hn2.out⟩
      case measure=>simp[intOf];omega
  · have HR:=zD (show decide (s.data.toList∈xs)=false from decide_eq_false (by
     have:=hno.out
     rwa [List.take_of_length_le (by rw[HN.out];omega)]at this))
    go_wp2_with fail
    go_ret
    exact⟨_,rfl,rfl,by rw[HR.out];rfl,by omega,by omega⟩
theorem zB1 {A:Option Addr} {B n c:Nat} {xs:List (List UInt8)} (s:ByteArray) {w:World} (hn:xs.length=n) (ha:Reads w B 1 A n (zOm xs)) (hl:n≤4096) {q:Bool} (hq:decide (s.data.toList∈xs)=q):
 Calls Tryz.prog 111 #[.slice A n c,.string s] w fun e w'=>e=.returned (.bool q)∧w=w':=by
 have H:=zD (fun w (ha:Reads w B 1 A n (zOm xs))=>zMf (c:=c) s hn ha hl)
 have HA:=zD ha
 have HQ:=zD hq
 clear hn ha hq
 go_enter Tryz.func111,Tryz.ntmps111
 go_wp2_with (go_at_call 161;refine(H.out w HA.out).mono ?_;rintro e w' ⟨r,rfl,rfl,hr,hr1,hr2⟩)
 go_ret
 exact⟨zf (by rw[←HQ.out,←hr]),rfl⟩
def zR2 (w:World) (l:List (List UInt8)) (e:Ending) (w':World):Prop:=∃ad c,e=.returned (.slice (some ad) l.length c)∧Reads w' w'.heap.size 1 (some ad) l.length (zOm l)∧Below w.heap.size w w'
theorem zFe (w:World) (l:List (List UInt8)) (T:TypeId) (n m:Nat) (h1:l.length=n):zR2 w l (.returned (.slice (some ⟨w.heap.size,0,none⟩) n m)) (w.alloc (.cells (zOm l).toArray T)):=by
 subst h1
 have h:=zMe w (zOm l) T
 rw[zOn]at h
 exact⟨_,_,rfl,h.more (by simp),(Below.refl _ _).alloc (Nat.le_refl _) _⟩
theorem zR3 (w:World):Calls Tryz.prog 119 #[.int .i64 43] w (zR2 w (zHi 43)):=by
 go_enter Tryz.func119,Tryz.ntmps119
 go_wp2_with fail
 go_ret
 exact zFe w zEm _ _ _ rfl
theorem zR4 (w:World):Calls Tryz.prog 119 #[.int .i64 44] w (zR2 w (zHi 44)):=by
 go_enter Tryz.func119,Tryz.ntmps119
 go_wp2_with fail
 go_ret
 exact zFe w zCs _ _ _ rfl
theorem zR5 (w:World):Calls Tryz.prog 119 #[.int .i64 45] w (zR2 w (zHi 45)):=by
 go_enter Tryz.func119,Tryz.ntmps119
 go_wp2_with fail
 go_ret
 exact zFe w zCs _ _ _ rfl
theorem zR6 (w:World):Calls Tryz.prog 119 #[.int .i64 49] w (zR2 w (zHi 49)):=by
 go_enter Tryz.func119,Tryz.ntmps119
 go_wp2_with fail
 go_ret
 exact zFe w zKx _ _ _ rfl
theorem zFG {w:World} (v:List UInt8) {q:Bool} (hq:decide (v∈zEm)=q):Calls Tryz.prog 176 #[.int .i64 43,.string ⟨v.toArray⟩] w fun e w'=>e=.returned (.bool q)∧w.grownBy w' none:=by
 have HQ:=zD (show decide ((⟨v.toArray⟩:ByteArray).data.toList∈zHi 43)=q from hq)
 clear hq
 go_enter Tryz.func176,Tryz.ntmps176
 go_wp2_with fail
 refine(zR3 _).mono ?_
 rintro e1 w1 ⟨ad,c1,rfl,hr1,hb1⟩
 have HR:=zD hr1
 have HB:=zD hb1
 clear hr1 hb1
 go_wp2_with fail
 refine(zB1 ⟨v.toArray⟩ (n:=(zHi 43).length) rfl HR.out (by decide) HQ.out).mono ?_
 rintro e2 w2 ⟨rfl,rfl⟩
 go_wp2_with fail
 go_ret
 exact⟨rfl,zz none HB.out⟩
theorem zH1 {w:World} (v:List UInt8) {q:Bool} (hq:decide (v∈zCs)=q):Calls Tryz.prog 176 #[.int .i64 44,.string ⟨v.toArray⟩] w fun e w'=>e=.returned (.bool q)∧w.grownBy w' none:=by
 have HQ:=zD (show decide ((⟨v.toArray⟩:ByteArray).data.toList∈zHi 44)=q from hq)
 clear hq
 go_enter Tryz.func176,Tryz.ntmps176
 go_wp2_with fail
 refine(zR4 _).mono ?_
 rintro e1 w1 ⟨ad,c1,rfl,hr1,hb1⟩
 have HR:=zD hr1
 have HB:=zD hb1
 clear hr1 hb1
 go_wp2_with fail
 refine(zB1 ⟨v.toArray⟩ (n:=(zHi 44).length) rfl HR.out (by decide) HQ.out).mono ?_
 rintro e2 w2 ⟨rfl,rfl⟩
 go_wp2_with fail
 go_ret
 exact⟨rfl,zz none HB.out⟩
theorem zFH {w:World} (v:List UInt8) {q:Bool} (hq:decide (v∈zCs)=q):Calls Tryz.prog 176 #[.int .i64 45,.string ⟨v.toArray⟩] w fun e w'=>e=.returned (.bool q)∧w.grownBy w' none:=by
 have HQ:=zD (show decide ((⟨v.toArray⟩:ByteArray).data.toList∈zHi 45)=q from hq)
 clear hq
 go_enter Tryz.func176,Tryz.ntmps176
 go_wp2_with fail
 refine(zR5 _).mono ?_
 rintro e1 w1 ⟨ad,c1,rfl,hr1,hb1⟩
 have HR:=zD hr1
 have HB:=zD hb1
 clear hr1 hb1
 go_wp2_with fail
 refine(zB1 ⟨v.toArray⟩ (n:=(zHi 45).length) rfl HR.out (by decide) HQ.out).mono ?_
 rintro e2 w2 ⟨rfl,rfl⟩
 go_wp2_with fail
 go_ret
 exact⟨rfl,zz none HB.out⟩
theorem zMg {w:World} (v:List UInt8) {q:Bool} (hq:decide (v∈zKx)=q):Calls Tryz.prog 176 #[.int .i64 49,.string ⟨v.toArray⟩] w fun e w'=>e=.returned (.bool q)∧w.grownBy w' none:=by
 have HQ:=zD (show decide ((⟨v.toArray⟩:ByteArray).data.toList∈zHi 49)=q from hq)
 clear hq
 go_enter Tryz.func176,Tryz.ntmps176
 go_wp2_with fail
 refine(zR6 _).mono ?_
 rintro e1 w1 ⟨ad,c1,rfl,hr1,hb1⟩
 have HR:=zD hr1
 have HB:=zD hb1
 clear hr1 hb1
 go_wp2_with fail
 refine(zB1 ⟨v.toArray⟩ (n:=(zHi 49).length) rfl HR.out (by decide) HQ.out).mono ?_
 rintro e2 w2 ⟨rfl,rfl⟩
 go_wp2_with fail
 go_ret
 exact⟨rfl,zz none HB.out⟩
theorem TrC.kind {w:World} {F:Nat→Prop} {t:Tr} {d0 d1 d2 d3 d4 d5 d6 d7 d8:Value} (h:TrC w F t [d0,d1,d2,d3,d4,d5,d6,d7,d8]):d0=.int .i64 t.nd.kind:=by
 cases t with
 | mk x l=>
  rw[zC8]at h
  obtain⟨vs,vm,vo,ks,h1,_⟩:=h
  unfold zQr at h1
  injection h1
end Go.Proofs.YtlohaclgbfhijaaGreatDoor
