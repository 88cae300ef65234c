/- Words for memory that the walks over the lexer share: a reader that moves on; what is made behind it. No condition. -/
import Derived.Test.YtngcikgjdeomdaaBase2
namespace Go.Proofs.Ytngcikgjdeomdaa
open Go.RowKit

theorem grown_trans {a b c : World} {row : Option Nat} (h : a.grownBy b row) (k : b.grownBy c row) : a.grownBy c row :=
  ⟨k.os.trans h.os, k.tape.trans h.tape, k.output.trans h.output, Nat.le_trans h.size k.size, fun i hi hne => (k.block i (Nat.lt_of_lt_of_le hi h.size) hne).trans (h.block i hi hne)⟩
theorem grown_of_below {a b : World} (row : Option Nat) (h : Below a.heap.size a b) : a.grownBy b row := ⟨h.os, h.tape, h.output, h.size, fun i hi _ => h.block i hi⟩
theorem grown_drew (a : World) (row : Option Nat) : a.grownBy a.drew row := ⟨rfl, rfl, rfl, Nat.le_refl _, fun _ _ _ => rfl⟩
theorem grown_drewN (a : World) (row : Option Nat) (n : Nat) : a.grownBy (a.drewN n) row := ⟨rfl, rfl, rfl, Nat.le_refl _, fun _ _ _ => rfl⟩
theorem grown_set (a : World) (g j : Nat) (v : Value) : a.grownBy (a.setCell ⟨g, j, none⟩ v) (some g) :=
  ⟨rfl, rfl, rfl, by simp [World.setCell], fun i _ hne => Below.heap_setCell _ _ _ _ (fun e => hne (by rw [e]))⟩
theorem grown_alloc (a : World) (o : Obj) (row : Option Nat) : a.grownBy (a.alloc o) row := World.grownBy_alloc a o row
/-- What was there when a call began, and is there behind it. -/
theorem below_of_grown {B : Nat} {a b : World} {g : Nat} (h : a.grownBy b (some g)) (hB : B ≤ g) (hg : g ≤ a.heap.size) : Below B a b :=
  ⟨h.os, h.tape, h.output, h.size, fun i hi => h.block i (by omega) (by intro e; injection e with e; omega)⟩
theorem grown_cell {a b : World} {g : Nat} (h : a.grownBy b (some g)) {p : Addr} {v : Value} (hc : a.cell? p = some v) (hp : p.block ≠ g) : b.cell? p = some v :=
  h.cell hc (by intro e; injection e with e; exact hp e)
theorem grown_frozen {a b : World} {g : Nat} (h : a.grownBy b (some g)) {p : Addr} (hl : p.block < a.heap.size) (hp : p.block ≠ g) : b.frozen? p = a.frozen? p :=
  World.frozen?_of_block (w := a) (h.block p.block hl (by intro e; injection e with e; exact hp e))
theorem Reads.grown {w w' : World} {B size n g : Nat} {A : Option Addr} {xs : List Value} (h : Reads w B size A n xs) (hg : w.grownBy w' (some g)) (hB : B ≤ g) (hl : g ≤ w.heap.size) : Reads w' B size A n xs :=
  h.below (below_of_grown hg hB hl)
theorem own_grown {w w' : World} {base g : Nat} {e : TypeId} {size n : Nat} {v : Value} {xs : List Value} (h : w.ownsRow base e size v n xs) (hg : w.grownBy w' (some g)) (hb : g < base) : w'.ownsRow base e size v n xs :=
  h.kept hg (by
    cases hv : v.ownBlock with
    | none => exact .inl rfl
    | some k =>
      right
      intro e
      injection e with e
      have := (h.lt k hv).1
      omega)
theorem own_below {w w' : World} {base : Nat} {e : TypeId} {size n : Nat} {v : Value} {xs : List Value} (h : w.ownsRow base e size v n xs) (hb : Below w.heap.size w w') : w'.ownsRow base e size v n xs :=
  h.kept (row := none) ⟨hb.os, hb.tape, hb.output, hb.size, fun k hk _ => hb.block k hk⟩ (by cases hv : v.ownBlock <;> simp)
theorem own_base {w : World} {base base' : Nat} {e : TypeId} {size n : Nat} {v : Value} {xs : List Value} (h : w.ownsRow base e size v n xs) (hb : base' ≤ base) : w.ownsRow base' e size v n xs := by
  refine ⟨h.1, ?_⟩
  rcases h.2 with h2 | ⟨g, cap, cur, h1, h3, h4, h5⟩
  · exact Or.inl h2
  · exact Or.inr ⟨g, cap, cur, h1, Nat.le_trans hb h3, h4, h5⟩

/-- A reader in block g: its units are the slice (A, n, c), it stands at place k. -/
structure Rd (w : World) (g : Nat) (A : Option Addr) (n c k : Nat) : Prop where
  c0 : w.cell? ⟨g, 0, none⟩ = some (.slice A n c)
  c1 : w.cell? ⟨g, 1, none⟩ = some (.int .i64 (k : Int))
  f1 : w.frozen? ⟨g, 1, none⟩ = false
section
variable {w w' : World} {g n c k : Nat} {A : Option Addr}
theorem Rd.lt (h : Rd w g A n c k) : g < w.heap.size := World.block_lt_of_cell? w _ h.c0
theorem Rd.below {D : Nat} (h : Rd w g A n c k) (hb : Below D w w') (hg : g < D) : Rd w' g A n c k :=
  ⟨(hb.cell (p := ⟨g, 0, none⟩) hg).trans h.c0, (hb.cell (p := ⟨g, 1, none⟩) hg).trans h.c1, (hb.frozen (p := ⟨g, 1, none⟩) hg).trans h.f1⟩
theorem Rd.drew (h : Rd w g A n c k) : Rd w.drew g A n c k := ⟨h.c0, h.c1, h.f1⟩
theorem Rd.drewN (h : Rd w g A n c k) (m : Nat) : Rd (w.drewN m) g A n c k := ⟨h.c0, h.c1, h.f1⟩
theorem Rd.alloc (h : Rd w g A n c k) (o : Obj) : Rd (w.alloc o) g A n c k := h.below ((Below.refl _ w).alloc (Nat.le_refl _) o) h.lt
theorem Rd.set (h : Rd w g A n c k) (k' : Nat) : Rd (w.setCell ⟨g, 1, none⟩ (.int .i64 (k' : Int))) g A n c k' := by
  have h1 := h.c0
  have h2 := h.c1
  have h3 := h.f1
  exact ⟨by go_simp, by go_simp, by go_simp⟩
theorem Rd.setI (h : Rd w g A n c k) {z : Int} {k' : Nat} (hz : z = (k' : Int)) : Rd (w.setCell ⟨g, 1, none⟩ (.int .i64 z)) g A n c k' := by
  subst hz
  exact h.set k'
end
/-- A reader that a call has moved on. -/
structure Mv (w w' : World) (g : Nat) (A : Option Addr) (n c k : Nat) : Prop where
  rd : Rd w' g A n c k
  grown : w.grownBy w' (some g)
theorem Mv.refl {w : World} {g n c k : Nat} {A : Option Addr} (h : Rd w g A n c k) : Mv w w g A n c k := ⟨h, World.grownBy.refl w _⟩
theorem Mv.then {w w1 w2 : World} {g n c k k' : Nat} {A : Option Addr} (h : Mv w w1 g A n c k) (h2 : Mv w1 w2 g A n c k') : Mv w w2 g A n c k' := ⟨h2.rd, grown_trans h.grown h2.grown⟩
theorem Mv.step {w w1 : World} {g n c k : Nat} {A : Option Addr} (h : Mv w w1 g A n c k) {z : Int} {k' : Nat} (hz : z = (k' : Int)) : Mv w (w1.setCell ⟨g, 1, none⟩ (.int .i64 z)) g A n c k' :=
  ⟨h.rd.setI hz, grown_trans h.grown (grown_set w1 g 1 _)⟩
theorem Mv.below {w w1 w2 : World} {g n c k : Nat} {A : Option Addr} (h : Mv w w1 g A n c k) (hb : Below w1.heap.size w1 w2) : Mv w w2 g A n c k :=
  ⟨h.rd.below hb h.rd.lt, grown_trans h.grown (grown_of_below _ hb)⟩
theorem Mv.drewN {w w1 : World} {g n c k : Nat} {A : Option Addr} (h : Mv w w1 g A n c k) (m : Nat) : Mv w (w1.drewN m) g A n c k := ⟨h.rd.drewN m, grown_trans h.grown (grown_drewN _ _ _)⟩
theorem Mv.drew {w w1 : World} {g n c k : Nat} {A : Option Addr} (h : Mv w w1 g A n c k) : Mv w w1.drew g A n c k := ⟨h.rd.drew, grown_trans h.grown (grown_drew _ _)⟩

/-- Behind a call that moved a reader on: a slice that the call has made. -/
structure MadeM (w0 w : World) (g : Nat) (e : TypeId) (v : Value) (xs : List Value) : Prop where
  own : w.ownsRow w0.heap.size e 1 v xs.length xs
  grown : w0.grownBy w (some g)
theorem MadeM.nil {w0 w : World} {g : Nat} (h : w0.grownBy w (some g)) (e : TypeId) : MadeM w0 w g e (.slice none 0 0) [] := ⟨World.ownsRow_nil _ _ _ _, h⟩
theorem MadeM.go {w0 w w' : World} {g : Nat} {e : TypeId} {v : Value} {xs : List Value} (h : MadeM w0 w g e v xs) (hg : g < w0.heap.size) (hw : w.grownBy w' (some g)) : MadeM w0 w' g e v xs :=
  ⟨own_grown h.own hw hg, grown_trans h.grown hw⟩
theorem MadeM.cells {w0 w : World} {g : Nat} {e : TypeId} {v : Value} {xs ys : List Value} (h : MadeM w0 w g e v xs) (e1 : xs = ys) : MadeM w0 w g e v ys := e1 ▸ h
theorem MadeM.shape {w0 w : World} {g : Nat} {e : TypeId} {v : Value} {xs : List Value} (h : MadeM w0 w g e v xs) :
    ∃ A c, v = .slice A xs.length c ∧ xs.length ≤ c ∧ c ≤ maxLen ∧ Reads w w.heap.size 1 A xs.length xs := by
  obtain ⟨A, c, hv, h1, h2⟩ := own_shape h.own
  have h' := h.own
  rw [hv] at h'
  exact ⟨A, c, hv, h1, h2, Reads.of_own h'⟩
theorem MadeM.u8 {w0 w : World} {g : Nat} {e : TypeId} {v : Value} {xs : List UInt8} (h : MadeM w0 w g e v (u8s xs)) :
    ∃ A c, v = .slice A xs.length c ∧ xs.length ≤ c ∧ c ≤ maxLen ∧ Reads w w.heap.size 1 A xs.length (u8s xs) := by
  obtain ⟨A, c, hv, h1, h2, h3⟩ := h.shape
  have e : (u8s xs).length = xs.length := by simp [u8s]
  rw [e] at hv h1 h3
  exact ⟨A, c, hv, h1, h2, h3⟩
theorem MadeM.u16 {w0 w : World} {g : Nat} {e : TypeId} {v : Value} {xs : List UInt16} (h : MadeM w0 w g e v (u16s xs)) :
    ∃ A c, v = .slice A xs.length c ∧ xs.length ≤ c ∧ c ≤ maxLen ∧ Reads w w.heap.size 1 A xs.length (u16s xs) := by
  obtain ⟨A, c, hv, h1, h2, h3⟩ := h.shape
  have e : (u16s xs).length = xs.length := by simp [u16s]
  rw [e] at hv h1 h3
  exact ⟨A, c, hv, h1, h2, h3⟩

section
variable {P : Program} {w0 w : World} {g : Nat} {ops : Array Oper} {rest : List Oper} {o : Oper} {a : Act} {Q : Exit → Act → World → Prop}
/-- append of what the operation ahead has laid in a block of its own, behind a reader that moves. -/
theorem wpList_litM (hgd : o.guard = none) (s x : Operand) (t : TypeId)
    (ho : o.op = .call { callee := .builtin .append, args := #[s, x], argTypes := #[t, t] })
    (e : TypeId) (i : TypeInfo) (z : Value) (bytes : Nat) (ht : P.underlying t = some (.slice e)) (hi : P.info? e = some i) (hz : i.zero = some z)
    (hsize : i.size = 1) (hby : i.bytes = bytes) (hzs : z.cells.size = 1)
    (v : Value) (xs : List Value) (hs : a.eval s = v) (hm : MadeM w0 w g e v xs)
    (cs : List Value) (m c : Nat) (hx : a.eval x = .slice (some ⟨w.heap.size, 0, none⟩) m c) (hl : cs.length = m) (h1 : (cs.all fun u => u.oneCell') = true)
    (hsz : xs.length + m ≤ 70368744177664) (hb2 : bytes ≤ 2)
    (h : ∀ v' w', MadeM w0 w' g e v' (xs ++ cs) → w.grownBy w' v.ownBlock → wpList P ops Q rest (a.put o.dst v') w') : wpList P ops Q (o :: rest) a (w.alloc (.cells cs.toArray e)) := by
  subst hl
  refine wpList_append_own (w.alloc (.cells cs.toArray e)) hgd s x t ho w0.heap.size e i z 1 bytes ht hi hz hsize hby hzs (by omega) v xs.length xs hs (hm.own.alloc _) ⟨w.heap.size, 0, none⟩ _ c cs hx (by omega) ?_ (fun u hu => List.all_eq_true.1 h1 u hu) (by unfold maxLen; omega) ?_ (Nat.le_trans hm.grown.size (by simp)) ?_
  · intro j u hu
    rw [Addr.add_lit, World.cell?_alloc_at _ _ _ _ rfl]
    simpa using hu
  · calc (xs.length + cs.length) * bytes ≤ 70368744177664 * 2 := Nat.mul_le_mul hsz hb2
      _ ≤ 140737488355328 := by omega
  · intro v' w' h1 h2 _
    have hgr : w.grownBy w' v.ownBlock := grown_trans (grown_alloc w _ _) h2
    refine h v' w' ⟨by rw [List.length_append]; exact h1, ⟨hgr.os.trans hm.grown.os, hgr.tape.trans hm.grown.tape, hgr.output.trans hm.grown.output, Nat.le_trans hm.grown.size hgr.size, fun k hk hne => ?_⟩⟩ hgr
    rw [hgr.block k (Nat.lt_of_lt_of_le hk hm.grown.size) (fun e => by have := (hm.own.lt k e.symm).1; omega)]
    exact hm.grown.block k hk hne
end
/-- The reader behind an append onto what the call has made. -/
theorem Rd.appended {w0 w w' : World} {g gr n c k : Nat} {A : Option Addr} {e : TypeId} {v : Value} {xs : List Value} (h : Rd w gr A n c k) (hm : MadeM w0 w g e v xs) (hg : gr < w0.heap.size) (hw : w.grownBy w' v.ownBlock) : Rd w' gr A n c k := by
  have hne : some gr ≠ v.ownBlock := fun e => by have := (hm.own.lt gr e.symm).1; omega
  exact ⟨hw.cell h.c0 hne, hw.cell h.c1 hne, (World.frozen?_of_block (w := w) (hw.block gr h.lt hne)).trans h.f1⟩
end Go.Proofs.Ytngcikgjdeomdaa
