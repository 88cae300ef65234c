/- big.Parse, walked, at digits without a nought ahead: the number, or an error where it has more than eight limbs. -/
import Derived.Test.YtngcikgjdeomdaaBigW
import Derived.Test.YtngcikgjdeomdaaLexQuoW
import Derived.Deep.LoopGhost
namespace Go.Proofs.Ytngcikgjdeomdaa
open Go.RowKit

theorem Try.info_u32 : (Try.prog.info? 88).map (fun i => (i.zero, i.size, i.bytes)) = some (some (.int .u32 0), 1, 4) := by kernel_rfl
def ParsePost (v : Nat) (w : World) (e : Ending) (w' : World) : Prop :=
  ∃ (X : Option Addr) (mx cx er : Nat), e = .returned (.tuple #[.agg #[.bool false, .slice X mx cx], .int .i64 (er : Int)]) ∧ Below w.heap.size w w' ∧
    (er = 0 ∧ v < big8 ∧ w'.ownsRow w.heap.size 88 1 (.slice X mx cx) (limbs v).length (u32s (limbs v)) ∨ er = 3 ∧ big8 ≤ v)
/-- how far the inner loop is -/
def AtMul (ms : List Nat) (d k c : Nat) (outs : List Nat) : Prop := outs.length = k ∧ mulGo ms d = (outs ++ (mulGo (ms.drop k) c).1, (mulGo (ms.drop k) c).2)
theorem AtMul.start (ms : List Nat) (d : Nat) : AtMul ms d 0 d [] := ⟨rfl, rfl⟩
theorem AtMul.step {ms : List Nat} {d k c : Nat} {outs : List Nat} (h : AtMul ms d k c outs) (hk : k < ms.length) : AtMul ms d (k + 1) ((c + 10 * ms[k]) / 4294967296) (outs ++ [(c + 10 * ms[k]) % 4294967296]) := by
  obtain ⟨h1, h2⟩ := h
  refine ⟨by simp [h1], ?_⟩
  rw [h2, List.drop_eq_getElem_cons hk, mulGo]
  simp
theorem AtMul.done {ms : List Nat} {d c : Nat} {outs : List Nat} (h : AtMul ms d ms.length c outs) : mulGo ms d = (outs, c) := by
  obtain ⟨h1, h2⟩ := h
  rw [h2, List.drop_length]
  simp [mulGo]
/-- the cells behind so many rounds -/
def mulCells (ms outs : List Nat) : List Nat := outs ++ ms.drop outs.length
theorem mulCells_get {ms outs : List Nat} (h : outs.length < ms.length) : (mulCells ms outs)[outs.length]? = some ms[outs.length] := by
  unfold mulCells
  rw [List.getElem?_append_right (Nat.le_refl _), Nat.sub_self, List.getElem?_drop]
  simp [List.getElem?_eq_getElem h]
theorem mulCells_set {ms outs : List Nat} (h : outs.length < ms.length) (x : Nat) : (mulCells ms outs).set outs.length x = mulCells ms (outs ++ [x]) := by
  unfold mulCells
  rw [List.set_append_right _ _ (Nat.le_refl _), Nat.sub_self, List.drop_eq_getElem_cons h, List.set_cons_zero]
  simp
theorem mulCells_len {ms outs : List Nat} (h : outs.length ≤ ms.length) : (mulCells ms outs).length = ms.length := by
  unfold mulCells
  rw [List.length_append, List.length_drop]
  omega
theorem u32s_set (l : List Nat) (k x : Nat) : (u32s l).set k (.int .u32 (x : Int)) = u32s (l.set k x) := by
  simp [u32s, List.map_set]

section
variable {P : Program} {w : World} {ops : Array Oper} {rest : List Oper} {o : Oper} {a : Act} {Q : Exit → Act → World → Prop}
/-- append of what the operation ahead has laid, onto a row of elements of any size. -/
theorem wpList_litG (hgd : o.guard = none) (s x : Operand) (t : TypeId)
    (ho : o.op = .call { callee := .builtin .append, args := #[s, x], argTypes := #[t, t] })
    (e : TypeId) (i : TypeInfo) (z : Value) (size bytes : Nat) (ht : P.underlying t = some (.slice e)) (hi : P.info? e = some i) (hz : i.zero = some z)
    (hsize : i.size = size) (hby : i.bytes = bytes) (hzs : z.cells.size = size) (hsz0 : 0 < size) (base : Nat) (hbase : base ≤ w.heap.size)
    (v : Value) (xs : List Value) (k : Nat) (hs : a.eval s = v) (hm : w.ownsRow base e size v k xs)
    (cs : List Value) (m c : Nat) (hx : a.eval x = .slice (some ⟨w.heap.size, 0, none⟩) m c) (hl : cs.length = m * size) (h1 : (cs.all fun u => u.oneCell') = true)
    (hsz : k + m ≤ 70368744177664) (hb2 : (k + m) * bytes ≤ 140737488355328)
    (h : ∀ v' w', w'.ownsRow base e size v' (k + m) (xs ++ cs) → w.grownBy w' v.ownBlock → wpList P ops Q rest (a.put o.dst v') w') : wpList P ops Q (o :: rest) a (w.alloc (.cells cs.toArray e)) := by
  refine wpList_append_own (w.alloc (.cells cs.toArray e)) hgd s x t ho base e i z size bytes ht hi hz hsize hby hzs hsz0 v k xs hs (hm.alloc _) ⟨w.heap.size, 0, none⟩ _ c cs hx hl ?_ (fun u hu => List.all_eq_true.1 h1 u hu) (by unfold maxLen; omega) hb2 (Nat.le_trans hbase (by simp)) ?_
  · intro j u hu
    rw [Addr.add_lit, World.cell?_alloc_at _ _ _ _ rfl]
    simpa using hu
  · intro v' w' h1 h2 _
    exact h v' w' h1 (grown_trans (grown_alloc w _ _) h2)
end
/-- Behind the store of two cells. -/
theorem set2_cells {w : World} {R : Nat} {cs : List Value} {v0 v1 : Value} (h : Blk w R cs) (hl : cs.length = 2) : ((w.setCell ⟨R, 0, none⟩ v0).setCell ⟨R, 1, none⟩ v1).cell? ⟨R, 0, none⟩ = some v0 ∧ ((w.setCell ⟨R, 0, none⟩ v0).setCell ⟨R, 1, none⟩ v1).cell? ⟨R, 1, none⟩ = some v1 := by
  obtain ⟨c0, f0⟩ := h.2 0 (by omega)
  obtain ⟨c1, f1⟩ := h.2 1 (by omega)
  refine ⟨?_, ?_⟩
  all_goals go_simp
theorem set2_below {w0 w : World} {R : Nat} {v0 v1 : Value} (h : Below w0.heap.size w0 w) (hR : w0.heap.size ≤ R) : Below w0.heap.size w0 ((w.setCell ⟨R, 0, none⟩ v0).setCell ⟨R, 1, none⟩ v1) := (h.setCell hR _).setCell hR _
theorem set2_own {w : World} {R base e n : Nat} {v v0 v1 : Value} {xs : List Value} (h : w.ownsRow base e 1 v n xs) (hb : R < base) : ((w.setCell ⟨R, 0, none⟩ v0).setCell ⟨R, 1, none⟩ v1).ownsRow base e 1 v n xs :=
  own_grown (own_grown h (grown_set w R 0 v0) hb) (grown_set _ R 1 v1) hb
theorem bmade_nil {A : Option Addr} {c B n : Nat} {xs : List Nat} {w : World} (hn : xs.length = n) (ha : Reads w B 1 A n (u32s xs)) (hB : B ≤ w.heap.size) (hl : n ≤ 4096) (hc : n ≤ c) (hc2 : c ≤ maxLen) (hm : trimL xs = xs) (h0 : n = 0) :
    Calls Try.prog 93 #[.slice A n c, .bool false] w fun e w' => e = .returned (.agg #[.bool false, .slice none 0 0]) ∧ Below w.heap.size w w' := by
  have := bmade_is (c := c) hn ha hB hl hc hc2 (m := n) (by rw [hm, hn])
  unfold madeV at this
  rw [if_pos h0] at this
  exact this
theorem bmade_pos {A : Option Addr} {c B n : Nat} {xs : List Nat} {w : World} (hn : xs.length = n) (ha : Reads w B 1 A n (u32s xs)) (hB : B ≤ w.heap.size) (hl : n ≤ 4096) (hc : n ≤ c) (hc2 : c ≤ maxLen) (hm : trimL xs = xs) (h0 : n ≠ 0) :
    Calls Try.prog 93 #[.slice A n c, .bool false] w fun e w' => e = .returned (.agg #[.bool false, .slice A n c]) ∧ Below w.heap.size w w' := by
  have := bmade_is (c := c) hn ha hB hl hc hc2 (m := n) (by rw [hm, hn])
  unfold madeV at this
  rw [if_neg h0] at this
  exact this

/-- what the loops have in hand -/
structure PaS (w wr : World) (v : Value) (n : Nat) (ms : List Nat) : Prop where
  own : wr.ownsRow (w.heap.size + 1) 88 1 v n (u32s ms)
  res : Blk wr w.heap.size [.bool false, .slice none 0 0]
  below : Below w.heap.size w wr
theorem PaS.grown {w wr w' : World} {v v' : Value} {n n' : Nat} {ms ms' : List Nat} (h : PaS w wr v n ms) (hg : wr.grownBy w' v.ownBlock) (ho : w'.ownsRow (w.heap.size + 1) 88 1 v' n' (u32s ms')) : PaS w w' v' n' ms' :=
  ⟨ho, h.res.grownR hg (fun e => by have := (h.own.lt _ e.symm).1; omega), h.below.grown hg h.below.size (fun k hk => by have := (h.own.lt k hk).1; omega)⟩
/-- the outer loop -/
def AtPar (l : List UInt16) (i : Nat) (ms : List Nat) : Prop := i ≤ l.length ∧ decVal (l.take i) < big8 ∧ ms = limbs (decVal (l.take i))
theorem PaS.below' {w wr w' : World} {v : Value} {n : Nat} {ms : List Nat} (h : PaS w wr v n ms) (hb : Below wr.heap.size wr w') : PaS w w' v n ms :=
  ⟨own_below h.own hb, h.res.below hb h.res.1, h.below.trans (hb.mono h.below.size)⟩
/-- Behind the append and the trim. -/
theorem PaS.trimmed {w wr w' : World} {A Av : Option Addr} {n cp cv m : Nat} {outs zs : List Nat} {c : Nat} (h : PaS w wr (.slice A n cp) n outs) (hg : wr.grownBy w' (Value.ownBlock (.slice A n cp))) (ho : w'.ownsRow (w.heap.size + 1) 88 1 (.slice Av (n + 1) cv) (n + 1) (u32s (outs ++ [c])))
    (hz : trimL (outs ++ [c]) = zs) (hm : zs.length = m) (hn : m ≤ n + 1) : PaS w w' (.slice Av m cv) m zs := by
  refine h.grown hg ?_
  have h1 := own_take (j := m) ho hn
  rw [u32s_take, ← hm, ← hz, ← trimL_take, hz, hm] at h1
  exact h1
theorem AtPar.start (l : List UInt16) : AtPar l 0 [] := ⟨Nat.zero_le _, by rw [List.take_zero]; exact Nat.pow_pos (by omega), rfl⟩
theorem AtPar.step {l : List UInt16} {k d c : Nat} {ms outs : List Nat} (h : AtPar l k ms) (hk : k < l.length) (hd : l[k].toNat = d + 48) (hd9 : d ≤ 9) (hm : mulGo ms d = (outs, c)) : trimL (outs ++ [c]) = limbs (decVal (l.take (k + 1))) := by
  obtain ⟨_, h2, h3⟩ := h
  subst h3
  have := limbs_step h2 hd9
  rw [hm] at this
  rw [this, decVal_take_succ l k hk, hd]
  congr 1
theorem AtPar.go {l : List UInt16} {k : Nat} {ms : List Nat} (hk : k < l.length) (hm : ms = limbs (decVal (l.take (k + 1)))) (h8 : ms.length ≤ 8) : AtPar l (k + 1) ms := by
  refine ⟨hk, ?_, hm⟩
  rcases Nat.lt_or_ge (decVal (l.take (k + 1))) big8 with h | h
  · exact h
  · have := limbs_gt h
    rw [← hm] at this
    omega
theorem AtPar.over {l : List UInt16} {k : Nat} {ms : List Nat} (hm : ms = limbs (decVal (l.take (k + 1)))) (h8 : ¬ ms.length ≤ 8) : big8 ≤ decVal l := by
  rcases Nat.lt_or_ge (decVal (l.take (k + 1))) big8 with h | h
  · have := limbs_le h
    rw [← hm] at this
    omega
  · exact Nat.le_trans h (decVal_take_le l (k + 1))
theorem AtPar.done {l : List UInt16} {ms : List Nat} (h : AtPar l l.length ms) : decVal l < big8 ∧ ms = limbs (decVal l) := by
  obtain ⟨_, h2, h3⟩ := h
  rw [List.take_length] at h2 h3
  exact ⟨h2, h3⟩
theorem PaS.drewN {w wr : World} {v : Value} {n : Nat} {ms : List Nat} (h : PaS w wr v n ms) (m : Nat) : PaS w (wr.drewN m) v n ms :=
  ⟨h.own.kept (row := none) ⟨rfl, rfl, rfl, Nat.le_refl _, fun _ _ _ => rfl⟩ (by cases hv : v.ownBlock <;> simp), h.res.grown (g := w.heap.size + 1) (grown_drewN wr _ m) (by omega), below_drewN h.below m⟩
theorem decVal_ge (l : List UInt16) (i : Nat) : decVal (l.take i) ≤ decVal l := decVal_take_le l i
end Go.Proofs.Ytngcikgjdeomdaa
