/- Contracts in the form that the laws' walks take: values named ahead, the slice's own parts. -/
import Derived.Test.YtginfodcobpljaaDoorFirst
import Derived.Test.YtginfodcobpljaaDoorMisc
import Derived.Test.YtginfodcobpljaaDoorAppendAny
namespace Go.Proofs.YtginfodcobpljaaDoor
open Go.RowKit

theorem wpList_ungate {P : Program} {w : World} {ops : Array Oper} {rest : List Oper} {o : Oper} {a : Act} {Q : Exit → Act → World → Prop} (hw : Region.wanted o (yielded ops a.tmps) = true) (h : wpList P ops Q ({ o with guard := none } :: rest) a w) : wpList P ops Q (o :: rest) a w := by
  rw [wpList, if_pos hw]
  rw [wpList, if_pos (by simp [Region.wanted])] at h
  exact h
theorem units_is {A : Option Addr} {c B n : Nat} {b : List UInt8} {w : World} (hT : Tabs w) (hB : B ≤ w.heap.size) (hn : b.length = n) (ha : Reads w B 1 A n (u8s b)) (hc : n ≤ c) {k e : Nat} {l : List UInt16} (h1 : uAt b = k) (h2 : uErr b = e) (h3 : uOut b = l) :
    Calls Tryd.prog 14 #[.slice A n c] w fun ev w' => ∃ A' c', ev = .returned (.tuple #[.slice A' l.length c', .int .i64 (k : Int), .int .i64 (e : Int)]) ∧ Reads w' w'.heap.size 1 A' l.length (u16s l) ∧ l.length ≤ c' ∧ c' ≤ maxLen ∧ Below w.heap.size w w' := by
  subst hn h1 h2 h3
  refine (units_any hT hB ha hc).mono ?_
  rintro ev w' ⟨v, rfl, hm⟩
  have hb := hm.below
  obtain ⟨A', c', rfl, h1, h2, hr⟩ := hm.u16
  exact ⟨A', c', rfl, hr, h1, h2, hb⟩
theorem uErr_cases (b : List UInt8) : uErr b = 0 ∨ uErr b = 2 ∨ uErr b = 3 := by
  unfold uErr
  split
  · simp
  · split <;> simp
theorem uErr_ok {b : List UInt8} (h : uErr b = 0) : b.length ≤ 4096 ∧ (unitsF b).2 = none ∧ uOut b = (unitsF b).1 ∧ uAt b = 0 := by
  unfold uErr at h
  unfold uOut uAt
  by_cases h1 : 4096 < b.length
  · simp [h1] at h
  · simp only [h1, if_false] at h ⊢
    cases h2 : (unitsF b).2 with
    | none => exact ⟨by omega, rfl, rfl, rfl⟩
    | some k => rw [h2] at h; simp at h
theorem uErr_form {b : List UInt8} (h : uErr b = 2) : b.length ≤ 4096 ∧ (unitsF b).2 = some (uAt b) ∧ uOut b = [] := by
  unfold uErr at h
  unfold uOut uAt
  by_cases h1 : 4096 < b.length
  · simp [h1] at h
  · simp only [h1, if_false] at h ⊢
    cases h2 : (unitsF b).2 with
    | none => rw [h2] at h; simp at h
    | some k => exact ⟨by omega, rfl, rfl⟩
theorem uErr_none {b : List UInt8} (h : b.length ≤ 4096) (h2 : (unitsF b).2 = none) : uErr b = 0 ∧ uOut b = (unitsF b).1 ∧ uAt b = 0 := by
  unfold uErr uOut uAt
  have h1 : ¬ 4096 < b.length := by omega
  simp [h1, h2]
theorem uErr_some {b : List UInt8} {k : Nat} (h : b.length ≤ 4096) (h2 : (unitsF b).2 = some k) : uErr b = 2 ∧ uOut b = [] ∧ uAt b = k := by
  unfold uErr uOut uAt
  have h1 : ¬ 4096 < b.length := by omega
  simp [h1, h2]
/-- Two lists of units that are the same. -/
theorem runits_is {A A' : Option Addr} {c d B n m : Nat} {xs ys : List UInt16} {w : World} (hB : B ≤ w.heap.size) (hn : xs.length = n) (hm : ys.length = m) (ha : Reads w B 1 A n (u16s xs)) (hb : Reads w B 1 A' m (u16s ys)) (hl : n ≤ 70368744177664) (hl2 : m ≤ 70368744177664) (he : xs = ys) :
    Calls Tryd.prog 15 #[.slice A n c, .slice A' m d] w fun e w' => e = .returned (.bool true) ∧ Below w.heap.size w w' := by
  subst hn hm
  have := runits_any (c := c) (d := d) hB ha hb hl hl2
  rw [decide_eq_true he] at this
  exact this
theorem Reads.pre16 {w : World} {B n : Nat} {A : Option Addr} {xs ys : List UInt16} (h : Reads w B 1 A n (u16s xs)) (hp : ys <+: xs) : Reads w B 1 A ys.length (u16s ys) := by
  have hl := hp.length_le
  have he := List.prefix_iff_eq_take.1 hp
  have := h.take16 (k := ys.length) hl
  rw [← he] at this
  exact this
theorem Reads.pre8 {w : World} {B n : Nat} {A : Option Addr} {xs : List UInt8} (h : Reads w B 1 A n (u8s xs)) {k : Nat} (hk : k ≤ xs.length) : Reads w B 1 A k (u8s (xs.take k)) := by
  have h1 := h.take8 hk
  rwa [List.length_take, Nat.min_eq_left hk] at h1
theorem copyUnits_is {A : Option Addr} {c B n : Nat} {xs : List UInt16} {w : World} (hB : B ≤ w.heap.size) (hn : xs.length = n) (ha : Reads w B 1 A n (u16s xs)) (hl : n ≤ 70368744177664) :
    Calls Tryd.prog 21 #[.slice A n c] w fun e w' => ∃ v, e = .returned v ∧ Made w w' 42 v (u16s xs) := by
  subst hn
  exact copyUnits_any hB ha hl
theorem num_is {A : Option Addr} {c B m : Nat} {xs : List UInt16} {w : World} (hB : B ≤ w.heap.size) (hm : xs.length = m) (ha : Reads w B 1 A m (u16s xs)) (hc : m ≤ c) (hc2 : c ≤ maxLen) (hl : m ≤ 70368744177664) {k n : Int} {ok : Bool} (h : numF xs = (⟨k, n⟩, ok)) :
    Calls Tryd.prog 17 #[.slice A m c] w fun e w' => e = .returned (.tuple #[.agg #[.int .i64 k, .int .i64 n], .bool ok]) ∧ Below w.heap.size w w' := by
  subst hm
  have := number_any hB ha hc hc2 hl
  rw [h] at this
  exact this
theorem key_is {A : Option Addr} {c B m : Nat} {xs : List UInt16} {w : World} (hm : xs.length = m) (hr : Reads w B 1 A m (u16s xs)) (hl : m ≤ 70368744177664) (n : Nat) (ok : Bool) (h1 : keyF xs = n) (h2 : keyOk xs = ok) :
    Calls Tryd.prog 16 #[.slice A m c] w fun e w' => e = .returned (.tuple #[.int .i64 (n : Int), .bool ok]) ∧ w = w' := by
  subst hm h1 h2
  exact key_any hr hl
end Go.Proofs.YtginfodcobpljaaDoor
