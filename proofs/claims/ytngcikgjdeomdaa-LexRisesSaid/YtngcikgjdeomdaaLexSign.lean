/- The reader's sign, walked: the longest one. -/
import Derived.Test.YtngcikgjdeomdaaLexTok
import Derived.Deep.CutBlock
import Derived.Deep.DeepCutAuto
import Derived.Deep.RegionWith
namespace Go.Proofs.Ytngcikgjdeomdaa
open Go.RowKit

theorem plain_str {A : Option Addr} {c B n : Nat} {xs : List UInt16} {w : World} (hB : B ≤ w.heap.size) (hn : xs.length = n) (ha : Reads w B 1 A n (u16s xs)) (hl : n ≤ 4096) {s : ByteArray} {b : Bool} (h1 : plainF xs = s) (h2 : plainOk xs = b) :
    Calls Try.prog 66 #[.slice A n c] w fun e w' => e = .returned (.tuple #[.string s, .bool b]) ∧ Below w.heap.size w w' := by
  subst hn h1 h2
  exact plain_any hB ha (by omega)
theorem signN_min {l : List UInt16} {n : Nat} (h : l.length ≤ n) (hn : n ≤ 4) : signN l 4 = signN l (min 4 l.length) := by
  have hz : ∀ k, l.length < k → signAt l k = 0 := by
    intro k hk
    unfold signAt
    rw [if_neg]
    rw [decide_eq_false (by omega : ¬ k ≤ l.length)]
    simp
  have h1 : ∀ k, l.length ≤ k → signN l k = signN l l.length := by
    intro k
    induction k with
    | zero => intro hk; have : l.length = 0 := by omega
              rw [this]
    | succ k ih =>
      intro hk
      by_cases e : l.length = k + 1
      · rw [e]
      · rw [signN, if_neg (by rw [hz (k + 1) (by omega)]; simp)]
        exact ih (by omega)
  rw [h1 4 (by omega), Nat.min_eq_right (by omega)]
theorem signN_start (l : List UInt16) : signN l 4 = signN l (min 4 l.length) := by
  by_cases h : l.length ≤ 4
  · exact signN_min h (Nat.le_refl _)
  · rw [Nat.min_eq_left (by omega)]
theorem signN_skip {l : List UInt16} {n : Nat} (h : signAt l (n + 1) = 0) : signN l (n + 1) = signN l n := by
  rw [signN, if_neg (by rw [h]; simp)]
theorem signN_hit {l : List UInt16} {n : Nat} (h : signAt l (n + 1) ≠ 0) : signN l (n + 1) = some (n + 1) := by
  rw [signN, if_pos h]
theorem signAt_of {l : List UInt16} {n : Nat} (hn : n ≤ l.length) : signAt l n = if (plainOk (l.take n) && !(decide (asc (l.take n) = [63, 46]) && isAt 2 isDigit l)) = true then signF (asc (l.take n)) else 0 := by
  unfold signAt plainOk
  rw [decide_eq_true hn, Bool.true_and]
theorem plainF_of {l : List UInt16} (h : plainOk l = true) : plainF l = ⟨(asc l).toArray⟩ := by
  unfold plainF
  rw [if_pos h]; rfl
end Go.Proofs.Ytngcikgjdeomdaa
