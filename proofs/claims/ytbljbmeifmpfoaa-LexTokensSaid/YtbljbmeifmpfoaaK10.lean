/- Joined for a claim: R5Words. -/
import Derived.Test.YtbljbmeifmpfoaaK07
import Derived.Test.YtbljbmeifmpfoaaK09
namespace Go.Proofs.Ytbljbmeifmpfoaa
open Go.RowKit

theorem rletter_any (x : UInt16) (w : World) : Calls Try.prog 30 #[.int .u16 (x.toNat : Int)] w fun e w' => e = .returned (.bool (isLet x)) ∧ w = w' := by
  have h1 := x.toNat_lt
  go_enter Try.func30, Try.ntmps30
  go_wp2
  all_goals go_ret
  all_goals refine ⟨ret_bool ?_, rfl⟩
  all_goals (rw [Bool.eq_iff_iff]; simp only [isLet, Bool.and_eq_true, Bool.or_eq_true, beq_iff_eq, decide_eq_true_eq, true_iff]; omega)
theorem rdigit_any (x : UInt16) (w : World) : Calls Try.prog 32 #[.int .u16 (x.toNat : Int)] w fun e w' => e = .returned (.bool (isDigit x)) ∧ w = w' := by
  have h1 := x.toNat_lt
  go_enter Try.func32, Try.ntmps32
  go_wp2
  all_goals go_ret
  all_goals refine ⟨ret_bool ?_, rfl⟩
  all_goals (rw [Bool.eq_iff_iff]; simp only [isDigit, Bool.and_eq_true, decide_eq_true_eq, Bool.false_eq_true, false_iff]; omega)
theorem lletter_b {c : UInt8} {q : Bool} (h : isLet c.toUInt16 = q) (w : World) : Calls Try.prog 22 #[.int .u16 (c.toNat : Int)] w fun e w' => e = .returned (.bool q) ∧ w = w' := by
  subst h
  have := lletter_any c.toUInt16 w
  rwa [UInt8.toNat_toUInt16] at this
theorem ldigit_b {c : UInt8} {q : Bool} (h : isDigit c.toUInt16 = q) (w : World) : Calls Try.prog 24 #[.int .u16 (c.toNat : Int)] w fun e w' => e = .returned (.bool q) ∧ w = w' := by
  subst h
  have := ldigit_any c.toUInt16 w
  rwa [UInt8.toNat_toUInt16] at this
theorem rletter_b {c : UInt8} {q : Bool} (h : isLet c.toUInt16 = q) (w : World) : Calls Try.prog 30 #[.int .u16 (c.toNat : Int)] w fun e w' => e = .returned (.bool q) ∧ w = w' := by
  subst h
  have := rletter_any c.toUInt16 w
  rwa [UInt8.toNat_toUInt16] at this
theorem rdigit_b {c : UInt8} {q : Bool} (h : isDigit c.toUInt16 = q) (w : World) : Calls Try.prog 32 #[.int .u16 (c.toNat : Int)] w fun e w' => e = .returned (.bool q) ∧ w = w' := by
  subst h
  have := rdigit_any c.toUInt16 w
  rwa [UInt8.toNat_toUInt16] at this

/-- the first so many are as they should -/
def okRun (l : List UInt8) (k : Nat) : Prop := ∀ j (h : j < l.length), j < k → (if j = 0 then isLet l[j].toUInt16 else isRun l[j].toUInt16) = true
theorem okRun_zero (l : List UInt8) : okRun l 0 := fun _ _ h => absurd h (by omega)
theorem okRun_step {l : List UInt8} {k : Nat} (h : okRun l k) (hk : k < l.length) (h2 : (if k = 0 then isLet l[k].toUInt16 else isRun l[k].toUInt16) = true) : okRun l (k + 1) := by
  intro j hj hjk
  by_cases e : j = k
  · subst e; exact h2
  · exact h j hj (by omega)
theorem runF_done {l : List UInt8} (h : okRun l l.length) (h0 : l ≠ []) : runF l = true := by
  cases l with
  | nil => exact absurd rfl h0
  | cons b r =>
    have h1 := h 0 (by simp) (by simp)
    simp only [if_true, List.getElem_cons_zero] at h1
    unfold runF
    simp only [h1, Bool.true_and]
    rw [List.all_eq_true]
    intro x hx
    obtain ⟨j, hj, rfl⟩ := List.getElem_of_mem hx
    have := h (j + 1) (by simpa using hj) (by simpa using hj)
    simpa using this
theorem runF_bad {l : List UInt8} {k : Nat} (hk : k < l.length) (h2 : (if k = 0 then isLet l[k].toUInt16 else isRun l[k].toUInt16) = false) : runF l = false := by
  cases l with
  | nil => rfl
  | cons b r =>
    unfold runF
    by_cases h0 : k = 0
    · subst h0
      simp only [if_true, List.getElem_cons_zero] at h2
      simp [h2]
    · obtain ⟨j, rfl⟩ : ∃ j, k = j + 1 := ⟨k - 1, by omega⟩
      simp only [h0, if_false, List.getElem_cons_succ] at h2
      rw [Bool.and_eq_false_iff]
      right
      rw [← Bool.not_eq_true, List.all_eq_true]
      intro h
      have := h _ (List.getElem_mem (by simpa using hk : j < r.length))
      rw [h2] at this
      cases this
theorem byte_at (s : ByteArray) (k : Nat) (_h : k < s.size) (h2 : k < s.data.toList.length) : s.data.toList[k] = s[k] := rfl
end Go.Proofs.Ytbljbmeifmpfoaa
