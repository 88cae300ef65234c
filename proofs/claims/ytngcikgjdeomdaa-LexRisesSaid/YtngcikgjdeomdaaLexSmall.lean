/- The lexer's small functions, walked. No condition. -/
import Derived.Test.YtngcikgjdeomdaaLexFacts
import Derived.Test.YtngcikgjdeomdaaLexBase
namespace Go.Proofs.Ytngcikgjdeomdaa
open Go.RowKit

theorem lletter_any (x : UInt16) (w : World) : Calls Try.prog 43 #[.int .u16 (x.toNat : Int)] w fun e w' => e = .returned (.bool (isLet x)) ∧ w = w' := by
  have h1 := x.toNat_lt
  go_enter Try.func43, Try.ntmps43
  go_wp2
  all_goals go_ret
  all_goals refine ⟨ret_bool ?_, rfl⟩
  all_goals (rw [Bool.eq_iff_iff]; simp only [isLet, Bool.and_eq_true, Bool.or_eq_true, beq_iff_eq, decide_eq_true_eq, true_iff]; omega)
theorem ldigit_any (x : UInt16) (w : World) : Calls Try.prog 45 #[.int .u16 (x.toNat : Int)] w fun e w' => e = .returned (.bool (isDigit x)) ∧ w = w' := by
  have h1 := x.toNat_lt
  go_enter Try.func45, Try.ntmps45
  go_wp2
  all_goals go_ret
  all_goals refine ⟨ret_bool ?_, rfl⟩
  all_goals (rw [Bool.eq_iff_iff]; simp only [isDigit, Bool.and_eq_true, decide_eq_true_eq, Bool.false_eq_true, false_iff]; omega)
theorem lblank_any (x : UInt16) (w : World) : Calls Try.prog 39 #[.int .u16 (x.toNat : Int)] w fun e w' => e = .returned (.bool (isBl x)) ∧ w = w' := by
  have h1 := x.toNat_lt
  go_enter Try.func39, Try.ntmps39
  go_wp2
  all_goals go_ret
  all_goals refine ⟨ret_bool ?_, rfl⟩
  all_goals (rw [Bool.eq_iff_iff]; simp [isBl]; omega)
theorem lline_any (x : UInt16) (w : World) : Calls Try.prog 40 #[.int .u16 (x.toNat : Int)] w fun e w' => e = .returned (.bool (isLine x)) ∧ w = w' := by
  have h1 := x.toNat_lt
  go_enter Try.func40, Try.ntmps40
  go_wp2
  all_goals go_ret
  all_goals refine ⟨ret_bool ?_, rfl⟩
  all_goals (rw [Bool.eq_iff_iff]; simp [isLine]; omega)
theorem lparts_any (x : UInt16) (w : World) : Calls Try.prog 59 #[.int .u16 (x.toNat : Int)] w fun e w' => e = .returned (.bool (isFar x)) ∧ w = w' := by
  have h1 := x.toNat_lt
  go_enter Try.func59, Try.ntmps59
  go_wp2
  all_goals go_ret
  all_goals refine ⟨ret_bool ?_, rfl⟩
  all_goals (rw [Bool.eq_iff_iff]; simp [isFar]; omega)
theorem lleft_any (b : Bool) (w : World) : Calls Try.prog 58 #[.bool b] w fun e w' => e = .returned (.int .i64 (leftF b : Nat)) ∧ w = w' := by
  cases b
  all_goals
    go_enter Try.func58, Try.ntmps58
    go_wp2
    go_ret
    exact ⟨rfl, rfl⟩
theorem lrun1_any (x : UInt16) (w : World) : Calls Try.prog 61 #[.int .u16 (x.toNat : Int)] w fun e w' => e = .returned (.bool (isRun x)) ∧ w = w' := by
  cases hl : isLet x with
  | true =>
    have HR := hide (show isRun x = true by simp [isRun, hl])
    go_enter Try.func61, Try.ntmps61
    go_wp2_with (go_at_call 43; refine (lletter_any _ _).mono ?_; rintro e w' ⟨rfl, rfl⟩)
    go_ret
    exact ⟨ret_bool HR.out.symm, rfl⟩
  | false =>
    have HR := hide (show isRun x = isDigit x by simp [isRun, hl])
    go_enter Try.func61, Try.ntmps61
    go_wp2_with (first | (go_at_call 43; refine (lletter_any _ _).mono ?_; rintro e w' ⟨rfl, rfl⟩) | (go_at_call 45; refine (ldigit_any _ _).mono ?_; rintro e w' ⟨rfl, rfl⟩))
    go_ret
    exact ⟨ret_bool HR.out.symm, rfl⟩
theorem lhex_any (x : UInt16) (w : World) : Calls Try.prog 103 #[.int .u16 (x.toNat : Int)] w fun e w' => e = .returned (.int .u16 (hexF x : Nat)) ∧ w = w' := by
  have h1 := x.toNat_lt
  cases hd : isDigit x with
  | true =>
    have hdd := isDigit_iff.1 hd
    have HR := hide (show hexF x = x.toNat - 48 by rw [hexF, if_pos hd])
    go_enter Try.func103, Try.ntmps103
    go_wp2_with (go_at_call 45; refine (ldigit_any _ _).mono ?_; rintro e w' ⟨rfl, rfl⟩)
    go_ret
    exact ⟨ret_int (by rw [HR.out]; omega), rfl⟩
  | false =>
    by_cases h2 : 97 ≤ x.toNat ∧ x.toNat ≤ 102
    · have HR := hide (show hexF x = x.toNat - 87 by rw [hexF, if_neg (by rw [hd]; simp), if_pos h2])
      obtain ⟨h2, h3⟩ := h2
      go_enter Try.func103, Try.ntmps103
      go_wp2_with (go_at_call 45; refine (ldigit_any _ _).mono ?_; rintro e w' ⟨rfl, rfl⟩)
      go_ret
      exact ⟨ret_int (by rw [HR.out]; omega), rfl⟩
    · by_cases h3 : 65 ≤ x.toNat ∧ x.toNat ≤ 70
      · have HR := hide (show hexF x = x.toNat - 55 by rw [hexF, if_neg (by rw [hd]; simp), if_neg h2, if_pos h3])
        obtain ⟨h3, h4⟩ := h3
        have h5 : ¬ (97 : Int) ≤ (x.toNat : Int) := by omega
        clear h2
        go_enter Try.func103, Try.ntmps103
        go_wp2_with (go_at_call 45; refine (ldigit_any _ _).mono ?_; rintro e w' ⟨rfl, rfl⟩)
        go_ret
        exact ⟨ret_int (by rw [HR.out]; omega), rfl⟩
      · have HR := hide (show hexF x = 16 by rw [hexF, if_neg (by rw [hd]; simp), if_neg h2, if_neg h3])
        have hw : ¬ (97 : Int) ≤ (x.toNat : Int) ∨ ((97 : Int) ≤ (x.toNat : Int) ∧ ¬ (x.toNat : Int) ≤ 102) := by omega
        have hw2 : ¬ (65 : Int) ≤ (x.toNat : Int) ∨ ((65 : Int) ≤ (x.toNat : Int) ∧ ¬ (x.toNat : Int) ≤ 70) := by omega
        clear h2 h3
        rcases hw with r1 | ⟨r1, r1b⟩
        all_goals rcases hw2 with r2 | ⟨r2, r2b⟩
        all_goals first
          | (exfalso; omega)
          | (go_enter Try.func103, Try.ntmps103
             go_wp2_with (go_at_call 45; refine (ldigit_any _ _).mono ?_; rintro e w' ⟨rfl, rfl⟩)
             go_ret
             exact ⟨ret_int (by rw [HR.out]; rfl), rfl⟩)
theorem lcode1_any (x : UInt16) (w : World) : Calls Try.prog 102 #[.int .u16 (x.toNat : Int)] w fun e w' => e = .returned (.bool (isHex x)) ∧ w = w' := by
  go_enter Try.func102, Try.ntmps102
  go_wp2_with (go_at_call 103; refine (lhex_any _ _).mono ?_; rintro e w' ⟨rfl, rfl⟩)
  go_ret
  exact ⟨ret_bool (by unfold isHex; exact decide_eq_decide.2 (by omega)), rfl⟩
end Go.Proofs.Ytngcikgjdeomdaa
