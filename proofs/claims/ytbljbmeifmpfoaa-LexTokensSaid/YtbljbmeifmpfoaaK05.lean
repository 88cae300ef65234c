/- Joined for a claim: LexSmall. -/
import Derived.Test.YtbljbmeifmpfoaaK04
namespace Go.Proofs.Ytbljbmeifmpfoaa
open Go.RowKit

theorem lletter_any (x : UInt16) (w : World) : Calls Try.prog 22 #[.int .u16 (x.toNat : Int)] w fun e w' => e = .returned (.bool (isLet x)) ∧ w = w' := by
  have h1 := x.toNat_lt
  go_enter Try.func22, Try.ntmps22
  go_wp2
  all_goals go_ret
  all_goals refine ⟨ret_bool ?_, rfl⟩
  all_goals (rw [Bool.eq_iff_iff]; simp only [isLet, Bool.and_eq_true, Bool.or_eq_true, beq_iff_eq, decide_eq_true_eq, true_iff]; omega)
theorem ldigit_any (x : UInt16) (w : World) : Calls Try.prog 24 #[.int .u16 (x.toNat : Int)] w fun e w' => e = .returned (.bool (isDigit x)) ∧ w = w' := by
  have h1 := x.toNat_lt
  go_enter Try.func24, Try.ntmps24
  go_wp2
  all_goals go_ret
  all_goals refine ⟨ret_bool ?_, rfl⟩
  all_goals (rw [Bool.eq_iff_iff]; simp only [isDigit, Bool.and_eq_true, decide_eq_true_eq, Bool.false_eq_true, false_iff]; omega)
theorem lblank_any (x : UInt16) (w : World) : Calls Try.prog 18 #[.int .u16 (x.toNat : Int)] w fun e w' => e = .returned (.bool (isBl x)) ∧ w = w' := by
  have h1 := x.toNat_lt
  go_enter Try.func18, Try.ntmps18
  go_wp2
  all_goals go_ret
  all_goals refine ⟨ret_bool ?_, rfl⟩
  all_goals (rw [Bool.eq_iff_iff]; simp [isBl]; omega)
theorem lline_any (x : UInt16) (w : World) : Calls Try.prog 19 #[.int .u16 (x.toNat : Int)] w fun e w' => e = .returned (.bool (isLine x)) ∧ w = w' := by
  have h1 := x.toNat_lt
  go_enter Try.func19, Try.ntmps19
  go_wp2
  all_goals go_ret
  all_goals refine ⟨ret_bool ?_, rfl⟩
  all_goals (rw [Bool.eq_iff_iff]; simp [isLine]; omega)
theorem lparts_any (x : UInt16) (w : World) : Calls Try.prog 39 #[.int .u16 (x.toNat : Int)] w fun e w' => e = .returned (.bool (isFar x)) ∧ w = w' := by
  have h1 := x.toNat_lt
  go_enter Try.func39, Try.ntmps39
  go_wp2
  all_goals go_ret
  all_goals refine ⟨ret_bool ?_, rfl⟩
  all_goals (rw [Bool.eq_iff_iff]; simp [isFar]; omega)
theorem lleft_any (b : Bool) (w : World) : Calls Try.prog 38 #[.bool b] w fun e w' => e = .returned (.int .i64 (leftF b : Nat)) ∧ w = w' := by
  cases b
  all_goals
    go_enter Try.func38, Try.ntmps38
    go_wp2
    go_ret
    exact ⟨rfl, rfl⟩
theorem lrun1_any (x : UInt16) (w : World) : Calls Try.prog 41 #[.int .u16 (x.toNat : Int)] w fun e w' => e = .returned (.bool (isRun x)) ∧ w = w' := by
  cases hl : isLet x with
  | true =>
    have HR := hide (show isRun x = true by simp [isRun, hl])
    go_enter Try.func41, Try.ntmps41
    go_wp2_with (go_at_call 22; refine (lletter_any _ _).mono ?_; rintro e w' ⟨rfl, rfl⟩)
    go_ret
    exact ⟨ret_bool HR.out.symm, rfl⟩
  | false =>
    have HR := hide (show isRun x = isDigit x by simp [isRun, hl])
    go_enter Try.func41, Try.ntmps41
    go_wp2_with (first | (go_at_call 22; refine (lletter_any _ _).mono ?_; rintro e w' ⟨rfl, rfl⟩) | (go_at_call 24; refine (ldigit_any _ _).mono ?_; rintro e w' ⟨rfl, rfl⟩))
    go_ret
    exact ⟨ret_bool HR.out.symm, rfl⟩
theorem lhex_any (x : UInt16) (w : World) : Calls Try.prog 91 #[.int .u16 (x.toNat : Int)] w fun e w' => e = .returned (.int .u16 (hexF x : Nat)) ∧ w = w' := by
  have h1 := x.toNat_lt
  cases hd : isDigit x with
  | true =>
    have hdd := isDigit_iff.1 hd
    have HR := hide (show hexF x = x.toNat - 48 by rw [hexF, if_pos hd])
    go_enter Try.func91, Try.ntmps91
    go_wp2_with (go_at_call 24; refine (ldigit_any _ _).mono ?_; rintro e w' ⟨rfl, rfl⟩)
    go_ret
    exact ⟨ret_int (by rw [HR.out]; omega), rfl⟩
  | false =>
    by_cases h2 : 97 ≤ x.toNat ∧ x.toNat ≤ 102
    · have HR := hide (show hexF x = x.toNat - 87 by rw [hexF, if_neg (by rw [hd]; simp), if_pos h2])
      obtain ⟨h2, h3⟩ := h2
      go_enter Try.func91, Try.ntmps91
      go_wp2_with (go_at_call 24; refine (ldigit_any _ _).mono ?_; rintro e w' ⟨rfl, rfl⟩)
      go_ret
      exact ⟨ret_int (by rw [HR.out]; omega), rfl⟩
    · by_cases h3 : 65 ≤ x.toNat ∧ x.toNat ≤ 70
      · have HR := hide (show hexF x = x.toNat - 55 by rw [hexF, if_neg (by rw [hd]; simp), if_neg h2, if_pos h3])
        obtain ⟨h3, h4⟩ := h3
        have h5 : ¬ (97 : Int) ≤ (x.toNat : Int) := by omega
        clear h2
        go_enter Try.func91, Try.ntmps91
        go_wp2_with (go_at_call 24; refine (ldigit_any _ _).mono ?_; rintro e w' ⟨rfl, rfl⟩)
        go_ret
        exact ⟨ret_int (by rw [HR.out]; omega), rfl⟩
      · have HR := hide (show hexF x = 16 by rw [hexF, if_neg (by rw [hd]; simp), if_neg h2, if_neg h3])
        have hw : ¬ (97 : Int) ≤ (x.toNat : Int) ∨ ((97 : Int) ≤ (x.toNat : Int) ∧ ¬ (x.toNat : Int) ≤ 102) := by omega
        have hw2 : ¬ (65 : Int) ≤ (x.toNat : Int) ∨ ((65 : Int) ≤ (x.toNat : Int) ∧ ¬ (x.toNat : Int) ≤ 70) := by omega
        clear h2 h3
        rcases hw with r1 | ⟨r1, r1b⟩
        all_goals rcases hw2 with r2 | ⟨r2, r2b⟩
        all_goals first
          | (exfalso; omega)
          | (go_enter Try.func91, Try.ntmps91
             go_wp2_with (go_at_call 24; refine (ldigit_any _ _).mono ?_; rintro e w' ⟨rfl, rfl⟩)
             go_ret
             exact ⟨ret_int (by rw [HR.out]; rfl), rfl⟩)
theorem lcode1_any (x : UInt16) (w : World) : Calls Try.prog 90 #[.int .u16 (x.toNat : Int)] w fun e w' => e = .returned (.bool (isHex x)) ∧ w = w' := by
  go_enter Try.func90, Try.ntmps90
  go_wp2_with (go_at_call 91; refine (lhex_any _ _).mono ?_; rintro e w' ⟨rfl, rfl⟩)
  go_ret
  exact ⟨ret_bool (by unfold isHex; exact decide_eq_decide.2 (by omega)), rfl⟩
end Go.Proofs.Ytbljbmeifmpfoaa
