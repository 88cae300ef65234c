/- Joined for a claim: LexSmall. -/
import Derived.Test.YtelcjdblnagdgaaDoorM05
import Derived.Test.YtelcjdblnagdgaaDoorM01
namespace Go.Proofs.YtelcjdblnagdgaaDoor
open Go.RowKit

theorem lletter_any (x : UInt16) (w : World) : Calls Tryd.prog 74 #[.int .u16 (x.toNat : Int)] w fun e w' => e = .returned (.bool (isLet x)) ∧ w = w' := by
  have h1 := x.toNat_lt
  go_enter Tryd.func74, Tryd.ntmps74
  go_wp2
  all_goals go_ret
  all_goals refine ⟨ret_bool ?_, rfl⟩
  all_goals (rw [Bool.eq_iff_iff]; simp only [isLet, Bool.and_eq_true, Bool.or_eq_true, beq_iff_eq, decide_eq_true_eq, true_iff]; omega)
theorem ldigit_any (x : UInt16) (w : World) : Calls Tryd.prog 75 #[.int .u16 (x.toNat : Int)] w fun e w' => e = .returned (.bool (isDigit x)) ∧ w = w' := by
  have h1 := x.toNat_lt
  go_enter Tryd.func75, Tryd.ntmps75
  go_wp2
  all_goals go_ret
  all_goals refine ⟨ret_bool ?_, rfl⟩
  all_goals (rw [Bool.eq_iff_iff]; simp only [isDigit, Bool.and_eq_true, decide_eq_true_eq, Bool.false_eq_true, false_iff]; omega)
end Go.Proofs.YtelcjdblnagdgaaDoor
