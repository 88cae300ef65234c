/- Joined for a claim: Small. -/
import Derived.Test.YtbljbmeifmpfoaaK01
namespace Go.Proofs.Ytbljbmeifmpfoaa
open Go.RowKit


theorem digit_any (x : UInt16) (w : World) : Calls Try.prog 65 #[.int .u16 (x.toNat : Int)] w fun e w' => e = .returned (.bool (isDigit x)) ∧ w = w' := by
  have h1 := x.toNat_lt
  go_enter Try.func65, Try.ntmps65
  go_wp2
  all_goals go_ret
  all_goals refine ⟨ret_bool ?_, rfl⟩
  all_goals (rw [Bool.eq_iff_iff]; simp only [isDigit, Bool.and_eq_true, decide_eq_true_eq, Bool.false_eq_true, false_iff]; omega)
theorem blank_any (x : UInt16) (w : World) : Calls Try.prog 60 #[.int .u16 (x.toNat : Int)] w fun e w' => e = .returned (.bool (isBlank x)) ∧ w = w' := by
  have h1 := x.toNat_lt
  go_enter Try.func60, Try.ntmps60
  go_wp2
  all_goals go_ret
  all_goals refine ⟨ret_bool ?_, rfl⟩
  all_goals (rw [Bool.eq_iff_iff]; simp [isBlank]; omega)

theorem neg_nan (w : World) : Calls Try.prog 67 #[.agg #[.int .i64 2, .int .i64 0]] w fun e w' => e = .returned (.agg #[.int .i64 2, .int .i64 0]) ∧ Below w.heap.size w w' := by
  go_enter Try.func67, Try.ntmps67
  go_wp2
  go_returns
  exact ⟨rfl, by go_grown⟩
theorem neg_inf (w : World) : Calls Try.prog 67 #[.agg #[.int .i64 3, .int .i64 0]] w fun e w' => e = .returned (.agg #[.int .i64 4, .int .i64 0]) ∧ Below w.heap.size w w' := by
  go_enter Try.func67, Try.ntmps67
  go_wp2
  go_returns
  exact ⟨rfl, by go_grown⟩
theorem neg_nought (w : World) : Calls Try.prog 67 #[.agg #[.int .i64 0, .int .i64 0]] w fun e w' => e = .returned (.agg #[.int .i64 1, .int .i64 0]) ∧ Below w.heap.size w w' := by
  go_enter Try.func67, Try.ntmps67
  go_wp2
  go_returns
  exact ⟨rfl, by go_grown⟩
theorem neg_whole (n : Int) (h0 : 0 < n) (h1 : n ≤ 9007199254740991) (w : World) : Calls Try.prog 67 #[.agg #[.int .i64 0, .int .i64 n]] w fun e w' => e = .returned (.agg #[.int .i64 0, .int .i64 (-n)]) ∧ Below w.heap.size w w' := by
  have e0 : (n == 0) = false := beq_eq_false_iff_ne.2 (by omega)
  have e1 : (-9007199254740991 : Int) ≤ n := by omega
  go_enter Try.func67, Try.ntmps67
  go_wp2
  go_returns
  exact ⟨rfl, by go_grown⟩
end Go.Proofs.Ytbljbmeifmpfoaa
