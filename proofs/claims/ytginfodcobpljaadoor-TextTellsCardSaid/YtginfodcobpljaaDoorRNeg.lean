/- renref1.Neg at the numbers that are told, walked. No condition. -/
import Derived.Test.YtginfodcobpljaaDoorRTell1
import Derived.Deep.RegionWith
namespace Go.Proofs.YtginfodcobpljaaDoor
open Go.RowKit

theorem r3neg_nan (w : World) : Calls Tryd.prog 52 #[.agg #[.int .i64 2, .int .i64 0]] w fun e w' => e = .returned (.agg #[.int .i64 2, .int .i64 0]) ∧ Below w.heap.size w w' := by
  go_enter Tryd.func52, Tryd.ntmps52
  go_wp2
  go_returns
  exact ⟨rfl, by go_grown⟩
set_option maxHeartbeats 8000000 in
set_option maxRecDepth 100000 in
theorem r3neg_inf (w : World) : Calls Tryd.prog 52 #[.agg #[.int .i64 3, .int .i64 0]] w fun e w' => e = .returned (.agg #[.int .i64 4, .int .i64 0]) ∧ Below w.heap.size w w' := by
  go_enter Tryd.func52, Tryd.ntmps52
  go_wp2
  go_region_calls
  all_goals go_wp2
  all_goals go_returns
  all_goals exact ⟨rfl, by go_grown⟩
set_option maxHeartbeats 8000000 in
set_option maxRecDepth 100000 in
theorem r3neg_nought (w : World) : Calls Tryd.prog 52 #[.agg #[.int .i64 0, .int .i64 0]] w fun e w' => e = .returned (.agg #[.int .i64 1, .int .i64 0]) ∧ Below w.heap.size w w' := by
  go_enter Tryd.func52, Tryd.ntmps52
  go_wp2
  go_region_calls
  all_goals go_wp2
  all_goals go_returns
  all_goals exact ⟨rfl, by go_grown⟩
theorem r3neg_whole (n : Int) (h0 : 0 < n) (h1 : n ≤ 9007199254740991) (w : World) : Calls Tryd.prog 52 #[.agg #[.int .i64 0, .int .i64 n]] w fun e w' => e = .returned (.agg #[.int .i64 0, .int .i64 (-n)]) ∧ Below w.heap.size w w' := by
  have e0 : (n == 0) = false := beq_eq_false_iff_ne.2 (by omega)
  have e1 : (-9007199254740991 : Int) ≤ n := by omega
  have e2 : ¬ n < 0 := by omega
  go_enter Tryd.func52, Tryd.ntmps52
  go_wp2
  go_returns
  exact ⟨rfl, by go_grown⟩
end Go.Proofs.YtginfodcobpljaaDoor
