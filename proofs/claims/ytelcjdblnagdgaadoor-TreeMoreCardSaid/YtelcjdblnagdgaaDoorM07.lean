/- Joined for a claim: LexWords. -/
import Derived.Test.YtelcjdblnagdgaaDoorM06
namespace Go.Proofs.YtelcjdblnagdgaaDoor
open Go.RowKit

theorem txt_eq (s : ByteArray) (l : List UInt8) : (s.toList == l) = decide (s.data.toList = l) := by
  rw [Bool.eq_iff_iff, decide_eq_true_eq, beq_iff_eq, ByteArray.toList_eq]
theorem txt_of {s : ByteArray} {l : List UInt8} (h : s.data.toList = l) : s = ⟨l.toArray⟩ := by
  cases s with
  | mk d => simp only at h; subst h; simp
theorem lword_0_0 (w : World) : Calls Tryd.prog 73 #[.string ⟨#[98, 114, 101, 97, 107]⟩] w fun e w' => e = .returned (.int .i64 1) ∧ w = w' := by
  go_enter Tryd.func73, Tryd.ntmps73
  go_wp2
  go_ret
  exact ⟨rfl, rfl⟩
theorem lword_0_1 (w : World) : Calls Tryd.prog 73 #[.string ⟨#[99, 97, 116, 99, 104]⟩] w fun e w' => e = .returned (.int .i64 1) ∧ w = w' := by
  go_enter Tryd.func73, Tryd.ntmps73
  go_wp2
  go_ret
  exact ⟨rfl, rfl⟩
theorem lword_0_2 (w : World) : Calls Tryd.prog 73 #[.string ⟨#[99, 111, 110, 115, 116]⟩] w fun e w' => e = .returned (.int .i64 1) ∧ w = w' := by
  go_enter Tryd.func73, Tryd.ntmps73
  go_wp2
  go_ret
  exact ⟨rfl, rfl⟩
theorem lword_0_3 (w : World) : Calls Tryd.prog 73 #[.string ⟨#[99, 111, 110, 116, 105, 110, 117, 101]⟩] w fun e w' => e = .returned (.int .i64 1) ∧ w = w' := by
  go_enter Tryd.func73, Tryd.ntmps73
  go_wp2
  go_ret
  exact ⟨rfl, rfl⟩
theorem lword_0_4 (w : World) : Calls Tryd.prog 73 #[.string ⟨#[101, 108, 115, 101]⟩] w fun e w' => e = .returned (.int .i64 1) ∧ w = w' := by
  go_enter Tryd.func73, Tryd.ntmps73
  go_wp2
  go_ret
  exact ⟨rfl, rfl⟩
theorem lword_0_5 (w : World) : Calls Tryd.prog 73 #[.string ⟨#[102, 97, 108, 115, 101]⟩] w fun e w' => e = .returned (.int .i64 1) ∧ w = w' := by
  go_enter Tryd.func73, Tryd.ntmps73
  go_wp2
  go_ret
  exact ⟨rfl, rfl⟩
theorem lword_0_6 (w : World) : Calls Tryd.prog 73 #[.string ⟨#[102, 105, 110, 97, 108, 108, 121]⟩] w fun e w' => e = .returned (.int .i64 1) ∧ w = w' := by
  go_enter Tryd.func73, Tryd.ntmps73
  go_wp2
  go_ret
  exact ⟨rfl, rfl⟩
theorem lword_0_7 (w : World) : Calls Tryd.prog 73 #[.string ⟨#[102, 111, 114]⟩] w fun e w' => e = .returned (.int .i64 1) ∧ w = w' := by
  go_enter Tryd.func73, Tryd.ntmps73
  go_wp2
  go_ret
  exact ⟨rfl, rfl⟩
theorem lword_0_8 (w : World) : Calls Tryd.prog 73 #[.string ⟨#[102, 117, 110, 99, 116, 105, 111, 110]⟩] w fun e w' => e = .returned (.int .i64 1) ∧ w = w' := by
  go_enter Tryd.func73, Tryd.ntmps73
  go_wp2
  go_ret
  exact ⟨rfl, rfl⟩
theorem lword_0_9 (w : World) : Calls Tryd.prog 73 #[.string ⟨#[105, 102]⟩] w fun e w' => e = .returned (.int .i64 1) ∧ w = w' := by
  go_enter Tryd.func73, Tryd.ntmps73
  go_wp2
  go_ret
  exact ⟨rfl, rfl⟩
theorem lword_0_10 (w : World) : Calls Tryd.prog 73 #[.string ⟨#[105, 110]⟩] w fun e w' => e = .returned (.int .i64 1) ∧ w = w' := by
  go_enter Tryd.func73, Tryd.ntmps73
  go_wp2
  go_ret
  exact ⟨rfl, rfl⟩
theorem lword_0_11 (w : World) : Calls Tryd.prog 73 #[.string ⟨#[108, 101, 116]⟩] w fun e w' => e = .returned (.int .i64 1) ∧ w = w' := by
  go_enter Tryd.func73, Tryd.ntmps73
  go_wp2
  go_ret
  exact ⟨rfl, rfl⟩
theorem lword_0_12 (w : World) : Calls Tryd.prog 73 #[.string ⟨#[110, 101, 119]⟩] w fun e w' => e = .returned (.int .i64 1) ∧ w = w' := by
  go_enter Tryd.func73, Tryd.ntmps73
  go_wp2
  go_ret
  exact ⟨rfl, rfl⟩
theorem lword_0_13 (w : World) : Calls Tryd.prog 73 #[.string ⟨#[110, 117, 108, 108]⟩] w fun e w' => e = .returned (.int .i64 1) ∧ w = w' := by
  go_enter Tryd.func73, Tryd.ntmps73
  go_wp2
  go_ret
  exact ⟨rfl, rfl⟩
theorem lword_0_14 (w : World) : Calls Tryd.prog 73 #[.string ⟨#[114, 101, 116, 117, 114, 110]⟩] w fun e w' => e = .returned (.int .i64 1) ∧ w = w' := by
  go_enter Tryd.func73, Tryd.ntmps73
  go_wp2
  go_ret
  exact ⟨rfl, rfl⟩
theorem lword_0_15 (w : World) : Calls Tryd.prog 73 #[.string ⟨#[116, 104, 105, 115]⟩] w fun e w' => e = .returned (.int .i64 1) ∧ w = w' := by
  go_enter Tryd.func73, Tryd.ntmps73
  go_wp2
  go_ret
  exact ⟨rfl, rfl⟩
theorem lword_0_16 (w : World) : Calls Tryd.prog 73 #[.string ⟨#[116, 104, 114, 111, 119]⟩] w fun e w' => e = .returned (.int .i64 1) ∧ w = w' := by
  go_enter Tryd.func73, Tryd.ntmps73
  go_wp2
  go_ret
  exact ⟨rfl, rfl⟩
theorem lword_0_17 (w : World) : Calls Tryd.prog 73 #[.string ⟨#[116, 114, 117, 101]⟩] w fun e w' => e = .returned (.int .i64 1) ∧ w = w' := by
  go_enter Tryd.func73, Tryd.ntmps73
  go_wp2
  go_ret
  exact ⟨rfl, rfl⟩
theorem lword_0_18 (w : World) : Calls Tryd.prog 73 #[.string ⟨#[116, 114, 121]⟩] w fun e w' => e = .returned (.int .i64 1) ∧ w = w' := by
  go_enter Tryd.func73, Tryd.ntmps73
  go_wp2
  go_ret
  exact ⟨rfl, rfl⟩
theorem lword_0_19 (w : World) : Calls Tryd.prog 73 #[.string ⟨#[116, 121, 112, 101, 111, 102]⟩] w fun e w' => e = .returned (.int .i64 1) ∧ w = w' := by
  go_enter Tryd.func73, Tryd.ntmps73
  go_wp2
  go_ret
  exact ⟨rfl, rfl⟩
theorem lword_0_20 (w : World) : Calls Tryd.prog 73 #[.string ⟨#[118, 111, 105, 100]⟩] w fun e w' => e = .returned (.int .i64 1) ∧ w = w' := by
  go_enter Tryd.func73, Tryd.ntmps73
  go_wp2
  go_ret
  exact ⟨rfl, rfl⟩
theorem lword_0_21 (w : World) : Calls Tryd.prog 73 #[.string ⟨#[119, 104, 105, 108, 101]⟩] w fun e w' => e = .returned (.int .i64 1) ∧ w = w' := by
  go_enter Tryd.func73, Tryd.ntmps73
  go_wp2
  go_ret
  exact ⟨rfl, rfl⟩
theorem lword_1_0 (w : World) : Calls Tryd.prog 73 #[.string ⟨#[97, 114, 103, 117, 109, 101, 110, 116, 115]⟩] w fun e w' => e = .returned (.int .i64 2) ∧ w = w' := by
  go_enter Tryd.func73, Tryd.ntmps73
  go_wp2
  go_ret
  exact ⟨rfl, rfl⟩
theorem lword_1_1 (w : World) : Calls Tryd.prog 73 #[.string ⟨#[97, 115, 121, 110, 99]⟩] w fun e w' => e = .returned (.int .i64 2) ∧ w = w' := by
  go_enter Tryd.func73, Tryd.ntmps73
  go_wp2
  go_ret
  exact ⟨rfl, rfl⟩
theorem lword_1_2 (w : World) : Calls Tryd.prog 73 #[.string ⟨#[97, 119, 97, 105, 116]⟩] w fun e w' => e = .returned (.int .i64 2) ∧ w = w' := by
  go_enter Tryd.func73, Tryd.ntmps73
  go_wp2
  go_ret
  exact ⟨rfl, rfl⟩
theorem lword_1_3 (w : World) : Calls Tryd.prog 73 #[.string ⟨#[99, 97, 115, 101]⟩] w fun e w' => e = .returned (.int .i64 2) ∧ w = w' := by
  go_enter Tryd.func73, Tryd.ntmps73
  go_wp2
  go_ret
  exact ⟨rfl, rfl⟩
theorem lword_1_4 (w : World) : Calls Tryd.prog 73 #[.string ⟨#[99, 108, 97, 115, 115]⟩] w fun e w' => e = .returned (.int .i64 2) ∧ w = w' := by
  go_enter Tryd.func73, Tryd.ntmps73
  go_wp2
  go_ret
  exact ⟨rfl, rfl⟩
theorem lword_1_5 (w : World) : Calls Tryd.prog 73 #[.string ⟨#[100, 101, 98, 117, 103, 103, 101, 114]⟩] w fun e w' => e = .returned (.int .i64 2) ∧ w = w' := by
  go_enter Tryd.func73, Tryd.ntmps73
  go_wp2
  go_ret
  exact ⟨rfl, rfl⟩
theorem lword_1_6 (w : World) : Calls Tryd.prog 73 #[.string ⟨#[100, 101, 102, 97, 117, 108, 116]⟩] w fun e w' => e = .returned (.int .i64 2) ∧ w = w' := by
  go_enter Tryd.func73, Tryd.ntmps73
  go_wp2
  go_ret
  exact ⟨rfl, rfl⟩
theorem lword_1_7 (w : World) : Calls Tryd.prog 73 #[.string ⟨#[100, 101, 108, 101, 116, 101]⟩] w fun e w' => e = .returned (.int .i64 2) ∧ w = w' := by
  go_enter Tryd.func73, Tryd.ntmps73
  go_wp2
  go_ret
  exact ⟨rfl, rfl⟩
theorem lword_1_8 (w : World) : Calls Tryd.prog 73 #[.string ⟨#[100, 111]⟩] w fun e w' => e = .returned (.int .i64 2) ∧ w = w' := by
  go_enter Tryd.func73, Tryd.ntmps73
  go_wp2
  go_ret
  exact ⟨rfl, rfl⟩
theorem lword_1_9 (w : World) : Calls Tryd.prog 73 #[.string ⟨#[101, 110, 117, 109]⟩] w fun e w' => e = .returned (.int .i64 2) ∧ w = w' := by
  go_enter Tryd.func73, Tryd.ntmps73
  go_wp2
  go_ret
  exact ⟨rfl, rfl⟩
theorem lword_1_10 (w : World) : Calls Tryd.prog 73 #[.string ⟨#[101, 118, 97, 108]⟩] w fun e w' => e = .returned (.int .i64 2) ∧ w = w' := by
  go_enter Tryd.func73, Tryd.ntmps73
  go_wp2
  go_ret
  exact ⟨rfl, rfl⟩
theorem lword_1_11 (w : World) : Calls Tryd.prog 73 #[.string ⟨#[101, 120, 112, 111, 114, 116]⟩] w fun e w' => e = .returned (.int .i64 2) ∧ w = w' := by
  go_enter Tryd.func73, Tryd.ntmps73
  go_wp2
  go_ret
  exact ⟨rfl, rfl⟩
theorem lword_1_12 (w : World) : Calls Tryd.prog 73 #[.string ⟨#[101, 120, 116, 101, 110, 100, 115]⟩] w fun e w' => e = .returned (.int .i64 2) ∧ w = w' := by
  go_enter Tryd.func73, Tryd.ntmps73
  go_wp2
  go_ret
  exact ⟨rfl, rfl⟩
theorem lword_1_13 (w : World) : Calls Tryd.prog 73 #[.string ⟨#[105, 109, 112, 108, 101, 109, 101, 110, 116, 115]⟩] w fun e w' => e = .returned (.int .i64 2) ∧ w = w' := by
  go_enter Tryd.func73, Tryd.ntmps73
  go_wp2
  go_ret
  exact ⟨rfl, rfl⟩
theorem lword_1_14 (w : World) : Calls Tryd.prog 73 #[.string ⟨#[105, 109, 112, 111, 114, 116]⟩] w fun e w' => e = .returned (.int .i64 2) ∧ w = w' := by
  go_enter Tryd.func73, Tryd.ntmps73
  go_wp2
  go_ret
  exact ⟨rfl, rfl⟩
theorem lword_1_15 (w : World) : Calls Tryd.prog 73 #[.string ⟨#[105, 110, 115, 116, 97, 110, 99, 101, 111, 102]⟩] w fun e w' => e = .returned (.int .i64 2) ∧ w = w' := by
  go_enter Tryd.func73, Tryd.ntmps73
  go_wp2
  go_ret
  exact ⟨rfl, rfl⟩
theorem lword_1_16 (w : World) : Calls Tryd.prog 73 #[.string ⟨#[105, 110, 116, 101, 114, 102, 97, 99, 101]⟩] w fun e w' => e = .returned (.int .i64 2) ∧ w = w' := by
  go_enter Tryd.func73, Tryd.ntmps73
  go_wp2
  go_ret
  exact ⟨rfl, rfl⟩
theorem lword_1_17 (w : World) : Calls Tryd.prog 73 #[.string ⟨#[112, 97, 99, 107, 97, 103, 101]⟩] w fun e w' => e = .returned (.int .i64 2) ∧ w = w' := by
  go_enter Tryd.func73, Tryd.ntmps73
  go_wp2
  go_ret
  exact ⟨rfl, rfl⟩
theorem lword_1_18 (w : World) : Calls Tryd.prog 73 #[.string ⟨#[112, 114, 105, 118, 97, 116, 101]⟩] w fun e w' => e = .returned (.int .i64 2) ∧ w = w' := by
  go_enter Tryd.func73, Tryd.ntmps73
  go_wp2
  go_ret
  exact ⟨rfl, rfl⟩
theorem lword_1_19 (w : World) : Calls Tryd.prog 73 #[.string ⟨#[112, 114, 111, 116, 101, 99, 116, 101, 100]⟩] w fun e w' => e = .returned (.int .i64 2) ∧ w = w' := by
  go_enter Tryd.func73, Tryd.ntmps73
  go_wp2
  go_ret
  exact ⟨rfl, rfl⟩
theorem lword_1_20 (w : World) : Calls Tryd.prog 73 #[.string ⟨#[112, 117, 98, 108, 105, 99]⟩] w fun e w' => e = .returned (.int .i64 2) ∧ w = w' := by
  go_enter Tryd.func73, Tryd.ntmps73
  go_wp2
  go_ret
  exact ⟨rfl, rfl⟩
theorem lword_1_21 (w : World) : Calls Tryd.prog 73 #[.string ⟨#[115, 116, 97, 116, 105, 99]⟩] w fun e w' => e = .returned (.int .i64 2) ∧ w = w' := by
  go_enter Tryd.func73, Tryd.ntmps73
  go_wp2
  go_ret
  exact ⟨rfl, rfl⟩
theorem lword_1_22 (w : World) : Calls Tryd.prog 73 #[.string ⟨#[115, 117, 112, 101, 114]⟩] w fun e w' => e = .returned (.int .i64 2) ∧ w = w' := by
  go_enter Tryd.func73, Tryd.ntmps73
  go_wp2
  go_ret
  exact ⟨rfl, rfl⟩
theorem lword_1_23 (w : World) : Calls Tryd.prog 73 #[.string ⟨#[115, 119, 105, 116, 99, 104]⟩] w fun e w' => e = .returned (.int .i64 2) ∧ w = w' := by
  go_enter Tryd.func73, Tryd.ntmps73
  go_wp2
  go_ret
  exact ⟨rfl, rfl⟩
theorem lword_1_24 (w : World) : Calls Tryd.prog 73 #[.string ⟨#[118, 97, 114]⟩] w fun e w' => e = .returned (.int .i64 2) ∧ w = w' := by
  go_enter Tryd.func73, Tryd.ntmps73
  go_wp2
  go_ret
  exact ⟨rfl, rfl⟩
theorem lword_1_25 (w : World) : Calls Tryd.prog 73 #[.string ⟨#[119, 105, 116, 104]⟩] w fun e w' => e = .returned (.int .i64 2) ∧ w = w' := by
  go_enter Tryd.func73, Tryd.ntmps73
  go_wp2
  go_ret
  exact ⟨rfl, rfl⟩
theorem lword_1_26 (w : World) : Calls Tryd.prog 73 #[.string ⟨#[121, 105, 101, 108, 100]⟩] w fun e w' => e = .returned (.int .i64 2) ∧ w = w' := by
  go_enter Tryd.func73, Tryd.ntmps73
  go_wp2
  go_ret
  exact ⟨rfl, rfl⟩
set_option maxHeartbeats 8000000 in
set_option maxRecDepth 100000 in
theorem lword_none {s : ByteArray} (h1 : s.data.toList ∉ wordsIn) (h2 : s.data.toList ∉ wordsOut) (w : World) : Calls Tryd.prog 73 #[.string s] w fun e w' => e = .returned (.int .i64 0) ∧ w = w' := by
  have f0_0 : (s.toList == [98, 114, 101, 97, 107]) = false := by rw [txt_eq]; exact decide_eq_false fun h => h1 (by rw [h]; decide)
  have f0_1 : (s.toList == [99, 97, 116, 99, 104]) = false := by rw [txt_eq]; exact decide_eq_false fun h => h1 (by rw [h]; decide)
  have f0_2 : (s.toList == [99, 111, 110, 115, 116]) = false := by rw [txt_eq]; exact decide_eq_false fun h => h1 (by rw [h]; decide)
  have f0_3 : (s.toList == [99, 111, 110, 116, 105, 110, 117, 101]) = false := by rw [txt_eq]; exact decide_eq_false fun h => h1 (by rw [h]; decide)
  have f0_4 : (s.toList == [101, 108, 115, 101]) = false := by rw [txt_eq]; exact decide_eq_false fun h => h1 (by rw [h]; decide)
  have f0_5 : (s.toList == [102, 97, 108, 115, 101]) = false := by rw [txt_eq]; exact decide_eq_false fun h => h1 (by rw [h]; decide)
  have f0_6 : (s.toList == [102, 105, 110, 97, 108, 108, 121]) = false := by rw [txt_eq]; exact decide_eq_false fun h => h1 (by rw [h]; decide)
  have f0_7 : (s.toList == [102, 111, 114]) = false := by rw [txt_eq]; exact decide_eq_false fun h => h1 (by rw [h]; decide)
  have f0_8 : (s.toList == [102, 117, 110, 99, 116, 105, 111, 110]) = false := by rw [txt_eq]; exact decide_eq_false fun h => h1 (by rw [h]; decide)
  have f0_9 : (s.toList == [105, 102]) = false := by rw [txt_eq]; exact decide_eq_false fun h => h1 (by rw [h]; decide)
  have f0_10 : (s.toList == [105, 110]) = false := by rw [txt_eq]; exact decide_eq_false fun h => h1 (by rw [h]; decide)
  have f0_11 : (s.toList == [108, 101, 116]) = false := by rw [txt_eq]; exact decide_eq_false fun h => h1 (by rw [h]; decide)
  have f0_12 : (s.toList == [110, 101, 119]) = false := by rw [txt_eq]; exact decide_eq_false fun h => h1 (by rw [h]; decide)
  have f0_13 : (s.toList == [110, 117, 108, 108]) = false := by rw [txt_eq]; exact decide_eq_false fun h => h1 (by rw [h]; decide)
  have f0_14 : (s.toList == [114, 101, 116, 117, 114, 110]) = false := by rw [txt_eq]; exact decide_eq_false fun h => h1 (by rw [h]; decide)
  have f0_15 : (s.toList == [116, 104, 105, 115]) = false := by rw [txt_eq]; exact decide_eq_false fun h => h1 (by rw [h]; decide)
  have f0_16 : (s.toList == [116, 104, 114, 111, 119]) = false := by rw [txt_eq]; exact decide_eq_false fun h => h1 (by rw [h]; decide)
  have f0_17 : (s.toList == [116, 114, 117, 101]) = false := by rw [txt_eq]; exact decide_eq_false fun h => h1 (by rw [h]; decide)
  have f0_18 : (s.toList == [116, 114, 121]) = false := by rw [txt_eq]; exact decide_eq_false fun h => h1 (by rw [h]; decide)
  have f0_19 : (s.toList == [116, 121, 112, 101, 111, 102]) = false := by rw [txt_eq]; exact decide_eq_false fun h => h1 (by rw [h]; decide)
  have f0_20 : (s.toList == [118, 111, 105, 100]) = false := by rw [txt_eq]; exact decide_eq_false fun h => h1 (by rw [h]; decide)
  have f0_21 : (s.toList == [119, 104, 105, 108, 101]) = false := by rw [txt_eq]; exact decide_eq_false fun h => h1 (by rw [h]; decide)
  have f1_0 : (s.toList == [97, 114, 103, 117, 109, 101, 110, 116, 115]) = false := by rw [txt_eq]; exact decide_eq_false fun h => h2 (by rw [h]; decide)
  have f1_1 : (s.toList == [97, 115, 121, 110, 99]) = false := by rw [txt_eq]; exact decide_eq_false fun h => h2 (by rw [h]; decide)
  have f1_2 : (s.toList == [97, 119, 97, 105, 116]) = false := by rw [txt_eq]; exact decide_eq_false fun h => h2 (by rw [h]; decide)
  have f1_3 : (s.toList == [99, 97, 115, 101]) = false := by rw [txt_eq]; exact decide_eq_false fun h => h2 (by rw [h]; decide)
  have f1_4 : (s.toList == [99, 108, 97, 115, 115]) = false := by rw [txt_eq]; exact decide_eq_false fun h => h2 (by rw [h]; decide)
  have f1_5 : (s.toList == [100, 101, 98, 117, 103, 103, 101, 114]) = false := by rw [txt_eq]; exact decide_eq_false fun h => h2 (by rw [h]; decide)
  have f1_6 : (s.toList == [100, 101, 102, 97, 117, 108, 116]) = false := by rw [txt_eq]; exact decide_eq_false fun h => h2 (by rw [h]; decide)
  have f1_7 : (s.toList == [100, 101, 108, 101, 116, 101]) = false := by rw [txt_eq]; exact decide_eq_false fun h => h2 (by rw [h]; decide)
  have f1_8 : (s.toList == [100, 111]) = false := by rw [txt_eq]; exact decide_eq_false fun h => h2 (by rw [h]; decide)
  have f1_9 : (s.toList == [101, 110, 117, 109]) = false := by rw [txt_eq]; exact decide_eq_false fun h => h2 (by rw [h]; decide)
  have f1_10 : (s.toList == [101, 118, 97, 108]) = false := by rw [txt_eq]; exact decide_eq_false fun h => h2 (by rw [h]; decide)
  have f1_11 : (s.toList == [101, 120, 112, 111, 114, 116]) = false := by rw [txt_eq]; exact decide_eq_false fun h => h2 (by rw [h]; decide)
  have f1_12 : (s.toList == [101, 120, 116, 101, 110, 100, 115]) = false := by rw [txt_eq]; exact decide_eq_false fun h => h2 (by rw [h]; decide)
  have f1_13 : (s.toList == [105, 109, 112, 108, 101, 109, 101, 110, 116, 115]) = false := by rw [txt_eq]; exact decide_eq_false fun h => h2 (by rw [h]; decide)
  have f1_14 : (s.toList == [105, 109, 112, 111, 114, 116]) = false := by rw [txt_eq]; exact decide_eq_false fun h => h2 (by rw [h]; decide)
  have f1_15 : (s.toList == [105, 110, 115, 116, 97, 110, 99, 101, 111, 102]) = false := by rw [txt_eq]; exact decide_eq_false fun h => h2 (by rw [h]; decide)
  have f1_16 : (s.toList == [105, 110, 116, 101, 114, 102, 97, 99, 101]) = false := by rw [txt_eq]; exact decide_eq_false fun h => h2 (by rw [h]; decide)
  have f1_17 : (s.toList == [112, 97, 99, 107, 97, 103, 101]) = false := by rw [txt_eq]; exact decide_eq_false fun h => h2 (by rw [h]; decide)
  have f1_18 : (s.toList == [112, 114, 105, 118, 97, 116, 101]) = false := by rw [txt_eq]; exact decide_eq_false fun h => h2 (by rw [h]; decide)
  have f1_19 : (s.toList == [112, 114, 111, 116, 101, 99, 116, 101, 100]) = false := by rw [txt_eq]; exact decide_eq_false fun h => h2 (by rw [h]; decide)
  have f1_20 : (s.toList == [112, 117, 98, 108, 105, 99]) = false := by rw [txt_eq]; exact decide_eq_false fun h => h2 (by rw [h]; decide)
  have f1_21 : (s.toList == [115, 116, 97, 116, 105, 99]) = false := by rw [txt_eq]; exact decide_eq_false fun h => h2 (by rw [h]; decide)
  have f1_22 : (s.toList == [115, 117, 112, 101, 114]) = false := by rw [txt_eq]; exact decide_eq_false fun h => h2 (by rw [h]; decide)
  have f1_23 : (s.toList == [115, 119, 105, 116, 99, 104]) = false := by rw [txt_eq]; exact decide_eq_false fun h => h2 (by rw [h]; decide)
  have f1_24 : (s.toList == [118, 97, 114]) = false := by rw [txt_eq]; exact decide_eq_false fun h => h2 (by rw [h]; decide)
  have f1_25 : (s.toList == [119, 105, 116, 104]) = false := by rw [txt_eq]; exact decide_eq_false fun h => h2 (by rw [h]; decide)
  have f1_26 : (s.toList == [121, 105, 101, 108, 100]) = false := by rw [txt_eq]; exact decide_eq_false fun h => h2 (by rw [h]; decide)
  clear h1 h2
  go_enter Tryd.func73, Tryd.ntmps73
  go_wp2
  go_ret
  exact ⟨rfl, rfl⟩
theorem lword_any (s : ByteArray) (w : World) : Calls Tryd.prog 73 #[.string s] w fun e w' => e = .returned (.int .i64 (wordF s.data.toList : Nat)) ∧ w = w' := by
  by_cases h1 : s.data.toList ∈ wordsIn
  · rw [show wordF s.data.toList = 1 from if_pos h1]
    simp only [wordsIn, List.mem_cons, List.mem_nil_iff, or_false] at h1
    rcases h1 with h | h | h | h | h | h | h | h | h | h | h | h | h | h | h | h | h | h | h | h | h | h
    · rw [txt_of h]; exact lword_0_0 w
    · rw [txt_of h]; exact lword_0_1 w
    · rw [txt_of h]; exact lword_0_2 w
    · rw [txt_of h]; exact lword_0_3 w
    · rw [txt_of h]; exact lword_0_4 w
    · rw [txt_of h]; exact lword_0_5 w
    · rw [txt_of h]; exact lword_0_6 w
    · rw [txt_of h]; exact lword_0_7 w
    · rw [txt_of h]; exact lword_0_8 w
    · rw [txt_of h]; exact lword_0_9 w
    · rw [txt_of h]; exact lword_0_10 w
    · rw [txt_of h]; exact lword_0_11 w
    · rw [txt_of h]; exact lword_0_12 w
    · rw [txt_of h]; exact lword_0_13 w
    · rw [txt_of h]; exact lword_0_14 w
    · rw [txt_of h]; exact lword_0_15 w
    · rw [txt_of h]; exact lword_0_16 w
    · rw [txt_of h]; exact lword_0_17 w
    · rw [txt_of h]; exact lword_0_18 w
    · rw [txt_of h]; exact lword_0_19 w
    · rw [txt_of h]; exact lword_0_20 w
    · rw [txt_of h]; exact lword_0_21 w
  · by_cases h2 : s.data.toList ∈ wordsOut
    · rw [show wordF s.data.toList = 2 by unfold wordF; rw [if_neg h1, if_pos h2]]
      simp only [wordsOut, List.mem_cons, List.mem_nil_iff, or_false] at h2
      rcases h2 with h | h | h | h | h | h | h | h | h | h | h | h | h | h | h | h | h | h | h | h | h | h | h | h | h | h | h
      · rw [txt_of h]; exact lword_1_0 w
      · rw [txt_of h]; exact lword_1_1 w
      · rw [txt_of h]; exact lword_1_2 w
      · rw [txt_of h]; exact lword_1_3 w
      · rw [txt_of h]; exact lword_1_4 w
      · rw [txt_of h]; exact lword_1_5 w
      · rw [txt_of h]; exact lword_1_6 w
      · rw [txt_of h]; exact lword_1_7 w
      · rw [txt_of h]; exact lword_1_8 w
      · rw [txt_of h]; exact lword_1_9 w
      · rw [txt_of h]; exact lword_1_10 w
      · rw [txt_of h]; exact lword_1_11 w
      · rw [txt_of h]; exact lword_1_12 w
      · rw [txt_of h]; exact lword_1_13 w
      · rw [txt_of h]; exact lword_1_14 w
      · rw [txt_of h]; exact lword_1_15 w
      · rw [txt_of h]; exact lword_1_16 w
      · rw [txt_of h]; exact lword_1_17 w
      · rw [txt_of h]; exact lword_1_18 w
      · rw [txt_of h]; exact lword_1_19 w
      · rw [txt_of h]; exact lword_1_20 w
      · rw [txt_of h]; exact lword_1_21 w
      · rw [txt_of h]; exact lword_1_22 w
      · rw [txt_of h]; exact lword_1_23 w
      · rw [txt_of h]; exact lword_1_24 w
      · rw [txt_of h]; exact lword_1_25 w
      · rw [txt_of h]; exact lword_1_26 w
    · rw [show wordF s.data.toList = 0 by unfold wordF; rw [if_neg h1, if_neg h2]]
      exact lword_none h1 h2 w
end Go.Proofs.YtelcjdblnagdgaaDoor
