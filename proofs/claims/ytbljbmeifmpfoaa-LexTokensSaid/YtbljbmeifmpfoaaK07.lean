/- Joined for a claim: LexWords. -/
import Derived.Test.YtbljbmeifmpfoaaK05
namespace Go.Proofs.Ytbljbmeifmpfoaa
open Go.RowKit

theorem txt_eq (s : ByteArray) (l : List UInt8) : (s.toList == l) = decide (s.data.toList = l) := by
  rw [Bool.eq_iff_iff, decide_eq_true_eq, beq_iff_eq, ByteArray.toList_eq]
theorem txt_of {s : ByteArray} {l : List UInt8} (h : s.data.toList = l) : s = ⟨l.toArray⟩ := by
  cases s with
  | mk d => simp only at h; subst h; simp
theorem lword_0_0 (w : World) : Calls Try.prog 42 #[.string ⟨#[98, 114, 101, 97, 107]⟩] w fun e w' => e = .returned (.int .i64 1) ∧ w = w' := by
  go_enter Try.func42, Try.ntmps42
  go_wp2
  go_ret
  exact ⟨rfl, rfl⟩
theorem lword_0_1 (w : World) : Calls Try.prog 42 #[.string ⟨#[99, 97, 116, 99, 104]⟩] w fun e w' => e = .returned (.int .i64 1) ∧ w = w' := by
  go_enter Try.func42, Try.ntmps42
  go_wp2
  go_ret
  exact ⟨rfl, rfl⟩
theorem lword_0_2 (w : World) : Calls Try.prog 42 #[.string ⟨#[99, 111, 110, 115, 116]⟩] w fun e w' => e = .returned (.int .i64 1) ∧ w = w' := by
  go_enter Try.func42, Try.ntmps42
  go_wp2
  go_ret
  exact ⟨rfl, rfl⟩
theorem lword_0_3 (w : World) : Calls Try.prog 42 #[.string ⟨#[99, 111, 110, 116, 105, 110, 117, 101]⟩] w fun e w' => e = .returned (.int .i64 1) ∧ w = w' := by
  go_enter Try.func42, Try.ntmps42
  go_wp2
  go_ret
  exact ⟨rfl, rfl⟩
theorem lword_0_4 (w : World) : Calls Try.prog 42 #[.string ⟨#[101, 108, 115, 101]⟩] w fun e w' => e = .returned (.int .i64 1) ∧ w = w' := by
  go_enter Try.func42, Try.ntmps42
  go_wp2
  go_ret
  exact ⟨rfl, rfl⟩
theorem lword_0_5 (w : World) : Calls Try.prog 42 #[.string ⟨#[102, 97, 108, 115, 101]⟩] w fun e w' => e = .returned (.int .i64 1) ∧ w = w' := by
  go_enter Try.func42, Try.ntmps42
  go_wp2
  go_ret
  exact ⟨rfl, rfl⟩
theorem lword_0_6 (w : World) : Calls Try.prog 42 #[.string ⟨#[102, 105, 110, 97, 108, 108, 121]⟩] w fun e w' => e = .returned (.int .i64 1) ∧ w = w' := by
  go_enter Try.func42, Try.ntmps42
  go_wp2
  go_ret
  exact ⟨rfl, rfl⟩
theorem lword_0_7 (w : World) : Calls Try.prog 42 #[.string ⟨#[102, 111, 114]⟩] w fun e w' => e = .returned (.int .i64 1) ∧ w = w' := by
  go_enter Try.func42, Try.ntmps42
  go_wp2
  go_ret
  exact ⟨rfl, rfl⟩
theorem lword_0_8 (w : World) : Calls Try.prog 42 #[.string ⟨#[102, 117, 110, 99, 116, 105, 111, 110]⟩] w fun e w' => e = .returned (.int .i64 1) ∧ w = w' := by
  go_enter Try.func42, Try.ntmps42
  go_wp2
  go_ret
  exact ⟨rfl, rfl⟩
theorem lword_0_9 (w : World) : Calls Try.prog 42 #[.string ⟨#[105, 102]⟩] w fun e w' => e = .returned (.int .i64 1) ∧ w = w' := by
  go_enter Try.func42, Try.ntmps42
  go_wp2
  go_ret
  exact ⟨rfl, rfl⟩
theorem lword_0_10 (w : World) : Calls Try.prog 42 #[.string ⟨#[105, 110]⟩] w fun e w' => e = .returned (.int .i64 1) ∧ w = w' := by
  go_enter Try.func42, Try.ntmps42
  go_wp2
  go_ret
  exact ⟨rfl, rfl⟩
theorem lword_0_11 (w : World) : Calls Try.prog 42 #[.string ⟨#[108, 101, 116]⟩] w fun e w' => e = .returned (.int .i64 1) ∧ w = w' := by
  go_enter Try.func42, Try.ntmps42
  go_wp2
  go_ret
  exact ⟨rfl, rfl⟩
theorem lword_0_12 (w : World) : Calls Try.prog 42 #[.string ⟨#[110, 101, 119]⟩] w fun e w' => e = .returned (.int .i64 1) ∧ w = w' := by
  go_enter Try.func42, Try.ntmps42
  go_wp2
  go_ret
  exact ⟨rfl, rfl⟩
theorem lword_0_13 (w : World) : Calls Try.prog 42 #[.string ⟨#[110, 117, 108, 108]⟩] w fun e w' => e = .returned (.int .i64 1) ∧ w = w' := by
  go_enter Try.func42, Try.ntmps42
  go_wp2
  go_ret
  exact ⟨rfl, rfl⟩
theorem lword_0_14 (w : World) : Calls Try.prog 42 #[.string ⟨#[114, 101, 116, 117, 114, 110]⟩] w fun e w' => e = .returned (.int .i64 1) ∧ w = w' := by
  go_enter Try.func42, Try.ntmps42
  go_wp2
  go_ret
  exact ⟨rfl, rfl⟩
theorem lword_0_15 (w : World) : Calls Try.prog 42 #[.string ⟨#[116, 104, 105, 115]⟩] w fun e w' => e = .returned (.int .i64 1) ∧ w = w' := by
  go_enter Try.func42, Try.ntmps42
  go_wp2
  go_ret
  exact ⟨rfl, rfl⟩
theorem lword_0_16 (w : World) : Calls Try.prog 42 #[.string ⟨#[116, 104, 114, 111, 119]⟩] w fun e w' => e = .returned (.int .i64 1) ∧ w = w' := by
  go_enter Try.func42, Try.ntmps42
  go_wp2
  go_ret
  exact ⟨rfl, rfl⟩
theorem lword_0_17 (w : World) : Calls Try.prog 42 #[.string ⟨#[116, 114, 117, 101]⟩] w fun e w' => e = .returned (.int .i64 1) ∧ w = w' := by
  go_enter Try.func42, Try.ntmps42
  go_wp2
  go_ret
  exact ⟨rfl, rfl⟩
theorem lword_0_18 (w : World) : Calls Try.prog 42 #[.string ⟨#[116, 114, 121]⟩] w fun e w' => e = .returned (.int .i64 1) ∧ w = w' := by
  go_enter Try.func42, Try.ntmps42
  go_wp2
  go_ret
  exact ⟨rfl, rfl⟩
theorem lword_0_19 (w : World) : Calls Try.prog 42 #[.string ⟨#[116, 121, 112, 101, 111, 102]⟩] w fun e w' => e = .returned (.int .i64 1) ∧ w = w' := by
  go_enter Try.func42, Try.ntmps42
  go_wp2
  go_ret
  exact ⟨rfl, rfl⟩
theorem lword_0_20 (w : World) : Calls Try.prog 42 #[.string ⟨#[118, 111, 105, 100]⟩] w fun e w' => e = .returned (.int .i64 1) ∧ w = w' := by
  go_enter Try.func42, Try.ntmps42
  go_wp2
  go_ret
  exact ⟨rfl, rfl⟩
theorem lword_0_21 (w : World) : Calls Try.prog 42 #[.string ⟨#[119, 104, 105, 108, 101]⟩] w fun e w' => e = .returned (.int .i64 1) ∧ w = w' := by
  go_enter Try.func42, Try.ntmps42
  go_wp2
  go_ret
  exact ⟨rfl, rfl⟩
theorem lword_1_0 (w : World) : Calls Try.prog 42 #[.string ⟨#[97, 114, 103, 117, 109, 101, 110, 116, 115]⟩] w fun e w' => e = .returned (.int .i64 2) ∧ w = w' := by
  go_enter Try.func42, Try.ntmps42
  go_wp2
  go_ret
  exact ⟨rfl, rfl⟩
theorem lword_1_1 (w : World) : Calls Try.prog 42 #[.string ⟨#[97, 115, 121, 110, 99]⟩] w fun e w' => e = .returned (.int .i64 2) ∧ w = w' := by
  go_enter Try.func42, Try.ntmps42
  go_wp2
  go_ret
  exact ⟨rfl, rfl⟩
theorem lword_1_2 (w : World) : Calls Try.prog 42 #[.string ⟨#[97, 119, 97, 105, 116]⟩] w fun e w' => e = .returned (.int .i64 2) ∧ w = w' := by
  go_enter Try.func42, Try.ntmps42
  go_wp2
  go_ret
  exact ⟨rfl, rfl⟩
theorem lword_1_3 (w : World) : Calls Try.prog 42 #[.string ⟨#[99, 97, 115, 101]⟩] w fun e w' => e = .returned (.int .i64 2) ∧ w = w' := by
  go_enter Try.func42, Try.ntmps42
  go_wp2
  go_ret
  exact ⟨rfl, rfl⟩
theorem lword_1_4 (w : World) : Calls Try.prog 42 #[.string ⟨#[99, 108, 97, 115, 115]⟩] w fun e w' => e = .returned (.int .i64 2) ∧ w = w' := by
  go_enter Try.func42, Try.ntmps42
  go_wp2
  go_ret
  exact ⟨rfl, rfl⟩
theorem lword_1_5 (w : World) : Calls Try.prog 42 #[.string ⟨#[100, 101, 98, 117, 103, 103, 101, 114]⟩] w fun e w' => e = .returned (.int .i64 2) ∧ w = w' := by
  go_enter Try.func42, Try.ntmps42
  go_wp2
  go_ret
  exact ⟨rfl, rfl⟩
theorem lword_1_6 (w : World) : Calls Try.prog 42 #[.string ⟨#[100, 101, 102, 97, 117, 108, 116]⟩] w fun e w' => e = .returned (.int .i64 2) ∧ w = w' := by
  go_enter Try.func42, Try.ntmps42
  go_wp2
  go_ret
  exact ⟨rfl, rfl⟩
theorem lword_1_7 (w : World) : Calls Try.prog 42 #[.string ⟨#[100, 101, 108, 101, 116, 101]⟩] w fun e w' => e = .returned (.int .i64 2) ∧ w = w' := by
  go_enter Try.func42, Try.ntmps42
  go_wp2
  go_ret
  exact ⟨rfl, rfl⟩
theorem lword_1_8 (w : World) : Calls Try.prog 42 #[.string ⟨#[100, 111]⟩] w fun e w' => e = .returned (.int .i64 2) ∧ w = w' := by
  go_enter Try.func42, Try.ntmps42
  go_wp2
  go_ret
  exact ⟨rfl, rfl⟩
theorem lword_1_9 (w : World) : Calls Try.prog 42 #[.string ⟨#[101, 110, 117, 109]⟩] w fun e w' => e = .returned (.int .i64 2) ∧ w = w' := by
  go_enter Try.func42, Try.ntmps42
  go_wp2
  go_ret
  exact ⟨rfl, rfl⟩
theorem lword_1_10 (w : World) : Calls Try.prog 42 #[.string ⟨#[101, 118, 97, 108]⟩] w fun e w' => e = .returned (.int .i64 2) ∧ w = w' := by
  go_enter Try.func42, Try.ntmps42
  go_wp2
  go_ret
  exact ⟨rfl, rfl⟩
theorem lword_1_11 (w : World) : Calls Try.prog 42 #[.string ⟨#[101, 120, 112, 111, 114, 116]⟩] w fun e w' => e = .returned (.int .i64 2) ∧ w = w' := by
  go_enter Try.func42, Try.ntmps42
  go_wp2
  go_ret
  exact ⟨rfl, rfl⟩
theorem lword_1_12 (w : World) : Calls Try.prog 42 #[.string ⟨#[101, 120, 116, 101, 110, 100, 115]⟩] w fun e w' => e = .returned (.int .i64 2) ∧ w = w' := by
  go_enter Try.func42, Try.ntmps42
  go_wp2
  go_ret
  exact ⟨rfl, rfl⟩
theorem lword_1_13 (w : World) : Calls Try.prog 42 #[.string ⟨#[105, 109, 112, 108, 101, 109, 101, 110, 116, 115]⟩] w fun e w' => e = .returned (.int .i64 2) ∧ w = w' := by
  go_enter Try.func42, Try.ntmps42
  go_wp2
  go_ret
  exact ⟨rfl, rfl⟩
theorem lword_1_14 (w : World) : Calls Try.prog 42 #[.string ⟨#[105, 109, 112, 111, 114, 116]⟩] w fun e w' => e = .returned (.int .i64 2) ∧ w = w' := by
  go_enter Try.func42, Try.ntmps42
  go_wp2
  go_ret
  exact ⟨rfl, rfl⟩
theorem lword_1_15 (w : World) : Calls Try.prog 42 #[.string ⟨#[105, 110, 115, 116, 97, 110, 99, 101, 111, 102]⟩] w fun e w' => e = .returned (.int .i64 2) ∧ w = w' := by
  go_enter Try.func42, Try.ntmps42
  go_wp2
  go_ret
  exact ⟨rfl, rfl⟩
theorem lword_1_16 (w : World) : Calls Try.prog 42 #[.string ⟨#[105, 110, 116, 101, 114, 102, 97, 99, 101]⟩] w fun e w' => e = .returned (.int .i64 2) ∧ w = w' := by
  go_enter Try.func42, Try.ntmps42
  go_wp2
  go_ret
  exact ⟨rfl, rfl⟩
theorem lword_1_17 (w : World) : Calls Try.prog 42 #[.string ⟨#[112, 97, 99, 107, 97, 103, 101]⟩] w fun e w' => e = .returned (.int .i64 2) ∧ w = w' := by
  go_enter Try.func42, Try.ntmps42
  go_wp2
  go_ret
  exact ⟨rfl, rfl⟩
theorem lword_1_18 (w : World) : Calls Try.prog 42 #[.string ⟨#[112, 114, 105, 118, 97, 116, 101]⟩] w fun e w' => e = .returned (.int .i64 2) ∧ w = w' := by
  go_enter Try.func42, Try.ntmps42
  go_wp2
  go_ret
  exact ⟨rfl, rfl⟩
theorem lword_1_19 (w : World) : Calls Try.prog 42 #[.string ⟨#[112, 114, 111, 116, 101, 99, 116, 101, 100]⟩] w fun e w' => e = .returned (.int .i64 2) ∧ w = w' := by
  go_enter Try.func42, Try.ntmps42
  go_wp2
  go_ret
  exact ⟨rfl, rfl⟩
theorem lword_1_20 (w : World) : Calls Try.prog 42 #[.string ⟨#[112, 117, 98, 108, 105, 99]⟩] w fun e w' => e = .returned (.int .i64 2) ∧ w = w' := by
  go_enter Try.func42, Try.ntmps42
  go_wp2
  go_ret
  exact ⟨rfl, rfl⟩
theorem lword_1_21 (w : World) : Calls Try.prog 42 #[.string ⟨#[115, 116, 97, 116, 105, 99]⟩] w fun e w' => e = .returned (.int .i64 2) ∧ w = w' := by
  go_enter Try.func42, Try.ntmps42
  go_wp2
  go_ret
  exact ⟨rfl, rfl⟩
theorem lword_1_22 (w : World) : Calls Try.prog 42 #[.string ⟨#[115, 117, 112, 101, 114]⟩] w fun e w' => e = .returned (.int .i64 2) ∧ w = w' := by
  go_enter Try.func42, Try.ntmps42
  go_wp2
  go_ret
  exact ⟨rfl, rfl⟩
theorem lword_1_23 (w : World) : Calls Try.prog 42 #[.string ⟨#[115, 119, 105, 116, 99, 104]⟩] w fun e w' => e = .returned (.int .i64 2) ∧ w = w' := by
  go_enter Try.func42, Try.ntmps42
  go_wp2
  go_ret
  exact ⟨rfl, rfl⟩
theorem lword_1_24 (w : World) : Calls Try.prog 42 #[.string ⟨#[118, 97, 114]⟩] w fun e w' => e = .returned (.int .i64 2) ∧ w = w' := by
  go_enter Try.func42, Try.ntmps42
  go_wp2
  go_ret
  exact ⟨rfl, rfl⟩
theorem lword_1_25 (w : World) : Calls Try.prog 42 #[.string ⟨#[119, 105, 116, 104]⟩] w fun e w' => e = .returned (.int .i64 2) ∧ w = w' := by
  go_enter Try.func42, Try.ntmps42
  go_wp2
  go_ret
  exact ⟨rfl, rfl⟩
theorem lword_1_26 (w : World) : Calls Try.prog 42 #[.string ⟨#[121, 105, 101, 108, 100]⟩] w fun e w' => e = .returned (.int .i64 2) ∧ w = w' := by
  go_enter Try.func42, Try.ntmps42
  go_wp2
  go_ret
  exact ⟨rfl, rfl⟩
set_option maxHeartbeats 8000000 in
set_option maxRecDepth 100000 in
theorem lword_none {s : ByteArray} (h1 : s.data.toList ∉ wordsIn) (h2 : s.data.toList ∉ wordsOut) (w : World) : Calls Try.prog 42 #[.string s] w fun e w' => e = .returned (.int .i64 0) ∧ w = w' := by
  have f0_0 : (s.toList == [98, 114, 101, 97, 107]) = false := by rw [txt_eq]; exact decide_eq_false fun h => h1 (by rw [h]; decide)
  have f0_1 : (s.toList == [99, 97, 116, 99, 104]) = false := by rw [txt_eq]; exact decide_eq_false fun h => h1 (by rw [h]; decide)
  have f0_2 : (s.toList == [99, 111, 110, 115, 116]) = false := by rw [txt_eq]; exact decide_eq_false fun h => h1 (by rw [h]; decide)
  have f0_3 : (s.toList == [99, 111, 110, 116, 105, 110, 117, 101]) = false := by rw [txt_eq]; exact decide_eq_false fun h => h1 (by rw [h]; decide)
  have f0_4 : (s.toList == [101, 108, 115, 101]) = false := by rw [txt_eq]; exact decide_eq_false fun h => h1 (by rw [h]; decide)
  have f0_5 : (s.toList == [102, 97, 108, 115, 101]) = false := by rw [txt_eq]; exact decide_eq_false fun h => h1 (by rw [h]; decide)
  have f0_6 : (s.toList == [102, 105, 110, 97, 108, 108, 121]) = false := by rw [txt_eq]; exact decide_eq_false fun h => h1 (by rw [h]; decide)
  have f0_7 : (s.toList == [102, 111, 114]) = false := by rw [txt_eq]; exact decide_eq_false fun h => h1 (by rw [h]; decide)
  have f0_8 : (s.toList == [102, 117, 110, 99, 116, 105, 111, 110]) = false := by rw [txt_eq]; exact decide_eq_false fun h => h1 (by rw [h]; decide)
  have f0_9 : (s.toList == [105, 102]) = false := by rw [txt_eq]; exact decide_eq_false fun h => h1 (by rw [h]; decide)
  have f0_10 : (s.toList == [105, 110]) = false := by rw [txt_eq]; exact decide_eq_false fun h => h1 (by rw [h]; decide)
  have f0_11 : (s.toList == [108, 101, 116]) = false := by rw [txt_eq]; exact decide_eq_false fun h => h1 (by rw [h]; decide)
  have f0_12 : (s.toList == [110, 101, 119]) = false := by rw [txt_eq]; exact decide_eq_false fun h => h1 (by rw [h]; decide)
  have f0_13 : (s.toList == [110, 117, 108, 108]) = false := by rw [txt_eq]; exact decide_eq_false fun h => h1 (by rw [h]; decide)
  have f0_14 : (s.toList == [114, 101, 116, 117, 114, 110]) = false := by rw [txt_eq]; exact decide_eq_false fun h => h1 (by rw [h]; decide)
  have f0_15 : (s.toList == [116, 104, 105, 115]) = false := by rw [txt_eq]; exact decide_eq_false fun h => h1 (by rw [h]; decide)
  have f0_16 : (s.toList == [116, 104, 114, 111, 119]) = false := by rw [txt_eq]; exact decide_eq_false fun h => h1 (by rw [h]; decide)
  have f0_17 : (s.toList == [116, 114, 117, 101]) = false := by rw [txt_eq]; exact decide_eq_false fun h => h1 (by rw [h]; decide)
  have f0_18 : (s.toList == [116, 114, 121]) = false := by rw [txt_eq]; exact decide_eq_false fun h => h1 (by rw [h]; decide)
  have f0_19 : (s.toList == [116, 121, 112, 101, 111, 102]) = false := by rw [txt_eq]; exact decide_eq_false fun h => h1 (by rw [h]; decide)
  have f0_20 : (s.toList == [118, 111, 105, 100]) = false := by rw [txt_eq]; exact decide_eq_false fun h => h1 (by rw [h]; decide)
  have f0_21 : (s.toList == [119, 104, 105, 108, 101]) = false := by rw [txt_eq]; exact decide_eq_false fun h => h1 (by rw [h]; decide)
  have f1_0 : (s.toList == [97, 114, 103, 117, 109, 101, 110, 116, 115]) = false := by rw [txt_eq]; exact decide_eq_false fun h => h2 (by rw [h]; decide)
  have f1_1 : (s.toList == [97, 115, 121, 110, 99]) = false := by rw [txt_eq]; exact decide_eq_false fun h => h2 (by rw [h]; decide)
  have f1_2 : (s.toList == [97, 119, 97, 105, 116]) = false := by rw [txt_eq]; exact decide_eq_false fun h => h2 (by rw [h]; decide)
  have f1_3 : (s.toList == [99, 97, 115, 101]) = false := by rw [txt_eq]; exact decide_eq_false fun h => h2 (by rw [h]; decide)
  have f1_4 : (s.toList == [99, 108, 97, 115, 115]) = false := by rw [txt_eq]; exact decide_eq_false fun h => h2 (by rw [h]; decide)
  have f1_5 : (s.toList == [100, 101, 98, 117, 103, 103, 101, 114]) = false := by rw [txt_eq]; exact decide_eq_false fun h => h2 (by rw [h]; decide)
  have f1_6 : (s.toList == [100, 101, 102, 97, 117, 108, 116]) = false := by rw [txt_eq]; exact decide_eq_false fun h => h2 (by rw [h]; decide)
  have f1_7 : (s.toList == [100, 101, 108, 101, 116, 101]) = false := by rw [txt_eq]; exact decide_eq_false fun h => h2 (by rw [h]; decide)
  have f1_8 : (s.toList == [100, 111]) = false := by rw [txt_eq]; exact decide_eq_false fun h => h2 (by rw [h]; decide)
  have f1_9 : (s.toList == [101, 110, 117, 109]) = false := by rw [txt_eq]; exact decide_eq_false fun h => h2 (by rw [h]; decide)
  have f1_10 : (s.toList == [101, 118, 97, 108]) = false := by rw [txt_eq]; exact decide_eq_false fun h => h2 (by rw [h]; decide)
  have f1_11 : (s.toList == [101, 120, 112, 111, 114, 116]) = false := by rw [txt_eq]; exact decide_eq_false fun h => h2 (by rw [h]; decide)
  have f1_12 : (s.toList == [101, 120, 116, 101, 110, 100, 115]) = false := by rw [txt_eq]; exact decide_eq_false fun h => h2 (by rw [h]; decide)
  have f1_13 : (s.toList == [105, 109, 112, 108, 101, 109, 101, 110, 116, 115]) = false := by rw [txt_eq]; exact decide_eq_false fun h => h2 (by rw [h]; decide)
  have f1_14 : (s.toList == [105, 109, 112, 111, 114, 116]) = false := by rw [txt_eq]; exact decide_eq_false fun h => h2 (by rw [h]; decide)
  have f1_15 : (s.toList == [105, 110, 115, 116, 97, 110, 99, 101, 111, 102]) = false := by rw [txt_eq]; exact decide_eq_false fun h => h2 (by rw [h]; decide)
  have f1_16 : (s.toList == [105, 110, 116, 101, 114, 102, 97, 99, 101]) = false := by rw [txt_eq]; exact decide_eq_false fun h => h2 (by rw [h]; decide)
  have f1_17 : (s.toList == [112, 97, 99, 107, 97, 103, 101]) = false := by rw [txt_eq]; exact decide_eq_false fun h => h2 (by rw [h]; decide)
  have f1_18 : (s.toList == [112, 114, 105, 118, 97, 116, 101]) = false := by rw [txt_eq]; exact decide_eq_false fun h => h2 (by rw [h]; decide)
  have f1_19 : (s.toList == [112, 114, 111, 116, 101, 99, 116, 101, 100]) = false := by rw [txt_eq]; exact decide_eq_false fun h => h2 (by rw [h]; decide)
  have f1_20 : (s.toList == [112, 117, 98, 108, 105, 99]) = false := by rw [txt_eq]; exact decide_eq_false fun h => h2 (by rw [h]; decide)
  have f1_21 : (s.toList == [115, 116, 97, 116, 105, 99]) = false := by rw [txt_eq]; exact decide_eq_false fun h => h2 (by rw [h]; decide)
  have f1_22 : (s.toList == [115, 117, 112, 101, 114]) = false := by rw [txt_eq]; exact decide_eq_false fun h => h2 (by rw [h]; decide)
  have f1_23 : (s.toList == [115, 119, 105, 116, 99, 104]) = false := by rw [txt_eq]; exact decide_eq_false fun h => h2 (by rw [h]; decide)
  have f1_24 : (s.toList == [118, 97, 114]) = false := by rw [txt_eq]; exact decide_eq_false fun h => h2 (by rw [h]; decide)
  have f1_25 : (s.toList == [119, 105, 116, 104]) = false := by rw [txt_eq]; exact decide_eq_false fun h => h2 (by rw [h]; decide)
  have f1_26 : (s.toList == [121, 105, 101, 108, 100]) = false := by rw [txt_eq]; exact decide_eq_false fun h => h2 (by rw [h]; decide)
  clear h1 h2
  go_enter Try.func42, Try.ntmps42
  go_wp2
  go_ret
  exact ⟨rfl, rfl⟩
theorem lword_any (s : ByteArray) (w : World) : Calls Try.prog 42 #[.string s] w fun e w' => e = .returned (.int .i64 (wordF s.data.toList : Nat)) ∧ w = w' := by
  by_cases h1 : s.data.toList ∈ wordsIn
  · rw [show wordF s.data.toList = 1 from if_pos h1]
    simp only [wordsIn, List.mem_cons, List.mem_nil_iff, or_false] at h1
    rcases h1 with h | h | h | h | h | h | h | h | h | h | h | h | h | h | h | h | h | h | h | h | h | h
    · rw [txt_of h]; exact lword_0_0 w
    · rw [txt_of h]; exact lword_0_1 w
    · rw [txt_of h]; exact lword_0_2 w
    · rw [txt_of h]; exact lword_0_3 w
    · rw [txt_of h]; exact lword_0_4 w
    · rw [txt_of h]; exact lword_0_5 w
    · rw [txt_of h]; exact lword_0_6 w
    · rw [txt_of h]; exact lword_0_7 w
    · rw [txt_of h]; exact lword_0_8 w
    · rw [txt_of h]; exact lword_0_9 w
    · rw [txt_of h]; exact lword_0_10 w
    · rw [txt_of h]; exact lword_0_11 w
    · rw [txt_of h]; exact lword_0_12 w
    · rw [txt_of h]; exact lword_0_13 w
    · rw [txt_of h]; exact lword_0_14 w
    · rw [txt_of h]; exact lword_0_15 w
    · rw [txt_of h]; exact lword_0_16 w
    · rw [txt_of h]; exact lword_0_17 w
    · rw [txt_of h]; exact lword_0_18 w
    · rw [txt_of h]; exact lword_0_19 w
    · rw [txt_of h]; exact lword_0_20 w
    · rw [txt_of h]; exact lword_0_21 w
  · by_cases h2 : s.data.toList ∈ wordsOut
    · rw [show wordF s.data.toList = 2 by unfold wordF; rw [if_neg h1, if_pos h2]]
      simp only [wordsOut, List.mem_cons, List.mem_nil_iff, or_false] at h2
      rcases h2 with h | h | h | h | h | h | h | h | h | h | h | h | h | h | h | h | h | h | h | h | h | h | h | h | h | h | h
      · rw [txt_of h]; exact lword_1_0 w
      · rw [txt_of h]; exact lword_1_1 w
      · rw [txt_of h]; exact lword_1_2 w
      · rw [txt_of h]; exact lword_1_3 w
      · rw [txt_of h]; exact lword_1_4 w
      · rw [txt_of h]; exact lword_1_5 w
      · rw [txt_of h]; exact lword_1_6 w
      · rw [txt_of h]; exact lword_1_7 w
      · rw [txt_of h]; exact lword_1_8 w
      · rw [txt_of h]; exact lword_1_9 w
      · rw [txt_of h]; exact lword_1_10 w
      · rw [txt_of h]; exact lword_1_11 w
      · rw [txt_of h]; exact lword_1_12 w
      · rw [txt_of h]; exact lword_1_13 w
      · rw [txt_of h]; exact lword_1_14 w
      · rw [txt_of h]; exact lword_1_15 w
      · rw [txt_of h]; exact lword_1_16 w
      · rw [txt_of h]; exact lword_1_17 w
      · rw [txt_of h]; exact lword_1_18 w
      · rw [txt_of h]; exact lword_1_19 w
      · rw [txt_of h]; exact lword_1_20 w
      · rw [txt_of h]; exact lword_1_21 w
      · rw [txt_of h]; exact lword_1_22 w
      · rw [txt_of h]; exact lword_1_23 w
      · rw [txt_of h]; exact lword_1_24 w
      · rw [txt_of h]; exact lword_1_25 w
      · rw [txt_of h]; exact lword_1_26 w
    · rw [show wordF s.data.toList = 0 by unfold wordF; rw [if_neg h1, if_neg h2]]
      exact lword_none h1 h2 w
theorem lsign_0_0 (w : World) : Calls Try.prog 48 #[.string ⟨#[123]⟩] w fun e w' => e = .returned (.int .i64 1) ∧ w = w' := by
  go_enter Try.func48, Try.ntmps48
  go_wp2
  go_ret
  exact ⟨rfl, rfl⟩
theorem lsign_0_1 (w : World) : Calls Try.prog 48 #[.string ⟨#[125]⟩] w fun e w' => e = .returned (.int .i64 1) ∧ w = w' := by
  go_enter Try.func48, Try.ntmps48
  go_wp2
  go_ret
  exact ⟨rfl, rfl⟩
theorem lsign_0_2 (w : World) : Calls Try.prog 48 #[.string ⟨#[40]⟩] w fun e w' => e = .returned (.int .i64 1) ∧ w = w' := by
  go_enter Try.func48, Try.ntmps48
  go_wp2
  go_ret
  exact ⟨rfl, rfl⟩
theorem lsign_0_3 (w : World) : Calls Try.prog 48 #[.string ⟨#[41]⟩] w fun e w' => e = .returned (.int .i64 1) ∧ w = w' := by
  go_enter Try.func48, Try.ntmps48
  go_wp2
  go_ret
  exact ⟨rfl, rfl⟩
theorem lsign_0_4 (w : World) : Calls Try.prog 48 #[.string ⟨#[91]⟩] w fun e w' => e = .returned (.int .i64 1) ∧ w = w' := by
  go_enter Try.func48, Try.ntmps48
  go_wp2
  go_ret
  exact ⟨rfl, rfl⟩
theorem lsign_0_5 (w : World) : Calls Try.prog 48 #[.string ⟨#[93]⟩] w fun e w' => e = .returned (.int .i64 1) ∧ w = w' := by
  go_enter Try.func48, Try.ntmps48
  go_wp2
  go_ret
  exact ⟨rfl, rfl⟩
theorem lsign_0_6 (w : World) : Calls Try.prog 48 #[.string ⟨#[59]⟩] w fun e w' => e = .returned (.int .i64 1) ∧ w = w' := by
  go_enter Try.func48, Try.ntmps48
  go_wp2
  go_ret
  exact ⟨rfl, rfl⟩
theorem lsign_0_7 (w : World) : Calls Try.prog 48 #[.string ⟨#[44]⟩] w fun e w' => e = .returned (.int .i64 1) ∧ w = w' := by
  go_enter Try.func48, Try.ntmps48
  go_wp2
  go_ret
  exact ⟨rfl, rfl⟩
theorem lsign_0_8 (w : World) : Calls Try.prog 48 #[.string ⟨#[46]⟩] w fun e w' => e = .returned (.int .i64 1) ∧ w = w' := by
  go_enter Try.func48, Try.ntmps48
  go_wp2
  go_ret
  exact ⟨rfl, rfl⟩
theorem lsign_0_9 (w : World) : Calls Try.prog 48 #[.string ⟨#[63]⟩] w fun e w' => e = .returned (.int .i64 1) ∧ w = w' := by
  go_enter Try.func48, Try.ntmps48
  go_wp2
  go_ret
  exact ⟨rfl, rfl⟩
theorem lsign_0_10 (w : World) : Calls Try.prog 48 #[.string ⟨#[58]⟩] w fun e w' => e = .returned (.int .i64 1) ∧ w = w' := by
  go_enter Try.func48, Try.ntmps48
  go_wp2
  go_ret
  exact ⟨rfl, rfl⟩
theorem lsign_0_11 (w : World) : Calls Try.prog 48 #[.string ⟨#[126]⟩] w fun e w' => e = .returned (.int .i64 1) ∧ w = w' := by
  go_enter Try.func48, Try.ntmps48
  go_wp2
  go_ret
  exact ⟨rfl, rfl⟩
theorem lsign_0_12 (w : World) : Calls Try.prog 48 #[.string ⟨#[60]⟩] w fun e w' => e = .returned (.int .i64 1) ∧ w = w' := by
  go_enter Try.func48, Try.ntmps48
  go_wp2
  go_ret
  exact ⟨rfl, rfl⟩
theorem lsign_0_13 (w : World) : Calls Try.prog 48 #[.string ⟨#[62]⟩] w fun e w' => e = .returned (.int .i64 1) ∧ w = w' := by
  go_enter Try.func48, Try.ntmps48
  go_wp2
  go_ret
  exact ⟨rfl, rfl⟩
theorem lsign_0_14 (w : World) : Calls Try.prog 48 #[.string ⟨#[60, 61]⟩] w fun e w' => e = .returned (.int .i64 1) ∧ w = w' := by
  go_enter Try.func48, Try.ntmps48
  go_wp2
  go_ret
  exact ⟨rfl, rfl⟩
theorem lsign_0_15 (w : World) : Calls Try.prog 48 #[.string ⟨#[62, 61]⟩] w fun e w' => e = .returned (.int .i64 1) ∧ w = w' := by
  go_enter Try.func48, Try.ntmps48
  go_wp2
  go_ret
  exact ⟨rfl, rfl⟩
theorem lsign_0_16 (w : World) : Calls Try.prog 48 #[.string ⟨#[61, 61]⟩] w fun e w' => e = .returned (.int .i64 1) ∧ w = w' := by
  go_enter Try.func48, Try.ntmps48
  go_wp2
  go_ret
  exact ⟨rfl, rfl⟩
theorem lsign_0_17 (w : World) : Calls Try.prog 48 #[.string ⟨#[33, 61]⟩] w fun e w' => e = .returned (.int .i64 1) ∧ w = w' := by
  go_enter Try.func48, Try.ntmps48
  go_wp2
  go_ret
  exact ⟨rfl, rfl⟩
theorem lsign_0_18 (w : World) : Calls Try.prog 48 #[.string ⟨#[61, 61, 61]⟩] w fun e w' => e = .returned (.int .i64 1) ∧ w = w' := by
  go_enter Try.func48, Try.ntmps48
  go_wp2
  go_ret
  exact ⟨rfl, rfl⟩
theorem lsign_0_19 (w : World) : Calls Try.prog 48 #[.string ⟨#[33, 61, 61]⟩] w fun e w' => e = .returned (.int .i64 1) ∧ w = w' := by
  go_enter Try.func48, Try.ntmps48
  go_wp2
  go_ret
  exact ⟨rfl, rfl⟩
theorem lsign_0_20 (w : World) : Calls Try.prog 48 #[.string ⟨#[43]⟩] w fun e w' => e = .returned (.int .i64 1) ∧ w = w' := by
  go_enter Try.func48, Try.ntmps48
  go_wp2
  go_ret
  exact ⟨rfl, rfl⟩
theorem lsign_0_21 (w : World) : Calls Try.prog 48 #[.string ⟨#[45]⟩] w fun e w' => e = .returned (.int .i64 1) ∧ w = w' := by
  go_enter Try.func48, Try.ntmps48
  go_wp2
  go_ret
  exact ⟨rfl, rfl⟩
theorem lsign_0_22 (w : World) : Calls Try.prog 48 #[.string ⟨#[42]⟩] w fun e w' => e = .returned (.int .i64 1) ∧ w = w' := by
  go_enter Try.func48, Try.ntmps48
  go_wp2
  go_ret
  exact ⟨rfl, rfl⟩
theorem lsign_0_23 (w : World) : Calls Try.prog 48 #[.string ⟨#[47]⟩] w fun e w' => e = .returned (.int .i64 1) ∧ w = w' := by
  go_enter Try.func48, Try.ntmps48
  go_wp2
  go_ret
  exact ⟨rfl, rfl⟩
theorem lsign_0_24 (w : World) : Calls Try.prog 48 #[.string ⟨#[37]⟩] w fun e w' => e = .returned (.int .i64 1) ∧ w = w' := by
  go_enter Try.func48, Try.ntmps48
  go_wp2
  go_ret
  exact ⟨rfl, rfl⟩
theorem lsign_0_25 (w : World) : Calls Try.prog 48 #[.string ⟨#[38]⟩] w fun e w' => e = .returned (.int .i64 1) ∧ w = w' := by
  go_enter Try.func48, Try.ntmps48
  go_wp2
  go_ret
  exact ⟨rfl, rfl⟩
theorem lsign_0_26 (w : World) : Calls Try.prog 48 #[.string ⟨#[124]⟩] w fun e w' => e = .returned (.int .i64 1) ∧ w = w' := by
  go_enter Try.func48, Try.ntmps48
  go_wp2
  go_ret
  exact ⟨rfl, rfl⟩
theorem lsign_0_27 (w : World) : Calls Try.prog 48 #[.string ⟨#[94]⟩] w fun e w' => e = .returned (.int .i64 1) ∧ w = w' := by
  go_enter Try.func48, Try.ntmps48
  go_wp2
  go_ret
  exact ⟨rfl, rfl⟩
theorem lsign_0_28 (w : World) : Calls Try.prog 48 #[.string ⟨#[33]⟩] w fun e w' => e = .returned (.int .i64 1) ∧ w = w' := by
  go_enter Try.func48, Try.ntmps48
  go_wp2
  go_ret
  exact ⟨rfl, rfl⟩
theorem lsign_0_29 (w : World) : Calls Try.prog 48 #[.string ⟨#[38, 38]⟩] w fun e w' => e = .returned (.int .i64 1) ∧ w = w' := by
  go_enter Try.func48, Try.ntmps48
  go_wp2
  go_ret
  exact ⟨rfl, rfl⟩
theorem lsign_0_30 (w : World) : Calls Try.prog 48 #[.string ⟨#[124, 124]⟩] w fun e w' => e = .returned (.int .i64 1) ∧ w = w' := by
  go_enter Try.func48, Try.ntmps48
  go_wp2
  go_ret
  exact ⟨rfl, rfl⟩
theorem lsign_0_31 (w : World) : Calls Try.prog 48 #[.string ⟨#[63, 63]⟩] w fun e w' => e = .returned (.int .i64 1) ∧ w = w' := by
  go_enter Try.func48, Try.ntmps48
  go_wp2
  go_ret
  exact ⟨rfl, rfl⟩
theorem lsign_0_32 (w : World) : Calls Try.prog 48 #[.string ⟨#[61]⟩] w fun e w' => e = .returned (.int .i64 1) ∧ w = w' := by
  go_enter Try.func48, Try.ntmps48
  go_wp2
  go_ret
  exact ⟨rfl, rfl⟩
theorem lsign_0_33 (w : World) : Calls Try.prog 48 #[.string ⟨#[43, 61]⟩] w fun e w' => e = .returned (.int .i64 1) ∧ w = w' := by
  go_enter Try.func48, Try.ntmps48
  go_wp2
  go_ret
  exact ⟨rfl, rfl⟩
theorem lsign_0_34 (w : World) : Calls Try.prog 48 #[.string ⟨#[45, 61]⟩] w fun e w' => e = .returned (.int .i64 1) ∧ w = w' := by
  go_enter Try.func48, Try.ntmps48
  go_wp2
  go_ret
  exact ⟨rfl, rfl⟩
theorem lsign_0_35 (w : World) : Calls Try.prog 48 #[.string ⟨#[42, 61]⟩] w fun e w' => e = .returned (.int .i64 1) ∧ w = w' := by
  go_enter Try.func48, Try.ntmps48
  go_wp2
  go_ret
  exact ⟨rfl, rfl⟩
theorem lsign_0_36 (w : World) : Calls Try.prog 48 #[.string ⟨#[47, 61]⟩] w fun e w' => e = .returned (.int .i64 1) ∧ w = w' := by
  go_enter Try.func48, Try.ntmps48
  go_wp2
  go_ret
  exact ⟨rfl, rfl⟩
theorem lsign_0_37 (w : World) : Calls Try.prog 48 #[.string ⟨#[37, 61]⟩] w fun e w' => e = .returned (.int .i64 1) ∧ w = w' := by
  go_enter Try.func48, Try.ntmps48
  go_wp2
  go_ret
  exact ⟨rfl, rfl⟩
theorem lsign_0_38 (w : World) : Calls Try.prog 48 #[.string ⟨#[38, 61]⟩] w fun e w' => e = .returned (.int .i64 1) ∧ w = w' := by
  go_enter Try.func48, Try.ntmps48
  go_wp2
  go_ret
  exact ⟨rfl, rfl⟩
theorem lsign_0_39 (w : World) : Calls Try.prog 48 #[.string ⟨#[124, 61]⟩] w fun e w' => e = .returned (.int .i64 1) ∧ w = w' := by
  go_enter Try.func48, Try.ntmps48
  go_wp2
  go_ret
  exact ⟨rfl, rfl⟩
theorem lsign_0_40 (w : World) : Calls Try.prog 48 #[.string ⟨#[94, 61]⟩] w fun e w' => e = .returned (.int .i64 1) ∧ w = w' := by
  go_enter Try.func48, Try.ntmps48
  go_wp2
  go_ret
  exact ⟨rfl, rfl⟩
theorem lsign_0_41 (w : World) : Calls Try.prog 48 #[.string ⟨#[60, 60, 61]⟩] w fun e w' => e = .returned (.int .i64 1) ∧ w = w' := by
  go_enter Try.func48, Try.ntmps48
  go_wp2
  go_ret
  exact ⟨rfl, rfl⟩
theorem lsign_0_42 (w : World) : Calls Try.prog 48 #[.string ⟨#[62, 62, 61]⟩] w fun e w' => e = .returned (.int .i64 1) ∧ w = w' := by
  go_enter Try.func48, Try.ntmps48
  go_wp2
  go_ret
  exact ⟨rfl, rfl⟩
theorem lsign_0_43 (w : World) : Calls Try.prog 48 #[.string ⟨#[62, 62, 62, 61]⟩] w fun e w' => e = .returned (.int .i64 1) ∧ w = w' := by
  go_enter Try.func48, Try.ntmps48
  go_wp2
  go_ret
  exact ⟨rfl, rfl⟩
theorem lsign_0_44 (w : World) : Calls Try.prog 48 #[.string ⟨#[43, 43]⟩] w fun e w' => e = .returned (.int .i64 1) ∧ w = w' := by
  go_enter Try.func48, Try.ntmps48
  go_wp2
  go_ret
  exact ⟨rfl, rfl⟩
theorem lsign_0_45 (w : World) : Calls Try.prog 48 #[.string ⟨#[45, 45]⟩] w fun e w' => e = .returned (.int .i64 1) ∧ w = w' := by
  go_enter Try.func48, Try.ntmps48
  go_wp2
  go_ret
  exact ⟨rfl, rfl⟩
theorem lsign_0_46 (w : World) : Calls Try.prog 48 #[.string ⟨#[60, 60]⟩] w fun e w' => e = .returned (.int .i64 1) ∧ w = w' := by
  go_enter Try.func48, Try.ntmps48
  go_wp2
  go_ret
  exact ⟨rfl, rfl⟩
theorem lsign_0_47 (w : World) : Calls Try.prog 48 #[.string ⟨#[62, 62]⟩] w fun e w' => e = .returned (.int .i64 1) ∧ w = w' := by
  go_enter Try.func48, Try.ntmps48
  go_wp2
  go_ret
  exact ⟨rfl, rfl⟩
theorem lsign_0_48 (w : World) : Calls Try.prog 48 #[.string ⟨#[62, 62, 62]⟩] w fun e w' => e = .returned (.int .i64 1) ∧ w = w' := by
  go_enter Try.func48, Try.ntmps48
  go_wp2
  go_ret
  exact ⟨rfl, rfl⟩
theorem lsign_0_49 (w : World) : Calls Try.prog 48 #[.string ⟨#[61, 62]⟩] w fun e w' => e = .returned (.int .i64 1) ∧ w = w' := by
  go_enter Try.func48, Try.ntmps48
  go_wp2
  go_ret
  exact ⟨rfl, rfl⟩
theorem lsign_1_0 (w : World) : Calls Try.prog 48 #[.string ⟨#[46, 46, 46]⟩] w fun e w' => e = .returned (.int .i64 2) ∧ w = w' := by
  go_enter Try.func48, Try.ntmps48
  go_wp2
  go_ret
  exact ⟨rfl, rfl⟩
theorem lsign_1_1 (w : World) : Calls Try.prog 48 #[.string ⟨#[63, 46]⟩] w fun e w' => e = .returned (.int .i64 2) ∧ w = w' := by
  go_enter Try.func48, Try.ntmps48
  go_wp2
  go_ret
  exact ⟨rfl, rfl⟩
theorem lsign_1_2 (w : World) : Calls Try.prog 48 #[.string ⟨#[42, 42]⟩] w fun e w' => e = .returned (.int .i64 2) ∧ w = w' := by
  go_enter Try.func48, Try.ntmps48
  go_wp2
  go_ret
  exact ⟨rfl, rfl⟩
theorem lsign_1_3 (w : World) : Calls Try.prog 48 #[.string ⟨#[42, 42, 61]⟩] w fun e w' => e = .returned (.int .i64 2) ∧ w = w' := by
  go_enter Try.func48, Try.ntmps48
  go_wp2
  go_ret
  exact ⟨rfl, rfl⟩
theorem lsign_1_4 (w : World) : Calls Try.prog 48 #[.string ⟨#[38, 38, 61]⟩] w fun e w' => e = .returned (.int .i64 2) ∧ w = w' := by
  go_enter Try.func48, Try.ntmps48
  go_wp2
  go_ret
  exact ⟨rfl, rfl⟩
theorem lsign_1_5 (w : World) : Calls Try.prog 48 #[.string ⟨#[124, 124, 61]⟩] w fun e w' => e = .returned (.int .i64 2) ∧ w = w' := by
  go_enter Try.func48, Try.ntmps48
  go_wp2
  go_ret
  exact ⟨rfl, rfl⟩
theorem lsign_1_6 (w : World) : Calls Try.prog 48 #[.string ⟨#[63, 63, 61]⟩] w fun e w' => e = .returned (.int .i64 2) ∧ w = w' := by
  go_enter Try.func48, Try.ntmps48
  go_wp2
  go_ret
  exact ⟨rfl, rfl⟩
set_option maxHeartbeats 8000000 in
set_option maxRecDepth 100000 in
theorem lsign_none {s : ByteArray} (h1 : s.data.toList ∉ signsIn) (h2 : s.data.toList ∉ signsOut) (w : World) : Calls Try.prog 48 #[.string s] w fun e w' => e = .returned (.int .i64 0) ∧ w = w' := by
  have f0_0 : (s.toList == [123]) = false := by rw [txt_eq]; exact decide_eq_false fun h => h1 (by rw [h]; decide)
  have f0_1 : (s.toList == [125]) = false := by rw [txt_eq]; exact decide_eq_false fun h => h1 (by rw [h]; decide)
  have f0_2 : (s.toList == [40]) = false := by rw [txt_eq]; exact decide_eq_false fun h => h1 (by rw [h]; decide)
  have f0_3 : (s.toList == [41]) = false := by rw [txt_eq]; exact decide_eq_false fun h => h1 (by rw [h]; decide)
  have f0_4 : (s.toList == [91]) = false := by rw [txt_eq]; exact decide_eq_false fun h => h1 (by rw [h]; decide)
  have f0_5 : (s.toList == [93]) = false := by rw [txt_eq]; exact decide_eq_false fun h => h1 (by rw [h]; decide)
  have f0_6 : (s.toList == [59]) = false := by rw [txt_eq]; exact decide_eq_false fun h => h1 (by rw [h]; decide)
  have f0_7 : (s.toList == [44]) = false := by rw [txt_eq]; exact decide_eq_false fun h => h1 (by rw [h]; decide)
  have f0_8 : (s.toList == [46]) = false := by rw [txt_eq]; exact decide_eq_false fun h => h1 (by rw [h]; decide)
  have f0_9 : (s.toList == [63]) = false := by rw [txt_eq]; exact decide_eq_false fun h => h1 (by rw [h]; decide)
  have f0_10 : (s.toList == [58]) = false := by rw [txt_eq]; exact decide_eq_false fun h => h1 (by rw [h]; decide)
  have f0_11 : (s.toList == [126]) = false := by rw [txt_eq]; exact decide_eq_false fun h => h1 (by rw [h]; decide)
  have f0_12 : (s.toList == [60]) = false := by rw [txt_eq]; exact decide_eq_false fun h => h1 (by rw [h]; decide)
  have f0_13 : (s.toList == [62]) = false := by rw [txt_eq]; exact decide_eq_false fun h => h1 (by rw [h]; decide)
  have f0_14 : (s.toList == [60, 61]) = false := by rw [txt_eq]; exact decide_eq_false fun h => h1 (by rw [h]; decide)
  have f0_15 : (s.toList == [62, 61]) = false := by rw [txt_eq]; exact decide_eq_false fun h => h1 (by rw [h]; decide)
  have f0_16 : (s.toList == [61, 61]) = false := by rw [txt_eq]; exact decide_eq_false fun h => h1 (by rw [h]; decide)
  have f0_17 : (s.toList == [33, 61]) = false := by rw [txt_eq]; exact decide_eq_false fun h => h1 (by rw [h]; decide)
  have f0_18 : (s.toList == [61, 61, 61]) = false := by rw [txt_eq]; exact decide_eq_false fun h => h1 (by rw [h]; decide)
  have f0_19 : (s.toList == [33, 61, 61]) = false := by rw [txt_eq]; exact decide_eq_false fun h => h1 (by rw [h]; decide)
  have f0_20 : (s.toList == [43]) = false := by rw [txt_eq]; exact decide_eq_false fun h => h1 (by rw [h]; decide)
  have f0_21 : (s.toList == [45]) = false := by rw [txt_eq]; exact decide_eq_false fun h => h1 (by rw [h]; decide)
  have f0_22 : (s.toList == [42]) = false := by rw [txt_eq]; exact decide_eq_false fun h => h1 (by rw [h]; decide)
  have f0_23 : (s.toList == [47]) = false := by rw [txt_eq]; exact decide_eq_false fun h => h1 (by rw [h]; decide)
  have f0_24 : (s.toList == [37]) = false := by rw [txt_eq]; exact decide_eq_false fun h => h1 (by rw [h]; decide)
  have f0_25 : (s.toList == [38]) = false := by rw [txt_eq]; exact decide_eq_false fun h => h1 (by rw [h]; decide)
  have f0_26 : (s.toList == [124]) = false := by rw [txt_eq]; exact decide_eq_false fun h => h1 (by rw [h]; decide)
  have f0_27 : (s.toList == [94]) = false := by rw [txt_eq]; exact decide_eq_false fun h => h1 (by rw [h]; decide)
  have f0_28 : (s.toList == [33]) = false := by rw [txt_eq]; exact decide_eq_false fun h => h1 (by rw [h]; decide)
  have f0_29 : (s.toList == [38, 38]) = false := by rw [txt_eq]; exact decide_eq_false fun h => h1 (by rw [h]; decide)
  have f0_30 : (s.toList == [124, 124]) = false := by rw [txt_eq]; exact decide_eq_false fun h => h1 (by rw [h]; decide)
  have f0_31 : (s.toList == [63, 63]) = false := by rw [txt_eq]; exact decide_eq_false fun h => h1 (by rw [h]; decide)
  have f0_32 : (s.toList == [61]) = false := by rw [txt_eq]; exact decide_eq_false fun h => h1 (by rw [h]; decide)
  have f0_33 : (s.toList == [43, 61]) = false := by rw [txt_eq]; exact decide_eq_false fun h => h1 (by rw [h]; decide)
  have f0_34 : (s.toList == [45, 61]) = false := by rw [txt_eq]; exact decide_eq_false fun h => h1 (by rw [h]; decide)
  have f0_35 : (s.toList == [42, 61]) = false := by rw [txt_eq]; exact decide_eq_false fun h => h1 (by rw [h]; decide)
  have f0_36 : (s.toList == [47, 61]) = false := by rw [txt_eq]; exact decide_eq_false fun h => h1 (by rw [h]; decide)
  have f0_37 : (s.toList == [37, 61]) = false := by rw [txt_eq]; exact decide_eq_false fun h => h1 (by rw [h]; decide)
  have f0_38 : (s.toList == [38, 61]) = false := by rw [txt_eq]; exact decide_eq_false fun h => h1 (by rw [h]; decide)
  have f0_39 : (s.toList == [124, 61]) = false := by rw [txt_eq]; exact decide_eq_false fun h => h1 (by rw [h]; decide)
  have f0_40 : (s.toList == [94, 61]) = false := by rw [txt_eq]; exact decide_eq_false fun h => h1 (by rw [h]; decide)
  have f0_41 : (s.toList == [60, 60, 61]) = false := by rw [txt_eq]; exact decide_eq_false fun h => h1 (by rw [h]; decide)
  have f0_42 : (s.toList == [62, 62, 61]) = false := by rw [txt_eq]; exact decide_eq_false fun h => h1 (by rw [h]; decide)
  have f0_43 : (s.toList == [62, 62, 62, 61]) = false := by rw [txt_eq]; exact decide_eq_false fun h => h1 (by rw [h]; decide)
  have f0_44 : (s.toList == [43, 43]) = false := by rw [txt_eq]; exact decide_eq_false fun h => h1 (by rw [h]; decide)
  have f0_45 : (s.toList == [45, 45]) = false := by rw [txt_eq]; exact decide_eq_false fun h => h1 (by rw [h]; decide)
  have f0_46 : (s.toList == [60, 60]) = false := by rw [txt_eq]; exact decide_eq_false fun h => h1 (by rw [h]; decide)
  have f0_47 : (s.toList == [62, 62]) = false := by rw [txt_eq]; exact decide_eq_false fun h => h1 (by rw [h]; decide)
  have f0_48 : (s.toList == [62, 62, 62]) = false := by rw [txt_eq]; exact decide_eq_false fun h => h1 (by rw [h]; decide)
  have f0_49 : (s.toList == [61, 62]) = false := by rw [txt_eq]; exact decide_eq_false fun h => h1 (by rw [h]; decide)
  have f1_0 : (s.toList == [46, 46, 46]) = false := by rw [txt_eq]; exact decide_eq_false fun h => h2 (by rw [h]; decide)
  have f1_1 : (s.toList == [63, 46]) = false := by rw [txt_eq]; exact decide_eq_false fun h => h2 (by rw [h]; decide)
  have f1_2 : (s.toList == [42, 42]) = false := by rw [txt_eq]; exact decide_eq_false fun h => h2 (by rw [h]; decide)
  have f1_3 : (s.toList == [42, 42, 61]) = false := by rw [txt_eq]; exact decide_eq_false fun h => h2 (by rw [h]; decide)
  have f1_4 : (s.toList == [38, 38, 61]) = false := by rw [txt_eq]; exact decide_eq_false fun h => h2 (by rw [h]; decide)
  have f1_5 : (s.toList == [124, 124, 61]) = false := by rw [txt_eq]; exact decide_eq_false fun h => h2 (by rw [h]; decide)
  have f1_6 : (s.toList == [63, 63, 61]) = false := by rw [txt_eq]; exact decide_eq_false fun h => h2 (by rw [h]; decide)
  clear h1 h2
  go_enter Try.func48, Try.ntmps48
  go_wp2
  go_ret
  exact ⟨rfl, rfl⟩
theorem lsign_any (s : ByteArray) (w : World) : Calls Try.prog 48 #[.string s] w fun e w' => e = .returned (.int .i64 (signF s.data.toList : Nat)) ∧ w = w' := by
  by_cases h1 : s.data.toList ∈ signsIn
  · rw [show signF s.data.toList = 1 from if_pos h1]
    simp only [signsIn, List.mem_cons, List.mem_nil_iff, or_false] at h1
    rcases h1 with h | h | h | h | h | h | h | h | h | h | h | h | h | h | h | h | h | h | h | h | h | h | h | h | h | h | h | h | h | h | h | h | h | h | h | h | h | h | h | h | h | h | h | h | h | h | h | h | h | h
    · rw [txt_of h]; exact lsign_0_0 w
    · rw [txt_of h]; exact lsign_0_1 w
    · rw [txt_of h]; exact lsign_0_2 w
    · rw [txt_of h]; exact lsign_0_3 w
    · rw [txt_of h]; exact lsign_0_4 w
    · rw [txt_of h]; exact lsign_0_5 w
    · rw [txt_of h]; exact lsign_0_6 w
    · rw [txt_of h]; exact lsign_0_7 w
    · rw [txt_of h]; exact lsign_0_8 w
    · rw [txt_of h]; exact lsign_0_9 w
    · rw [txt_of h]; exact lsign_0_10 w
    · rw [txt_of h]; exact lsign_0_11 w
    · rw [txt_of h]; exact lsign_0_12 w
    · rw [txt_of h]; exact lsign_0_13 w
    · rw [txt_of h]; exact lsign_0_14 w
    · rw [txt_of h]; exact lsign_0_15 w
    · rw [txt_of h]; exact lsign_0_16 w
    · rw [txt_of h]; exact lsign_0_17 w
    · rw [txt_of h]; exact lsign_0_18 w
    · rw [txt_of h]; exact lsign_0_19 w
    · rw [txt_of h]; exact lsign_0_20 w
    · rw [txt_of h]; exact lsign_0_21 w
    · rw [txt_of h]; exact lsign_0_22 w
    · rw [txt_of h]; exact lsign_0_23 w
    · rw [txt_of h]; exact lsign_0_24 w
    · rw [txt_of h]; exact lsign_0_25 w
    · rw [txt_of h]; exact lsign_0_26 w
    · rw [txt_of h]; exact lsign_0_27 w
    · rw [txt_of h]; exact lsign_0_28 w
    · rw [txt_of h]; exact lsign_0_29 w
    · rw [txt_of h]; exact lsign_0_30 w
    · rw [txt_of h]; exact lsign_0_31 w
    · rw [txt_of h]; exact lsign_0_32 w
    · rw [txt_of h]; exact lsign_0_33 w
    · rw [txt_of h]; exact lsign_0_34 w
    · rw [txt_of h]; exact lsign_0_35 w
    · rw [txt_of h]; exact lsign_0_36 w
    · rw [txt_of h]; exact lsign_0_37 w
    · rw [txt_of h]; exact lsign_0_38 w
    · rw [txt_of h]; exact lsign_0_39 w
    · rw [txt_of h]; exact lsign_0_40 w
    · rw [txt_of h]; exact lsign_0_41 w
    · rw [txt_of h]; exact lsign_0_42 w
    · rw [txt_of h]; exact lsign_0_43 w
    · rw [txt_of h]; exact lsign_0_44 w
    · rw [txt_of h]; exact lsign_0_45 w
    · rw [txt_of h]; exact lsign_0_46 w
    · rw [txt_of h]; exact lsign_0_47 w
    · rw [txt_of h]; exact lsign_0_48 w
    · rw [txt_of h]; exact lsign_0_49 w
  · by_cases h2 : s.data.toList ∈ signsOut
    · rw [show signF s.data.toList = 2 by unfold signF; rw [if_neg h1, if_pos h2]]
      simp only [signsOut, List.mem_cons, List.mem_nil_iff, or_false] at h2
      rcases h2 with h | h | h | h | h | h | h
      · rw [txt_of h]; exact lsign_1_0 w
      · rw [txt_of h]; exact lsign_1_1 w
      · rw [txt_of h]; exact lsign_1_2 w
      · rw [txt_of h]; exact lsign_1_3 w
      · rw [txt_of h]; exact lsign_1_4 w
      · rw [txt_of h]; exact lsign_1_5 w
      · rw [txt_of h]; exact lsign_1_6 w
    · rw [show signF s.data.toList = 0 by unfold signF; rw [if_neg h1, if_neg h2]]
      exact lsign_none h1 h2 w
end Go.Proofs.Ytbljbmeifmpfoaa
