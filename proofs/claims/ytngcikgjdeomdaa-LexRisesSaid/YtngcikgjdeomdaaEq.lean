/- Loops that hold two slices against one another: their contracts. No condition but the lengths. -/
import Derived.Test.YtngcikgjdeomdaaSmall
import Derived.Test.YtngcikgjdeomdaaBase2
namespace Go.Proofs.Ytngcikgjdeomdaa
open Go.RowKit

set_option maxHeartbeats 400000 in
theorem runits_any {A A' : Option Addr} {c d B : Nat} {xs ys : List UInt16} {w : World} (hB : B ≤ w.heap.size) (ha : Reads w B 1 A xs.length (u16s xs)) (hb : Reads w B 1 A' ys.length (u16s ys)) (hl : xs.length ≤ 70368744177664) (hl2 : ys.length ≤ 70368744177664) :
    Calls Try.prog 17 #[.slice A xs.length c, .slice A' ys.length d] w fun e w' => e = .returned (.bool (decide (xs = ys))) ∧ Below w.heap.size w w' := by
  by_cases hne : xs.length = ys.length
  · have H := hide hne
    clear hne
    have e1 : ((xs.length : Int) == (ys.length : Int)) = true := by rw [H.out]; simp
    have e2 : ((xs.length : Int) != (ys.length : Int)) = false := by rw [H.out]; simp
    go_enter Try.func17, Try.ntmps17
    go_wp2
    go_loopw [5] (fun i wr => ∃ k : Nat, k ≤ xs.length ∧ i = .int .i64 k ∧ xs.take k = ys.take k ∧ Below w.heap.size w wr) (fun i _ => xs.length - (intOf i).toNat)
    case atStart => exact ⟨0, Nat.zero_le _, rfl, by simp, Below.refl _ _⟩
    case round =>
      obtain ⟨k, hk, rfl, htk, hnx⟩ := hrel
      have HT := hide htk
      clear htk
      by_cases hlt : k < xs.length
      · have hlt2 : k < ys.length := by have := H.out; omega
        obtain ⟨ad, rfl, _, hca⟩ := (ha.below (hnx.mono hB)).u16 hlt
        obtain ⟨ad', rfl, _, hcb⟩ := (hb.below (hnx.mono hB)).u16 hlt2
        have h3 : (k : Int) < (xs.length : Int) := by omega
        have h4 : (k : Int) < (ys.length : Int) := by omega
        go_wp2
        go_quiet (fail)
        go_wp2
        · go_ret
          refine ⟨ret_bool ?_, below_drewN hnx _⟩
          have hne : (xs[k].toNat : Int) ≠ ys[k].toNat := by have h : ((xs[k].toNat : Int) != ys[k].toNat) = true := by assumption
                                                             simpa using h
          refine (decide_eq_false ?_).symm
          rintro rfl
          exact hne rfl
        · go_roundw
          case rel =>
            have h : ((xs[k].toNat : Int) != ys[k].toNat) = false := by assumption
            have h' : xs[k] = ys[k] := by
              apply UInt16.toNat_inj.1
              simp at h
              omega
            exact ⟨k + 1, by omega, by go_num, by rw [List.take_succ_eq_append_getElem hlt, List.take_succ_eq_append_getElem hlt2, HT.out, h'], below_drewN hnx _⟩
          case measure => simp [intOf]; omega
      · go_wp2
        go_ret
        refine ⟨ret_bool ?_, hnx⟩
        have hkk : k = xs.length := by omega
        refine (decide_eq_true ?_).symm
        have h1 := HT.out
        rw [List.take_of_length_le (by omega), List.take_of_length_le (by rw [← H.out]; omega)] at h1
        exact h1
  · have e1 : ((xs.length : Int) != (ys.length : Int)) = true := by simp; omega
    go_enter Try.func17, Try.ntmps17
    go_wp2
    go_ret
    refine ⟨ret_bool (decide_eq_false ?_).symm, Below.refl _ _⟩
    rintro rfl
    exact hne rfl
end Go.Proofs.Ytngcikgjdeomdaa
