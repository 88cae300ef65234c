/- slices.Equal, Compare, Index, Contains, ContainsFunc over units, and what stands on them: their contracts. No condition but the lengths. -/
import Derived.Test.YtngcikgjdeomdaaEq
namespace Go.Proofs.Ytngcikgjdeomdaa
open Go.RowKit

set_option maxHeartbeats 400000 in
theorem sequal_any {A A' : Option Addr} {c d B : Nat} {xs ys : List UInt16} {w : World} (hB : B ≤ w.heap.size) (ha : Reads w B 1 A xs.length (u16s xs)) (hb : Reads w B 1 A' ys.length (u16s ys)) (hl : xs.length ≤ 70368744177664) (hl2 : ys.length ≤ 70368744177664) :
    Calls Try.prog 95 #[.slice A xs.length c, .slice A' ys.length d] w fun e w' => e = .returned (.bool (decide (xs = ys))) ∧ Below w.heap.size w w' := by
  by_cases hne : xs.length = ys.length
  · have H := hide hne
    clear hne
    have e1 : ((xs.length : Int) == (ys.length : Int)) = true := by rw [H.out]; simp
    have e2 : ((xs.length : Int) != (ys.length : Int)) = false := by rw [H.out]; simp
    go_enter Try.func95, Try.ntmps95
    go_wp2
    go_loopw [13] (fun i wr => ∃ k : Nat, k ≤ xs.length ∧ i = .int .i64 k ∧ xs.take k = ys.take k ∧ Below w.heap.size w wr) (fun i _ => xs.length - (intOf i).toNat)
    case atStart => exact ⟨0, Nat.zero_le _, rfl, by simp, Below.refl _ _⟩
    case round =>
      obtain ⟨k, hk, rfl, htk, hnx⟩ := hrel
      have HT := hide htk
      clear htk
      by_cases hlt : k < xs.length
      · have hlt2 : k < ys.length := by have := H.out; omega
        obtain ⟨ad, rfl, _, hca⟩ := (ha.below (hnx.mono hB)).u16 hlt
        obtain ⟨ad', rfl, _, hcb⟩ := (hb.below (hnx.mono hB)).u16 hlt2
        have h3 : (k : Int) < (xs.length : Int) := by omega
        have h4 : (k : Int) < (ys.length : Int) := by omega
        go_wp2
        go_quiet (fail)
        go_wp2
        · go_ret
          refine ⟨ret_bool ?_, below_drewN hnx _⟩
          have hne : (xs[k].toNat : Int) ≠ ys[k].toNat := by
            have h : ((xs[k].toNat : Int) != ys[k].toNat) = true := by assumption
            simpa using h
          refine (decide_eq_false ?_).symm
          rintro rfl
          exact hne rfl
        · go_roundw
          case rel =>
            have h : ((xs[k].toNat : Int) != ys[k].toNat) = false := by assumption
            have h' : xs[k] = ys[k] := by
              apply UInt16.toNat_inj.1
              simp at h
              omega
            exact ⟨k + 1, by omega, by go_num, by rw [List.take_succ_eq_append_getElem hlt, List.take_succ_eq_append_getElem hlt2, HT.out, h'], below_drewN hnx _⟩
          case measure => simp [intOf]; omega
      · go_wp2
        go_ret
        refine ⟨ret_bool ?_, hnx⟩
        have hkk : k = xs.length := by omega
        refine (decide_eq_true ?_).symm
        have h1 := HT.out
        rw [List.take_of_length_le (by omega), List.take_of_length_le (by rw [← H.out]; omega)] at h1
        exact h1
  · have e1 : ((xs.length : Int) != (ys.length : Int)) = true := by simp; omega
    go_enter Try.func95, Try.ntmps95
    go_wp2
    go_ret
    refine ⟨ret_bool (decide_eq_false ?_).symm, Below.refl _ _⟩
    rintro rfl
    exact hne rfl

theorem same_any {A A' : Option Addr} {c d B : Nat} {xs ys : List UInt16} {w : World} (hB : B ≤ w.heap.size) (ha : Reads w B 1 A xs.length (u16s xs)) (hb : Reads w B 1 A' ys.length (u16s ys)) (hl : xs.length ≤ 70368744177664) (hl2 : ys.length ≤ 70368744177664) :
    Calls Try.prog 77 #[.slice A xs.length c, .slice A' ys.length d] w fun e w' => e = .returned (.bool (decide (xs = ys))) ∧ Below w.heap.size w w' := by
  go_enter Try.func77, Try.ntmps77
  go_wp2_with (go_at_call 95; refine (sequal_any hB ha hb hl hl2).mono ?_; rintro e w' ⟨rfl, hb'⟩)
  go_ret
  exact ⟨rfl, hb'⟩

/-- there is one, just if the place that is told is not below 0 -/
def Found (p : Prop) (w : World) (e : Ending) (w' : World) : Prop := ∃ k : Int, e = .returned (.int .i64 k) ∧ (p ↔ 0 ≤ k) ∧ w = w'

set_option maxHeartbeats 400000 in
theorem sindex_any {A : Option Addr} {c B : Nat} {xs : List UInt16} (x : UInt16) {w : World} (ha : Reads w B 1 A xs.length (u16s xs)) (hl : xs.length ≤ 70368744177664) :
    Calls Try.prog 109 #[.slice A xs.length c, .int .u16 (x.toNat : Int)] w (Found (x ∈ xs) w) := by
  go_enter Try.func109, Try.ntmps109
  go_wp2
  go_loop [8] (fun i => ∃ k : Nat, k ≤ xs.length ∧ i = .int .i64 k ∧ x ∉ xs.take k) (fun i => xs.length - (intOf i).toNat)
  case atStart => exact ⟨0, Nat.zero_le _, rfl, by simp⟩
  case round =>
    obtain ⟨k, hk, rfl, hno⟩ := hrel
    have HN := hide hno
    clear hno
    by_cases hlt : k < xs.length
    · obtain ⟨ad, rfl, _, hca⟩ := ha.u16 hlt
      have h3 : (k : Int) < (xs.length : Int) := by omega
      by_cases hx : x = xs[k]
      · have hmem : x ∈ xs := by rw [hx]; exact List.getElem_mem _
        have e1 : ((x.toNat : Int) == (xs[k].toNat : Int)) = true := by rw [← hx]; simp
        have HX := hide hmem
        clear hx hmem
        go_wp2
        go_ret
        exact ⟨k, rfl, ⟨fun _ => by omega, fun _ => HX.out⟩, rfl⟩
      · have e1 : ((x.toNat : Int) == (xs[k].toNat : Int)) = false := by
          rw [beq_eq_false_iff_ne]
          intro h
          exact hx (UInt16.toNat_inj.1 (by omega))
        go_wp2
        go_round
        case rel => exact ⟨k + 1, by omega, by go_num, by rw [List.take_succ_eq_append_getElem hlt, List.mem_append]; exact fun h => h.elim HN.out (fun h => hx (by simpa using h))⟩
        case measure => simp [intOf]; omega
    · go_wp2
      go_ret
      refine ⟨-1, rfl, ⟨fun h => absurd h ?_, fun h => by omega⟩, rfl⟩
      have h1 := HN.out
      rwa [List.take_of_length_le (by omega)] at h1

theorem scontains_any {A : Option Addr} {c B : Nat} {xs : List UInt16} (x : UInt16) {w : World} (ha : Reads w B 1 A xs.length (u16s xs)) (hl : xs.length ≤ 70368744177664) :
    Calls Try.prog 94 #[.slice A xs.length c, .int .u16 (x.toNat : Int)] w fun e w' => e = .returned (.bool (decide (x ∈ xs))) ∧ w = w' := by
  go_enter Try.func94, Try.ntmps94
  go_wp2_with fail
  refine (sindex_any x ha hl).mono ?_
  rintro e w' ⟨k, rfl, hk, rfl⟩
  have HK := hide hk
  clear hk
  go_wp2
  go_ret
  exact ⟨ret_bool (decide_eq_decide.2 HK.out.symm), rfl⟩

end Go.Proofs.Ytngcikgjdeomdaa
