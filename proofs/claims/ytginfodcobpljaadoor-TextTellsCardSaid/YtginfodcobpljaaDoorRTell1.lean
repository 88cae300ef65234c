/- renref3.Plain, Less, Blank, digit, Digits, whole, renref1.NaN, Neg, walked. No condition but the lengths. -/
import Derived.Test.YtginfodcobpljaaDoorStr
import Derived.Test.YtginfodcobpljaaDoorNumber
namespace Go.Proofs.YtginfodcobpljaaDoor
open Go.RowKit

set_option maxHeartbeats 400000 in
theorem r3plain_any {A : Option Addr} {c B : Nat} {xs : List UInt16} {w : World} (hB : B ≤ w.heap.size) (ha : Reads w B 1 A xs.length (u16s xs)) (hl : xs.length ≤ 70368744177664) :
    Calls Tryd.prog 31 #[.slice A xs.length c] w fun e w' => e = .returned (.tuple #[.string (plainF xs), .bool (plainOk xs)]) ∧ Below w.heap.size w w' := by
  obtain ⟨i0, hi0, hz0, hz1, hz2⟩ := info_parts Tryd.info_u8
  go_enter Tryd.func31, Tryd.ntmps31
  go_wp2
  go_loopw [4, 5] (fun v i wr => ∃ k : Nat, k ≤ xs.length ∧ i = .int .i64 k ∧ Hid (plainOk (xs.take k) = true) ∧ Made w wr 5 v (u8s ((xs.take k).map (·.toUInt8)))) (fun _ i _ => xs.length - (intOf i).toNat)
  case atStart => exact ⟨0, Nat.zero_le _, rfl, rfl, Made.nil _ _⟩
  case round =>
    obtain ⟨k, hk, rfl, hok, hm⟩ := hrel
    by_cases hlt : k < xs.length
    · obtain ⟨ad, hA, _, hca⟩ := (ha.below (hm.below.mono hB)).u16 hlt
      subst hA
      have h3 : (k : Int) < (xs.length : Int) := by omega
      have hlen : (u8s ((xs.take k).map (·.toUInt8))).length ≤ k := by simp [u8s]; omega
      have hx := xs[k].toNat_lt
      by_cases hp : xs[k].toNat ≤ 127
      · have HC := hide (plain_cell hp)
        have HS := hide (plain_snoc xs k hlt)
        have HO : Hid (plainOk (xs.take (k + 1)) = true) := by
          rw [List.take_succ_eq_append_getElem hlt, plainOk, List.all_append]
          have := hok.out
          rw [plainOk] at this
          rw [this]
          simp [hp, Hid]
        have hp2 : ¬ (128 : Int) ≤ (xs[k].toNat : Int) := by omega
        go_wp2_with (at_builtin; refine wpList_lit rfl _ _ 22 rfl 5 i0 _ 1 Tryd.underlying22 hi0 hz0 hz1 hz2 rfl _ _ rfl hm _ 1 1 rfl rfl rfl (by omega) (by omega) ?_; intro v' w' hm')
        go_roundw
        case rel => exact ⟨k + 1, by omega, by go_num, HO, hm'.cells (by rw [HS.out, HC.out])⟩
        case measure => simp [intOf]; omega
      · have HO : Hid (plainOk xs = false) := List.all_eq_false.2 ⟨xs[k], List.getElem_mem _, by simpa using hp⟩
        have hp2 : (128 : Int) ≤ (xs[k].toNat : Int) := by omega
        go_wp2
        go_ret2
        exact ⟨ret_sb (by rw [plainF, HO.out]; rfl) HO.out.symm, hm.below⟩
    · have hkk : xs.take k = xs := List.take_of_length_le (by omega)
      rw [hkk] at hok hm
      obtain ⟨A', c', rfl, _, _, hr⟩ := hm.u8
      rw [List.length_map] at hr ⊢
      have hs := run_str (c := c') hr
      go_wp2
      go_ret2
      exact ⟨ret_sb (by rw [plainF, hok.out]; rfl) hok.out.symm, hm.below⟩

theorem cmp1_lt {x y : UInt16} (h : x.toNat ≠ y.toNat) : (cmp1 x y < 0 ↔ x.toNat < y.toNat) ∧ cmp1 x y ≠ 0 := by
  unfold cmp1
  repeat' split
  all_goals omega
set_option maxHeartbeats 1000000 in
theorem r3less_any {A A' : Option Addr} {c d B : Nat} {xs ys : List UInt16} {w : World} (hB : B ≤ w.heap.size) (ha : Reads w B 1 A xs.length (u16s xs)) (hb : Reads w B 1 A' ys.length (u16s ys)) (hl : xs.length ≤ 70368744177664) :
    Calls Tryd.prog 34 #[.slice A xs.length c, .slice A' ys.length d] w fun e w' => e = .returned (.bool (decide (cmpF xs ys < 0))) ∧ Below w.heap.size w w' := by
  go_enter Tryd.func34, Tryd.ntmps34
  go_wp2
  go_loopw [5] (fun i wr => ∃ k : Nat, k ≤ xs.length ∧ k ≤ ys.length ∧ i = .int .i64 k ∧ Hid (cmpF xs ys = cmpF (xs.drop k) (ys.drop k)) ∧ Below w.heap.size w wr) (fun i _ => xs.length - (intOf i).toNat)
  case atStart => exact ⟨0, Nat.zero_le _, Nat.zero_le _, rfl, rfl, Below.refl _ _⟩
  case round =>
    obtain ⟨k, hk, hk2, rfl, HE, hnx⟩ := hrel
    by_cases hlt : k < xs.length
    · obtain ⟨ad, rfl, _, hca⟩ := (ha.below (hnx.mono hB)).u16 hlt
      have h3 : (k : Int) < (xs.length : Int) := by omega
      by_cases hlt2 : k < ys.length
      · obtain ⟨ad', rfl, _, hcb⟩ := (hb.below (hnx.mono hB)).u16 hlt2
        have h4 : (k : Int) < (ys.length : Int) := by omega
        have HS := hide (show cmpF xs ys = if cmp1 xs[k] ys[k] = 0 then cmpF (xs.drop (k + 1)) (ys.drop (k + 1)) else cmp1 xs[k] ys[k] by
          rw [HE.out, List.drop_eq_getElem_cons hlt, List.drop_eq_getElem_cons hlt2]; rfl)
        by_cases hc : xs[k].toNat = ys[k].toNat
        · have e1 : ((xs[k].toNat : Int) != (ys[k].toNat : Int)) = false := by rw [hc]; simp
          have HC := hide (show cmp1 xs[k] ys[k] = 0 by unfold cmp1; rw [if_neg (by omega), if_neg (by omega)])
          clear hc
          go_wp2
          go_quiet (fail)
          go_wp2
          go_roundw
          case rel => exact ⟨k + 1, by omega, by omega, by go_num, hide (by rw [HS.out, if_pos HC.out]), below_drewN hnx _⟩
          case measure => simp [intOf]; omega
        · have e1 : ((xs[k].toNat : Int) != (ys[k].toNat : Int)) = true := by rw [bne_iff_ne]; omega
          have HC := hide (cmp1_lt hc)
          clear hc
          go_wp2
          go_quiet (fail)
          go_wp2
          go_quiet (fail)
          go_wp2
          go_ret
          exact ⟨ret_bool (by rw [HS.out, if_neg HC.out.2]; exact (decide_eq_decide.2 HC.out.1).symm), below_drewN (below_drewN hnx _) _⟩
      · have h4 : ¬ (k : Int) < (ys.length : Int) := by omega
        go_wp2
        go_ret
        have hd : ys.drop k = [] := List.drop_of_length_le (by omega)
        refine ⟨ret_bool ?_, hnx⟩
        rw [HE.out, List.drop_eq_getElem_cons hlt, hd]
        exact decide_eq_decide.2 ⟨fun h => by omega, fun h => absurd h (by show ¬ ((1 : Int) < 0); omega)⟩
    · have hd : xs.drop k = [] := List.drop_of_length_le (by omega)
      have hk3 : k = xs.length := by omega
      go_wp2
      go_ret
      refine ⟨ret_bool ?_, hnx⟩
      rw [HE.out, hd]
      cases hy : ys.drop k with
      | nil =>
        have := congrArg List.length hy
        rw [List.length_drop] at this
        simp at this
        exact decide_eq_decide.2 ⟨fun h => by omega, fun h => absurd h (by show ¬ ((0 : Int) < 0); omega)⟩
      | cons y r =>
        have := congrArg List.length hy
        rw [List.length_drop] at this
        simp at this
        exact decide_eq_decide.2 ⟨fun h => by show (-1 : Int) < 0; omega, fun h => by omega⟩

theorem r3digit_any (x : UInt16) (w : World) : Calls Tryd.prog 64 #[.int .u16 (x.toNat : Int)] w fun e w' => e = .returned (.bool (isDigit x)) ∧ w = w' := by
  have h1 := x.toNat_lt
  go_enter Tryd.func64, Tryd.ntmps64
  go_wp2
  all_goals go_ret
  all_goals refine ⟨ret_bool ?_, rfl⟩
  all_goals (rw [Bool.eq_iff_iff]; simp only [isDigit, Bool.and_eq_true, decide_eq_true_eq, Bool.false_eq_true, false_iff]; omega)
theorem r3blank_any (x : UInt16) (w : World) : Calls Tryd.prog 62 #[.int .u16 (x.toNat : Int)] w fun e w' => e = .returned (.bool (isBlank x)) ∧ w = w' := by
  have h1 := x.toNat_lt
  go_enter Tryd.func62, Tryd.ntmps62
  go_wp2
  all_goals go_ret
  all_goals refine ⟨ret_bool ?_, rfl⟩
  all_goals (rw [Bool.eq_iff_iff]; simp [isBlank]; omega)

def digitsF (xs : List UInt16) : Bool := xs.all isDigit && decide (0 < xs.length)
set_option maxHeartbeats 400000 in
theorem r3digits_any {A : Option Addr} {c B : Nat} {xs : List UInt16} {w : World} (ha : Reads w B 1 A xs.length (u16s xs)) (hl : xs.length ≤ 70368744177664) :
    Calls Tryd.prog 49 #[.slice A xs.length c] w fun e w' => e = .returned (.bool (digitsF xs)) ∧ w = w' := by
  go_enter Tryd.func49, Tryd.ntmps49
  go_wp2
  go_loop [3] (fun i => ∃ k : Nat, k ≤ xs.length ∧ i = .int .i64 k ∧ Hid ((xs.take k).all isDigit = true)) (fun i => xs.length - (intOf i).toNat)
  case atStart => exact ⟨0, Nat.zero_le _, rfl, rfl⟩
  case round =>
    obtain ⟨k, hk, rfl, hok⟩ := hrel
    by_cases hlt : k < xs.length
    · obtain ⟨ad, rfl, _, hca⟩ := ha.u16 hlt
      have h3 : (k : Int) < (xs.length : Int) := by omega
      cases hd : isDigit xs[k] with
      | false =>
        have HX := hide (show digitsF xs = false by unfold digitsF; rw [List.all_eq_false.2 ⟨xs[k], List.getElem_mem _, by simp [hd]⟩]; rfl)
        go_wp2_with (go_at_call 64; refine (r3digit_any _ _).mono ?_; rintro e w' ⟨rfl, rfl⟩)
        go_ret
        exact ⟨ret_bool HX.out.symm, rfl⟩
      | true =>
        have HX := hide hd
        go_wp2_with (go_at_call 64; refine (r3digit_any _ _).mono ?_; rintro e w' ⟨rfl, rfl⟩)
        go_round
        case rel => exact ⟨k + 1, by omega, by go_num, by rw [List.take_succ_eq_append_getElem hlt, List.all_append, hok.out]; simp [Hid, HX.out]⟩
        case measure => simp [intOf]; omega
    · go_wp2
      go_ret
      have h1 := hok.out
      rw [List.take_of_length_le (by omega)] at h1
      refine ⟨ret_bool ?_, rfl⟩
      unfold digitsF
      rw [h1, Bool.true_and]

def wholeF (xs : List UInt16) : Int := if decVal xs ≤ 9007199254740991 then (decVal xs : Int) else -1
set_option maxHeartbeats 400000 in
theorem r3whole_any {A : Option Addr} {c B : Nat} {xs : List UInt16} {w : World} (ha : Reads w B 1 A xs.length (u16s xs)) (hl : xs.length ≤ 70368744177664) (hd : ∀ x ∈ xs, isDigit x = true) :
    Calls Tryd.prog 50 #[.slice A xs.length c] w fun e w' => e = .returned (.int .i64 (wholeF xs)) ∧ w = w' := by
  have HD := hide hd
  clear hd
  go_enter Tryd.func50, Tryd.ntmps50
  go_wp2
  go_loop [3, 4] (fun n i => ∃ k : Nat, k ≤ xs.length ∧ i = .int .i64 k ∧ n = .int .i64 (decVal (xs.take k)) ∧ decVal (xs.take k) ≤ 9007199254740991) (fun _ i => xs.length - (intOf i).toNat)
  case atStart => exact ⟨0, Nat.zero_le _, rfl, rfl, Nat.zero_le _⟩
  case round =>
    obtain ⟨k, hk, rfl, rfl, hn⟩ := hrel
    by_cases hlt : k < xs.length
    · obtain ⟨ad, rfl, _, hca⟩ := ha.u16 hlt
      have h3 : (k : Int) < (xs.length : Int) := by omega
      obtain ⟨hx1, hx2⟩ := isDigit_iff.1 (HD.out xs[k] (List.getElem_mem _))
      have HT := hide (decVal_take_le xs (k + 1))
      have hsu := decVal_take_succ xs k hlt
      have HS := hide hsu
      clear hsu
      obtain ⟨m, hm⟩ : ∃ m, decVal (xs.take k) = m := ⟨_, rfl⟩
      rw [hm] at hn ⊢
      have HM := hide hm
      clear hm
      by_cases hbig : 9007199254740991 < 10 * m + (xs[k].toNat - 48)
      · have HB := hide (show wholeF xs = -1 by unfold wholeF; rw [if_neg]; have h1 := HT.out; rw [HS.out, HM.out] at h1; omega)
        have hbig2 : (9007199254740991 : Int) < 10 * (m : Int) + ((xs[k].toNat : Int) - 48) := by omega
        clear hbig
        go_wp2
        go_ret
        exact ⟨ret_int HB.out.symm, rfl⟩
      · have hbig2 : ¬ (9007199254740991 : Int) < 10 * (m : Int) + ((xs[k].toNat : Int) - 48) := by omega
        go_wp2
        go_round
        case rel => exact ⟨k + 1, by omega, by go_num, by rw [HS.out, HM.out]; go_num, by rw [HS.out, HM.out]; omega⟩
        case measure => simp [intOf]; omega
    · have hkk : xs.take k = xs := List.take_of_length_le (by omega)
      rw [hkk] at hn ⊢
      have HW := hide (show wholeF xs = (decVal xs : Int) by unfold wholeF; rw [if_pos hn])
      go_wp2
      go_ret
      exact ⟨ret_int HW.out.symm, rfl⟩

theorem nan_any (w : World) : Calls Tryd.prog 48 #[] w fun e w' => e = .returned (.agg #[.int .i64 2, .int .i64 0]) ∧ Below w.heap.size w w' := by
  go_enter Tryd.func48, Tryd.ntmps48
  go_wp2
  go_returns
  exact ⟨rfl, by go_grown⟩
end Go.Proofs.YtginfodcobpljaaDoor
