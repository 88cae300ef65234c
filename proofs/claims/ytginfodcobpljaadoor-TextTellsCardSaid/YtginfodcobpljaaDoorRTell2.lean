/- renref3.Trim, renref3.Numeric, walked. No condition but the lengths. -/
import Derived.Test.YtginfodcobpljaaDoorRTell1
namespace Go.Proofs.YtginfodcobpljaaDoor
open Go.RowKit

theorem Sl.mid {w : World} {B c k j : Nat} {A : Option Addr} {xs : List UInt16} (hr : Reads w B 1 A xs.length (u16s xs)) (hk : k ≤ j) (hj : j ≤ xs.length) (hc : xs.length ≤ c) (hc2 : c ≤ maxLen) :
    Sl w B (.slice (if c = k then A else A.map (·.add k)) (j - k) (c - k)) ((xs.take j).drop k) := by
  have hl : (xs.take j).length = j := by rw [List.length_take]; omega
  have hl2 : ((xs.take j).drop k).length = j - k := by rw [List.length_drop, hl]
  have h1 := hr.take16 hj
  have h2 := h1.cut16 (k := k) (c := c) (by omega) (by omega)
  exact ⟨_, c - k, by rw [hl2], by rw [hl2]; omega, by omega, h2⟩
theorem Sl.mid1 {w : World} {B c k j : Nat} {ad : Addr} {xs : List UInt16} (hr : Reads w B 1 (some ad) xs.length (u16s xs)) (hk : k ≤ j) (hj : j ≤ xs.length) (hc : xs.length ≤ c) (hc2 : c ≤ maxLen) (hne : c ≠ k) :
    Sl w B (.slice (some (ad.add k)) (j - k) (c - k)) ((xs.take j).drop k) := by
  have h := Sl.mid hr hk hj hc hc2
  rw [if_neg hne] at h
  exact h
theorem Sl.none {w : World} {B c : Nat} {A : Option Addr} {ys : List UInt16} (h : ys = []) (hc : c ≤ maxLen) : Sl w B (.slice A 0 c) ys := by
  subst h
  exact ⟨A, c, rfl, Nat.zero_le _, hc, rfl, fun h => absurd h (Nat.lt_irrefl 0)⟩
theorem trimF_at {xs : List UInt16} {k : Nat} (h : (xs.drop k).dropWhile isBlank = xs.dropWhile isBlank) : trimF xs = trimR ((xs.drop k).dropWhile isBlank) := by rw [h]; rfl

set_option maxHeartbeats 2000000 in
set_option maxRecDepth 100000 in
theorem r3trim_any {A : Option Addr} {c B : Nat} {xs : List UInt16} {w : World} (ha : Reads w B 1 A xs.length (u16s xs)) (hc : xs.length ≤ c) (hc2 : c ≤ maxLen) (hl : xs.length ≤ 70368744177664) :
    Calls Tryd.prog 47 #[.slice A xs.length c] w fun e w' => ∃ v, e = .returned v ∧ Sl w B v (trimF xs) ∧ (trimF xs).length ≤ xs.length ∧ w = w' := by
  have HA := hide ha
  go_enter Tryd.func47, Tryd.ntmps47
  go_wp2
  go_loop [3] (fun i => ∃ k : Nat, k ≤ xs.length ∧ i = .int .i64 k ∧ Hid ((xs.drop k).dropWhile isBlank = xs.dropWhile isBlank)) (fun i => xs.length - (intOf i).toNat)
  case atStart => exact ⟨0, Nat.zero_le _, rfl, rfl⟩
  case round =>
    obtain ⟨k, hk, rfl, heq⟩ := hrel
    by_cases hlt : k < xs.length
    · obtain ⟨ad, hA, _, hca⟩ := ha.u16 hlt
      have h3 : (k : Int) < (xs.length : Int) := by omega
      have hdr : xs.drop k = xs[k] :: xs.drop (k + 1) := List.drop_eq_getElem_cons hlt
      have HD := hide hdr
      clear hdr
      cases hb : isBlank xs[k] with
      | true =>
        have HN := hide (show (xs.drop (k + 1)).dropWhile isBlank = xs.dropWhile isBlank by rw [← heq.out, HD.out, List.dropWhile_cons_of_pos hb])
        subst hA
        go_wp2_with (go_at_call 62; refine (r3blank_any _ _).mono ?_; rintro e w' ⟨rfl, rfl⟩)
        go_round
        case rel => exact ⟨k + 1, by omega, by go_num, HN⟩
        case measure => simp [intOf]; omega
      | false =>
        have HT := hide (show trimF xs = trimR (xs.drop k) by rw [trimF_at heq.out, HD.out, List.dropWhile_cons_of_neg (by simp [hb])])
        subst hA
        go_wp2_with (go_at_call 62; refine (r3blank_any _ _).mono ?_; rintro e w' ⟨rfl, rfl⟩)
        go_loop [4] (fun i => ∃ j : Nat, k ≤ j ∧ j ≤ xs.length ∧ i = .int .i64 j ∧ Hid (trimF xs = trimR ((xs.take j).drop k))) (fun i => (intOf i).toNat)
        case atStart => exact ⟨xs.length, hk, Nat.le_refl _, rfl, by rw [HT.out, List.take_of_length_le (Nat.le_refl _)]; rfl⟩
        case round =>
          obtain ⟨j, hkj, hj, rfl, hq⟩ := hrel
          by_cases hlt2 : k < j
          · have hj1 : j - 1 < xs.length := by omega
            obtain ⟨ad', hA', _, hcb⟩ := ha.u16 hj1
            cases hA'
            have h4 : (k : Int) < (j : Int) := by omega
            have hcb' : w.cell? (ad.add ((j : Int) - 1).toNat) = some (.int .u16 (xs[j - 1].toNat : Int)) := by
              rw [show ((j : Int) - 1).toNat = j - 1 from by omega]; exact hcb
            have hys : ((xs.take j).drop k).length = j - k := by rw [List.length_drop, List.length_take]; omega
            have hlast : ((xs.take j).drop k)[((xs.take j).drop k).length - 1]'(by omega) = xs[j - 1] := by
              rw [List.getElem_drop, List.getElem_take]
              congr 1
              omega
            cases hb2 : isBlank xs[j - 1] with
            | true =>
              have HN := hide (show trimF xs = trimR ((xs.take (j - 1)).drop k) by
                rw [hq.out, trimR_blank (ys := (xs.take j).drop k) (by omega) (by rw [hlast]; exact hb2), hys, List.take_drop, List.take_take]
                congr 2
                congr 1
                omega)
              clear hlast hys
              go_wp2_with (go_at_call 62; refine (r3blank_any _ _).mono ?_; rintro e w' ⟨rfl, rfl⟩)
              go_round
              case rel => exact ⟨j - 1, by omega, by omega, by go_num, HN⟩
              case measure => simp [intOf]; omega
            | false =>
              have HN := hide (show trimF xs = (xs.take j).drop k by rw [hq.out, trimR_stop (ys := (xs.take j).drop k) (by omega) (by rw [hlast]; exact hb2)])
              have HY := hide hys
              clear hlast hys
              go_wp2_with (go_at_call 62; refine (r3blank_any _ _).mono ?_; rintro e w' ⟨rfl, rfl⟩)
              go_ret
              exact ⟨_, rfl, by rw [HN.out]; exact Sl.mid1 HA.out hkj hj hc hc2 (by omega), by rw [HN.out, HY.out]; omega, rfl⟩
          · obtain rfl : j = k := by omega
            have HN := hide (show trimF xs = [] by
              rw [hq.out]
              have : (xs.take j).drop j = [] := List.drop_of_length_le (by rw [List.length_take]; omega)
              rw [this]; rfl)
            go_wp2
            go_ret
            exact ⟨_, rfl, Sl.none HN.out (by omega), by rw [HN.out]; exact Nat.zero_le _, rfl⟩
    · obtain rfl : k = xs.length := by omega
      have HN := hide (show trimF xs = [] by
        rw [trimF_at heq.out, List.drop_length]; rfl)
      clear hlt
      go_wp2
      go_loop [4] (fun i => i = .int .i64 xs.length) (fun _ => 0)
      case atStart => rfl
      case round =>
        subst hrel
        go_wp2
        all_goals go_ret
        all_goals exact ⟨_, rfl, Sl.none HN.out (by omega), by rw [HN.out]; exact Nat.zero_le _, rfl⟩

/-- a unit of a number, or one of others -/
def numU0 (x : UInt16) : Bool := isDigit x || (decide (97 ≤ x.toNat) && decide (x.toNat ≤ 102)) || (decide (65 ≤ x.toNat) && decide (x.toNat ≤ 70))
def isOne (x : UInt16) (l : List UInt8) : Bool := l.any fun b => b.toNat == x.toNat
def numU (l : List UInt8) (x : UInt16) : Bool := numU0 x || isOne x l
def numericF (l : List UInt8) (xs : List UInt16) : Bool := xs.all (numU l) && xs.any isDigit
theorem isOne_snoc (x : UInt16) (l : List UInt8) (k : Nat) (h : k < l.length) : isOne x (l.take (k + 1)) = (isOne x (l.take k) || (l[k].toNat == x.toNat)) := by
  unfold isOne
  rw [List.take_succ_eq_append_getElem h, List.any_append]
  simp

set_option maxHeartbeats 4000000 in
set_option maxRecDepth 100000 in
theorem r3numeric_any {A : Option Addr} {c B : Nat} {xs : List UInt16} (s : ByteArray) {w : World} (ha : Reads w B 1 A xs.length (u16s xs)) (hl : xs.length ≤ 70368744177664) (hs : s.size ≤ 70368744177664) :
    Calls Tryd.prog 51 #[.slice A xs.length c, .string s] w fun e w' => e = .returned (.bool (numericF s.data.toList xs)) ∧ w = w' := by
  go_enter Tryd.func51, Tryd.ntmps51
  go_wp2
  go_loop [5, 6] (fun q i => ∃ k : Nat, k ≤ xs.length ∧ i = .int .i64 k ∧ (∃ b, q = .bool b ∧ Hid (b = (xs.take k).any isDigit)) ∧ Hid ((xs.take k).all (numU s.data.toList) = true)) (fun _ i => xs.length - (intOf i).toNat)
  case atStart => exact ⟨0, Nat.zero_le _, rfl, ⟨false, rfl, rfl⟩, rfl⟩
  case round =>
    obtain ⟨k, hk, rfl, ⟨b, rfl, hbd⟩, hok⟩ := hrel
    by_cases hlt : k < xs.length
    · obtain ⟨ad, rfl, _, hca⟩ := ha.u16 hlt
      have h3 : (k : Int) < (xs.length : Int) := by omega
      have hx := xs[k].toNat_lt
      have HS := hide (show (xs.take (k + 1)).any isDigit = ((xs.take k).any isDigit || isDigit xs[k]) by rw [List.take_succ_eq_append_getElem hlt]; simp only [List.any_append, List.any_cons, List.any_nil, Bool.or_false])
      have HAL := hide (show (xs.take (k + 1)).all (numU s.data.toList) = numU s.data.toList xs[k] by rw [List.take_succ_eq_append_getElem hlt, List.all_append, hok.out]; simp only [List.all_cons, List.all_nil, Bool.and_true, Bool.true_and])
      have HB := hide (show numU s.data.toList xs[k] = false → numericF s.data.toList xs = false by
        intro h
        have : xs.all (numU s.data.toList) = false := List.all_eq_false.2 ⟨xs[k], List.getElem_mem _, by simp [h]⟩
        simp [numericF, this])
      go_upto_region 6 with (fail)
      go_cut [8] (fun v wx => wx = w ∧ v = .bool (numU0 xs[k]))
      case first =>
        cases hd : isDigit xs[k] with
        | true =>
          have HO := hide (show numU0 xs[k] = true by simp [numU0, hd])
          go_wp2_with (go_at_call 64; refine (r3digit_any _ _).mono ?_; rintro e w' ⟨rfl, rfl⟩)
          go_meet
          exact ⟨rfl, congrArg Value.bool (Eq.trans (by first | rfl | (rw [Bool.eq_iff_iff]; simp; omega)) HO.out.symm)⟩
        | false =>
          by_cases r1 : 97 ≤ xs[k].toNat ∧ xs[k].toNat ≤ 102
          · have HO := hide (show numU0 xs[k] = true by simp [numU0, r1.1, r1.2])
            obtain ⟨r1, r2⟩ := r1
            go_wp2_with (go_at_call 64; refine (r3digit_any _ _).mono ?_; rintro e w' ⟨rfl, rfl⟩)
            go_meet
            exact ⟨rfl, congrArg Value.bool (Eq.trans (by first | rfl | (rw [Bool.eq_iff_iff]; simp; omega)) HO.out.symm)⟩
          · have hw : ¬ (97 : Int) ≤ (xs[k].toNat : Int) ∨ ((97 : Int) ≤ (xs[k].toNat : Int) ∧ ¬ (xs[k].toNat : Int) ≤ 102) := by omega
            have HN := hide r1
            clear r1
            by_cases r2 : 65 ≤ xs[k].toNat ∧ xs[k].toNat ≤ 70
            · have HO := hide (show numU0 xs[k] = true by simp [numU0, r2.1, r2.2])
              obtain ⟨r2, r3⟩ := r2
              rcases hw with r1 | ⟨r1, r1b⟩
              · go_wp2_with (go_at_call 64; refine (r3digit_any _ _).mono ?_; rintro e w' ⟨rfl, rfl⟩)
                go_meet
                exact ⟨rfl, congrArg Value.bool (Eq.trans (by first | rfl | (rw [Bool.eq_iff_iff]; simp; omega)) HO.out.symm)⟩
              · exact absurd r1 (by omega)
            · have HO := hide (show numU0 xs[k] = false by
                have h1 := HN.out
                simp only [numU0, hd, Bool.false_or, Bool.or_eq_false_iff, Bool.and_eq_false_iff, decide_eq_false_iff_not]
                omega)
              have hw2 : ¬ (65 : Int) ≤ (xs[k].toNat : Int) ∨ ((65 : Int) ≤ (xs[k].toNat : Int) ∧ ¬ (xs[k].toNat : Int) ≤ 70) := by omega
              clear r2
              rcases hw with r1 | ⟨r1, r1b⟩
              all_goals rcases hw2 with r2 | ⟨r2, r2b⟩
              all_goals first
                | (exfalso; omega)
                | (go_wp2_with (go_at_call 64; refine (r3digit_any _ _).mono ?_; rintro e w' ⟨rfl, rfl⟩)
                   go_meet
                   exact ⟨rfl, congrArg Value.bool (Eq.trans (by first | rfl | (rw [Bool.eq_iff_iff]; simp; omega)) HO.out.symm)⟩)
      case rest =>
        obtain ⟨rfl, rfl⟩ := hcut
        obtain ⟨u0, hu0⟩ : ∃ u, numU0 xs[k] = u := ⟨_, rfl⟩
        rw [hu0]
        have HU := hide hu0
        clear hu0
        go_wp2
        go_loop [8, 9] (fun q i => ∃ j : Nat, j ≤ s.size ∧ i = .int .i64 j ∧ ∃ o, q = .bool o ∧ Hid (o = (u0 || isOne xs[k] (s.data.toList.take j)))) (fun _ i => s.size - (intOf i).toNat)
        case atStart => exact ⟨0, Nat.zero_le _, rfl, u0, rfl, by simp [Hid, isOne]⟩
        case round =>
          obtain ⟨j, hj, rfl, o, rfl, ho⟩ := hrel
          by_cases hlj : j < s.size
          · have hsj := s[j].toNat_lt
            have HN := hide (show (u0 || isOne xs[k] (s.data.toList.take (j + 1))) = (o || (s[j].toNat == xs[k].toNat)) by
              rw [isOne_snoc _ _ j (by simpa using hlj), ← Bool.or_assoc, ← ho.out]; rfl)
            cases o with
            | true =>
              go_wp2
              go_round
              case rel => exact ⟨j + 1, by omega, by go_num, true, rfl, by rw [HN.out]; rfl⟩
              case measure => simp [intOf]; omega
            | false =>
              go_wp2
              go_round
              case rel => exact ⟨j + 1, by omega, by go_num, _, rfl, by rw [HN.out]; simp only [Hid, Bool.false_or]; rw [Bool.eq_iff_iff]; simp; omega⟩
              case measure => simp [intOf]; omega
          · obtain rfl : j = s.size := by omega
            have HO := hide (show o = numU s.data.toList xs[k] by
              rw [ho.out, List.take_of_length_le (by simp), numU, HU.out])
            clear hlj
            cases o with
            | false =>
              have HX := hide (HB.out HO.out.symm)
              go_wp2
              go_ret
              exact ⟨ret_bool HX.out.symm, rfl⟩
            | true =>
              cases b with
              | true =>
                go_wp2
                go_round
                case rel => exact ⟨k + 1, by omega, by go_num, ⟨true, rfl, by rw [HS.out, ← hbd.out]; rfl⟩, HAL.out.trans HO.out.symm⟩
                case measure => simp [intOf]; omega
              | false =>
                go_wp2_with (go_at_call 64; refine (r3digit_any _ _).mono ?_; rintro e w' ⟨rfl, rfl⟩)
                go_round
                case rel => exact ⟨k + 1, by omega, by go_num, ⟨_, rfl, by rw [HS.out, ← hbd.out]; rfl⟩, HAL.out.trans HO.out.symm⟩
                case measure => simp [intOf]; omega
    · have hkk : xs.take k = xs := List.take_of_length_le (by omega)
      rw [hkk] at hbd hok
      have HX := hide (show numericF s.data.toList xs = b by rw [numericF, hok.out, ← hbd.out]; rfl)
      go_wp2
      go_ret
      exact ⟨ret_bool HX.out.symm, rfl⟩
end Go.Proofs.YtginfodcobpljaaDoor
