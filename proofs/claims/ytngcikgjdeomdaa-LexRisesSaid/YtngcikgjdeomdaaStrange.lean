/- text.strange, slices.ContainsFunc over Number's own closure: their contracts. No condition but the lengths. -/
import Derived.Test.YtngcikgjdeomdaaDigits
namespace Go.Proofs.Ytngcikgjdeomdaa
open Go.RowKit

theorem ascii_odd (w : World) : Calls Try.prog 20 #[.string ⟨#[120, 88, 111, 79, 46, 43, 45, 95]⟩] w fun e w' => ∃ A c, e = .returned (.slice A oddUnits.length c) ∧ Reads w' w'.heap.size 1 A oddUnits.length (u16s oddUnits) ∧ Below w.heap.size w w' := by
  refine (ascii_any _ w (by decide)).mono ?_
  rintro e w' ⟨v, rfl, hm⟩
  have hm' : Made w w' 32 v (u16s oddUnits) := hm
  obtain ⟨A, c, rfl, _, _, hr⟩ := hm'.u16
  exact ⟨A, c, rfl, hr, hm'.below⟩

set_option maxHeartbeats 1000000 in
theorem strange_any {A : Option Addr} {c B : Nat} {xs : List UInt16} {w : World} (hB : B ≤ w.heap.size) (ha : Reads w B 1 A xs.length (u16s xs)) (hl : xs.length ≤ 70368744177664) :
    Calls Try.prog 76 #[.slice A xs.length c] w fun e w' => e = .returned (.bool (strangeF xs)) ∧ Below w.heap.size w w' := by
  go_enter Try.func76, Try.ntmps76
  go_wp2
  go_loopw [3, 8] (fun s i wr => ∃ k : Nat, k ≤ xs.length ∧ i = .int .i64 k ∧ s = .bool ((xs.take k).any isDigit) ∧ Hid ((xs.take k).all okUnit = true) ∧ Below w.heap.size w wr) (fun _ i _ => xs.length - (intOf i).toNat)
  case atStart => exact ⟨0, Nat.zero_le _, rfl, rfl, rfl, Below.refl _ _⟩
  case round =>
    obtain ⟨k, hk, rfl, rfl, hok, hnx⟩ := hrel
    by_cases hlt : k < xs.length
    · obtain ⟨ad, hA, _, hca⟩ := (ha.below (hnx.mono hB)).u16 hlt
      subst hA
      have h3 : (k : Int) < (xs.length : Int) := by omega
      have hx := xs[k].toNat_lt
      have hsu : (xs.take (k + 1)).any isDigit = ((xs.take k).any isDigit || isDigit xs[k]) := by rw [List.take_succ_eq_append_getElem hlt]; simp only [List.any_append, List.any_cons, List.any_nil, Bool.or_false]
      have hal : (xs.take (k + 1)).all okUnit = okUnit xs[k] := by rw [List.take_succ_eq_append_getElem hlt, List.all_append, hok.out]; simp only [List.all_cons, List.all_nil, Bool.and_true, Bool.true_and]
      have hbad : okUnit xs[k] = false → strangeF xs = false := by
        intro h
        have : xs.all okUnit = false := List.all_eq_false.2 ⟨xs[k], List.getElem_mem _, by simp [h]⟩
        simp [strangeF, this]
      have HS := hide hsu
      have HA := hide hal
      have HB := hide hbad
      clear hsu hal hbad
      obtain ⟨s, hs⟩ : ∃ s, (xs.take k).any isDigit = s := ⟨_, rfl⟩
      rw [hs]
      have HK := hide hs
      clear hs
      cases hd : isDigit xs[k] with
      | true =>
        have ho := okUnit_digit hd
        have HO := hide ho
        clear ho
        cases s
        all_goals
          go_wp2_with (go_at_call 80; refine (digit_any _ _).mono ?_; rintro e w' ⟨rfl, rfl⟩)
          go_roundw
          case rel => exact ⟨k + 1, by omega, by go_num, by rw [HS.out, HK.out, hd]; rfl, HA.out.trans HO.out, hnx⟩
          case measure => simp [intOf]; omega
      | false =>
        by_cases r1 : 97 ≤ xs[k].toNat ∧ xs[k].toNat ≤ 102
        · have HO : Hid (okUnit xs[k] = true) := by simp [okUnit, r1.1, r1.2, Hid]
          obtain ⟨r1, r2⟩ := r1
          cases s
          all_goals
            go_wp2_with (go_at_call 80; refine (digit_any _ _).mono ?_; rintro e w' ⟨rfl, rfl⟩)
            go_roundw
            case rel => exact ⟨k + 1, by omega, by go_num, by rw [HS.out, HK.out, hd]; rfl, HA.out.trans HO.out, hnx⟩
            case measure => simp [intOf]; omega
        by_cases r2 : 65 ≤ xs[k].toNat ∧ xs[k].toNat ≤ 70
        · have HO : Hid (okUnit xs[k] = true) := by simp [okUnit, r2.1, r2.2, Hid]
          obtain ⟨r2, r3⟩ := r2
          clear r1
          have r4 : ¬ (97 : Int) ≤ xs[k].toNat := by omega
          cases s
          all_goals
            go_wp2_with (go_at_call 80; refine (digit_any _ _).mono ?_; rintro e w' ⟨rfl, rfl⟩)
            go_roundw
            case rel => exact ⟨k + 1, by omega, by go_num, by rw [HS.out, HK.out, hd]; rfl, HA.out.trans HO.out, hnx⟩
            case measure => simp [intOf]; omega
        have hod : okUnit xs[k] = decide (xs[k] ∈ oddUnits) := by
          have e1 : (decide (97 ≤ xs[k].toNat) && decide (xs[k].toNat ≤ 102)) = false := by simpa using r1
          have e2 : (decide (65 ≤ xs[k].toNat) && decide (xs[k].toNat ≤ 70)) = false := by simpa using r2
          rw [okUnit, hd, e1, e2]; rfl
        have HO := hide hod
        clear hod
        obtain ⟨m, hm⟩ : ∃ m, decide (xs[k] ∈ oddUnits) = m := ⟨_, rfl⟩
        have HM := hide hm
        clear hm
        cases m with
        | true =>
          cases s
          all_goals
            go_wp2_with (first | (go_at_call 80; refine (digit_any _ _).mono ?_; rintro e w' ⟨rfl, rfl⟩) | (go_at_call 20; refine (ascii_odd _).mono ?_; rintro e w1 ⟨A1, c1, rfl, hr1, hb1⟩) | (go_at_call 94; refine (scontains_any _ hr1 (by decide)).mono ?_; rintro e w2 ⟨rfl, rfl⟩; rw [HM.out]))
            all_goals go_roundw
            all_goals first | exact ⟨k + 1, by omega, by go_num, by rw [HS.out, HK.out, hd]; rfl, HA.out.trans (HO.out.trans HM.out), hnx.trans (hb1.mono hnx.size)⟩ | (simp [intOf]; omega)
        | false =>
          have HB' := hide (HB.out (HO.out.trans HM.out))
          cases s
          all_goals
            go_wp2_with (first | (go_at_call 80; refine (digit_any _ _).mono ?_; rintro e w' ⟨rfl, rfl⟩) | (go_at_call 20; refine (ascii_odd _).mono ?_; rintro e w1 ⟨A1, c1, rfl, hr1, hb1⟩) | (go_at_call 94; refine (scontains_any _ hr1 (by decide)).mono ?_; rintro e w2 ⟨rfl, rfl⟩; rw [HM.out]))
            all_goals go_ret
            all_goals exact ⟨ret_bool HB'.out.symm, hnx.trans (hb1.mono hnx.size)⟩
    · go_wp2
      go_ret
      have hkk : xs.take k = xs := List.take_of_length_le (by omega)
      rw [hkk] at hok ⊢
      exact ⟨ret_bool (by rw [strangeF, hok.out]; rfl), hnx⟩

/-- The closure of text.Number: no digit. -/
theorem nodigit_any (x : UInt16) (w : World) : Calls Try.prog 79 #[.int .u16 (x.toNat : Int)] w fun e w' => e = .returned (.bool (!isDigit x)) ∧ w = w' := by
  go_enter Try.func79, Try.ntmps79
  go_wp2_with (go_at_call 80; refine (digit_any _ _).mono ?_; rintro e w' ⟨rfl, rfl⟩)
  go_ret
  exact ⟨rfl, rfl⟩

def HasOdd (xs : List UInt16) : Prop := xs.any (fun x => !isDigit x) = true

set_option maxHeartbeats 400000 in
theorem sindexfunc_any {A : Option Addr} {c B : Nat} {xs : List UInt16} {w : World} (ha : Reads w B 1 A xs.length (u16s xs)) (hl : xs.length ≤ 70368744177664) :
    Calls Try.prog 96 #[.slice A xs.length c, .func (.func 79) #[] #[]] w (Found (HasOdd xs) w) := by
  go_enter Try.func96, Try.ntmps96
  go_wp2
  go_loop [8] (fun i => ∃ k : Nat, k ≤ xs.length ∧ i = .int .i64 k ∧ Hid ((xs.take k).any (fun x => !isDigit x) = false)) (fun i => xs.length - (intOf i).toNat)
  case atStart => exact ⟨0, Nat.zero_le _, rfl, rfl⟩
  case round =>
    obtain ⟨k, hk, rfl, hno⟩ := hrel
    by_cases hlt : k < xs.length
    · obtain ⟨ad, hA, _, hca⟩ := ha.u16 hlt
      subst hA
      have h3 : (k : Int) < (xs.length : Int) := by omega
      cases hd : isDigit xs[k] with
      | false =>
        have HX := hide (show HasOdd xs from List.any_eq_true.2 ⟨xs[k], List.getElem_mem _, by rw [hd]; rfl⟩)
        go_wp2_with (go_at_call 79; refine (nodigit_any _ _).mono ?_; rintro e w' ⟨rfl, rfl⟩)
        go_ret
        exact ⟨k, rfl, ⟨fun _ => by omega, fun _ => HX.out⟩, rfl⟩
      | true =>
        have HX := hide hd
        go_wp2_with (go_at_call 79; refine (nodigit_any _ _).mono ?_; rintro e w' ⟨rfl, rfl⟩)
        go_round
        case rel => exact ⟨k + 1, by omega, by go_num, by rw [List.take_succ_eq_append_getElem hlt, List.any_append, hno.out]; simp [Hid, HX.out]⟩
        case measure => simp [intOf]; omega
    · go_wp2
      go_ret
      refine ⟨-1, rfl, ⟨fun h => absurd h ?_, fun h => by omega⟩, rfl⟩
      have h1 := hno.out
      rw [List.take_of_length_le (by omega)] at h1
      rw [HasOdd, h1]; simp

theorem scontainsfunc_any {A : Option Addr} {c B : Nat} {xs : List UInt16} {w : World} (ha : Reads w B 1 A xs.length (u16s xs)) (hl : xs.length ≤ 70368744177664) :
    Calls Try.prog 78 #[.slice A xs.length c, .func (.func 79) #[] #[]] w fun e w' => e = .returned (.bool (!xs.all isDigit)) ∧ w = w' := by
  go_enter Try.func78, Try.ntmps78
  go_wp2_with fail
  refine (sindexfunc_any ha hl).mono ?_
  rintro e w' ⟨k, rfl, hk, rfl⟩
  have HK := hide hk
  clear hk
  go_wp2
  go_ret
  refine ⟨ret_bool ?_, rfl⟩
  have h1 := HK.out
  rw [Bool.eq_iff_iff, decide_eq_true_eq, ← h1, HasOdd]
  simp
end Go.Proofs.Ytngcikgjdeomdaa
