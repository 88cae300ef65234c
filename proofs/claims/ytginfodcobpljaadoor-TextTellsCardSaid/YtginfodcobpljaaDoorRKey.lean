/- renref3.Key, walked. No condition but the lengths. -/
import Derived.Test.YtginfodcobpljaaDoorRTell1
import Derived.Test.YtginfodcobpljaaDoorDigits
namespace Go.Proofs.YtginfodcobpljaaDoor
open Go.RowKit

theorem digitsF_iff {xs : List UInt16} : digitsF xs = true ↔ (∀ x ∈ xs, isDigit x = true) ∧ 0 < xs.length := by
  simp [digitsF]
theorem keyOk_nod {xs : List UInt16} (h : digitsF xs = false) : keyOk xs = false := by
  by_cases h0 : xs.length = 0
  · exact keyOk_long (by omega)
  · have h1 : xs.all isDigit = false := by
      unfold digitsF at h
      rw [decide_eq_true (by omega : 0 < xs.length), Bool.and_true] at h
      exact h
    simp [keyOk, h1]
set_option maxHeartbeats 2000000 in
theorem r3key_any {A : Option Addr} {c B : Nat} {xs : List UInt16} {w : World} (ha : Reads w B 1 A xs.length (u16s xs)) (hl : xs.length ≤ 70368744177664) :
    Calls Tryd.prog 33 #[.slice A xs.length c] w fun e w' => e = .returned (.tuple #[.int .i64 (keyF xs), .bool (keyOk xs)]) ∧ w = w' := by
  cases hd : digitsF xs with
  | false =>
    have HK := hide (keyOk_nod hd)
    go_enter Tryd.func33, Tryd.ntmps33
    go_wp2_with (go_at_call 49; refine (r3digits_any ha hl).mono ?_; rintro e w' ⟨rfl, rfl⟩)
    go_ret2
    exact ⟨ret_nokey HK.out, rfl⟩
  | true =>
    obtain ⟨hall, hz0⟩ := digitsF_iff.1 hd
    have HA := hide hall
    clear hall
    by_cases h10 : 10 < xs.length
    · have HK := hide (keyOk_long (u := xs) (by omega))
      go_enter Tryd.func33, Tryd.ntmps33
      go_wp2_with (go_at_call 49; refine (r3digits_any ha hl).mono ?_; rintro e w' ⟨rfl, rfl⟩)
      go_ret2
      exact ⟨ret_nokey HK.out, rfl⟩
    obtain ⟨ad, hA, _, hca⟩ := ha.u16 (k := 0) hz0
    subst hA
    rw [Addr.add_zero] at hca
    have hz : (0 : Int) < (xs.length : Int) := by omega
    by_cases hlead : xs[0] = 48 ∧ 1 < xs.length
    · have HK := hide (keyOk_lead hz0 hlead.1 hlead.2)
      have e1 : ((xs[0].toNat : Int) == 48) = true := by rw [hlead.1]; rfl
      have e2 : (1 : Int) < xs.length := by have := hlead.2; omega
      clear hlead
      go_enter Tryd.func33, Tryd.ntmps33
      go_wp2_with (go_at_call 49; refine (r3digits_any ha hl).mono ?_; rintro e w' ⟨rfl, rfl⟩)
      go_ret2
      exact ⟨ret_nokey HK.out, rfl⟩
    have hlead2 : ((xs[0].toNat : Int) == 48) = false ∨ (((xs[0].toNat : Int) == 48) = true ∧ ¬ (1 : Int) < xs.length) := by
      by_cases h : xs[0] = 48
      · right
        exact ⟨by rw [h]; rfl, fun h2 => hlead ⟨h, by omega⟩⟩
      · left
        rw [beq_eq_false_iff_ne]
        intro h2
        exact h (UInt16.toNat_inj.1 (by simp; omega))
    have HK := hide (keyOk_at hz0 (by omega) hlead HA.out)
    have hlt := decVal_lt HA.out
    have hp : decVal xs < 10000000000 := Nat.lt_of_lt_of_le hlt (Nat.le_trans (Nat.pow_le_pow_right (by omega) (show xs.length ≤ 10 by omega)) (by decide))
    have HW := hide (show wholeF xs = (decVal xs : Int) by unfold wholeF; rw [if_pos (by omega)])
    clear hlead hlt
    obtain ⟨m, hm⟩ : ∃ m, decVal xs = m := ⟨_, rfl⟩
    rw [hm] at hp HW HK
    have HM := hide hm
    clear hm
    by_cases hs : m ≤ 4294967294
    · have HR := hide (show keyF xs = m ∧ keyOk xs = true by
        have : keyOk xs = true := by rw [HK.out]; simpa using hs
        exact ⟨by rw [keyF, this, HM.out]; rfl, this⟩)
      rcases hlead2 with e1 | ⟨e1, e2⟩
      all_goals
        go_enter Tryd.func33, Tryd.ntmps33
        go_wp2_with (first | (go_at_call 49; refine (r3digits_any ha hl).mono ?_; rintro e w' ⟨rfl, rfl⟩) | (go_at_call 50; refine (r3whole_any ha hl HA.out).mono ?_; rw [HW.out]; rintro e w' ⟨rfl, rfl⟩))
        go_ret2
        exact ⟨ret_ib (by rw [HR.out.1]) HR.out.2.symm, rfl⟩
    · have HR := hide (show keyOk xs = false by rw [HK.out]; simpa using hs)
      rcases hlead2 with e1 | ⟨e1, e2⟩
      all_goals
        go_enter Tryd.func33, Tryd.ntmps33
        go_wp2_with (first | (go_at_call 49; refine (r3digits_any ha hl).mono ?_; rintro e w' ⟨rfl, rfl⟩) | (go_at_call 50; refine (r3whole_any ha hl HA.out).mono ?_; rw [HW.out]; rintro e w' ⟨rfl, rfl⟩))
        go_ret2
        exact ⟨ret_nokey HR.out, rfl⟩
end Go.Proofs.YtginfodcobpljaaDoor
