/- text.Bytes, walked: units as bytes. -/
import Derived.Test.YtginfodcobpljaaDoorSpecB
import Derived.Test.YtginfodcobpljaaDoorAppendRune
import Derived.Test.YtginfodcobpljaaDoorBase2
namespace Go.Proofs.YtginfodcobpljaaDoor
open Go.RowKit

theorem ret_bytes {v : Value} {e e' : Nat} (h : e' = e) : Ending.returned (.tuple #[v, .int .i64 (e : Int)]) = .returned (.tuple #[v, .int .i64 (e' : Int)]) := by rw [h]
theorem u8s_cat (a b : List UInt8) : u8s a ++ u8s b = u8s (a ++ b) := by simp [u8s]

theorem rune_z (w0 w : World) (v : Value) (xs : List Value) (r : Nat) (z : Int) (hz : (r : Int) = z) (hm : Made w0 w 5 v xs) (hsz : xs.length ≤ 1000000000000) (h : r < 55296 ∨ 57344 ≤ r) (h1 : r ≤ 1114111) :
    Calls Tryd.prog 44 #[v, .int .i32 z] w fun e w' => ∃ v', e = .returned v' ∧ Made w0 w' 5 v' (xs ++ u8s (enc8 r)) := by
  subst hz
  exact rune_any w0 w v xs r hm hsz h h1

set_option maxHeartbeats 4000000 in
set_option maxRecDepth 100000 in
theorem bytes_any {A : Option Addr} {c B : Nat} {u : List UInt16} {w : World} (hB : B ≤ w.heap.size) (ha : Reads w B 1 A u.length (u16s u)) (hl : u.length ≤ 100000000000) :
    Calls Tryd.prog 25 #[.slice A u.length c] w fun e w' => ∃ v, e = .returned (.tuple #[v, .int .i64 (bErr u : Int)]) ∧ Made w w' 5 v (u8s (bOut u)) := by
  go_enter Tryd.func25, Tryd.ntmps25
  go_wp2
  go_loopw [4, 5] (fun v i wr => ∃ k bs, i = .int .i64 (k : Nat) ∧ Hid (AtB u k bs) ∧ k ≤ u.length ∧ Made w wr 5 v (u8s bs)) (fun _ i _ => u.length - (intOf i).toNat)
  case atStart => exact ⟨0, [], rfl, hide (AtB.start u), Nat.zero_le _, Made.nil _ _⟩
  case round =>
    obtain ⟨k, bs, rfl, hat, hk, hm⟩ := hrel
    by_cases hlt : k < u.length
    · have har := ha.below (hm.below.mono hB)
      obtain ⟨ad, rfl, _, hca⟩ := har.u16 hlt
      have hbl : bs.length ≤ 4 * k := hat.out.1
      have hx := u[k].toNat_lt
      obtain ⟨x, hX⟩ : ∃ x, u[k].toNat = x := ⟨_, rfl⟩
      rw [hX] at hca hx
      have HX := hide hX
      clear hX
      by_cases h1 : x < 55296
      · have HR := hide (show run1 (u.drop k) = some (x, 1) by rw [← HX.out]; exact run1_one hlt (Or.inl (by rw [HX.out]; exact h1)))
        have g1 : (x : Int) < 55296 := by omega
        go_wp2_with (go_at_call 44; refine (rune_any w _ _ _ x hm (by rw [u8s_len]; omega) (by omega) (by omega)).mono ?_; rintro e w1 ⟨v1, rfl, hm1⟩)
        go_roundw
        case rel => exact ⟨k + 1, _, by go_num, hide (hat.out.good hlt HR.out), by omega, hm1.cells (u8s_cat _ _)⟩
        case measure => simp [intOf]; omega
      have g1 : ¬ (x : Int) < 55296 := by omega
      by_cases h2 : 57344 ≤ x
      · have HR := hide (show run1 (u.drop k) = some (x, 1) by rw [← HX.out]; exact run1_one hlt (Or.inr (by rw [HX.out]; exact h2)))
        have g2 : (57344 : Int) ≤ (x : Int) := by omega
        go_wp2_with (go_at_call 44; refine (rune_any w _ _ _ x hm (by rw [u8s_len]; omega) (by omega) (by omega)).mono ?_; rintro e w1 ⟨v1, rfl, hm1⟩)
        go_roundw
        case rel => exact ⟨k + 1, _, by go_num, hide (hat.out.good hlt HR.out), by omega, hm1.cells (u8s_cat _ _)⟩
        case measure => simp [intOf]; omega
      have g2 : ¬ (57344 : Int) ≤ (x : Int) := by omega
      by_cases h3 : 56320 ≤ x
      · have HU := hide (hat.out.bad hlt (run1_none hlt (by rw [HX.out]; omega) (by rw [HX.out]; omega) (Or.inl (by rw [HX.out]; exact h3))))
        have g3 : ¬ (x : Int) < 56320 := by omega
        clear h1 h2 h3
        go_wp2
        go_ret2
        exact ⟨_, ret_bytes (e := 2) HU.out.1, by rw [HU.out.2]; exact Made.of_below hm.below _⟩
      by_cases h4 : k + 1 < u.length
      · obtain ⟨ad', had, _, hcb⟩ := har.u16 h4
        obtain rfl : ad = ad' := by injection had
        have g4 : ((k : Int) + 1) < (u.length : Int) := by omega
        have hy := u[k + 1].toNat_lt
        obtain ⟨y, hY⟩ : ∃ y, u[k + 1].toNat = y := ⟨_, rfl⟩
        rw [hY] at hcb hy
        have HY := hide hY
        clear hY
        obtain ⟨X, hXX⟩ : ∃ X : Int, (x : Int) = X := ⟨_, rfl⟩
        obtain ⟨Y, hYY⟩ : ∃ Y : Int, (y : Int) = Y := ⟨_, rfl⟩
        rw [hXX] at hca
        rw [hYY] at hcb
        have hcb2 : wr.cell? { block := ad.block, off := ad.off + (k + 1) } = some (.int .u16 Y) := hcb
        have k1 : 55296 ≤ X := by omega
        have k2 : X < 56320 := by omega
        have k3 : X < 57344 := by omega
        have k0 : 0 ≤ Y ∧ Y < 65536 := by omega
        have HXX := hide hXX
        have HYY := hide hYY
        clear g1 g2 hx hXX hYY
        by_cases h5 : y < 56320
        · have HU := hide (hat.out.bad hlt (run1_none hlt (by rw [HX.out]; omega) (by rw [HX.out]; omega) (Or.inr (Or.inr ⟨h4, Or.inl (by rw [HY.out]; exact h5)⟩))))
          have g5 : Y < 56320 := by have := HYY.out; omega
          clear h1 h2 h3 h5 hy
          go_wp2
          go_ret2
          exact ⟨_, ret_bytes (e := 2) HU.out.1, by rw [HU.out.2]; exact Made.of_below hm.below _⟩
        have g5 : (56320 : Int) ≤ Y := by have := HYY.out; omega
        by_cases h6 : 57344 ≤ y
        · have HU := hide (hat.out.bad hlt (run1_none hlt (by rw [HX.out]; omega) (by rw [HX.out]; omega) (Or.inr (Or.inr ⟨h4, Or.inr (by rw [HY.out]; exact h6)⟩))))
          have g6 : (57344 : Int) ≤ Y := by have := HYY.out; omega
          clear h1 h2 h3 h5 h6 hy
          go_wp2
          go_ret2
          exact ⟨_, ret_bytes (e := 2) HU.out.1, by rw [HU.out.2]; exact Made.of_below hm.below _⟩
        have g6 : Y < 57344 := by have := HYY.out; omega
        have HR := hide (show run1 (u.drop k) = some (65536 + (x - 55296) * 1024 + (y - 56320), 2) by rw [← HX.out, ← HY.out]; exact run1_two h4 (by rw [HX.out]; omega) (by rw [HX.out]; omega) (by rw [HY.out]; omega) (by rw [HY.out]; omega))
        obtain ⟨r, hr⟩ : ∃ r, 65536 + (x - 55296) * 1024 + (y - 56320) = r := ⟨_, rfl⟩
        rw [hr] at HR
        have hrz := hide (show (r : Int) = 65536 + (X - 55296) * 1024 + (Y - 56320) by have := HXX.out; have := HYY.out; omega)
        have hr1 : 57344 ≤ r := by omega
        have hr2 : r ≤ 1114111 := by have := HXX.out; omega
        clear h1 h2 h3 h5 h6 hy hr
        go_wp2_with fail
        refine (rune_z w _ _ _ r _ hrz.out hm (by rw [u8s_len]; omega) (Or.inr hr1) hr2).mono ?_
        rintro e w1 ⟨v1, rfl, hm1⟩
        go_wp2
        go_roundw
        case rel => exact ⟨k + 2, _, by go_num, hide (hat.out.good hlt HR.out), by omega, hm1.cells (u8s_cat _ _)⟩
        case measure => simp [intOf]; omega
      · have HU := hide (hat.out.bad hlt (run1_none hlt (by rw [HX.out]; omega) (by rw [HX.out]; omega) (Or.inr (Or.inl (by omega)))))
        have g3 : (x : Int) < 56320 := by omega
        have g4 : ¬ ((k : Int) + 1) < (u.length : Int) := by omega
        clear h1 h2 h3
        go_wp2
        go_ret2
        exact ⟨_, ret_bytes (e := 2) HU.out.1, by rw [HU.out.2]; exact Made.of_below hm.below _⟩
    · go_wp2
      go_ret2
      have hkk : k = u.length := by omega
      subst hkk
      have hs := hat.out.stop
      exact ⟨_, ret_bytes (e := 0) hs.1, hm.cells (by rw [hs.2])⟩
end Go.Proofs.YtginfodcobpljaaDoor
