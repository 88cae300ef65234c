/- renref3.Bytes, walked: the reference's units as bytes. -/
import Derived.Test.YtginfodcobpljaaDoorRUnits
namespace Go.Proofs.YtginfodcobpljaaDoor
open Go.RowKit

theorem u8n_of {n : Nat} (h : n < 256) : ((UInt8.ofNat n).toNat : Int) = (n : Int) := by simp; omega
theorem enc8_i1 {r : Nat} (h : r < 128) : u8s (enc8 r) = [.int .u8 (r : Int)] := by
  rw [enc8, if_pos h]
  simp only [u8s, List.map_cons, List.map_nil, u8v]
  rw [u8n_of (by omega)]
theorem enc8_i2 {r : Nat} (h0 : 128 ≤ r) (h : r < 2048) : u8s (enc8 r) = [.int .u8 ((192 + r / 64 : Nat) : Int), .int .u8 ((128 + r % 64 : Nat) : Int)] := by
  rw [enc8, if_neg (by omega), if_pos h]
  simp only [u8s, List.map_cons, List.map_nil, u8v]
  rw [u8n_of (by omega), u8n_of (by omega)]
theorem enc8_i3 {r : Nat} (h0 : 2048 ≤ r) (h : r < 65536) : u8s (enc8 r) = [.int .u8 ((224 + r / 4096 : Nat) : Int), .int .u8 ((128 + r / 64 % 64 : Nat) : Int), .int .u8 ((128 + r % 64 : Nat) : Int)] := by
  rw [enc8, if_neg (by omega), if_neg (by omega), if_pos h]
  simp only [u8s, List.map_cons, List.map_nil, u8v]
  rw [u8n_of (by omega), u8n_of (by omega), u8n_of (by omega)]
theorem enc8_i4 {r : Nat} (h0 : 65536 ≤ r) (h : r ≤ 1114111) : u8s (enc8 r) = [.int .u8 ((240 + r / 262144 : Nat) : Int), .int .u8 ((128 + r / 4096 % 64 : Nat) : Int), .int .u8 ((128 + r / 64 % 64 : Nat) : Int), .int .u8 ((128 + r % 64 : Nat) : Int)] := by
  rw [enc8, if_neg (by omega), if_neg (by omega), if_neg (by omega)]
  simp only [u8s, List.map_cons, List.map_nil, u8v]
  rw [u8n_of (by omega), u8n_of (by omega), u8n_of (by omega), u8n_of (by omega)]

set_option maxHeartbeats 8000000 in
set_option maxRecDepth 1000000 in
theorem r3bytes_any {A : Option Addr} {c B : Nat} {u : List UInt16} {w : World} (hB : B ≤ w.heap.size) (ha : Reads w B 1 A u.length (u16s u)) (hl : u.length ≤ 100000000000) :
    Calls Tryd.prog 26 #[.slice A u.length c] w fun e w' => ∃ v, e = .returned (.tuple #[v, .int .i64 (bErr u : Int)]) ∧ Made w w' 5 v (u8s (bOut u)) := by
  obtain ⟨i0, hi0, hz0, hz1, hz2⟩ := info_parts Tryd.info_u8
  go_enter Tryd.func26, Tryd.ntmps26
  go_wp2
  go_loopw [4, 5] (fun v i wr => ∃ k bs, i = .int .i64 (k : Nat) ∧ Hid (AtB u k bs) ∧ k ≤ u.length ∧ Made w wr 5 v (u8s bs)) (fun _ i _ => u.length - (intOf i).toNat)
  case atStart => exact ⟨0, [], rfl, hide (AtB.start u), Nat.zero_le _, Made.nil _ _⟩
  case round =>
    obtain ⟨k, bs, rfl, hat, hk, hm⟩ := hrel
    by_cases hlt : k < u.length
    · have har := ha.below (hm.below.mono hB)
      obtain ⟨ad, rfl, _, hca⟩ := har.u16 hlt
      have hbl : bs.length ≤ 4 * k := hat.out.1
      have hx := u[k].toNat_lt
      obtain ⟨x, hX⟩ : ∃ x, u[k].toNat = x := ⟨_, rfl⟩
      rw [hX] at hca hx
      have HX := hide hX
      obtain ⟨X, hXX⟩ : ∃ X : Int, (x : Int) = X := ⟨_, rfl⟩
      rw [hXX] at hca
      have HXX := hide hXX
      have hx0 : 0 ≤ X := by omega
      have hx1 : X < 65536 := by omega
      clear hX hXX hx
      by_cases h1 : X < 55296 ∨ 57344 ≤ X
      · have HR := hide (show run1 (u.drop k) = some (x, 1) by rw [← HX.out]; exact run1_one hlt (by rw [HX.out]; have := HXX.out; omega))
        by_cases h2 : X < 128
        · have HE := hide (enc8_i1 (r := x) (by have := HXX.out; omega))
          clear h1
          go_wp2_with (at_builtin; refine wpList_lit rfl _ _ 22 rfl 5 i0 _ 1 Tryd.underlying22 hi0 hz0 hz1 hz2 rfl _ _ rfl hm _ 1 1 rfl rfl rfl (by rw [u8s_len]; omega) (by omega) ?_; intro v' w' hm')
          go_roundw
          case rel => exact ⟨k + 1, _, by go_num, hide (hat.out.good hlt HR.out), by omega, hm'.cells (u8s_join _ _ (by rw [HE.out]; have := HXX.out; simp only [List.cons.injEq, Value.int.injEq, true_and, and_true]; omega))⟩
          case measure => simp [intOf]; omega
        by_cases h3 : X < 2048
        · have HE := hide (enc8_i2 (r := x) (by have := HXX.out; omega) (by have := HXX.out; omega))
          clear h1
          go_wp2_with (at_builtin; refine wpList_lit rfl _ _ 22 rfl 5 i0 _ 1 Tryd.underlying22 hi0 hz0 hz1 hz2 rfl _ _ rfl hm _ 2 2 rfl rfl rfl (by rw [u8s_len]; omega) (by omega) ?_; intro v' w' hm')
          go_roundw
          case rel => exact ⟨k + 1, _, by go_num, hide (hat.out.good hlt HR.out), by omega, hm'.cells (u8s_join _ _ (by rw [HE.out]; have := HXX.out; simp only [List.cons.injEq, Value.int.injEq, true_and, and_true]; omega))⟩
          case measure => simp [intOf]; omega
        · have HE := hide (enc8_i3 (r := x) (by have := HXX.out; omega) (by have := HXX.out; omega))
          have hq : X < 55296 ∨ (¬ X < 55296 ∧ 57344 ≤ X) := by omega
          clear h1
          rcases hq with h1 | ⟨h1, h1b⟩
          all_goals
            go_wp2_with (at_builtin; refine wpList_lit rfl _ _ 22 rfl 5 i0 _ 1 Tryd.underlying22 hi0 hz0 hz1 hz2 rfl _ _ rfl hm _ 3 3 rfl rfl rfl (by rw [u8s_len]; omega) (by omega) ?_; intro v' w' hm')
            go_roundw
            case rel => exact ⟨k + 1, _, by go_num, hide (hat.out.good hlt HR.out), by omega, hm'.cells (u8s_join _ _ (by rw [HE.out]; have := HXX.out; simp only [List.cons.injEq, Value.int.injEq, true_and, and_true]; omega))⟩
            case measure => simp [intOf]; omega
      have h1a : ¬ X < 55296 := by omega
      have h1b : ¬ 57344 ≤ X := by omega
      have h1c : ¬ X < 2048 := by omega
      have h1d : ¬ X < 128 := by omega
      clear h1
      by_cases h3 : 56320 ≤ X
      · have HU := hide (hat.out.bad hlt (run1_none hlt (by rw [HX.out]; have := HXX.out; omega) (by rw [HX.out]; have := HXX.out; omega) (Or.inl (by rw [HX.out]; have := HXX.out; omega))))
        have g3 : ¬ X < 56320 := by omega
        go_wp2
        go_ret2
        exact ⟨_, ret_bytes (e := 2) HU.out.1, by rw [HU.out.2]; exact Made.of_below hm.below _⟩
      have g3 : X < 56320 := by omega
      by_cases h4 : k + 1 < u.length
      · obtain ⟨ad', had, _, hcb⟩ := har.u16 h4
        obtain rfl : ad = ad' := by injection had
        have g4 : ((k : Int) + 1) < (u.length : Int) := by omega
        have hy := u[k + 1].toNat_lt
        obtain ⟨y, hY⟩ : ∃ y, u[k + 1].toNat = y := ⟨_, rfl⟩
        rw [hY] at hcb hy
        have HY := hide hY
        obtain ⟨Y, hYY⟩ : ∃ Y : Int, (y : Int) = Y := ⟨_, rfl⟩
        rw [hYY] at hcb
        have hcb2 : wr.cell? { block := ad.block, off := ad.off + (k + 1) } = some (.int .u16 Y) := hcb
        have k0 : 0 ≤ Y ∧ Y < 65536 := by omega
        have HYY := hide hYY
        clear hY hYY hy h3
        by_cases h5 : Y < 56320
        · have HU := hide (hat.out.bad hlt (run1_none hlt (by rw [HX.out]; have := HXX.out; omega) (by rw [HX.out]; have := HXX.out; omega) (Or.inr (Or.inr ⟨h4, Or.inl (by rw [HY.out]; have := HYY.out; omega)⟩))))
          go_wp2
          go_ret2
          exact ⟨_, ret_bytes (e := 2) HU.out.1, by rw [HU.out.2]; exact Made.of_below hm.below _⟩
        have g5 : (56320 : Int) ≤ Y := by omega
        by_cases h6 : 57344 ≤ Y
        · have HU := hide (hat.out.bad hlt (run1_none hlt (by rw [HX.out]; have := HXX.out; omega) (by rw [HX.out]; have := HXX.out; omega) (Or.inr (Or.inr ⟨h4, Or.inr (by rw [HY.out]; have := HYY.out; omega)⟩))))
          clear h5
          go_wp2
          go_ret2
          exact ⟨_, ret_bytes (e := 2) HU.out.1, by rw [HU.out.2]; exact Made.of_below hm.below _⟩
        have g6 : Y < 57344 := by omega
        have HR := hide (show run1 (u.drop k) = some (65536 + (x - 55296) * 1024 + (y - 56320), 2) by rw [← HX.out, ← HY.out]; exact run1_two h4 (by rw [HX.out]; have := HXX.out; omega) (by rw [HX.out]; have := HXX.out; omega) (by rw [HY.out]; have := HYY.out; omega) (by rw [HY.out]; have := HYY.out; omega))
        obtain ⟨r, hr⟩ : ∃ r, 65536 + (x - 55296) * 1024 + (y - 56320) = r := ⟨_, rfl⟩
        rw [hr] at HR
        have hrz := hide (show (r : Int) = 65536 + (X - 55296) * 1024 + Y - 56320 by have := HXX.out; have := HYY.out; omega)
        have HE := hide (enc8_i4 (r := r) (by have := hrz.out; omega) (by have := hrz.out; omega))
        clear h5 h6 hr
        go_wp2_with (at_builtin; refine wpList_lit rfl _ _ 22 rfl 5 i0 _ 1 Tryd.underlying22 hi0 hz0 hz1 hz2 rfl _ _ rfl hm _ 4 4 rfl rfl rfl (by rw [u8s_len]; omega) (by omega) ?_; intro v' w' hm')
        go_roundw
        case rel => exact ⟨k + 2, _, by go_num, hide (hat.out.good hlt HR.out), by omega, hm'.cells (u8s_join _ _ (by rw [HE.out]; have := hrz.out; simp only [List.cons.injEq, Value.int.injEq, true_and, and_true]; omega))⟩
        case measure => simp [intOf]; omega
      · have HU := hide (hat.out.bad hlt (run1_none hlt (by rw [HX.out]; have := HXX.out; omega) (by rw [HX.out]; have := HXX.out; omega) (Or.inr (Or.inl (by omega)))))
        have g4 : ¬ ((k : Int) + 1) < (u.length : Int) := by omega
        clear h3
        go_wp2
        go_ret2
        exact ⟨_, ret_bytes (e := 2) HU.out.1, by rw [HU.out.2]; exact Made.of_below hm.below _⟩
    · go_wp2
      go_ret2
      have hkk : k = u.length := by omega
      subst hkk
      have hs := hat.out.stop
      exact ⟨_, ret_bytes (e := 0) hs.1, hm.cells (by rw [hs.2])⟩
end Go.Proofs.YtginfodcobpljaaDoor
