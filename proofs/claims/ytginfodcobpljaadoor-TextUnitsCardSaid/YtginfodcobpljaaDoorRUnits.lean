/- renref3.Units, renref3.Bytes, walked: the reference's bytes as units and back. -/
import Derived.Test.YtginfodcobpljaaDoorRSign
import Derived.Test.YtginfodcobpljaaDoorUnits
import Derived.Test.YtginfodcobpljaaDoorBytesT
namespace Go.Proofs.YtginfodcobpljaaDoor
open Go.RowKit

theorem enc16_ints {r : Nat} (h : 65536 ≤ r) (h2 : r ≤ 1114111) : u16s (enc16 r) = [.int .u16 ((55296 + (r - 65536) / 1024 : Nat) : Int), .int .u16 ((56320 + (r - 65536) % 1024 : Nat) : Int)] := by
  rw [enc16, if_neg (by omega)]
  simp only [u16s, List.map_cons, List.map_nil, u16v]
  rw [UInt16.toNat_ofNat_of_lt' (by show _ < 65536; omega), UInt16.toNat_ofNat_of_lt' (by show _ < 65536; omega)]
theorem u16s_join (a b : List UInt16) {ys : List Value} (h : u16s b = ys) : u16s a ++ ys = u16s (a ++ b) := by rw [← h]; simp [u16s]
theorem u8s_join (a b : List UInt8) {ys : List Value} (h : u8s b = ys) : u8s a ++ ys = u8s (a ++ b) := by rw [← h]; simp [u8s]
theorem sign_is {A : Option Addr} {c B k m : Nat} {b : List UInt8} {w : World} (hm : b.length = m) (hk : k < m) (ha : Reads w B 1 A m (u8s b)) (hl : m ≤ 4096) {n v : Nat} (h : signP (b.drop k) = (n, v)) :
    Calls Tryd.prog 43 #[.slice A m c, .int .i64 (k : Int)] w fun e w' => e = .returned (.tuple #[.int .i64 (n : Int), .int .i64 (v : Int)]) ∧ w = w' := by
  subst hm
  have := sign_any (c := c) hk ha hl
  rw [h] at this
  exact this

set_option maxHeartbeats 4000000 in
set_option maxRecDepth 1000000 in
theorem r3units_any {A : Option Addr} {c B : Nat} {b : List UInt8} {w : World} (hB : B ≤ w.heap.size) (ha : Reads w B 1 A b.length (u8s b)) :
    Calls Tryd.prog 24 #[.slice A b.length c] w fun e w' => ∃ v, e = .returned (.tuple #[v, .int .i64 (uAt b : Int), .int .i64 (uErr b : Int)]) ∧ Made w w' 42 v (u16s (uOut b)) := by
  obtain ⟨i0, hi0, hz0, hz1, hz2⟩ := info_parts Tryd.info_u16
  by_cases hlong : 4096 < b.length
  · have H1 := hide (show uAt b = 0 ∧ uErr b = 3 ∧ uOut b = [] from ⟨by simp [uAt, hlong], by simp [uErr, hlong], by simp [uOut, hlong]⟩)
    go_enter Tryd.func24, Tryd.ntmps24
    go_wp2
    go_ret3
    obtain ⟨h1, h2, h3⟩ := H1.out
    exact ⟨_, ret_units (k := 0) (e := 3) h1.symm h2.symm, by rw [h3]; exact Made.nil _ _⟩
  · go_enter Tryd.func24, Tryd.ntmps24
    go_wp2
    go_loopw [5, 6] (fun v i wr => ∃ k xs, i = .int .i64 (k : Nat) ∧ Hid (AtU b k xs) ∧ k ≤ b.length ∧ xs.length ≤ k ∧ Made w wr 42 v (u16s xs)) (fun _ i _ => b.length - (intOf i).toNat)
    case atStart => exact ⟨0, [], rfl, AtU.start b, Nat.zero_le _, Nat.le_refl _, Made.nil _ _⟩
    case round =>
      obtain ⟨k, xs, rfl, hat, hk, hxl, hm⟩ := hrel
      by_cases hlt : k < b.length
      · have har := hide (ha.below (hm.below.mono hB))
        have hl : 0 < (b.drop k).length := by rw [List.length_drop]; omega
        obtain ⟨hd1, hd2, hd3, hd4, hd5, hd6⟩ := dec_ok hl
        rw [List.length_drop] at hd3
        obtain ⟨r, hr⟩ : ∃ r, (dec (b.drop k)).1 = r := ⟨_, rfl⟩
        obtain ⟨n, hn⟩ : ∃ n, (dec (b.drop k)).2 = n := ⟨_, rfl⟩
        have hrn : dec (b.drop k) = (r, n) := by rw [← hr, ← hn]
        rw [hr] at hd4 hd5 hd6
        rw [hn] at hd1 hd2 hd3 hd6
        cases hbad : isBad (r, n) with
        | true =>
          have HS := hide (show signP (b.drop k) = (0, 0) by unfold signP; rw [hrn, if_pos hbad])
          have HU := hide (hat.out.bad hlt (by rw [hrn]; exact hbad))
          clear hr hn hrn hbad hl hd1 hd2 hd3 hd4 hd5 hd6
          go_wp2_with fail
          refine (sign_is rfl hlt har.out (by omega) HS.out).mono ?_
          rintro e w1 ⟨rfl, hw1⟩
          subst hw1
          go_wp2
          go_ret3
          exact ⟨_, ret_units (k := k) (e := 2) (by simp [uAt, hlong, HU.out]) (by simp [uErr, hlong, HU.out]), by rw [show uOut b = [] by simp [uOut, hlong, HU.out]]; exact Made.of_below hm.below _⟩
        | false =>
          have HS := hide (show signP (b.drop k) = (n, r) by unfold signP; rw [hrn, if_neg (by rw [hbad]; simp)])
          have HU := hide (hat.out.good hlt (by rw [hrn]; exact hbad))
          rw [hrn] at HU
          clear hr hn hrn hbad hl
          by_cases hw : r < 65536
          · have HE := hide (enc16_lo hw)
            clear hd2 hd4 hd5 hd6
            go_wp2_with fail
            refine (sign_is rfl hlt har.out (by omega) HS.out).mono ?_
            rintro e w1 ⟨rfl, hw1⟩
            subst hw1
            go_wp2_with (at_builtin; refine wpList_lit rfl _ _ 24 rfl 42 i0 _ 2 Tryd.underlying24 hi0 hz0 hz1 hz2 rfl _ _ rfl hm _ 1 1 rfl rfl rfl (by rw [u16s_len]; omega) (by omega) ?_; intro v' w' hm')
            go_roundw
            case rel => exact ⟨k + n, _, by go_num, HU.out, by omega, HU.out.2.1, hm'.cells (u16s_join _ _ HE.out)⟩
            case measure => simp [intOf]; omega
          · have HE := hide (enc16_ints (r := r) (by omega) hd4)
            clear hd2 hd5 hd6
            go_wp2_with fail
            refine (sign_is rfl hlt har.out (by omega) HS.out).mono ?_
            rintro e w1 ⟨rfl, hw1⟩
            subst hw1
            go_wp2_with (at_builtin; refine wpList_lit rfl _ _ 24 rfl 42 i0 _ 2 Tryd.underlying24 hi0 hz0 hz1 hz2 rfl _ _ rfl hm _ 2 2 rfl rfl rfl (by rw [u16s_len]; omega) (by omega) ?_; intro v' w' hm')
            go_roundw
            case rel => exact ⟨k + n, _, by go_num, HU.out, by omega, HU.out.2.1, hm'.cells (u16s_join _ _ (by rw [HE.out]; simp only [List.cons.injEq, Value.int.injEq, true_and, and_true]; refine ⟨?_, ?_⟩ <;> go_num))⟩
            case measure => simp [intOf]; omega
      · go_wp2
        go_ret3
        have hkk : k = b.length := by omega
        subst hkk
        have hs := hat.out.stop
        exact ⟨_, ret_units (k := 0) (e := 0) (by simp [uAt, hlong, hs]) (by simp [uErr, hlong, hs]), hm.cells (by simp [uOut, hlong, hs])⟩
end Go.Proofs.YtginfodcobpljaaDoor
