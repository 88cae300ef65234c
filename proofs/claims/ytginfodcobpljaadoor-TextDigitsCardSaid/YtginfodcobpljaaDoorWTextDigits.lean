/- The law TextDigits, walked: the digits of a whole number are that number, with noughts ahead too; they are its key, if it is small, and begin with no nought. -/
import Derived.Test.YtginfodcobpljaaDoorKit3
import Derived.Test.YtginfodcobpljaaDoorDecLaw
namespace Go.Proofs.YtginfodcobpljaaDoor
open Go.RowKit

def noughts (k n : Nat) : List UInt16 := List.replicate k 48 ++ ascii (decS n)
theorem noughts_len (k n : Nat) (h : n ≤ 9007199254740991) : (noughts k n).length ≤ k + 16 := by
  have := decS_len_le (k := 15) (n := n) (by omega)
  simp [noughts, ascii_len]
  omega
theorem noughts_next (k n : Nat) : [Value.int .u16 48] ++ u16s (noughts k n) = u16s (noughts (k + 1) n) := by
  simp [noughts, u16s, List.replicate_succ, u16v]
theorem noughts_zero (n : Nat) : noughts 0 n = ascii (decS n) := rfl

set_option maxHeartbeats 8000000 in
set_option maxRecDepth 100000 in
theorem textDigits_law (x0 : Int) (hx0 : -9223372036854775808 ≤ x0 ∧ x0 ≤ 9223372036854775807) (x1 : Int) (hx1 : -9223372036854775808 ≤ x1 ∧ x1 ≤ 9223372036854775807) (w : World) (hT : Tabs w) :
    Calls Tryd.prog 7 #[.int .i64 x0, .int .i64 x1] w fun e w' => e = .returned (.bool true) ∧ Below w.heap.size w w' := by
  have HT := hide hT
  clear hT
  obtain ⟨i0, hi0, hz0, hz1, hz2⟩ := info_parts Tryd.info_u16
  go_enter Tryd.func7, Tryd.ntmps7
  go_wp2_with fail
  refine (first_any w HT.out).mono ?_
  rintro e w1 ⟨rfl, hb1⟩
  have hs1 := hb1.size
  have HT1 := hide (HT.out.grow hb1)
  by_cases h1 : x0 < 0
  · go_wp2_with fail
    refine (first_any _ HT1.out).mono ?_
    rintro e w2 ⟨rfl, hb2⟩
    go_wp2
    go_ret
    exact ⟨rfl, bthen hb1 hb2⟩
  by_cases h2 : 9007199254740991 < x0
  · go_wp2_with fail
    refine (first_any _ HT1.out).mono ?_
    rintro e w2 ⟨rfl, hb2⟩
    go_wp2
    go_ret
    exact ⟨rfl, bthen hb1 hb2⟩
  by_cases h3 : x1 < 0
  · go_wp2_with fail
    refine (first_any _ HT1.out).mono ?_
    rintro e w2 ⟨rfl, hb2⟩
    go_wp2
    go_ret
    exact ⟨rfl, bthen hb1 hb2⟩
  by_cases h4 : 100 < x1
  · go_wp2_with fail
    refine (first_any _ HT1.out).mono ?_
    rintro e w2 ⟨rfl, hb2⟩
    go_wp2
    go_ret
    exact ⟨rfl, bthen hb1 hb2⟩
  obtain ⟨n, rfl⟩ : ∃ k : Nat, x0 = k := ⟨x0.toNat, by omega⟩
  obtain ⟨m, rfl⟩ : ∃ k : Nat, x1 = k := ⟨x1.toNat, by omega⟩
  have hn : n ≤ 9007199254740991 := by omega
  have hm : m ≤ 100 := by omega
  clear hx0 hx1
  go_wp2_with fail
  refine (dec_any n (by omega) w1).mono ?_
  rintro e w2 ⟨rfl, hb2⟩
  have hs2 := hb2.size
  have hd16 := decS_len_le (k := 15) (n := n) (by omega)
  go_wp2_with fail
  refine (ascii_any ⟨(decS n).toArray⟩ w2 (by simp [ByteArray.size]; omega)).mono ?_
  rintro e w3 ⟨v3, rfl, hm3⟩
  rw [List.toList_toArray] at hm3
  have hb3 := hm3.below
  have hs3 := hb3.size
  obtain ⟨A3, c3, rfl, h31, h32, hr3⟩ := hm3.u16
  have hl3 : (ascii (decS n)).length ≤ 16 := by rw [ascii_len]; omega
  have HT3 := hide ((HT1.out.grow hb2).grow hb3)
  have hB3 : Below w.heap.size w w3 := bthen (bthen hb1 hb2) hb3
  obtain ⟨L, hL⟩ : ∃ L, (ascii (decS n)).length = L := ⟨_, rfl⟩
  rw [hL] at h31 hr3 hl3 ⊢
  go_wp2_with fail
  refine (copyUnits_is (Nat.le_refl _) hL hr3 (by omega)).mono ?_
  rintro e w4 ⟨v4, rfl, hm4⟩
  have hb4 := hm4.below
  obtain ⟨A4, c4, rfl, h41, h42, hr4⟩ := hm4.u16
  clear hm4 hm3
  go_wp2
  go_loopw [6, 7] (fun v i wr => ∃ k A c, k ≤ m ∧ i = .int .i64 (k : Nat) ∧ v = .slice A (noughts k n).length c ∧ (noughts k n).length ≤ c ∧ c ≤ maxLen ∧ Reads wr wr.heap.size 1 A (noughts k n).length (u16s (noughts k n)) ∧ Below w3.heap.size w3 wr) (fun _ i _ => m - (intOf i).toNat)
  case atStart =>
    have hE : (noughts 0 n).length = L := hL
    exact ⟨0, A4, c4, Nat.zero_le _, rfl, by rw [hE], by rw [hE]; omega, h42, by rw [hE, ← hL]; exact hr4, hb4⟩
  case round =>
    obtain ⟨k, A5, c5, hk, rfl, rfl, h51, h52, hr5, hb5⟩ := hrel
    have hnl := noughts_len k n hn
    by_cases hlt : k < m
    · go_wp2_with (at_builtin; go_loud (refine wpList_any rfl _ _ 24 rfl 42 i0 _ 2 Tryd.underlying24 hi0 hz0 hz1 hz2 rfl _ _ rfl (Made.lit _ 42 [.int .u16 48] (by simp [maxLen])) _ _ _ _ _ rfl (hr5.alloc (Nat.le_refl _) _) (u16s_one _) (by simp only [List.length_singleton]; omega) (by omega) ?_); intro v6 w6 hm6)
      go_roundw
      case rel =>
        obtain ⟨A6, c6, rfl, h61, h62, hr6⟩ := (hm6.cells (noughts_next k n)).u16
        exact ⟨k + 1, A6, c6, by omega, by go_num, rfl, h61, h62, hr6, hb5.trans (hm6.below.mono hb5.size)⟩
      case measure => simp [intOf]; omega
    · obtain rfl : k = m := by omega
      have HT5 := hide (HT3.out.grow hb5)
      have hs5 := hb5.size
      have hr35 := hr3.below hb5
      have HN := hide (num_dec hn)
      have HM : Hid (numF (noughts k n) = (⟨0, (n : Int)⟩, true)) := hide (noughts_num hn k)
      go_wp2_with fail
      refine (num_is (B := w3.heap.size) hs5 hL hr35 h31 h32 (by omega) HN.out).mono ?_
      rintro e w6 ⟨rfl, hb6⟩
      have hs6 := hb6.size
      have hr56 := (hr5.below hb6).alloc hs6 (.cells #[.int .i64 0, .int .i64 (n : Int)] 33)
      go_wp2_with fail
      refine (num_is (by go_simp; omega) rfl hr56 h51 h52 (by omega) HM.out).mono ?_
      rintro e w7 ⟨rfl, hb7⟩
      have hs7 := hb7.size
      have hs7' : w6.heap.size < w7.heap.size := by simp at hs7; omega
      have C0 : w7.cell? ⟨w6.heap.size, 0, none⟩ = some (.int .i64 0) := (hb7.cell (p := ⟨w6.heap.size, 0, none⟩) (by simp)).trans (by go_simp)
      have C1 : w7.cell? ⟨w6.heap.size, 1, none⟩ = some (.int .i64 (n : Int)) := (hb7.cell (p := ⟨w6.heap.size, 1, none⟩) (by simp)).trans (by go_simp)
      have HT8 : Hid (Tabs (w7.alloc (.cells #[.int .i64 0, .int .i64 (n : Int)] 33))) := hide ((HT5.out.grow (balloc hb6 _)).grow (balloc hb7 _))
      have hb58 := bthen (balloc hb6 (.cells #[.int .i64 0, .int .i64 (n : Int)] 33)) (balloc hb7 (.cells #[.int .i64 0, .int .i64 (n : Int)] 33))
      have hr38 := hr35.below (hb58.mono hs5)
      have hr58 := hr5.below hb58
      obtain ⟨kv, hkv⟩ : ∃ x, keyF (noughts k n) = x := ⟨_, rfl⟩
      obtain ⟨bv, hbv⟩ : ∃ x, keyOk (noughts k n) = x := ⟨_, rfl⟩
      have hbz : 0 < k → bv = false := fun h => hbv.symm.trans (noughts_key n k h)
      obtain ⟨S1, S2⟩ := key_dec n
      by_cases hsm : n ≤ 4294967294
      · rw [decide_eq_true hsm] at S1
        go_wp2_with fail
        refine (key_is (B := w3.heap.size) hL hr38 (by omega) n true (S2 hsm) S1).mono ?_
        rintro e w' ⟨rfl, rfl⟩
        go_wp2_with fail
        refine (key_is (B := wr.heap.size) rfl hr58 (by omega) kv bv hkv hbv).mono ?_
        rintro e w' ⟨rfl, rfl⟩
        by_cases hz : k = 0
        · subst hz
          go_wp2_with fail
          refine (first_any _ HT8.out).mono ?_
          rintro e w9 ⟨rfl, hb9⟩
          have hs9 := hb9.size
          have hs9' : w7.heap.size < w9.heap.size := by simp at hs9; omega
          have E0 : w9.cell? ⟨w6.heap.size, 0, none⟩ = some (.int .i64 0) := (hb9.cell (p := ⟨w6.heap.size, 0, none⟩) (by simp; omega)).trans (by go_simp)
          have E1 : w9.cell? ⟨w6.heap.size, 1, none⟩ = some (.int .i64 (n : Int)) := (hb9.cell (p := ⟨w6.heap.size, 1, none⟩) (by simp; omega)).trans (by go_simp)
          have F0 : w9.cell? ⟨w7.heap.size, 0, none⟩ = some (.int .i64 0) := (hb9.cell (p := ⟨w7.heap.size, 0, none⟩) (by simp)).trans (by go_simp)
          have F1 : w9.cell? ⟨w7.heap.size, 1, none⟩ = some (.int .i64 (n : Int)) := (hb9.cell (p := ⟨w7.heap.size, 1, none⟩) (by simp)).trans (by go_simp)
          go_wp2_with fail
          refine (rnum_any 0 n 0 n w9).mono ?_
          rintro e w10 ⟨rfl, hb10⟩
          rw [decide_eq_true ⟨rfl, rfl⟩]
          go_wp2
          go_ret
          exact ⟨rfl, bthen (bthen (bthen (bthen (bthen hB3 hb5) (balloc hb6 _)) (balloc hb7 _)) hb9) hb10⟩
        · obtain rfl := hbz (by omega)
          go_wp2_with fail
          refine (first_any _ HT8.out).mono ?_
          rintro e w9 ⟨rfl, hb9⟩
          have hs9 := hb9.size
          have hs9' : w7.heap.size < w9.heap.size := by simp at hs9; omega
          have E0 : w9.cell? ⟨w6.heap.size, 0, none⟩ = some (.int .i64 0) := (hb9.cell (p := ⟨w6.heap.size, 0, none⟩) (by simp; omega)).trans (by go_simp)
          have E1 : w9.cell? ⟨w6.heap.size, 1, none⟩ = some (.int .i64 (n : Int)) := (hb9.cell (p := ⟨w6.heap.size, 1, none⟩) (by simp; omega)).trans (by go_simp)
          have F0 : w9.cell? ⟨w7.heap.size, 0, none⟩ = some (.int .i64 0) := (hb9.cell (p := ⟨w7.heap.size, 0, none⟩) (by simp)).trans (by go_simp)
          have F1 : w9.cell? ⟨w7.heap.size, 1, none⟩ = some (.int .i64 (n : Int)) := (hb9.cell (p := ⟨w7.heap.size, 1, none⟩) (by simp)).trans (by go_simp)
          go_wp2_with fail
          refine (rnum_any 0 n 0 n w9).mono ?_
          rintro e w10 ⟨rfl, hb10⟩
          rw [decide_eq_true ⟨rfl, rfl⟩]
          go_wp2
          go_ret
          exact ⟨rfl, bthen (bthen (bthen (bthen (bthen hB3 hb5) (balloc hb6 _)) (balloc hb7 _)) hb9) hb10⟩
      · rw [decide_eq_false hsm] at S1
        go_wp2_with fail
        refine (key_is (B := w3.heap.size) hL hr38 (by omega) 0 false (key_none S1) S1).mono ?_
        rintro e w' ⟨rfl, rfl⟩
        go_wp2_with fail
        refine (key_is (B := wr.heap.size) rfl hr58 (by omega) kv bv hkv hbv).mono ?_
        rintro e w' ⟨rfl, rfl⟩
        by_cases hz : k = 0
        · subst hz
          go_wp2_with fail
          refine (first_any _ HT8.out).mono ?_
          rintro e w9 ⟨rfl, hb9⟩
          have hs9 := hb9.size
          have hs9' : w7.heap.size < w9.heap.size := by simp at hs9; omega
          have E0 : w9.cell? ⟨w6.heap.size, 0, none⟩ = some (.int .i64 0) := (hb9.cell (p := ⟨w6.heap.size, 0, none⟩) (by simp; omega)).trans (by go_simp)
          have E1 : w9.cell? ⟨w6.heap.size, 1, none⟩ = some (.int .i64 (n : Int)) := (hb9.cell (p := ⟨w6.heap.size, 1, none⟩) (by simp; omega)).trans (by go_simp)
          have F0 : w9.cell? ⟨w7.heap.size, 0, none⟩ = some (.int .i64 0) := (hb9.cell (p := ⟨w7.heap.size, 0, none⟩) (by simp)).trans (by go_simp)
          have F1 : w9.cell? ⟨w7.heap.size, 1, none⟩ = some (.int .i64 (n : Int)) := (hb9.cell (p := ⟨w7.heap.size, 1, none⟩) (by simp)).trans (by go_simp)
          go_wp2_with fail
          refine (rnum_any 0 n 0 n w9).mono ?_
          rintro e w10 ⟨rfl, hb10⟩
          rw [decide_eq_true ⟨rfl, rfl⟩]
          go_wp2
          go_ret
          exact ⟨rfl, bthen (bthen (bthen (bthen (bthen hB3 hb5) (balloc hb6 _)) (balloc hb7 _)) hb9) hb10⟩
        · obtain rfl := hbz (by omega)
          go_wp2_with fail
          refine (first_any _ HT8.out).mono ?_
          rintro e w9 ⟨rfl, hb9⟩
          have hs9 := hb9.size
          have hs9' : w7.heap.size < w9.heap.size := by simp at hs9; omega
          have E0 : w9.cell? ⟨w6.heap.size, 0, none⟩ = some (.int .i64 0) := (hb9.cell (p := ⟨w6.heap.size, 0, none⟩) (by simp; omega)).trans (by go_simp)
          have E1 : w9.cell? ⟨w6.heap.size, 1, none⟩ = some (.int .i64 (n : Int)) := (hb9.cell (p := ⟨w6.heap.size, 1, none⟩) (by simp; omega)).trans (by go_simp)
          have F0 : w9.cell? ⟨w7.heap.size, 0, none⟩ = some (.int .i64 0) := (hb9.cell (p := ⟨w7.heap.size, 0, none⟩) (by simp)).trans (by go_simp)
          have F1 : w9.cell? ⟨w7.heap.size, 1, none⟩ = some (.int .i64 (n : Int)) := (hb9.cell (p := ⟨w7.heap.size, 1, none⟩) (by simp)).trans (by go_simp)
          go_wp2_with fail
          refine (rnum_any 0 n 0 n w9).mono ?_
          rintro e w10 ⟨rfl, hb10⟩
          rw [decide_eq_true ⟨rfl, rfl⟩]
          go_wp2
          go_ret
          exact ⟨rfl, bthen (bthen (bthen (bthen (bthen hB3 hb5) (balloc hb6 _)) (balloc hb7 _)) hb9) hb10⟩
end Go.Proofs.YtginfodcobpljaaDoor
