/- The law TextKeys, walked: a key is the number of which it is the digits; just one text is. -/
import Derived.Test.YtginfodcobpljaaDoorFirst
import Derived.Test.YtginfodcobpljaaDoorDecLaw
import Derived.Test.YtginfodcobpljaaDoorRAscii
namespace Go.Proofs.YtginfodcobpljaaDoor
open Go.RowKit

theorem num_own {A : Option Addr} {c B : Nat} {xs : List UInt16} {w : World} (hB : B ≤ w.heap.size) (ha : Reads w B 1 A xs.length (u16s xs)) (hc : xs.length ≤ c) (hc2 : c ≤ maxLen) (hl : xs.length ≤ 70368744177664) {k n : Int} {ok : Bool} (h : numF xs = (⟨k, n⟩, ok)) :
    Calls Tryd.prog 17 #[.slice A xs.length c] w fun e w' => e = .returned (.tuple #[.agg #[.int .i64 k, .int .i64 n], .bool ok]) ∧ Below w.heap.size w w' := by
  have := number_any hB ha hc hc2 hl
  rw [h] at this
  exact this
set_option maxHeartbeats 4000000 in
set_option maxRecDepth 100000 in
theorem textKeys_law (A : Option Addr) (c : Nat) (xs : List UInt16) (hc : xs.length ≤ c) (hm : c ≤ maxLen) (w : World) (hr : Reads w w.heap.size 1 A xs.length (u16s xs)) (hT : Tabs w) :
    Calls Tryd.prog 4 #[.slice A xs.length c] w fun e w' => e = .returned (.bool true) ∧ Below w.heap.size w w' := by
  have HT := hide hT
  clear hT
  go_enter Tryd.func4, Tryd.ntmps4
  go_wp2_with fail
  refine (first_any w HT.out).mono ?_
  rintro e w1 ⟨rfl, hb1⟩
  have hr1 := hr.below hb1
  by_cases hl : xs.length ≤ 5000
  · go_wp2_with fail
    refine (key_any hr1 (by omega)).mono ?_
    rintro e w' ⟨rfl, rfl⟩
    by_cases hk : keyOk xs = true
    · obtain ⟨hn, hd, h3⟩ := key_num hk
      have HK := hide hk
      have HN := hide hn
      have HD := hide hd
      clear hk hn hd
      rw [HK.out]
      go_wp2_with fail
      refine (num_own hb1.size hr1 hc hm (by omega) HN.out).mono ?_
      rintro e w2 ⟨rfl, hb2⟩
      have hs2 := hb2.size
      go_wp2_with fail
      refine (first_any _ ((HT.out.grow hb1).grow (hb2.alloc hb2.size _))).mono ?_
      rintro e w3 ⟨rfl, hb3⟩
      have hs3 := hb3.size
      have C0 : w3.cell? ⟨w2.heap.size, 0, none⟩ = some (.int .i64 0) := (hb3.cell (p := ⟨w2.heap.size, 0, none⟩) (by simp)).trans (by go_simp)
      have C1 : w3.cell? ⟨w2.heap.size, 1, none⟩ = some (.int .i64 (keyF xs)) := (hb3.cell (p := ⟨w2.heap.size, 1, none⟩) (by simp)).trans (by go_simp)
      have e1 : ((0 : Int) ≤ (keyF xs : Int)) := by omega
      go_wp2_with fail
      refine (dec_any (keyF xs) (by omega) w3).mono ?_
      rintro e w4 ⟨rfl, hb4⟩
      have hs4 := hb4.size
      go_wp2_with fail
      refine (rascii_any ⟨(decS (keyF xs)).toArray⟩ w4 (by have := decS_len_le (k := 9) (n := keyF xs) (by omega); simp [ByteArray.size]; omega)).mono ?_
      rintro e w5 ⟨v5, rfl, hm5⟩
      rw [List.toList_toArray, HD.out] at hm5
      obtain ⟨A5, c5, rfl, h51, h52, hr5⟩ := hm5.u16
      have hb5 := hm5.below
      have hs5 := hb5.size
      have hbb : Below w1.heap.size w1 w5 := bthen (bthen (bthen (hb2.alloc hb2.size _) hb3) hb4) hb5
      go_wp2_with fail
      refine (runits_any (B := w5.heap.size) (Nat.le_refl _) ((hr1.below (hbb.mono hb1.size)).more (Nat.le_trans hb1.size hbb.size)) hr5 (by omega) (by omega)).mono ?_
      rintro e w6 ⟨rfl, hb6⟩
      rw [decide_eq_true rfl]
      go_wp2
      go_ret
      exact ⟨rfl, bthen (bthen hb1 hbb) hb6⟩
    · have hk' : keyOk xs = false := by simpa using hk
      have hz := key_none hk'
      rw [hk', hz]
      go_wp2_with fail
      refine (first_any w1 (HT.out.grow hb1)).mono ?_
      rintro e w2 ⟨rfl, hb2⟩
      go_wp2
      go_ret
      exact ⟨rfl, bthen hb1 hb2⟩
  · go_wp2_with fail
    refine (first_any w1 (HT.out.grow hb1)).mono ?_
    rintro e w2 ⟨rfl, hb2⟩
    go_wp2
    go_ret
    exact ⟨rfl, bthen hb1 hb2⟩
end Go.Proofs.YtginfodcobpljaaDoor
