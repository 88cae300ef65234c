/- The law TextCuts, walked: well formed bytes, cut off anywhere, are so, or are refused at the sign that was cut; the units ahead are the same. -/
import Derived.Test.YtginfodcobpljaaDoorKit3
import Derived.Test.YtginfodcobpljaaDoorUnitsLaw
namespace Go.Proofs.YtginfodcobpljaaDoor
open Go.RowKit

set_option maxHeartbeats 4000000 in
set_option maxRecDepth 100000 in
theorem textCuts_law (A : Option Addr) (c : Nat) (b : List UInt8) (hc : b.length ≤ c) (_hm : c ≤ maxLen) (x1 : Int) (hx1 : -9223372036854775808 ≤ x1 ∧ x1 ≤ 9223372036854775807) (w : World) (hr : Reads w w.heap.size 1 A b.length (u8s b)) (hT : Tabs w) :
    Calls Tryd.prog 3 #[.slice A b.length c, .int .i64 x1] w fun e w' => e = .returned (.bool true) ∧ Below w.heap.size w w' := by
  have HT := hide hT
  clear hT
  go_enter Tryd.func3, Tryd.ntmps3
  go_wp2_with fail
  refine (first_any w HT.out).mono ?_
  rintro e w1 ⟨rfl, hb1⟩
  have hr1 := hr.below hb1
  have hs1 := hb1.size
  have HT1 := hide (HT.out.grow hb1)
  by_cases hin : b.length ≤ 5000 ∧ 0 ≤ x1 ∧ x1 ≤ b.length
  · obtain ⟨hl, hx0, hx2⟩ := hin
    obtain ⟨cut, rfl⟩ : ∃ k : Nat, x1 = k := ⟨x1.toNat, by omega⟩
    have hcut : cut ≤ b.length := by omega
    go_wp2_with fail
    rcases uErr_cases b with he | he | he
    · obtain ⟨h4, hnone, hout, hat⟩ := uErr_ok he
      have z1 := (units_size _ b rfl).1
      obtain ⟨L1, L2⟩ := units_cut _ b cut rfl hcut hnone
      refine (units_is HT1.out hs1 rfl hr1 hc hat he hout).mono ?_
      rintro e w2 ⟨A2, c2, rfl, hr2, hl2, hm2, hb2⟩
      have hs2 := hb2.size
      have HT2 := hide (HT1.out.grow hb2)
      have hrb := hr1.below (hb2.mono hs1)
      go_wp2_with fail
      have hlen : (b.take cut).length = cut := by rw [List.length_take]; omega
      rcases uErr_cases (b.take cut) with hf | hf | hf
      · obtain ⟨_, gnone, gout, gat⟩ := uErr_ok hf
        have hp := L1 gnone
        refine (units_is (B := w.heap.size) HT2.out (by omega) hlen (hrb.pre8 hcut) (by omega) gat hf gout).mono ?_
        rintro e w3 ⟨A3, c3, rfl, hr3, hl3, hm3, hb3⟩
        have hs3 := hb3.size
        go_wp2_with fail
        refine (first_any _ (HT2.out.grow hb3)).mono ?_
        rintro e w4 ⟨rfl, hb4⟩
        have hs4 := hb4.size
        have hple := hp.length_le
        have hr2' := ((hr2.below hb3).below (hb4.mono hs3)).pre16 hp
        go_wp2_with fail
        refine (runits_is (B := w4.heap.size) (Nat.le_refl _) rfl rfl ((hr3.below hb4).more hs4) (hr2'.more (by omega)) (by omega) (by omega) rfl).mono ?_
        rintro e w5 ⟨rfl, hb5⟩
        go_wp2
        go_ret
        exact ⟨rfl, bthen (bthen (bthen (bthen hb1 hb2) hb3) hb4) hb5⟩
      · obtain ⟨_, gsome, gout⟩ := uErr_form hf
        obtain ⟨k, hk⟩ : ∃ k, uAt (b.take cut) = k := ⟨_, rfl⟩
        rw [hk] at gsome
        obtain ⟨k1, k2, k3, k4⟩ := L2 _ gsome
        have hlenk : (b.take k).length = k := by rw [List.length_take]; omega
        obtain ⟨m1, m2, m3⟩ := uErr_none (b := b.take k) (by omega) k3
        refine (units_is (B := w.heap.size) HT2.out (by omega) hlen (hrb.pre8 hcut) (by omega) hk hf gout).mono ?_
        rintro e w3 ⟨A3, c3, rfl, hr3, hl3, hm3, hb3⟩
        have hs3 := hb3.size
        have HT3 := hide (HT2.out.grow hb3)
        have hrc := hrb.below (hb3.mono (by omega))
        go_wp2_with fail
        refine (units_is (B := w.heap.size) HT3.out (by omega) hlenk (hrc.pre8 (by omega)) (by omega) m3 m1 m2).mono ?_
        rintro e w4 ⟨A4, c4, rfl, hr4, hl4, hm4, hb4⟩
        have hs4 := hb4.size
        go_wp2_with fail
        refine (first_any _ (HT3.out.grow hb4)).mono ?_
        rintro e w5 ⟨rfl, hb5⟩
        have hs5 := hb5.size
        have hple := k4.length_le
        have hr2' := (((hr2.below hb3).below (hb4.mono hs3)).below (hb5.mono (by omega))).pre16 k4
        go_wp2_with fail
        refine (runits_is (B := w5.heap.size) (Nat.le_refl _) rfl rfl ((hr4.below hb5).more hs5) (hr2'.more (by omega)) (by omega) (by omega) rfl).mono ?_
        rintro e w6 ⟨rfl, hb6⟩
        go_wp2
        go_ret
        exact ⟨rfl, bthen (bthen (bthen (bthen (bthen hb1 hb2) hb3) hb4) hb5) hb6⟩
      · exact absurd hf (by unfold uErr; rw [if_neg (by omega)]; split <;> simp)
    all_goals
      refine (units_is HT1.out hs1 rfl hr1 hc rfl he rfl).mono ?_
      rintro e w2 ⟨A2, c2, rfl, hr2, hl2, hm2, hb2⟩
      go_wp2_with fail
      refine (first_any _ (HT1.out.grow hb2)).mono ?_
      rintro e w3 ⟨rfl, hb3⟩
      go_wp2
      go_ret
      exact ⟨rfl, bthen (bthen hb1 hb2) hb3⟩
  · by_cases h5 : b.length ≤ 5000
    · by_cases h6 : x1 < 0
      · go_wp2_with fail
        refine (first_any _ HT1.out).mono ?_
        rintro e w2 ⟨rfl, hb2⟩
        go_wp2
        go_ret
        exact ⟨rfl, bthen hb1 hb2⟩
      · have h7 : (b.length : Int) < x1 := by omega
        clear hin
        go_wp2_with fail
        refine (first_any _ HT1.out).mono ?_
        rintro e w2 ⟨rfl, hb2⟩
        go_wp2
        go_ret
        exact ⟨rfl, bthen hb1 hb2⟩
    · clear hin
      go_wp2_with fail
      refine (first_any _ HT1.out).mono ?_
      rintro e w2 ⟨rfl, hb2⟩
      go_wp2
      go_ret
      exact ⟨rfl, bthen hb1 hb2⟩
end Go.Proofs.YtginfodcobpljaaDoor
