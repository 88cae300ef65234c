/- The law TextJoins, walked: well formed bytes one behind the other are their units, one behind the other; an error of the second ones is there, moved. -/
import Derived.Test.YtginfodcobpljaaDoorKit3
import Derived.Test.YtginfodcobpljaaDoorUnitsLaw
namespace Go.Proofs.YtginfodcobpljaaDoor
open Go.RowKit

theorem u16s_app (a b : List UInt16) : u16s a ++ u16s b = u16s (a ++ b) := by simp [u16s]
theorem u8s_app (a b : List UInt8) : u8s a ++ u8s b = u8s (a ++ b) := by simp [u8s]

set_option maxHeartbeats 4000000 in
set_option maxRecDepth 100000 in
theorem textJoins_law (A : Option Addr) (c : Nat) (a : List UInt8) (hc : a.length ≤ c) (_hm : c ≤ maxLen) (A' : Option Addr) (c' : Nat) (b : List UInt8) (hc' : b.length ≤ c') (_hm' : c' ≤ maxLen) (w : World)
    (hr : Reads w w.heap.size 1 A a.length (u8s a)) (hr' : Reads w w.heap.size 1 A' b.length (u8s b)) (hT : Tabs w) :
    Calls Tryd.prog 5 #[.slice A a.length c, .slice A' b.length c'] w fun e w' => e = .returned (.bool true) ∧ Below w.heap.size w w' := by
  have HT := hide hT
  clear hT
  obtain ⟨i0, hi0, hz0, hz1, hz2⟩ := info_parts Tryd.info_u16
  obtain ⟨j0, hj0, hy0, hy1, hy2⟩ := info_parts Tryd.info_u8
  go_enter Tryd.func5, Tryd.ntmps5
  go_wp2_with fail
  refine (first_any w HT.out).mono ?_
  rintro e w1 ⟨rfl, hb1⟩
  have hra := hr.below hb1
  have hrb := hr'.below hb1
  have hs1 := hb1.size
  have HT1 := hide (HT.out.grow hb1)
  by_cases hla : a.length ≤ 2000
  · by_cases hlb : b.length ≤ 2000
    · go_wp2_with fail
      obtain ⟨ea, hea⟩ : ∃ k, uErr a = k := ⟨_, rfl⟩
      obtain ⟨eb, heb⟩ : ∃ k, uErr b = k := ⟨_, rfl⟩
      obtain ⟨ec, hec⟩ : ∃ k, uErr (a ++ b) = k := ⟨_, rfl⟩
      obtain ⟨tb, htb⟩ : ∃ k, uAt b = k := ⟨_, rfl⟩
      obtain ⟨tc, htc⟩ : ∃ k, uAt (a ++ b) = k := ⟨_, rfl⟩
      obtain ⟨oc, hoc⟩ : ∃ k, uOut (a ++ b) = k := ⟨_, rfl⟩
      refine (units_is HT1.out hs1 rfl hra hc rfl hea rfl).mono ?_
      rintro e w2 ⟨A2, c2, rfl, hr2, hl2, hm2, hb2⟩
      have hs2 := hb2.size
      have HT2 := hide (HT1.out.grow hb2)
      have hra2 := hra.below (hb2.mono hs1)
      have hrb2 := hrb.below (hb2.mono hs1)
      go_wp2_with fail
      refine (units_is (B := w.heap.size) HT2.out (by omega) rfl hrb2 hc' htb heb rfl).mono ?_
      rintro e w3 ⟨A3, c3, rfl, hr3, hl3, hm3, hb3⟩
      have hs3 := hb3.size
      have HT3 := hide (HT2.out.grow hb3)
      have hra3 := hra2.below (hb3.mono (by omega))
      have hrb3 := hrb2.below (hb3.mono (by omega))
      have hr23 := hr2.below hb3
      go_wp2_with fail
      refine (copyBytes_any (B := w.heap.size) (by omega) hra3 (by omega)).mono ?_
      rintro e w4 ⟨v4, rfl, hm4⟩
      have hb4 := hm4.below
      have hs4 := hb4.size
      have hrb4 := hrb3.below (hb4.mono (by omega))
      go_wp2_with (at_builtin; refine wpList_any rfl _ _ 22 rfl 5 j0 _ 1 Tryd.underlying22 hj0 hy0 hy1 hy2 rfl _ _ rfl hm4 _ _ _ _ _ rfl hrb4 (u8s_one _) (by rw [u8s_len]; omega) (by omega) ?_; intro v5 w5 hm5)
      rw [u8s_app] at hm5
      have hb5 := hm5.below
      have hs5 := hb5.size
      obtain ⟨A5, c5, rfl, h51, h52, hr5⟩ := hm5.u8
      have HT5 := hide (HT3.out.grow hb5)
      go_wp2_with fail
      refine (units_is HT5.out (Nat.le_refl _) rfl hr5 h51 htc hec hoc).mono ?_
      rintro e w6 ⟨A6, c6, rfl, hr6, hl6, hm6, hb6⟩
      have hs6 := hb6.size
      have HT6 := hide (HT5.out.grow hb6)
      have hB6 : Below w.heap.size w w6 := bthen (bthen (bthen (bthen hb1 hb2) hb3) hb5) hb6
      by_cases ha0 : ea = 0
      · subst ha0
        obtain ⟨la, na, oa, ta⟩ := uErr_ok hea
        have hj := units_join b _ a rfl na
        have hlab : (a ++ b).length ≤ 4096 := by simp; omega
        by_cases hb0 : eb = 0
        · subst hb0
          obtain ⟨lb, nb, ob, tb'⟩ := uErr_ok heb
          obtain ⟨q1, q2, q3⟩ := uErr_none hlab (by rw [hj]; simp [nb])
          rw [hj] at q2
          obtain rfl : ec = 0 := by omega
          have HQ := hide (show oc = uOut a ++ uOut b by rw [← hoc, q2, oa, ob])
          clear hj q1 q2 q3 na oa ta nb ob tb' hea heb hec htb htc hoc la lb hlab
          go_wp2_with fail
          refine (first_any _ HT6.out).mono ?_
          rintro e w7 ⟨rfl, hb7⟩
          have hs7 := hb7.size
          have hr27 := (hr23.below (hb5.mono (by omega))).below ((hb6.mono (by omega)).trans (hb7.mono (by omega)))
          have hr37 := (hr3.below hb5).below ((hb6.mono (by omega)).trans (hb7.mono (by omega)))
          go_wp2_with fail
          refine (copyUnits_is (B := w2.heap.size) (by omega) rfl hr27 (by have := uOut_len a; omega)).mono ?_
          rintro e w8 ⟨v8, rfl, hm8⟩
          have hb8 := hm8.below
          have hs8 := hb8.size
          have hr38 := hr37.below (hb8.mono (by omega))
          go_wp2_with (at_builtin; refine wpList_ungate rfl ?_; refine wpList_any rfl _ _ 24 rfl 42 i0 _ 2 Tryd.underlying24 hi0 hz0 hz1 hz2 rfl _ _ rfl hm8 _ _ _ _ _ rfl hr38 (u16s_one _) (by rw [u16s_len]; have := uOut_len a; have := uOut_len b; omega) (by omega) ?_; intro v9 w9 hm9)
          rw [u16s_app] at hm9
          have hb9 := hm9.below
          have hs9 := hb9.size
          obtain ⟨A9, c9, rfl, h91, h92, hr9⟩ := hm9.u16
          go_wp2_with fail
          refine (runits_is (B := w9.heap.size) (Nat.le_refl _) rfl rfl (((hr6.below hb7).below (hb9.mono hs7)).more (by omega)) hr9 (by have := HQ.out; have := congrArg List.length this; rw [List.length_append] at this; have := uOut_len a; have := uOut_len b; omega) (by rw [List.length_append]; have := uOut_len a; have := uOut_len b; omega) HQ.out).mono ?_
          rintro e w10 ⟨rfl, hb10⟩
          go_wp2
          go_ret
          exact ⟨rfl, bthen (bthen (bthen hB6 hb7) hb9) hb10⟩
        · have hb2' : eb = 2 := by
            rcases uErr_cases b with h | h | h
            · omega
            · omega
            · exact absurd h (by unfold uErr; rw [if_neg (by omega)]; split <;> simp)
          subst hb2'
          obtain ⟨lb, nb, ob⟩ := uErr_form heb
          obtain ⟨q1, q2, q3⟩ := uErr_some hlab (k := tb + a.length) (by rw [hj]; simp [nb, htb])
          obtain rfl : ec = 2 := by omega
          obtain rfl : oc = [] := by rw [← hoc, q2]
          obtain rfl : tc = tb + a.length := by omega
          have ht := uAt_lt b
          rw [htb] at ht
          clear hj q1 q2 q3 na oa ta nb ob hea heb hec htb htc hoc la lb hlab
          go_wp2_with fail
          refine (first_any _ HT6.out).mono ?_
          rintro e w7 ⟨rfl, hb7⟩
          go_wp2
          go_ret
          exact ⟨rfl, bthen hB6 hb7⟩
      · have ha1 : (ea : Int) ≠ 0 := by omega
        clear hea heb hec htb htc hoc
        go_wp2_with fail
        refine (first_any _ HT6.out).mono ?_
        rintro e w7 ⟨rfl, hb7⟩
        go_wp2
        go_ret
        exact ⟨rfl, bthen hB6 hb7⟩
    · go_wp2_with fail
      refine (first_any _ HT1.out).mono ?_
      rintro e w2 ⟨rfl, hb2⟩
      go_wp2
      go_ret
      exact ⟨rfl, bthen hb1 hb2⟩
  · go_wp2_with fail
    refine (first_any _ HT1.out).mono ?_
    rintro e w2 ⟨rfl, hb2⟩
    go_wp2
    go_ret
    exact ⟨rfl, bthen hb1 hb2⟩
end Go.Proofs.YtginfodcobpljaaDoor
