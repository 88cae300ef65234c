/- The law TextBack, walked: bytes that are units come back; units that are bytes come back, if these are not too long. -/
import Derived.Test.YtginfodcobpljaaDoorWTextAsciis
import Derived.Test.YtginfodcobpljaaDoorUnitsLaw
import Derived.Test.YtginfodcobpljaaDoorBackLaw
namespace Go.Proofs.YtginfodcobpljaaDoor
open Go.RowKit

theorem rbytes_is {A A' : Option Addr} {c d B B' n m : Nat} {xs ys : List UInt8} {w : World} (hn : xs.length = n) (hm : ys.length = m) (ha : Reads w B 1 A n (u8s xs)) (hb : Reads w B' 1 A' m (u8s ys)) (he : xs = ys) :
    Calls Tryd.prog 27 #[.slice A n c, .slice A' m d] w fun e w' => e = .returned (.bool true) ∧ w = w' := by
  subst hn hm
  have := rbytes_any (c := c) (d := d) ha hb
  rw [decide_eq_true he] at this
  exact this

set_option maxHeartbeats 4000000 in
set_option maxRecDepth 100000 in
theorem textBack_law (A : Option Addr) (c : Nat) (b : List UInt8) (hc : b.length ≤ c) (_hm : c ≤ maxLen) (A' : Option Addr) (c' : Nat) (u : List UInt16) (_hc' : u.length ≤ c') (_hm' : c' ≤ maxLen) (w : World)
    (hr : Reads w w.heap.size 1 A b.length (u8s b)) (hr' : Reads w w.heap.size 1 A' u.length (u16s u)) (hT : Tabs w) :
    Calls Tryd.prog 9 #[.slice A b.length c, .slice A' u.length c'] w fun e w' => e = .returned (.bool true) ∧ Below w.heap.size w w' := by
  have HT := hide hT
  clear hT
  go_enter Tryd.func9, Tryd.ntmps9
  go_wp2_with fail
  refine (first_any w HT.out).mono ?_
  rintro e w1 ⟨rfl, hb1⟩
  have hra := hr.below hb1
  have hrb := hr'.below hb1
  have hs1 := hb1.size
  have HT1 := hide (HT.out.grow hb1)
  by_cases hla : b.length ≤ 5000
  · by_cases hlb : u.length ≤ 5000
    · go_wp2_with fail
      obtain ⟨l, hl⟩ : ∃ l, uOut b = l := ⟨_, rfl⟩
      have hlt : l.length ≤ 4096 := by rw [← hl]; exact uOut_len b
      rcases uErr_cases b with he | he | he
      case' inl =>
        obtain ⟨h4, hnone, hout, hat⟩ := uErr_ok he
        have hle : l.length ≤ b.length := by rw [← hl, hout]; exact (units_size _ b rfl).1
        have hbk : bytesF l = some b := by rw [← hl, hout]; exact back_bytes _ b rfl hnone
        have HB := hide (show bErr l = 0 ∧ bOut l = b from ⟨by unfold bErr; rw [hbk]; rfl, by unfold bOut; rw [hbk]; rfl⟩)
        have HL := hide hl
        have HE := hide he
        have HA := hide hat
        clear hnone hout hbk hl he hat
        refine (units_is HT1.out hs1 rfl hra hc HA.out HE.out HL.out).mono ?_
        rintro e w2 ⟨A2, c2, rfl, hr2, hl2, hm2, hb2⟩
        have hs2 := hb2.size
        go_wp2_with fail
        refine (bytes_is (B := w2.heap.size) (Nat.le_refl _) rfl hr2 (by omega) HB.out.1 HB.out.2).mono ?_
        rintro e w3 ⟨A3, c3, rfl, hr3, hl3, hm3, hb3⟩
        have hs3 := hb3.size
        have hra3 := (hra.below (hb2.mono hs1)).below (hb3.mono (by omega))
        go_wp2_with fail
        refine (rbytes_is (B := w3.heap.size) (B' := w.heap.size) rfl rfl hr3 hra3 rfl).mono ?_
        rintro e w4 ⟨rfl, hw4⟩
        subst hw4
        have hbA : Below w.heap.size w w3 := bthen (bthen hb1 hb2) hb3
      case' inr.inl =>
        refine (units_is HT1.out hs1 rfl hra hc rfl he hl).mono ?_
        rintro e w3 ⟨A2, c2, rfl, hr2, hl2, hm2, hb2⟩
        have hbA : Below w.heap.size w w3 := bthen hb1 hb2
        clear he hl
      case' inr.inr =>
        refine (units_is HT1.out hs1 rfl hra hc rfl he hl).mono ?_
        rintro e w3 ⟨A2, c2, rfl, hr2, hl2, hm2, hb2⟩
        have hbA : Below w.heap.size w w3 := bthen hb1 hb2
        clear he hl
      all_goals
        have hsA := hbA.size
        have HTA := hide (HT.out.grow hbA)
        have hru := hr'.below hbA
        obtain ⟨g, hg⟩ : ∃ g, bOut u = g := ⟨_, rfl⟩
        go_wp2_with fail
        rcases bErr_cases u with hf | hf
        · have hgb := bErr_ok hf
          rw [hg] at hgb
          have hback := back_units _ u g rfl hgb
          have HG := hide hg
          have HF := hide hf
          clear hg hf hgb
          refine (bytes_is (B := w.heap.size) hsA rfl hru (by omega) HF.out HG.out).mono ?_
          rintro e w5 ⟨A5, c5, rfl, hr5, hl5, hm5, hb5⟩
          have hs5 := hb5.size
          have HT5 := hide (HTA.out.grow hb5)
          by_cases h4 : g.length ≤ 4096
          · obtain ⟨q1, q2, q3⟩ := uErr_none (b := g) h4 (by rw [hback])
            rw [hback] at q2
            have HQ := hide (show uErr g = 0 ∧ uOut g = u ∧ uAt g = 0 from ⟨q1, q2, q3⟩)
            clear q1 q2 q3 hback
            go_wp2_with fail
            refine (units_is (B := w5.heap.size) HT5.out (Nat.le_refl _) rfl hr5 hl5 HQ.out.2.2 HQ.out.1 HQ.out.2.1).mono ?_
            rintro e w6 ⟨A6, c6, rfl, hr6, hl6, hm6, hb6⟩
            have hs6 := hb6.size
            go_wp2_with fail
            refine (first_any _ (HT5.out.grow hb6)).mono ?_
            rintro e w7 ⟨rfl, hb7⟩
            have hs7 := hb7.size
            have hru7 := hru.below ((hb5.mono hsA).trans ((hb6.mono (by omega)).trans (hb7.mono (by omega))))
            go_wp2_with fail
            refine (runits_is (B := w7.heap.size) (Nat.le_refl _) rfl rfl ((hr6.below hb7).more hs7) (hru7.more (by omega)) (by omega) (by omega) rfl).mono ?_
            rintro e w8 ⟨rfl, hb8⟩
            go_wp2
            go_ret
            exact ⟨rfl, bthen (bthen (bthen (bthen hbA hb5) hb6) hb7) hb8⟩
          · clear hback
            go_wp2_with fail
            refine (first_any _ HT5.out).mono ?_
            rintro e w6 ⟨rfl, hb6⟩
            go_wp2
            go_ret
            exact ⟨rfl, bthen (bthen hbA hb5) hb6⟩
        · have hgb := bErr_bad hf
          rw [hg] at hgb
          subst hgb
          have HG := hide hg
          have HF := hide hf
          clear hg hf
          refine (bytes_is (B := w.heap.size) hsA rfl hru (by omega) HF.out HG.out).mono ?_
          rintro e w5 ⟨A5, c5, rfl, hr5, hl5, hm5, hb5⟩
          go_wp2_with fail
          refine (first_any _ (HTA.out.grow hb5)).mono ?_
          rintro e w6 ⟨rfl, hb6⟩
          go_wp2
          go_ret
          exact ⟨rfl, bthen (bthen hbA hb5) hb6⟩
    · go_wp2_with fail
      refine (first_any _ HT1.out).mono ?_
      rintro e w2 ⟨rfl, hb2⟩
      go_wp2
      go_ret
      exact ⟨rfl, bthen hb1 hb2⟩
  · go_wp2_with fail
    refine (first_any _ HT1.out).mono ?_
    rintro e w2 ⟨rfl, hb2⟩
    go_wp2
    go_ret
    exact ⟨rfl, bthen hb1 hb2⟩
end Go.Proofs.YtginfodcobpljaaDoor
