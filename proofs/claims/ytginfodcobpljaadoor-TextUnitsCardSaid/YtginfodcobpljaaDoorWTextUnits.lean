/- The law TextUnits, walked: any bytes as units, or where not; any units as bytes; they stay. -/
import Derived.Test.YtginfodcobpljaaDoorWTextBack
import Derived.Test.YtginfodcobpljaaDoorRBytes
namespace Go.Proofs.YtginfodcobpljaaDoor
open Go.RowKit

theorem r3units_is {A : Option Addr} {c B n : Nat} {b : List UInt8} {w : World} (hB : B ≤ w.heap.size) (hn : b.length = n) (ha : Reads w B 1 A n (u8s b)) {k e : Nat} {l : List UInt16} (h1 : uAt b = k) (h2 : uErr b = e) (h3 : uOut b = l) :
    Calls Tryd.prog 24 #[.slice A n c] w fun ev w' => ∃ A' c', ev = .returned (.tuple #[.slice A' l.length c', .int .i64 (k : Int), .int .i64 (e : Int)]) ∧ Reads w' w'.heap.size 1 A' l.length (u16s l) ∧ l.length ≤ c' ∧ c' ≤ maxLen ∧ Below w.heap.size w w' := by
  subst hn h1 h2 h3
  refine (r3units_any hB ha).mono ?_
  rintro ev w' ⟨v, rfl, hm⟩
  have hb := hm.below
  obtain ⟨A', c', rfl, h1, h2, hr⟩ := hm.u16
  exact ⟨A', c', rfl, hr, h1, h2, hb⟩
theorem r3bytes_is {A : Option Addr} {c B n : Nat} {u : List UInt16} {w : World} (hB : B ≤ w.heap.size) (hn : u.length = n) (ha : Reads w B 1 A n (u16s u)) (hl : n ≤ 100000000000) {e : Nat} {bs : List UInt8} (h1 : bErr u = e) (h2 : bOut u = bs) :
    Calls Tryd.prog 26 #[.slice A n c] w fun ev w' => ∃ A' c', ev = .returned (.tuple #[.slice A' bs.length c', .int .i64 (e : Int)]) ∧ Reads w' w'.heap.size 1 A' bs.length (u8s bs) ∧ bs.length ≤ c' ∧ c' ≤ maxLen ∧ Below w.heap.size w w' := by
  subst hn h1 h2
  refine (r3bytes_any (c := c) hB ha hl).mono ?_
  rintro ev w' ⟨v, rfl, hm⟩
  have hb := hm.below
  obtain ⟨A', c', rfl, h1, h2, hr⟩ := hm.u8
  exact ⟨A', c', rfl, hr, h1, h2, hb⟩
theorem copyBytes_is {A : Option Addr} {c B n : Nat} {xs : List UInt8} {w : World} (hB : B ≤ w.heap.size) (hn : xs.length = n) (ha : Reads w B 1 A n (u8s xs)) (hl : n ≤ 70368744177664) :
    Calls Tryd.prog 20 #[.slice A n c] w fun e w' => ∃ A' c', e = .returned (.slice A' n c') ∧ Reads w' w'.heap.size 1 A' n (u8s xs) ∧ n ≤ c' ∧ c' ≤ maxLen ∧ Below w.heap.size w w' := by
  subst hn
  refine (copyBytes_any (c := c) hB ha hl).mono ?_
  rintro e w' ⟨v, rfl, hm⟩
  have hb := hm.below
  obtain ⟨A', c', rfl, h1, h2, hr⟩ := hm.u8
  exact ⟨A', c', rfl, hr, h1, h2, hb⟩
theorem copyUnits_at {A : Option Addr} {c B n : Nat} {xs : List UInt16} {w : World} (hB : B ≤ w.heap.size) (hn : xs.length = n) (ha : Reads w B 1 A n (u16s xs)) (hl : n ≤ 70368744177664) :
    Calls Tryd.prog 21 #[.slice A n c] w fun e w' => ∃ A' c', e = .returned (.slice A' n c') ∧ Reads w' w'.heap.size 1 A' n (u16s xs) ∧ n ≤ c' ∧ c' ≤ maxLen ∧ Below w.heap.size w w' := by
  subst hn
  refine (copyUnits_any (c := c) hB ha hl).mono ?_
  rintro e w' ⟨v, rfl, hm⟩
  have hb := hm.below
  obtain ⟨A', c', rfl, h1, h2, hr⟩ := hm.u16
  exact ⟨A', c', rfl, hr, h1, h2, hb⟩

set_option maxHeartbeats 8000000 in
set_option maxRecDepth 100000 in
theorem textUnits_law (A : Option Addr) (c : Nat) (b : List UInt8) (_hc : b.length ≤ c) (_hm : c ≤ maxLen) (A' : Option Addr) (c' : Nat) (u : List UInt16) (_hc' : u.length ≤ c') (_hm' : c' ≤ maxLen) (w : World)
    (hr : Reads w w.heap.size 1 A b.length (u8s b)) (hr' : Reads w w.heap.size 1 A' u.length (u16s u)) (hT : Tabs w) :
    Calls Tryd.prog 8 #[.slice A b.length c, .slice A' u.length c'] w fun e w' => e = .returned (.bool true) ∧ Below w.heap.size w w' := by
  have HT := hide hT
  clear hT
  go_enter Tryd.func8, Tryd.ntmps8
  go_wp2_with fail
  refine (first_any w HT.out).mono ?_
  rintro e w1 ⟨rfl, hb1⟩
  have hra := hr.below hb1
  have hrb := hr'.below hb1
  have hs1 := hb1.size
  have HT1 := hide (HT.out.grow hb1)
  by_cases hla : b.length ≤ 5000
  · by_cases hlb : u.length ≤ 5000
    · obtain ⟨l, hl⟩ : ∃ l, uOut b = l := ⟨_, rfl⟩
      obtain ⟨g, hg⟩ : ∃ g, bOut u = g := ⟨_, rfl⟩
      obtain ⟨ka, hka⟩ : ∃ k, uAt b = k := ⟨_, rfl⟩
      obtain ⟨ea, hea⟩ : ∃ k, uErr b = k := ⟨_, rfl⟩
      obtain ⟨eb, heb⟩ : ∃ k, bErr u = k := ⟨_, rfl⟩
      have hll : l.length ≤ 4096 := by rw [← hl]; exact uOut_len b
      have HL := hide hl
      have HG := hide hg
      have HKA := hide hka
      have HEA := hide hea
      have HEB := hide heb
      clear hl hg hka hea heb
      go_wp2_with fail
      refine (copyBytes_is (B := w.heap.size) hs1 rfl hra (by omega)).mono ?_
      rintro e w2 ⟨A2, c2, rfl, hr2, hl2, hm2, hb2⟩
      have hs2 := hb2.size
      have hrb2 := hrb.below (hb2.mono hs1)
      go_wp2_with fail
      refine (copyUnits_at (B := w.heap.size) (by omega) rfl hrb2 (by omega)).mono ?_
      rintro e w3 ⟨A3, c3, rfl, hr3, hl3, hm3, hb3⟩
      have hs3 := hb3.size
      have hb03 : Below w.heap.size w w3 := bthen (bthen hb1 hb2) hb3
      have HT3 := hide (HT.out.grow hb03)
      have hx3 := hr2.below hb3
      have HB03 := hide hb03
      clear hra hrb hrb2 HT1 hb1 hb2 hb03
      go_wp2_with fail
      refine (units_is (B := w2.heap.size) HT3.out hs3 rfl hx3 hl2 HKA.out HEA.out HL.out).mono ?_
      rintro e w4 ⟨A4, c4, rfl, hr4, hl4, hm4, hb4⟩
      have hs4 := hb4.size
      have HB04 := hide (bthen HB03.out hb4)
      have hra4 := hr.below HB04.out
      have hw4 := HB04.out.size
      go_wp2_with fail
      refine (r3units_is (B := w.heap.size) hw4 rfl hra4 HKA.out HEA.out HL.out).mono ?_
      rintro e w5 ⟨A5, c5, rfl, hr5, hl5, hm5, hb5⟩
      have hs5 := hb5.size
      have HB05 := hide (bthen HB04.out hb5)
      have hy5 := (hr3.below hb4).below (hb5.mono hs4)
      clear hra4
      go_wp2_with fail
      refine (bytes_is (B := w3.heap.size) (by omega) rfl hy5 (by omega) HEB.out HG.out).mono ?_
      rintro e w6 ⟨A6, c6, rfl, hr6, hl6, hm6, hb6⟩
      have hs6 := hb6.size
      have HB06 := hide (bthen HB05.out hb6)
      have hrb6 := hr'.below HB06.out
      have hw6 := HB06.out.size
      clear hy5
      go_wp2_with fail
      refine (r3bytes_is (B := w.heap.size) hw6 rfl hrb6 (by omega) HEB.out HG.out).mono ?_
      rintro e w7 ⟨A7, c7, rfl, hr7, hl7, hm7, hb7⟩
      have hs7 := hb7.size
      have HB07 := hide (bthen HB06.out hb7)
      clear hrb6
      go_wp2_with fail
      refine (first_any _ (HT.out.grow HB07.out)).mono ?_
      rintro e w8 ⟨rfl, hb8⟩
      have hs8 := hb8.size
      have HB08 := hide (bthen HB07.out hb8)
      have hb48 : Below w4.heap.size w4 w8 := bthen (bthen (bthen hb5 hb6) hb7) hb8
      have hb58 : Below w5.heap.size w5 w8 := bthen (bthen hb6 hb7) hb8
      have hb68 : Below w6.heap.size w6 w8 := bthen hb7 hb8
      have hc8 := (hr4.below hb48).more (B' := w8.heap.size) (by omega)
      have hd8 := (hr5.below hb58).more (B' := w8.heap.size) (by omega)
      have H48 := hide hb48
      have H58 := hide hb58
      have H68 := hide hb68
      clear hb48 hb58 hb68
      go_wp2_with fail
      refine (runits_is (B := w8.heap.size) (Nat.le_refl _) rfl rfl hc8 hd8 (by omega) (by omega) rfl).mono ?_
      rintro e w9 ⟨rfl, hb9⟩
      have hs9 := hb9.size
      have hg9 := (hr6.below H68.out).below (hb9.mono (by omega))
      have hi9 := (hr7.below hb8).below (hb9.mono hs8)
      go_wp2_with fail
      refine (rbytes_is (B := w6.heap.size) (B' := w7.heap.size) rfl rfl hg9 hi9 rfl).mono ?_
      rintro e w10 ⟨rfl, hw10⟩
      subst hw10
      have HB09 := hide (bthen HB08.out hb9)
      have hx9 := hx3.below (((hb4.mono hs3).trans (H48.out.mono (by omega))).trans (hb9.mono (by omega)))
      have hb0 := hr.below HB09.out
      go_wp2_with fail
      refine (rbytes_is (B := w2.heap.size) (B' := w.heap.size) rfl rfl hx9 hb0 rfl).mono ?_
      rintro e w10 ⟨rfl, hw10⟩
      subst hw10
      have hy9 := (hr3.below ((hb4.trans (H48.out.mono hs4)).trans (hb9.mono (by omega)))).more (B' := w9.heap.size) (by omega)
      have hu0 := (hr'.below HB09.out).more HB09.out.size
      go_wp2_with fail
      refine (runits_is (B := w9.heap.size) (Nat.le_refl _) rfl rfl hy9 hu0 (by omega) (by omega) rfl).mono ?_
      rintro e w10 ⟨rfl, hb10⟩
      go_wp2
      go_ret
      exact ⟨rfl, bthen HB09.out hb10⟩
    · go_wp2_with fail
      refine (first_any _ HT1.out).mono ?_
      rintro e w2 ⟨rfl, hb2⟩
      go_wp2
      go_ret
      exact ⟨rfl, bthen hb1 hb2⟩
  · go_wp2_with fail
    refine (first_any _ HT1.out).mono ?_
    rintro e w2 ⟨rfl, hb2⟩
    go_wp2
    go_ret
    exact ⟨rfl, bthen hb1 hb2⟩
end Go.Proofs.YtginfodcobpljaaDoor
