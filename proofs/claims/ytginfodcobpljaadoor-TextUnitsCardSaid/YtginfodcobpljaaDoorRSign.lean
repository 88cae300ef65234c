/- renref3.sign, walked: the well formed sign at a place. -/
import Derived.Test.YtginfodcobpljaaDoorRSignB
import Derived.Test.YtginfodcobpljaaDoorRSignC
namespace Go.Proofs.YtginfodcobpljaaDoor
open Go.RowKit
set_option maxHeartbeats 4000000 in
set_option maxRecDepth 1000000 in
theorem sign_any {A : Option Addr} {c B k : Nat} {b : List UInt8} {w : World} (hk : k < b.length) (ha : Reads w B 1 A b.length (u8s b)) (hl : b.length ≤ 4096) :
    Calls Tryd.prog 43 #[.slice A b.length c, .int .i64 (k : Int)] w fun e w' => e = .returned (.tuple #[.int .i64 ((signP (b.drop k)).1 : Int), .int .i64 ((signP (b.drop k)).2 : Int)]) ∧ w = w' := by
  obtain ⟨blk, off, rfl, hcell⟩ := ha.spot (by omega)
  have hc0 := hcell k hk
  have hlen := List.length_drop (i := k) (l := b)
  have hd0 := byteN_drop b k 0
  rw [Nat.add_zero] at hd0
  rw [← hd0] at hc0
  have hX := byteN_lt (b.drop k) 0
  have HC := hide hcell
  have HL := hide hlen
  clear hd0 hcell hlen
  obtain ⟨l, hL⟩ : ∃ l, b.drop k = l := ⟨_, rfl⟩
  rw [hL] at hc0 hX HL ⊢
  obtain ⟨X, hXX⟩ : ∃ X, byteN l 0 = X := ⟨_, rfl⟩
  rw [hXX] at hc0 hX
  have HX := hide hXX
  have HLL := hide hL
  clear hXX hL
  by_cases h1 : X < 128
  · have HR := hide (signP_ascii (l := l) (by rw [HX.out]; exact h1))
    have HR2 := hide (show signP l = (1, X) by rw [HR.out, HX.out])
    clear HR
    go_enter Tryd.func43, Tryd.ntmps43
    go_wp2
    go_ret2
    exact ⟨ret_ii HR2.out, rfl⟩
  by_cases h2 : X < 192
  · have HR := hide (signP_none (l := l) (by rw [HX.out]; omega) (Or.inl (by rw [HX.out]; exact h2)))
    have g1 : ¬ (192 : Int) ≤ (X : Int) := by omega
    have g2 : ¬ (224 : Int) ≤ (X : Int) := by omega
    have g3 : ¬ (240 : Int) ≤ (X : Int) := by omega
    go_enter Tryd.func43, Tryd.ntmps43
    go_wp2
    go_ret2
    exact ⟨ret_ii HR.out, rfl⟩
  by_cases h3 : 248 ≤ X
  · have HR := hide (signP_none (l := l) (by rw [HX.out]; omega) (Or.inr (by rw [HX.out]; exact h3)))
    have g1 : (192 : Int) ≤ (X : Int) := by omega
    have g1b : ¬ (X : Int) < 224 := by omega
    have g2 : (224 : Int) ≤ (X : Int) := by omega
    have g2b : ¬ (X : Int) < 240 := by omega
    have g3 : (240 : Int) ≤ (X : Int) := by omega
    have g3b : ¬ (X : Int) < 248 := by omega
    go_enter Tryd.func43, Tryd.ntmps43
    go_wp2
    go_ret2
    exact ⟨ret_ii HR.out, rfl⟩
  obtain ⟨n, v0, least, hlead⟩ := Lead.pick (c := X) (by omega) (by omega)
  have HLd := hide (show Lead (byteN l 0) n v0 least by rw [HX.out]; exact hlead)
  rcases hlead with ⟨hn, q1, q2, hv, hq⟩ | ⟨hn, q1, q2, hv, hq⟩ | ⟨hn, q1, q2, hv, hq⟩
  all_goals subst hn hq
  · exact sign_c2 hk hl hX q1 q2 hv HX HLL HLd hc0 HL HC
  · exact sign_c3 hk hl hX q1 q2 hv HX HLL HLd hc0 HL HC
  · exact sign_c4 hk hl hX q1 q2 hv HX HLL HLd hc0 HL HC
end Go.Proofs.YtginfodcobpljaaDoor
