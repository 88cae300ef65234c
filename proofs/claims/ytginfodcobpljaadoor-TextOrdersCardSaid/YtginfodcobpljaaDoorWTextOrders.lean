/- The law TextOrders, walked: of two that are not the same just one is less; of three that are ordered the outer ones are; a beginning is less. -/
import Derived.Test.YtginfodcobpljaaDoorKit3
import Derived.Test.YtginfodcobpljaaDoorPlainLaw
namespace Go.Proofs.YtginfodcobpljaaDoor
open Go.RowKit

def Chain (x z u : Bool) : Prop := x = true → z = true → u = true
theorem less_is {A A' : Option Addr} {c d B n m : Nat} {xs ys : List UInt16} {w : World} (hn : xs.length = n) (hm : ys.length = m) (ha : Reads w B 1 A n (u16s xs)) (hb : Reads w B 1 A' m (u16s ys)) (hl : n ≤ 70368744177664) (r : Bool) (hr : decide (cmpF xs ys < 0) = r) :
    Calls Tryd.prog 28 #[.slice A n c, .slice A' m d] w fun e w' => e = .returned (.bool r) ∧ w = w' := by
  subst hn hm hr
  exact less_any ha hb hl
theorem same_is {A A' : Option Addr} {c d B n m : Nat} {xs ys : List UInt16} {w : World} (hB : B ≤ w.heap.size) (hn : xs.length = n) (hm : ys.length = m) (ha : Reads w B 1 A n (u16s xs)) (hb : Reads w B 1 A' m (u16s ys)) (hl : n ≤ 70368744177664) (hl2 : m ≤ 70368744177664) (r : Bool) (hr : decide (xs = ys) = r) :
    Calls Tryd.prog 29 #[.slice A n c, .slice A' m d] w fun e w' => e = .returned (.bool r) ∧ Below w.heap.size w w' := by
  subst hn hm hr
  exact same_any hB ha hb hl hl2

set_option maxHeartbeats 8000000 in
set_option maxRecDepth 100000 in
theorem textOrders_law (A : Option Addr) (c : Nat) (a : List UInt16) (_hc : a.length ≤ c) (_hm : c ≤ maxLen) (A' : Option Addr) (c' : Nat) (b : List UInt16) (_hc' : b.length ≤ c') (_hm' : c' ≤ maxLen)
    (A2 : Option Addr) (c2 : Nat) (d : List UInt16) (_hc2 : d.length ≤ c2) (_hm2 : c2 ≤ maxLen) (w : World)
    (hr : Reads w w.heap.size 1 A a.length (u16s a)) (hr' : Reads w w.heap.size 1 A' b.length (u16s b)) (hr2 : Reads w w.heap.size 1 A2 d.length (u16s d)) (hT : Tabs w) :
    Calls Tryd.prog 10 #[.slice A a.length c, .slice A' b.length c', .slice A2 d.length c2] w fun e w' => e = .returned (.bool true) ∧ Below w.heap.size w w' := by
  have HT := hide hT
  clear hT
  obtain ⟨i0, hi0, hz0, hz1, hz2⟩ := info_parts Tryd.info_u16
  go_enter Tryd.func10, Tryd.ntmps10
  go_wp2_with fail
  refine (first_any w HT.out).mono ?_
  rintro e w1 ⟨rfl, hb1⟩
  have hra := hr.below hb1
  have hrb := hr'.below hb1
  have hrc := hr2.below hb1
  have hs1 := hb1.size
  have HT1 := hide (HT.out.grow hb1)
  by_cases hla : a.length ≤ 5000
  · by_cases hlb : b.length ≤ 5000
    · by_cases hlc : d.length ≤ 5000
      · obtain ⟨x, hx⟩ : ∃ x, decide (cmpF a b < 0) = x := ⟨_, rfl⟩
        obtain ⟨y, hy⟩ : ∃ x, decide (cmpF b a < 0) = x := ⟨_, rfl⟩
        obtain ⟨z, hz⟩ : ∃ x, decide (cmpF b d < 0) = x := ⟨_, rfl⟩
        obtain ⟨u, hu⟩ : ∃ x, decide (cmpF a d < 0) = x := ⟨_, rfl⟩
        have hs0 := cmpF_swap a b
        have hs0' := cmpF_swap b a
        have ht := cmpF_trans a b d
        have q1 : (x && y) = false := by
          cases x <;> cases y <;> first | rfl | (exfalso; simp only [decide_eq_true_eq] at hx hy; have := hs0.1.1 hx; omega)
        have q2 : decide (a = b) = !(x || y) := by
          by_cases hab : a = b
          · have h0 := hs0.2.2 hab
            have h1 := hs0'.2.2 hab.symm
            rw [← hx, ← hy, h0, h1]
            simp [hab]
          · have h0 : ¬ cmpF a b = 0 := fun h => hab (hs0.2.1 h)
            have h1 : x = true ∨ y = true := by
              by_cases h2 : cmpF a b < 0
              · exact Or.inl (by rw [← hx]; simpa using h2)
              · exact Or.inr (by rw [← hy]; simpa using hs0'.1.2 (by omega))
            rcases h1 with h1 | h1 <;> simp [hab, h1]
        have q3 : x = true → z = true → u = true := fun h1 h2 => by
          rw [← hx] at h1; rw [← hz] at h2; rw [← hu]
          simp only [decide_eq_true_eq] at h1 h2 ⊢
          exact ht h1 h2
        clear hs0 hs0' ht
        have HX := hide hx
        have HY := hide hy
        have HZ := hide hz
        have HU := hide hu
        have HQ := hide q2
        have H3 : Chain x z u := q3
        clear hx hy hz hu q2 q3
        have hab5 : a.length ≤ 70368744177664 := by omega
        have hbb5 : b.length ≤ 70368744177664 := by omega
        cases x <;> cases y
        · go_wp2_with fail
          refine (less_is rfl rfl hra hrb hab5 false HX.out).mono ?_
          rintro e w' ⟨rfl, rfl⟩
          go_wp2_with fail
          refine (less_is rfl rfl hrb hra hbb5 false HY.out).mono ?_
          rintro e w' ⟨rfl, rfl⟩
          go_wp2_with fail
          refine (same_is hs1 rfl rfl hra hrb hab5 hbb5 true HQ.out).mono ?_
          rintro e w2 ⟨rfl, hb2⟩
          have hs2 := hb2.size
          go_wp2_with fail
          refine (first_any _ (HT1.out.grow hb2)).mono ?_
          rintro e w3 ⟨rfl, hb3⟩
          have hs3 := hb3.size
          have hra3 := (hra.below (hb2.mono hs1)).below (hb3.mono (by omega))
          go_wp2_with fail
          refine (copyUnits_is (B := w.heap.size) (by omega) rfl hra3 hab5).mono ?_
          rintro e w4 ⟨v4, rfl, hm4⟩
          go_wp2_with (at_builtin; refine wpList_ungate rfl ?_; refine wpList_lit rfl _ _ 24 rfl 42 i0 _ 2 Tryd.underlying24 hi0 hz0 hz1 hz2 rfl _ _ rfl hm4 _ 1 1 rfl rfl rfl (by rw [u16s_len]; omega) (by omega) ?_; intro v5 w5 hm5)
          have hb5 := hm5.below
          have hs5 := hb5.size
          obtain ⟨A5, c5, rfl, h51, h52, hr5⟩ := (hm5.cells (ys := u16s (a ++ [0])) (by simp [u16s, u16v])).u16
          have hra5 := hra3.below (hb5.mono (by omega))
          go_wp2_with fail
          refine (less_is (B := w5.heap.size) rfl rfl (hra5.more (by omega)) hr5 hab5 true (by rw [decide_eq_true_eq]; exact cmpF_more a 0)).mono ?_
          rintro e w' ⟨rfl, rfl⟩
          go_wp2_with fail
          refine (less_is rfl rfl hra5 hra5 hab5 false (by rw [decide_eq_false_iff_not, cmpF_self]; omega)).mono ?_
          rintro e w' ⟨rfl, rfl⟩
          go_wp2
          go_ret
          exact ⟨rfl, bthen (bthen (bthen hb1 hb2) hb3) hb5⟩
        · go_wp2_with fail
          refine (less_is rfl rfl hra hrb hab5 false HX.out).mono ?_
          rintro e w' ⟨rfl, rfl⟩
          go_wp2_with fail
          refine (less_is rfl rfl hrb hra hbb5 true HY.out).mono ?_
          rintro e w' ⟨rfl, rfl⟩
          go_wp2_with fail
          refine (same_is hs1 rfl rfl hra hrb hab5 hbb5 false HQ.out).mono ?_
          rintro e w2 ⟨rfl, hb2⟩
          have hs2 := hb2.size
          go_wp2_with fail
          refine (first_any _ (HT1.out.grow hb2)).mono ?_
          rintro e w3 ⟨rfl, hb3⟩
          have hs3 := hb3.size
          have hra3 := (hra.below (hb2.mono hs1)).below (hb3.mono (by omega))
          go_wp2_with fail
          refine (copyUnits_is (B := w.heap.size) (by omega) rfl hra3 hab5).mono ?_
          rintro e w4 ⟨v4, rfl, hm4⟩
          go_wp2_with (at_builtin; refine wpList_ungate rfl ?_; refine wpList_lit rfl _ _ 24 rfl 42 i0 _ 2 Tryd.underlying24 hi0 hz0 hz1 hz2 rfl _ _ rfl hm4 _ 1 1 rfl rfl rfl (by rw [u16s_len]; omega) (by omega) ?_; intro v5 w5 hm5)
          have hb5 := hm5.below
          have hs5 := hb5.size
          obtain ⟨A5, c5, rfl, h51, h52, hr5⟩ := (hm5.cells (ys := u16s (a ++ [0])) (by simp [u16s, u16v])).u16
          have hra5 := hra3.below (hb5.mono (by omega))
          go_wp2_with fail
          refine (less_is (B := w5.heap.size) rfl rfl (hra5.more (by omega)) hr5 hab5 true (by rw [decide_eq_true_eq]; exact cmpF_more a 0)).mono ?_
          rintro e w' ⟨rfl, rfl⟩
          go_wp2_with fail
          refine (less_is rfl rfl hra5 hra5 hab5 false (by rw [decide_eq_false_iff_not, cmpF_self]; omega)).mono ?_
          rintro e w' ⟨rfl, rfl⟩
          go_wp2
          go_ret
          exact ⟨rfl, bthen (bthen (bthen hb1 hb2) hb3) hb5⟩
        · go_wp2_with fail
          refine (less_is rfl rfl hra hrb hab5 true HX.out).mono ?_
          rintro e w' ⟨rfl, rfl⟩
          go_wp2_with fail
          refine (less_is rfl rfl hrb hra hbb5 false HY.out).mono ?_
          rintro e w' ⟨rfl, rfl⟩
          go_wp2_with fail
          refine (same_is hs1 rfl rfl hra hrb hab5 hbb5 false HQ.out).mono ?_
          rintro e w2 ⟨rfl, hb2⟩
          have hs2 := hb2.size
          have hrb2 := hrb.below (hb2.mono hs1)
          have hrc2 := hrc.below (hb2.mono hs1)
          cases z
          · go_wp2_with fail
            refine (less_is rfl rfl hrb2 hrc2 hbb5 false HZ.out).mono ?_
            rintro e w' ⟨rfl, rfl⟩
            go_wp2_with fail
            refine (first_any _ (HT1.out.grow hb2)).mono ?_
            rintro e w3 ⟨rfl, hb3⟩
            have hs3 := hb3.size
            have hra3 := (hra.below (hb2.mono hs1)).below (hb3.mono (by omega))
            go_wp2_with fail
            refine (copyUnits_is (B := w.heap.size) (by omega) rfl hra3 hab5).mono ?_
            rintro e w4 ⟨v4, rfl, hm4⟩
            go_wp2_with (at_builtin; refine wpList_ungate rfl ?_; refine wpList_lit rfl _ _ 24 rfl 42 i0 _ 2 Tryd.underlying24 hi0 hz0 hz1 hz2 rfl _ _ rfl hm4 _ 1 1 rfl rfl rfl (by rw [u16s_len]; omega) (by omega) ?_; intro v5 w5 hm5)
            have hb5 := hm5.below
            have hs5 := hb5.size
            obtain ⟨A5, c5, rfl, h51, h52, hr5⟩ := (hm5.cells (ys := u16s (a ++ [0])) (by simp [u16s, u16v])).u16
            have hra5 := hra3.below (hb5.mono (by omega))
            go_wp2_with fail
            refine (less_is (B := w5.heap.size) rfl rfl (hra5.more (by omega)) hr5 hab5 true (by rw [decide_eq_true_eq]; exact cmpF_more a 0)).mono ?_
            rintro e w' ⟨rfl, rfl⟩
            go_wp2_with fail
            refine (less_is rfl rfl hra5 hra5 hab5 false (by rw [decide_eq_false_iff_not, cmpF_self]; omega)).mono ?_
            rintro e w' ⟨rfl, rfl⟩
            go_wp2
            go_ret
            exact ⟨rfl, bthen (bthen (bthen hb1 hb2) hb3) hb5⟩
          · go_wp2_with fail
            refine (less_is rfl rfl hrb2 hrc2 hbb5 true HZ.out).mono ?_
            rintro e w' ⟨rfl, rfl⟩
            obtain rfl := H3 rfl rfl
            go_wp2_with fail
            refine (less_is rfl rfl (hra.below (hb2.mono hs1)) hrc2 hab5 true HU.out).mono ?_
            rintro e w' ⟨rfl, rfl⟩
            go_wp2_with fail
            refine (first_any _ (HT1.out.grow hb2)).mono ?_
            rintro e w3 ⟨rfl, hb3⟩
            have hs3 := hb3.size
            have hra3 := (hra.below (hb2.mono hs1)).below (hb3.mono (by omega))
            go_wp2_with fail
            refine (copyUnits_is (B := w.heap.size) (by omega) rfl hra3 hab5).mono ?_
            rintro e w4 ⟨v4, rfl, hm4⟩
            go_wp2_with (at_builtin; refine wpList_ungate rfl ?_; refine wpList_lit rfl _ _ 24 rfl 42 i0 _ 2 Tryd.underlying24 hi0 hz0 hz1 hz2 rfl _ _ rfl hm4 _ 1 1 rfl rfl rfl (by rw [u16s_len]; omega) (by omega) ?_; intro v5 w5 hm5)
            have hb5 := hm5.below
            have hs5 := hb5.size
            obtain ⟨A5, c5, rfl, h51, h52, hr5⟩ := (hm5.cells (ys := u16s (a ++ [0])) (by simp [u16s, u16v])).u16
            have hra5 := hra3.below (hb5.mono (by omega))
            go_wp2_with fail
            refine (less_is (B := w5.heap.size) rfl rfl (hra5.more (by omega)) hr5 hab5 true (by rw [decide_eq_true_eq]; exact cmpF_more a 0)).mono ?_
            rintro e w' ⟨rfl, rfl⟩
            go_wp2_with fail
            refine (less_is rfl rfl hra5 hra5 hab5 false (by rw [decide_eq_false_iff_not, cmpF_self]; omega)).mono ?_
            rintro e w' ⟨rfl, rfl⟩
            go_wp2
            go_ret
            exact ⟨rfl, bthen (bthen (bthen hb1 hb2) hb3) hb5⟩
        · simp at q1
      · go_wp2_with fail
        refine (first_any _ HT1.out).mono ?_
        rintro e w2 ⟨rfl, hb2⟩
        go_wp2
        go_ret
        exact ⟨rfl, bthen hb1 hb2⟩
    · go_wp2_with fail
      refine (first_any _ HT1.out).mono ?_
      rintro e w2 ⟨rfl, hb2⟩
      go_wp2
      go_ret
      exact ⟨rfl, bthen hb1 hb2⟩
  · go_wp2_with fail
    refine (first_any _ HT1.out).mono ?_
    rintro e w2 ⟨rfl, hb2⟩
    go_wp2
    go_ret
    exact ⟨rfl, bthen hb1 hb2⟩
end Go.Proofs.YtginfodcobpljaaDoor
