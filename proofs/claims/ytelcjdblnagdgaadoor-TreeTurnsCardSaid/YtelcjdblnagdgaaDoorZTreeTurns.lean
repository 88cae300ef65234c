/- The law renlaw6.TreeTurns: for every input that can be read the call returns true, and each argument reads behind it as before. Its card, tied to the program's text. Condition: none beside the row's own (the tables of strconv and math/bits stand as their initialisers lay them). -/
import Derived.Test.YtelcjdblnagdgaaDoorM17
import Derived.Test.YtelcjdblnagdgaaDoorM18
import Derived.Test.YtelcjdblnagdgaaDoorM10
import Derived.Deep.RegionLaw
import Derived.Deep.RegionHeld3
import Derived.ChangeMaps5
namespace Go.Proofs.YtelcjdblnagdgaaDoor
open Go.RowKit

set_option maxHeartbeats 400000 in
theorem sunits_any {A A' : Option Addr} {c d B : Nat} {xs ys : List UInt16} {w : World} (hB : B ≤ w.heap.size) (ha : Reads w B 1 A xs.length (u16s xs)) (hb : Reads w B 1 A' ys.length (u16s ys)) (hl : xs.length ≤ 70368744177664) (hl2 : ys.length ≤ 70368744177664) :
    Calls Tryd.prog 35 #[.slice A xs.length c, .slice A' ys.length d] w fun e w' => e = .returned (.bool (decide (xs = ys))) ∧ Below w.heap.size w w' := by
  by_cases hne : xs.length = ys.length
  · have H := hide hne
    clear hne
    have e1 : ((xs.length : Int) == (ys.length : Int)) = true := by rw [H.out]; simp
    have e2 : ((xs.length : Int) != (ys.length : Int)) = false := by rw [H.out]; simp
    go_enter Tryd.func35, Tryd.ntmps35
    go_wp2
    go_loopw [13] (fun i wr => ∃ k : Nat, k ≤ xs.length ∧ i = .int .i64 k ∧ xs.take k = ys.take k ∧ Below w.heap.size w wr) (fun i _ => xs.length - (intOf i).toNat)
    case atStart => exact ⟨0, Nat.zero_le _, rfl, by simp, Below.refl _ _⟩
    case round =>
      obtain ⟨k, hk, rfl, htk, hnx⟩ := hrel
      have HT := hide htk
      clear htk
      by_cases hlt : k < xs.length
      · have hlt2 : k < ys.length := by have := H.out; omega
        obtain ⟨ad, rfl, _, hca⟩ := (ha.below (hnx.mono hB)).u16 hlt
        obtain ⟨ad', rfl, _, hcb⟩ := (hb.below (hnx.mono hB)).u16 hlt2
        have h3 : (k : Int) < (xs.length : Int) := by omega
        have h4 : (k : Int) < (ys.length : Int) := by omega
        go_wp2
        go_quiet (fail)
        go_wp2
        · go_ret
          refine ⟨ret_bool ?_, below_drewN hnx _⟩
          have hne : (xs[k].toNat : Int) ≠ ys[k].toNat := by have h : ((xs[k].toNat : Int) != ys[k].toNat) = true := by assumption
                                                             simpa using h
          refine (decide_eq_false ?_).symm
          rintro rfl
          exact hne rfl
        · go_roundw
          case rel =>
            have h : ((xs[k].toNat : Int) != ys[k].toNat) = false := by assumption
            have h' : xs[k] = ys[k] := by
              apply UInt16.toNat_inj.1
              simp at h
              omega
            exact ⟨k + 1, by omega, by go_num, by rw [List.take_succ_eq_append_getElem hlt, List.take_succ_eq_append_getElem hlt2, HT.out, h'], below_drewN hnx _⟩
          case measure => simp [intOf]; omega
      · go_wp2
        go_ret
        refine ⟨ret_bool ?_, hnx⟩
        have hkk : k = xs.length := by omega
        refine (decide_eq_true ?_).symm
        have h1 := HT.out
        rw [List.take_of_length_le (by omega), List.take_of_length_le (by rw [← H.out]; omega)] at h1
        exact h1
  · have e1 : ((xs.length : Int) != (ys.length : Int)) = true := by simp; omega
    go_enter Tryd.func35, Tryd.ntmps35
    go_wp2
    go_ret
    refine ⟨ret_bool (decide_eq_false ?_).symm, Below.refl _ _⟩
    rintro rfl
    exact hne rfl
set_option maxHeartbeats 400000 in
theorem sints_any {A A' : Option Addr} {c d B : Nat} {xs ys : List Int} {w : World} (hB : B ≤ w.heap.size) (ha : Reads w B 1 A xs.length (i64s xs)) (hb : Reads w B 1 A' ys.length (i64s ys)) (hl : xs.length ≤ 70368744177664) (hl2 : ys.length ≤ 70368744177664) :
    Calls Tryd.prog 37 #[.slice A xs.length c, .slice A' ys.length d] w fun e w' => e = .returned (.bool (decide (xs = ys))) ∧ Below w.heap.size w w' := by
  by_cases hne : xs.length = ys.length
  · have H := hide hne
    clear hne
    have e1 : ((xs.length : Int) == (ys.length : Int)) = true := by rw [H.out]; simp
    have e2 : ((xs.length : Int) != (ys.length : Int)) = false := by rw [H.out]; simp
    go_enter Tryd.func37, Tryd.ntmps37
    go_wp2
    go_loopw [13] (fun i wr => ∃ k : Nat, k ≤ xs.length ∧ i = .int .i64 k ∧ xs.take k = ys.take k ∧ Below w.heap.size w wr) (fun i _ => xs.length - (intOf i).toNat)
    case atStart => exact ⟨0, Nat.zero_le _, rfl, by simp, Below.refl _ _⟩
    case round =>
      obtain ⟨k, hk, rfl, htk, hnx⟩ := hrel
      have HT := hide htk
      clear htk
      by_cases hlt : k < xs.length
      · have hlt2 : k < ys.length := by have := H.out; omega
        obtain ⟨ba, oa, rfl, _, hca1⟩ := (ha.below (hnx.mono hB)).spotR (by omega)
        have hca := hca1 k ((.int .i64 xs[k])) (by simp [i64s, List.getElem?_eq_getElem hlt])
        obtain ⟨bb, ob, rfl, _, hcb1⟩ := (hb.below (hnx.mono hB)).spotR (by omega)
        have hcb := hcb1 k ((.int .i64 ys[k])) (by simp [i64s, List.getElem?_eq_getElem hlt2])
        obtain ⟨xk, hxk⟩ : ∃ z, xs[k] = z := ⟨_, rfl⟩
        obtain ⟨yk, hyk⟩ : ∃ z, ys[k] = z := ⟨_, rfl⟩
        rw [hxk] at hca
        rw [hyk] at hcb
        have HXK := hide hxk
        have HYK := hide hyk
        clear hca1 hcb1 hxk hyk
        have h3 : (k : Int) < (xs.length : Int) := by omega
        have h4 : (k : Int) < (ys.length : Int) := by omega
        go_wp2
        go_quiet (fail)
        go_wp2
        · go_ret
          refine ⟨ret_bool ?_, below_drewN hnx _⟩
          have hne : ¬ (xk = yk) := by
            have h : (xk != yk) = true := by assumption
            simpa using h
          refine (decide_eq_false ?_).symm
          rintro rfl
          exact hne (by rw [← HXK.out, ← HYK.out])
        · go_roundw
          case rel =>
            have h : (xk != yk) = false := by assumption
            have h' : xs[k] = ys[k] := by
              rw [HXK.out, HYK.out]
              simp at h
              omega
            exact ⟨k + 1, by omega, by go_num, by rw [List.take_succ_eq_append_getElem hlt, List.take_succ_eq_append_getElem hlt2, HT.out, h'], below_drewN hnx _⟩
          case measure => simp [intOf]; omega
      · go_wp2
        go_ret
        refine ⟨ret_bool ?_, hnx⟩
        have hkk : k = xs.length := by omega
        refine (decide_eq_true ?_).symm
        have h1 := HT.out
        rw [List.take_of_length_le (by omega), List.take_of_length_le (by rw [← H.out]; omega)] at h1
        exact h1
  · have e1 : ((xs.length : Int) != (ys.length : Int)) = true := by simp; omega
    go_enter Tryd.func37, Tryd.ntmps37
    go_wp2
    go_ret
    refine ⟨ret_bool (decide_eq_false ?_).symm, Below.refl _ _⟩
    rintro rfl
    exact hne rfl
set_option maxHeartbeats 400000 in
theorem slimbs_any {A A' : Option Addr} {c d B : Nat} {xs ys : List Nat} {w : World} (hB : B ≤ w.heap.size) (ha : Reads w B 1 A xs.length (n32s xs)) (hb : Reads w B 1 A' ys.length (n32s ys)) (hl : xs.length ≤ 70368744177664) (hl2 : ys.length ≤ 70368744177664) :
    Calls Tryd.prog 36 #[.slice A xs.length c, .slice A' ys.length d] w fun e w' => e = .returned (.bool (decide (xs = ys))) ∧ Below w.heap.size w w' := by
  by_cases hne : xs.length = ys.length
  · have H := hide hne
    clear hne
    have e1 : ((xs.length : Int) == (ys.length : Int)) = true := by rw [H.out]; simp
    have e2 : ((xs.length : Int) != (ys.length : Int)) = false := by rw [H.out]; simp
    go_enter Tryd.func36, Tryd.ntmps36
    go_wp2
    go_loopw [13] (fun i wr => ∃ k : Nat, k ≤ xs.length ∧ i = .int .i64 k ∧ xs.take k = ys.take k ∧ Below w.heap.size w wr) (fun i _ => xs.length - (intOf i).toNat)
    case atStart => exact ⟨0, Nat.zero_le _, rfl, by simp, Below.refl _ _⟩
    case round =>
      obtain ⟨k, hk, rfl, htk, hnx⟩ := hrel
      have HT := hide htk
      clear htk
      by_cases hlt : k < xs.length
      · have hlt2 : k < ys.length := by have := H.out; omega
        obtain ⟨ba, oa, rfl, _, hca1⟩ := (ha.below (hnx.mono hB)).spotR (by omega)
        have hca := hca1 k ((.int .u32 xs[k])) (by simp [n32s, List.getElem?_eq_getElem hlt])
        obtain ⟨bb, ob, rfl, _, hcb1⟩ := (hb.below (hnx.mono hB)).spotR (by omega)
        have hcb := hcb1 k ((.int .u32 ys[k])) (by simp [n32s, List.getElem?_eq_getElem hlt2])
        obtain ⟨xk, hxk⟩ : ∃ z, xs[k] = z := ⟨_, rfl⟩
        obtain ⟨yk, hyk⟩ : ∃ z, ys[k] = z := ⟨_, rfl⟩
        rw [hxk] at hca
        rw [hyk] at hcb
        have HXK := hide hxk
        have HYK := hide hyk
        clear hca1 hcb1 hxk hyk
        have h3 : (k : Int) < (xs.length : Int) := by omega
        have h4 : (k : Int) < (ys.length : Int) := by omega
        go_wp2
        go_quiet (fail)
        go_wp2
        · go_ret
          refine ⟨ret_bool ?_, below_drewN hnx _⟩
          have hne : ¬ ((xk : Int) = (yk : Int)) := by
            have h : ((xk : Int) != (yk : Int)) = true := by assumption
            simpa using h
          refine (decide_eq_false ?_).symm
          rintro rfl
          exact hne (by rw [← HXK.out, ← HYK.out])
        · go_roundw
          case rel =>
            have h : ((xk : Int) != (yk : Int)) = false := by assumption
            have h' : xs[k] = ys[k] := by
              rw [HXK.out, HYK.out]
              simp at h
              omega
            exact ⟨k + 1, by omega, by go_num, by rw [List.take_succ_eq_append_getElem hlt, List.take_succ_eq_append_getElem hlt2, HT.out, h'], below_drewN hnx _⟩
          case measure => simp [intOf]; omega
      · go_wp2
        go_ret
        refine ⟨ret_bool ?_, hnx⟩
        have hkk : k = xs.length := by omega
        refine (decide_eq_true ?_).symm
        have h1 := HT.out
        rw [List.take_of_length_le (by omega), List.take_of_length_le (by rw [← H.out]; omega)] at h1
        exact h1
  · have e1 : ((xs.length : Int) != (ys.length : Int)) = true := by simp; omega
    go_enter Tryd.func36, Tryd.ntmps36
    go_wp2
    go_ret
    refine ⟨ret_bool (decide_eq_false ?_).symm, Below.refl _ _⟩
    rintro rfl
    exact hne rfl
end Go.Proofs.YtelcjdblnagdgaaDoor

namespace Go.Proofs.YtelcjdblnagdgaaDoor
open Go.RowKit

set_option maxHeartbeats 2000000 in
set_option maxRecDepth 100000 in
theorem snode_0 {A A2 Am Am2 Ak Ak2 : Option Addr} {n n2 c c2 m mm2 cm cm2 l l2 ck ck2 : Nat} {K K2 k1 k2 n1 m2 : Int} {b1 b2 : Bool} {nx ny : ByteArray} {w : World} (h1 : (K == K2) = false) :
    Calls Tryd.prog 34 #[.agg #[.int .i64 K, .string nx, .slice A n c, .int .i64 k1, .int .i64 n1, .bool b1, .slice Am m cm, .slice Ak l ck], .agg #[.int .i64 K2, .string ny, .slice A2 n2 c2, .int .i64 k2, .int .i64 m2, .bool b2, .slice Am2 mm2 cm2, .slice Ak2 l2 ck2]] w fun e w' => e = .returned (.bool false) ∧ Below w.heap.size w w' := by
  obtain ⟨W, hW⟩ : ∃ W, (w.alloc (.cells #[.int .i64 K, .string nx, .slice A n c, .int .i64 k1, .int .i64 n1, .bool b1, .slice Am m cm, .slice Ak l ck] 42)).alloc (.cells #[.int .i64 K2, .string ny, .slice A2 n2 c2, .int .i64 k2, .int .i64 m2, .bool b2, .slice Am2 mm2 cm2, .slice Ak2 l2 ck2] 42) = W := ⟨_, rfl⟩
  have hb0 : Below w.heap.size w W := by rw [← hW]; exact ((Below.refl _ _).alloc (Nat.le_refl _) _).alloc (by simp) _
  have hX1 : w.heap.size < W.heap.size := by rw [← hW]; simp; omega
  have hY1 : w.heap.size + 1 < W.heap.size := by rw [← hW]; simp
  have x0 : W.cell? ⟨w.heap.size, 0, none⟩ = some (.int .i64 K) := by subst hW; go_simp
  have x1 : W.cell? ⟨w.heap.size, 1, none⟩ = some (.string nx) := by subst hW; go_simp
  have x2 : W.cell? ⟨w.heap.size, 2, none⟩ = some (.slice A n c) := by subst hW; go_simp
  have x3 : W.cell? ⟨w.heap.size, 3, none⟩ = some (.int .i64 k1) := by subst hW; go_simp
  have x4 : W.cell? ⟨w.heap.size, 4, none⟩ = some (.int .i64 n1) := by subst hW; go_simp
  have x5 : W.cell? ⟨w.heap.size, 5, none⟩ = some (.bool b1) := by subst hW; go_simp
  have x6 : W.cell? ⟨w.heap.size, 6, none⟩ = some (.slice Am m cm) := by subst hW; go_simp
  have x7 : W.cell? ⟨w.heap.size, 7, none⟩ = some (.slice Ak l ck) := by subst hW; go_simp
  have y0 : W.cell? ⟨w.heap.size + 1, 0, none⟩ = some (.int .i64 K2) := by subst hW; go_simp
  have y1 : W.cell? ⟨w.heap.size + 1, 1, none⟩ = some (.string ny) := by subst hW; go_simp
  have y2 : W.cell? ⟨w.heap.size + 1, 2, none⟩ = some (.slice A2 n2 c2) := by subst hW; go_simp
  have y3 : W.cell? ⟨w.heap.size + 1, 3, none⟩ = some (.int .i64 k2) := by subst hW; go_simp
  have y4 : W.cell? ⟨w.heap.size + 1, 4, none⟩ = some (.int .i64 m2) := by subst hW; go_simp
  have y5 : W.cell? ⟨w.heap.size + 1, 5, none⟩ = some (.bool b2) := by subst hW; go_simp
  have y6 : W.cell? ⟨w.heap.size + 1, 6, none⟩ = some (.slice Am2 mm2 cm2) := by subst hW; go_simp
  have y7 : W.cell? ⟨w.heap.size + 1, 7, none⟩ = some (.slice Ak2 l2 ck2) := by subst hW; go_simp
  have HB0 := hide hb0
  obtain ⟨X, hX⟩ : ∃ X, w.heap.size = X := ⟨_, rfl⟩
  go_enter Tryd.func34, Tryd.ntmps34
  go_upto_region 1 with (fail)
  clear hb0 hW 
  rw [hX] at x0 y0 x1 y1 x2 y2 x3 y3 x4 y4 x5 y5 x6 y6 x7 y7 hX1 hY1
  clear hX
  go_wp2_with fail
  go_ret
  exact ⟨rfl, HB0.out⟩
set_option maxHeartbeats 2000000 in
set_option maxRecDepth 100000 in
theorem snode_1 {A A2 Am Am2 Ak Ak2 : Option Addr} {n n2 c c2 m mm2 cm cm2 l l2 ck ck2 : Nat} {K k1 k2 n1 m2 : Int} {b1 b2 : Bool} {nx ny : ByteArray} {w : World} (h2 : (nx.toList == ny.toList) = false) :
    Calls Tryd.prog 34 #[.agg #[.int .i64 K, .string nx, .slice A n c, .int .i64 k1, .int .i64 n1, .bool b1, .slice Am m cm, .slice Ak l ck], .agg #[.int .i64 K, .string ny, .slice A2 n2 c2, .int .i64 k2, .int .i64 m2, .bool b2, .slice Am2 mm2 cm2, .slice Ak2 l2 ck2]] w fun e w' => e = .returned (.bool false) ∧ Below w.heap.size w w' := by
  obtain ⟨W, hW⟩ : ∃ W, (w.alloc (.cells #[.int .i64 K, .string nx, .slice A n c, .int .i64 k1, .int .i64 n1, .bool b1, .slice Am m cm, .slice Ak l ck] 42)).alloc (.cells #[.int .i64 K, .string ny, .slice A2 n2 c2, .int .i64 k2, .int .i64 m2, .bool b2, .slice Am2 mm2 cm2, .slice Ak2 l2 ck2] 42) = W := ⟨_, rfl⟩
  have hb0 : Below w.heap.size w W := by rw [← hW]; exact ((Below.refl _ _).alloc (Nat.le_refl _) _).alloc (by simp) _
  have hX1 : w.heap.size < W.heap.size := by rw [← hW]; simp; omega
  have hY1 : w.heap.size + 1 < W.heap.size := by rw [← hW]; simp
  have x0 : W.cell? ⟨w.heap.size, 0, none⟩ = some (.int .i64 K) := by subst hW; go_simp
  have x1 : W.cell? ⟨w.heap.size, 1, none⟩ = some (.string nx) := by subst hW; go_simp
  have x2 : W.cell? ⟨w.heap.size, 2, none⟩ = some (.slice A n c) := by subst hW; go_simp
  have x3 : W.cell? ⟨w.heap.size, 3, none⟩ = some (.int .i64 k1) := by subst hW; go_simp
  have x4 : W.cell? ⟨w.heap.size, 4, none⟩ = some (.int .i64 n1) := by subst hW; go_simp
  have x5 : W.cell? ⟨w.heap.size, 5, none⟩ = some (.bool b1) := by subst hW; go_simp
  have x6 : W.cell? ⟨w.heap.size, 6, none⟩ = some (.slice Am m cm) := by subst hW; go_simp
  have x7 : W.cell? ⟨w.heap.size, 7, none⟩ = some (.slice Ak l ck) := by subst hW; go_simp
  have y0 : W.cell? ⟨w.heap.size + 1, 0, none⟩ = some (.int .i64 K) := by subst hW; go_simp
  have y1 : W.cell? ⟨w.heap.size + 1, 1, none⟩ = some (.string ny) := by subst hW; go_simp
  have y2 : W.cell? ⟨w.heap.size + 1, 2, none⟩ = some (.slice A2 n2 c2) := by subst hW; go_simp
  have y3 : W.cell? ⟨w.heap.size + 1, 3, none⟩ = some (.int .i64 k2) := by subst hW; go_simp
  have y4 : W.cell? ⟨w.heap.size + 1, 4, none⟩ = some (.int .i64 m2) := by subst hW; go_simp
  have y5 : W.cell? ⟨w.heap.size + 1, 5, none⟩ = some (.bool b2) := by subst hW; go_simp
  have y6 : W.cell? ⟨w.heap.size + 1, 6, none⟩ = some (.slice Am2 mm2 cm2) := by subst hW; go_simp
  have y7 : W.cell? ⟨w.heap.size + 1, 7, none⟩ = some (.slice Ak2 l2 ck2) := by subst hW; go_simp
  have HB0 := hide hb0
  obtain ⟨X, hX⟩ : ∃ X, w.heap.size = X := ⟨_, rfl⟩
  go_enter Tryd.func34, Tryd.ntmps34
  go_upto_region 1 with (fail)
  clear hb0 hW 
  rw [hX] at x0 y0 x1 y1 x2 y2 x3 y3 x4 y4 x5 y5 x6 y6 x7 y7 hX1 hY1
  clear hX
  go_wp2_with fail
  go_ret
  exact ⟨rfl, HB0.out⟩
set_option maxHeartbeats 2000000 in
set_option maxRecDepth 100000 in
theorem snode_2 {A A2 Am Am2 Ak Ak2 : Option Addr} {n n2 c c2 m mm2 cm cm2 l l2 ck ck2 : Nat} {K k1 k2 n1 m2 : Int} {b1 b2 : Bool} {nx : ByteArray} {w : World} (CU : ∀ W, Below w.heap.size w W → Calls Tryd.prog 35 #[.slice A n c, .slice A2 n2 c2] W fun e w' => e = .returned (.bool false) ∧ Below W.heap.size W w') :
    Calls Tryd.prog 34 #[.agg #[.int .i64 K, .string nx, .slice A n c, .int .i64 k1, .int .i64 n1, .bool b1, .slice Am m cm, .slice Ak l ck], .agg #[.int .i64 K, .string nx, .slice A2 n2 c2, .int .i64 k2, .int .i64 m2, .bool b2, .slice Am2 mm2 cm2, .slice Ak2 l2 ck2]] w fun e w' => e = .returned (.bool false) ∧ Below w.heap.size w w' := by
  obtain ⟨W, hW⟩ : ∃ W, (w.alloc (.cells #[.int .i64 K, .string nx, .slice A n c, .int .i64 k1, .int .i64 n1, .bool b1, .slice Am m cm, .slice Ak l ck] 42)).alloc (.cells #[.int .i64 K, .string nx, .slice A2 n2 c2, .int .i64 k2, .int .i64 m2, .bool b2, .slice Am2 mm2 cm2, .slice Ak2 l2 ck2] 42) = W := ⟨_, rfl⟩
  have hb0 : Below w.heap.size w W := by rw [← hW]; exact ((Below.refl _ _).alloc (Nat.le_refl _) _).alloc (by simp) _
  have hX1 : w.heap.size < W.heap.size := by rw [← hW]; simp; omega
  have hY1 : w.heap.size + 1 < W.heap.size := by rw [← hW]; simp
  have x0 : W.cell? ⟨w.heap.size, 0, none⟩ = some (.int .i64 K) := by subst hW; go_simp
  have x1 : W.cell? ⟨w.heap.size, 1, none⟩ = some (.string nx) := by subst hW; go_simp
  have x2 : W.cell? ⟨w.heap.size, 2, none⟩ = some (.slice A n c) := by subst hW; go_simp
  have x3 : W.cell? ⟨w.heap.size, 3, none⟩ = some (.int .i64 k1) := by subst hW; go_simp
  have x4 : W.cell? ⟨w.heap.size, 4, none⟩ = some (.int .i64 n1) := by subst hW; go_simp
  have x5 : W.cell? ⟨w.heap.size, 5, none⟩ = some (.bool b1) := by subst hW; go_simp
  have x6 : W.cell? ⟨w.heap.size, 6, none⟩ = some (.slice Am m cm) := by subst hW; go_simp
  have x7 : W.cell? ⟨w.heap.size, 7, none⟩ = some (.slice Ak l ck) := by subst hW; go_simp
  have y0 : W.cell? ⟨w.heap.size + 1, 0, none⟩ = some (.int .i64 K) := by subst hW; go_simp
  have y1 : W.cell? ⟨w.heap.size + 1, 1, none⟩ = some (.string nx) := by subst hW; go_simp
  have y2 : W.cell? ⟨w.heap.size + 1, 2, none⟩ = some (.slice A2 n2 c2) := by subst hW; go_simp
  have y3 : W.cell? ⟨w.heap.size + 1, 3, none⟩ = some (.int .i64 k2) := by subst hW; go_simp
  have y4 : W.cell? ⟨w.heap.size + 1, 4, none⟩ = some (.int .i64 m2) := by subst hW; go_simp
  have y5 : W.cell? ⟨w.heap.size + 1, 5, none⟩ = some (.bool b2) := by subst hW; go_simp
  have y6 : W.cell? ⟨w.heap.size + 1, 6, none⟩ = some (.slice Am2 mm2 cm2) := by subst hW; go_simp
  have y7 : W.cell? ⟨w.heap.size + 1, 7, none⟩ = some (.slice Ak2 l2 ck2) := by subst hW; go_simp
  have HB0 := hide hb0
  have HCU := hide CU
  obtain ⟨X, hX⟩ : ∃ X, w.heap.size = X := ⟨_, rfl⟩
  go_enter Tryd.func34, Tryd.ntmps34
  go_upto_region 1 with (fail)
  clear hb0 hW CU
  rw [hX] at x0 y0 x1 y1 x2 y2 x3 y3 x4 y4 x5 y5 x6 y6 x7 y7 hX1 hY1
  clear hX
  go_wp2_with fail
  have D0 := hide (HCU.out W HB0.out)
  refine D0.out.mono ?_
  rintro e1 w1 ⟨rfl, hb1⟩
  have HB1 := hide (HB0.out.trans (hb1.mono HB0.out.size))
  have hX1a := Nat.lt_of_lt_of_le hX1 hb1.size
  have hY1a := Nat.lt_of_lt_of_le hY1 hb1.size
  have x3_1 := (hb1.cell (p := ⟨X, 3, none⟩) hX1).trans x3
  have y3_1 := (hb1.cell (p := ⟨X + 1, 3, none⟩) hY1).trans y3
  have x4_1 := (hb1.cell (p := ⟨X, 4, none⟩) hX1).trans x4
  have y4_1 := (hb1.cell (p := ⟨X + 1, 4, none⟩) hY1).trans y4
  have x5_1 := (hb1.cell (p := ⟨X, 5, none⟩) hX1).trans x5
  have y5_1 := (hb1.cell (p := ⟨X + 1, 5, none⟩) hY1).trans y5
  have x6_1 := (hb1.cell (p := ⟨X, 6, none⟩) hX1).trans x6
  have y6_1 := (hb1.cell (p := ⟨X + 1, 6, none⟩) hY1).trans y6
  have x7_1 := (hb1.cell (p := ⟨X, 7, none⟩) hX1).trans x7
  have y7_1 := (hb1.cell (p := ⟨X + 1, 7, none⟩) hY1).trans y7
  clear hb1
  go_wp2_with fail
  go_ret
  exact ⟨rfl, HB1.out⟩
set_option maxHeartbeats 2000000 in
set_option maxRecDepth 100000 in
theorem snode_3a {A A2 Am Am2 Ak Ak2 : Option Addr} {n n2 c c2 m mm2 cm cm2 l l2 ck ck2 : Nat} {K k1 k2 n1 m2 : Int} {b1 b2 : Bool} {nx : ByteArray} {w : World} (h4 : (k1 == k2) = false) (CU : ∀ W, Below w.heap.size w W → Calls Tryd.prog 35 #[.slice A n c, .slice A2 n2 c2] W fun e w' => e = .returned (.bool true) ∧ Below W.heap.size W w') :
    Calls Tryd.prog 34 #[.agg #[.int .i64 K, .string nx, .slice A n c, .int .i64 k1, .int .i64 n1, .bool b1, .slice Am m cm, .slice Ak l ck], .agg #[.int .i64 K, .string nx, .slice A2 n2 c2, .int .i64 k2, .int .i64 m2, .bool b2, .slice Am2 mm2 cm2, .slice Ak2 l2 ck2]] w fun e w' => e = .returned (.bool false) ∧ Below w.heap.size w w' := by
  obtain ⟨W, hW⟩ : ∃ W, (w.alloc (.cells #[.int .i64 K, .string nx, .slice A n c, .int .i64 k1, .int .i64 n1, .bool b1, .slice Am m cm, .slice Ak l ck] 42)).alloc (.cells #[.int .i64 K, .string nx, .slice A2 n2 c2, .int .i64 k2, .int .i64 m2, .bool b2, .slice Am2 mm2 cm2, .slice Ak2 l2 ck2] 42) = W := ⟨_, rfl⟩
  have hb0 : Below w.heap.size w W := by rw [← hW]; exact ((Below.refl _ _).alloc (Nat.le_refl _) _).alloc (by simp) _
  have hX1 : w.heap.size < W.heap.size := by rw [← hW]; simp; omega
  have hY1 : w.heap.size + 1 < W.heap.size := by rw [← hW]; simp
  have x0 : W.cell? ⟨w.heap.size, 0, none⟩ = some (.int .i64 K) := by subst hW; go_simp
  have x1 : W.cell? ⟨w.heap.size, 1, none⟩ = some (.string nx) := by subst hW; go_simp
  have x2 : W.cell? ⟨w.heap.size, 2, none⟩ = some (.slice A n c) := by subst hW; go_simp
  have x3 : W.cell? ⟨w.heap.size, 3, none⟩ = some (.int .i64 k1) := by subst hW; go_simp
  have x4 : W.cell? ⟨w.heap.size, 4, none⟩ = some (.int .i64 n1) := by subst hW; go_simp
  have x5 : W.cell? ⟨w.heap.size, 5, none⟩ = some (.bool b1) := by subst hW; go_simp
  have x6 : W.cell? ⟨w.heap.size, 6, none⟩ = some (.slice Am m cm) := by subst hW; go_simp
  have x7 : W.cell? ⟨w.heap.size, 7, none⟩ = some (.slice Ak l ck) := by subst hW; go_simp
  have y0 : W.cell? ⟨w.heap.size + 1, 0, none⟩ = some (.int .i64 K) := by subst hW; go_simp
  have y1 : W.cell? ⟨w.heap.size + 1, 1, none⟩ = some (.string nx) := by subst hW; go_simp
  have y2 : W.cell? ⟨w.heap.size + 1, 2, none⟩ = some (.slice A2 n2 c2) := by subst hW; go_simp
  have y3 : W.cell? ⟨w.heap.size + 1, 3, none⟩ = some (.int .i64 k2) := by subst hW; go_simp
  have y4 : W.cell? ⟨w.heap.size + 1, 4, none⟩ = some (.int .i64 m2) := by subst hW; go_simp
  have y5 : W.cell? ⟨w.heap.size + 1, 5, none⟩ = some (.bool b2) := by subst hW; go_simp
  have y6 : W.cell? ⟨w.heap.size + 1, 6, none⟩ = some (.slice Am2 mm2 cm2) := by subst hW; go_simp
  have y7 : W.cell? ⟨w.heap.size + 1, 7, none⟩ = some (.slice Ak2 l2 ck2) := by subst hW; go_simp
  have HB0 := hide hb0
  have HCU := hide CU
  obtain ⟨X, hX⟩ : ∃ X, w.heap.size = X := ⟨_, rfl⟩
  go_enter Tryd.func34, Tryd.ntmps34
  go_upto_region 1 with (fail)
  clear hb0 hW CU
  rw [hX] at x0 y0 x1 y1 x2 y2 x3 y3 x4 y4 x5 y5 x6 y6 x7 y7 hX1 hY1
  clear hX
  go_wp2_with fail
  have D0 := hide (HCU.out W HB0.out)
  refine D0.out.mono ?_
  rintro e1 w1 ⟨rfl, hb1⟩
  have HB1 := hide (HB0.out.trans (hb1.mono HB0.out.size))
  have hX1a := Nat.lt_of_lt_of_le hX1 hb1.size
  have hY1a := Nat.lt_of_lt_of_le hY1 hb1.size
  have x3_1 := (hb1.cell (p := ⟨X, 3, none⟩) hX1).trans x3
  have y3_1 := (hb1.cell (p := ⟨X + 1, 3, none⟩) hY1).trans y3
  have x4_1 := (hb1.cell (p := ⟨X, 4, none⟩) hX1).trans x4
  have y4_1 := (hb1.cell (p := ⟨X + 1, 4, none⟩) hY1).trans y4
  have x5_1 := (hb1.cell (p := ⟨X, 5, none⟩) hX1).trans x5
  have y5_1 := (hb1.cell (p := ⟨X + 1, 5, none⟩) hY1).trans y5
  have x6_1 := (hb1.cell (p := ⟨X, 6, none⟩) hX1).trans x6
  have y6_1 := (hb1.cell (p := ⟨X + 1, 6, none⟩) hY1).trans y6
  have x7_1 := (hb1.cell (p := ⟨X, 7, none⟩) hX1).trans x7
  have y7_1 := (hb1.cell (p := ⟨X + 1, 7, none⟩) hY1).trans y7
  clear hb1
  go_wp2_with fail
  go_ret
  exact ⟨rfl, HB1.out⟩
set_option maxHeartbeats 2000000 in
set_option maxRecDepth 100000 in
theorem snode_3b {A A2 Am Am2 Ak Ak2 : Option Addr} {n n2 c c2 m mm2 cm cm2 l l2 ck ck2 : Nat} {K k1 n1 m2 : Int} {b1 b2 : Bool} {nx : ByteArray} {w : World} (h4 : (n1 == m2) = false) (CU : ∀ W, Below w.heap.size w W → Calls Tryd.prog 35 #[.slice A n c, .slice A2 n2 c2] W fun e w' => e = .returned (.bool true) ∧ Below W.heap.size W w') :
    Calls Tryd.prog 34 #[.agg #[.int .i64 K, .string nx, .slice A n c, .int .i64 k1, .int .i64 n1, .bool b1, .slice Am m cm, .slice Ak l ck], .agg #[.int .i64 K, .string nx, .slice A2 n2 c2, .int .i64 k1, .int .i64 m2, .bool b2, .slice Am2 mm2 cm2, .slice Ak2 l2 ck2]] w fun e w' => e = .returned (.bool false) ∧ Below w.heap.size w w' := by
  obtain ⟨W, hW⟩ : ∃ W, (w.alloc (.cells #[.int .i64 K, .string nx, .slice A n c, .int .i64 k1, .int .i64 n1, .bool b1, .slice Am m cm, .slice Ak l ck] 42)).alloc (.cells #[.int .i64 K, .string nx, .slice A2 n2 c2, .int .i64 k1, .int .i64 m2, .bool b2, .slice Am2 mm2 cm2, .slice Ak2 l2 ck2] 42) = W := ⟨_, rfl⟩
  have hb0 : Below w.heap.size w W := by rw [← hW]; exact ((Below.refl _ _).alloc (Nat.le_refl _) _).alloc (by simp) _
  have hX1 : w.heap.size < W.heap.size := by rw [← hW]; simp; omega
  have hY1 : w.heap.size + 1 < W.heap.size := by rw [← hW]; simp
  have x0 : W.cell? ⟨w.heap.size, 0, none⟩ = some (.int .i64 K) := by subst hW; go_simp
  have x1 : W.cell? ⟨w.heap.size, 1, none⟩ = some (.string nx) := by subst hW; go_simp
  have x2 : W.cell? ⟨w.heap.size, 2, none⟩ = some (.slice A n c) := by subst hW; go_simp
  have x3 : W.cell? ⟨w.heap.size, 3, none⟩ = some (.int .i64 k1) := by subst hW; go_simp
  have x4 : W.cell? ⟨w.heap.size, 4, none⟩ = some (.int .i64 n1) := by subst hW; go_simp
  have x5 : W.cell? ⟨w.heap.size, 5, none⟩ = some (.bool b1) := by subst hW; go_simp
  have x6 : W.cell? ⟨w.heap.size, 6, none⟩ = some (.slice Am m cm) := by subst hW; go_simp
  have x7 : W.cell? ⟨w.heap.size, 7, none⟩ = some (.slice Ak l ck) := by subst hW; go_simp
  have y0 : W.cell? ⟨w.heap.size + 1, 0, none⟩ = some (.int .i64 K) := by subst hW; go_simp
  have y1 : W.cell? ⟨w.heap.size + 1, 1, none⟩ = some (.string nx) := by subst hW; go_simp
  have y2 : W.cell? ⟨w.heap.size + 1, 2, none⟩ = some (.slice A2 n2 c2) := by subst hW; go_simp
  have y3 : W.cell? ⟨w.heap.size + 1, 3, none⟩ = some (.int .i64 k1) := by subst hW; go_simp
  have y4 : W.cell? ⟨w.heap.size + 1, 4, none⟩ = some (.int .i64 m2) := by subst hW; go_simp
  have y5 : W.cell? ⟨w.heap.size + 1, 5, none⟩ = some (.bool b2) := by subst hW; go_simp
  have y6 : W.cell? ⟨w.heap.size + 1, 6, none⟩ = some (.slice Am2 mm2 cm2) := by subst hW; go_simp
  have y7 : W.cell? ⟨w.heap.size + 1, 7, none⟩ = some (.slice Ak2 l2 ck2) := by subst hW; go_simp
  have HB0 := hide hb0
  have HCU := hide CU
  obtain ⟨X, hX⟩ : ∃ X, w.heap.size = X := ⟨_, rfl⟩
  go_enter Tryd.func34, Tryd.ntmps34
  go_upto_region 1 with (fail)
  clear hb0 hW CU
  rw [hX] at x0 y0 x1 y1 x2 y2 x3 y3 x4 y4 x5 y5 x6 y6 x7 y7 hX1 hY1
  clear hX
  go_wp2_with fail
  have D0 := hide (HCU.out W HB0.out)
  refine D0.out.mono ?_
  rintro e1 w1 ⟨rfl, hb1⟩
  have HB1 := hide (HB0.out.trans (hb1.mono HB0.out.size))
  have hX1a := Nat.lt_of_lt_of_le hX1 hb1.size
  have hY1a := Nat.lt_of_lt_of_le hY1 hb1.size
  have x3_1 := (hb1.cell (p := ⟨X, 3, none⟩) hX1).trans x3
  have y3_1 := (hb1.cell (p := ⟨X + 1, 3, none⟩) hY1).trans y3
  have x4_1 := (hb1.cell (p := ⟨X, 4, none⟩) hX1).trans x4
  have y4_1 := (hb1.cell (p := ⟨X + 1, 4, none⟩) hY1).trans y4
  have x5_1 := (hb1.cell (p := ⟨X, 5, none⟩) hX1).trans x5
  have y5_1 := (hb1.cell (p := ⟨X + 1, 5, none⟩) hY1).trans y5
  have x6_1 := (hb1.cell (p := ⟨X, 6, none⟩) hX1).trans x6
  have y6_1 := (hb1.cell (p := ⟨X + 1, 6, none⟩) hY1).trans y6
  have x7_1 := (hb1.cell (p := ⟨X, 7, none⟩) hX1).trans x7
  have y7_1 := (hb1.cell (p := ⟨X + 1, 7, none⟩) hY1).trans y7
  clear hb1
  go_wp2_with fail
  go_ret
  exact ⟨rfl, HB1.out⟩
set_option maxHeartbeats 2000000 in
set_option maxRecDepth 100000 in
theorem snode_4 {A A2 Am Am2 Ak Ak2 : Option Addr} {n n2 c c2 m mm2 cm cm2 l l2 ck ck2 : Nat} {K k1 n1 : Int} {b1 b2 : Bool} {nx : ByteArray} {w : World} (CU : ∀ W, Below w.heap.size w W → Calls Tryd.prog 35 #[.slice A n c, .slice A2 n2 c2] W fun e w' => e = .returned (.bool true) ∧ Below W.heap.size W w') (h5 : (b1 == b2) = false) :
    Calls Tryd.prog 34 #[.agg #[.int .i64 K, .string nx, .slice A n c, .int .i64 k1, .int .i64 n1, .bool b1, .slice Am m cm, .slice Ak l ck], .agg #[.int .i64 K, .string nx, .slice A2 n2 c2, .int .i64 k1, .int .i64 n1, .bool b2, .slice Am2 mm2 cm2, .slice Ak2 l2 ck2]] w fun e w' => e = .returned (.bool false) ∧ Below w.heap.size w w' := by
  obtain ⟨W, hW⟩ : ∃ W, (w.alloc (.cells #[.int .i64 K, .string nx, .slice A n c, .int .i64 k1, .int .i64 n1, .bool b1, .slice Am m cm, .slice Ak l ck] 42)).alloc (.cells #[.int .i64 K, .string nx, .slice A2 n2 c2, .int .i64 k1, .int .i64 n1, .bool b2, .slice Am2 mm2 cm2, .slice Ak2 l2 ck2] 42) = W := ⟨_, rfl⟩
  have hb0 : Below w.heap.size w W := by rw [← hW]; exact ((Below.refl _ _).alloc (Nat.le_refl _) _).alloc (by simp) _
  have hX1 : w.heap.size < W.heap.size := by rw [← hW]; simp; omega
  have hY1 : w.heap.size + 1 < W.heap.size := by rw [← hW]; simp
  have x0 : W.cell? ⟨w.heap.size, 0, none⟩ = some (.int .i64 K) := by subst hW; go_simp
  have x1 : W.cell? ⟨w.heap.size, 1, none⟩ = some (.string nx) := by subst hW; go_simp
  have x2 : W.cell? ⟨w.heap.size, 2, none⟩ = some (.slice A n c) := by subst hW; go_simp
  have x3 : W.cell? ⟨w.heap.size, 3, none⟩ = some (.int .i64 k1) := by subst hW; go_simp
  have x4 : W.cell? ⟨w.heap.size, 4, none⟩ = some (.int .i64 n1) := by subst hW; go_simp
  have x5 : W.cell? ⟨w.heap.size, 5, none⟩ = some (.bool b1) := by subst hW; go_simp
  have x6 : W.cell? ⟨w.heap.size, 6, none⟩ = some (.slice Am m cm) := by subst hW; go_simp
  have x7 : W.cell? ⟨w.heap.size, 7, none⟩ = some (.slice Ak l ck) := by subst hW; go_simp
  have y0 : W.cell? ⟨w.heap.size + 1, 0, none⟩ = some (.int .i64 K) := by subst hW; go_simp
  have y1 : W.cell? ⟨w.heap.size + 1, 1, none⟩ = some (.string nx) := by subst hW; go_simp
  have y2 : W.cell? ⟨w.heap.size + 1, 2, none⟩ = some (.slice A2 n2 c2) := by subst hW; go_simp
  have y3 : W.cell? ⟨w.heap.size + 1, 3, none⟩ = some (.int .i64 k1) := by subst hW; go_simp
  have y4 : W.cell? ⟨w.heap.size + 1, 4, none⟩ = some (.int .i64 n1) := by subst hW; go_simp
  have y5 : W.cell? ⟨w.heap.size + 1, 5, none⟩ = some (.bool b2) := by subst hW; go_simp
  have y6 : W.cell? ⟨w.heap.size + 1, 6, none⟩ = some (.slice Am2 mm2 cm2) := by subst hW; go_simp
  have y7 : W.cell? ⟨w.heap.size + 1, 7, none⟩ = some (.slice Ak2 l2 ck2) := by subst hW; go_simp
  have HB0 := hide hb0
  have HCU := hide CU
  obtain ⟨X, hX⟩ : ∃ X, w.heap.size = X := ⟨_, rfl⟩
  cases b1 <;> cases b2
  · exact absurd h5 (by decide)
  rotate_left
  rotate_left
  · exact absurd h5 (by decide)
  all_goals clear h5
  all_goals
    go_enter Tryd.func34, Tryd.ntmps34
    go_upto_region 1 with (fail)
    clear hb0 hW CU
    rw [hX] at x0 y0 x1 y1 x2 y2 x3 y3 x4 y4 x5 y5 x6 y6 x7 y7 hX1 hY1
    clear hX
    go_wp2_with fail
    have D0 := hide (HCU.out W HB0.out)
    refine D0.out.mono ?_
    rintro e1 w1 ⟨rfl, hb1⟩
    have HB1 := hide (HB0.out.trans (hb1.mono HB0.out.size))
    have hX1a := Nat.lt_of_lt_of_le hX1 hb1.size
    have hY1a := Nat.lt_of_lt_of_le hY1 hb1.size
    have x3_1 := (hb1.cell (p := ⟨X, 3, none⟩) hX1).trans x3
    have y3_1 := (hb1.cell (p := ⟨X + 1, 3, none⟩) hY1).trans y3
    have x4_1 := (hb1.cell (p := ⟨X, 4, none⟩) hX1).trans x4
    have y4_1 := (hb1.cell (p := ⟨X + 1, 4, none⟩) hY1).trans y4
    have x5_1 := (hb1.cell (p := ⟨X, 5, none⟩) hX1).trans x5
    have y5_1 := (hb1.cell (p := ⟨X + 1, 5, none⟩) hY1).trans y5
    have x6_1 := (hb1.cell (p := ⟨X, 6, none⟩) hX1).trans x6
    have y6_1 := (hb1.cell (p := ⟨X + 1, 6, none⟩) hY1).trans y6
    have x7_1 := (hb1.cell (p := ⟨X, 7, none⟩) hX1).trans x7
    have y7_1 := (hb1.cell (p := ⟨X + 1, 7, none⟩) hY1).trans y7
    clear hb1
    go_wp2_with fail
    go_ret
    exact ⟨rfl, HB1.out⟩
set_option maxHeartbeats 2000000 in
set_option maxRecDepth 100000 in
theorem snode_5 {A A2 Am Am2 Ak Ak2 : Option Addr} {n n2 c c2 m mm2 cm cm2 l l2 ck ck2 : Nat} {K k1 n1 : Int} {b1 : Bool} {nx : ByteArray} {w : World} (CU : ∀ W, Below w.heap.size w W → Calls Tryd.prog 35 #[.slice A n c, .slice A2 n2 c2] W fun e w' => e = .returned (.bool true) ∧ Below W.heap.size W w') (CB : ∀ W, Below w.heap.size w W → Calls Tryd.prog 36 #[.slice Am m cm, .slice Am2 mm2 cm2] W fun e w' => e = .returned (.bool false) ∧ Below W.heap.size W w') :
    Calls Tryd.prog 34 #[.agg #[.int .i64 K, .string nx, .slice A n c, .int .i64 k1, .int .i64 n1, .bool b1, .slice Am m cm, .slice Ak l ck], .agg #[.int .i64 K, .string nx, .slice A2 n2 c2, .int .i64 k1, .int .i64 n1, .bool b1, .slice Am2 mm2 cm2, .slice Ak2 l2 ck2]] w fun e w' => e = .returned (.bool false) ∧ Below w.heap.size w w' := by
  obtain ⟨W, hW⟩ : ∃ W, (w.alloc (.cells #[.int .i64 K, .string nx, .slice A n c, .int .i64 k1, .int .i64 n1, .bool b1, .slice Am m cm, .slice Ak l ck] 42)).alloc (.cells #[.int .i64 K, .string nx, .slice A2 n2 c2, .int .i64 k1, .int .i64 n1, .bool b1, .slice Am2 mm2 cm2, .slice Ak2 l2 ck2] 42) = W := ⟨_, rfl⟩
  have hb0 : Below w.heap.size w W := by rw [← hW]; exact ((Below.refl _ _).alloc (Nat.le_refl _) _).alloc (by simp) _
  have hX1 : w.heap.size < W.heap.size := by rw [← hW]; simp; omega
  have hY1 : w.heap.size + 1 < W.heap.size := by rw [← hW]; simp
  have x0 : W.cell? ⟨w.heap.size, 0, none⟩ = some (.int .i64 K) := by subst hW; go_simp
  have x1 : W.cell? ⟨w.heap.size, 1, none⟩ = some (.string nx) := by subst hW; go_simp
  have x2 : W.cell? ⟨w.heap.size, 2, none⟩ = some (.slice A n c) := by subst hW; go_simp
  have x3 : W.cell? ⟨w.heap.size, 3, none⟩ = some (.int .i64 k1) := by subst hW; go_simp
  have x4 : W.cell? ⟨w.heap.size, 4, none⟩ = some (.int .i64 n1) := by subst hW; go_simp
  have x5 : W.cell? ⟨w.heap.size, 5, none⟩ = some (.bool b1) := by subst hW; go_simp
  have x6 : W.cell? ⟨w.heap.size, 6, none⟩ = some (.slice Am m cm) := by subst hW; go_simp
  have x7 : W.cell? ⟨w.heap.size, 7, none⟩ = some (.slice Ak l ck) := by subst hW; go_simp
  have y0 : W.cell? ⟨w.heap.size + 1, 0, none⟩ = some (.int .i64 K) := by subst hW; go_simp
  have y1 : W.cell? ⟨w.heap.size + 1, 1, none⟩ = some (.string nx) := by subst hW; go_simp
  have y2 : W.cell? ⟨w.heap.size + 1, 2, none⟩ = some (.slice A2 n2 c2) := by subst hW; go_simp
  have y3 : W.cell? ⟨w.heap.size + 1, 3, none⟩ = some (.int .i64 k1) := by subst hW; go_simp
  have y4 : W.cell? ⟨w.heap.size + 1, 4, none⟩ = some (.int .i64 n1) := by subst hW; go_simp
  have y5 : W.cell? ⟨w.heap.size + 1, 5, none⟩ = some (.bool b1) := by subst hW; go_simp
  have y6 : W.cell? ⟨w.heap.size + 1, 6, none⟩ = some (.slice Am2 mm2 cm2) := by subst hW; go_simp
  have y7 : W.cell? ⟨w.heap.size + 1, 7, none⟩ = some (.slice Ak2 l2 ck2) := by subst hW; go_simp
  have HB0 := hide hb0
  have HCU := hide CU
  have HCB := hide CB
  obtain ⟨X, hX⟩ : ∃ X, w.heap.size = X := ⟨_, rfl⟩
  cases b1
  all_goals
    go_enter Tryd.func34, Tryd.ntmps34
    go_upto_region 1 with (fail)
    clear hb0 hW CU CB
    rw [hX] at x0 y0 x1 y1 x2 y2 x3 y3 x4 y4 x5 y5 x6 y6 x7 y7 hX1 hY1
    clear hX
    go_wp2_with fail
    have D0 := hide (HCU.out W HB0.out)
    refine D0.out.mono ?_
    rintro e1 w1 ⟨rfl, hb1⟩
    have HB1 := hide (HB0.out.trans (hb1.mono HB0.out.size))
    have hX1a := Nat.lt_of_lt_of_le hX1 hb1.size
    have hY1a := Nat.lt_of_lt_of_le hY1 hb1.size
    have x3_1 := (hb1.cell (p := ⟨X, 3, none⟩) hX1).trans x3
    have y3_1 := (hb1.cell (p := ⟨X + 1, 3, none⟩) hY1).trans y3
    have x4_1 := (hb1.cell (p := ⟨X, 4, none⟩) hX1).trans x4
    have y4_1 := (hb1.cell (p := ⟨X + 1, 4, none⟩) hY1).trans y4
    have x5_1 := (hb1.cell (p := ⟨X, 5, none⟩) hX1).trans x5
    have y5_1 := (hb1.cell (p := ⟨X + 1, 5, none⟩) hY1).trans y5
    have x6_1 := (hb1.cell (p := ⟨X, 6, none⟩) hX1).trans x6
    have y6_1 := (hb1.cell (p := ⟨X + 1, 6, none⟩) hY1).trans y6
    have x7_1 := (hb1.cell (p := ⟨X, 7, none⟩) hX1).trans x7
    have y7_1 := (hb1.cell (p := ⟨X + 1, 7, none⟩) hY1).trans y7
    clear hb1
    go_wp2_with fail
    have D1 := hide (HCB.out w1 HB1.out)
    refine D1.out.mono ?_
    rintro e2 w2 ⟨rfl, hb2⟩
    have HB2 := hide (HB1.out.trans (hb2.mono HB1.out.size))
    have hX1aa := Nat.lt_of_lt_of_le hX1a hb2.size
    have hY1aa := Nat.lt_of_lt_of_le hY1a hb2.size
    have x7_2 := (hb2.cell (p := ⟨X, 7, none⟩) hX1a).trans x7_1
    have y7_2 := (hb2.cell (p := ⟨X + 1, 7, none⟩) hY1a).trans y7_1
    clear hb2
    go_wp2_with fail
    go_ret
    exact ⟨rfl, HB2.out⟩
set_option maxHeartbeats 2000000 in
set_option maxRecDepth 100000 in
theorem snode_6 {A A2 Am Am2 Ak Ak2 : Option Addr} {n n2 c c2 m mm2 cm cm2 l l2 ck ck2 : Nat} {K k1 n1 : Int} {b1 : Bool} {nx : ByteArray} {w : World} (CU : ∀ W, Below w.heap.size w W → Calls Tryd.prog 35 #[.slice A n c, .slice A2 n2 c2] W fun e w' => e = .returned (.bool true) ∧ Below W.heap.size W w') (CB : ∀ W, Below w.heap.size w W → Calls Tryd.prog 36 #[.slice Am m cm, .slice Am2 mm2 cm2] W fun e w' => e = .returned (.bool true) ∧ Below W.heap.size W w') (CI : ∀ W, Below w.heap.size w W → Calls Tryd.prog 37 #[.slice Ak l ck, .slice Ak2 l2 ck2] W fun e w' => e = .returned (.bool false) ∧ Below W.heap.size W w') :
    Calls Tryd.prog 34 #[.agg #[.int .i64 K, .string nx, .slice A n c, .int .i64 k1, .int .i64 n1, .bool b1, .slice Am m cm, .slice Ak l ck], .agg #[.int .i64 K, .string nx, .slice A2 n2 c2, .int .i64 k1, .int .i64 n1, .bool b1, .slice Am2 mm2 cm2, .slice Ak2 l2 ck2]] w fun e w' => e = .returned (.bool false) ∧ Below w.heap.size w w' := by
  obtain ⟨W, hW⟩ : ∃ W, (w.alloc (.cells #[.int .i64 K, .string nx, .slice A n c, .int .i64 k1, .int .i64 n1, .bool b1, .slice Am m cm, .slice Ak l ck] 42)).alloc (.cells #[.int .i64 K, .string nx, .slice A2 n2 c2, .int .i64 k1, .int .i64 n1, .bool b1, .slice Am2 mm2 cm2, .slice Ak2 l2 ck2] 42) = W := ⟨_, rfl⟩
  have hb0 : Below w.heap.size w W := by rw [← hW]; exact ((Below.refl _ _).alloc (Nat.le_refl _) _).alloc (by simp) _
  have hX1 : w.heap.size < W.heap.size := by rw [← hW]; simp; omega
  have hY1 : w.heap.size + 1 < W.heap.size := by rw [← hW]; simp
  have x0 : W.cell? ⟨w.heap.size, 0, none⟩ = some (.int .i64 K) := by subst hW; go_simp
  have x1 : W.cell? ⟨w.heap.size, 1, none⟩ = some (.string nx) := by subst hW; go_simp
  have x2 : W.cell? ⟨w.heap.size, 2, none⟩ = some (.slice A n c) := by subst hW; go_simp
  have x3 : W.cell? ⟨w.heap.size, 3, none⟩ = some (.int .i64 k1) := by subst hW; go_simp
  have x4 : W.cell? ⟨w.heap.size, 4, none⟩ = some (.int .i64 n1) := by subst hW; go_simp
  have x5 : W.cell? ⟨w.heap.size, 5, none⟩ = some (.bool b1) := by subst hW; go_simp
  have x6 : W.cell? ⟨w.heap.size, 6, none⟩ = some (.slice Am m cm) := by subst hW; go_simp
  have x7 : W.cell? ⟨w.heap.size, 7, none⟩ = some (.slice Ak l ck) := by subst hW; go_simp
  have y0 : W.cell? ⟨w.heap.size + 1, 0, none⟩ = some (.int .i64 K) := by subst hW; go_simp
  have y1 : W.cell? ⟨w.heap.size + 1, 1, none⟩ = some (.string nx) := by subst hW; go_simp
  have y2 : W.cell? ⟨w.heap.size + 1, 2, none⟩ = some (.slice A2 n2 c2) := by subst hW; go_simp
  have y3 : W.cell? ⟨w.heap.size + 1, 3, none⟩ = some (.int .i64 k1) := by subst hW; go_simp
  have y4 : W.cell? ⟨w.heap.size + 1, 4, none⟩ = some (.int .i64 n1) := by subst hW; go_simp
  have y5 : W.cell? ⟨w.heap.size + 1, 5, none⟩ = some (.bool b1) := by subst hW; go_simp
  have y6 : W.cell? ⟨w.heap.size + 1, 6, none⟩ = some (.slice Am2 mm2 cm2) := by subst hW; go_simp
  have y7 : W.cell? ⟨w.heap.size + 1, 7, none⟩ = some (.slice Ak2 l2 ck2) := by subst hW; go_simp
  have HB0 := hide hb0
  have HCU := hide CU
  have HCB := hide CB
  have HCI := hide CI
  obtain ⟨X, hX⟩ : ∃ X, w.heap.size = X := ⟨_, rfl⟩
  cases b1
  all_goals
    go_enter Tryd.func34, Tryd.ntmps34
    go_upto_region 1 with (fail)
    clear hb0 hW CU CB CI
    rw [hX] at x0 y0 x1 y1 x2 y2 x3 y3 x4 y4 x5 y5 x6 y6 x7 y7 hX1 hY1
    clear hX
    go_wp2_with fail
    have D0 := hide (HCU.out W HB0.out)
    refine D0.out.mono ?_
    rintro e1 w1 ⟨rfl, hb1⟩
    have HB1 := hide (HB0.out.trans (hb1.mono HB0.out.size))
    have hX1a := Nat.lt_of_lt_of_le hX1 hb1.size
    have hY1a := Nat.lt_of_lt_of_le hY1 hb1.size
    have x3_1 := (hb1.cell (p := ⟨X, 3, none⟩) hX1).trans x3
    have y3_1 := (hb1.cell (p := ⟨X + 1, 3, none⟩) hY1).trans y3
    have x4_1 := (hb1.cell (p := ⟨X, 4, none⟩) hX1).trans x4
    have y4_1 := (hb1.cell (p := ⟨X + 1, 4, none⟩) hY1).trans y4
    have x5_1 := (hb1.cell (p := ⟨X, 5, none⟩) hX1).trans x5
    have y5_1 := (hb1.cell (p := ⟨X + 1, 5, none⟩) hY1).trans y5
    have x6_1 := (hb1.cell (p := ⟨X, 6, none⟩) hX1).trans x6
    have y6_1 := (hb1.cell (p := ⟨X + 1, 6, none⟩) hY1).trans y6
    have x7_1 := (hb1.cell (p := ⟨X, 7, none⟩) hX1).trans x7
    have y7_1 := (hb1.cell (p := ⟨X + 1, 7, none⟩) hY1).trans y7
    clear hb1
    go_wp2_with fail
    have D1 := hide (HCB.out w1 HB1.out)
    refine D1.out.mono ?_
    rintro e2 w2 ⟨rfl, hb2⟩
    have HB2 := hide (HB1.out.trans (hb2.mono HB1.out.size))
    have hX1aa := Nat.lt_of_lt_of_le hX1a hb2.size
    have hY1aa := Nat.lt_of_lt_of_le hY1a hb2.size
    have x7_2 := (hb2.cell (p := ⟨X, 7, none⟩) hX1a).trans x7_1
    have y7_2 := (hb2.cell (p := ⟨X + 1, 7, none⟩) hY1a).trans y7_1
    clear hb2
    go_wp2_with fail
    have D2 := hide (HCI.out w2 HB2.out)
    refine D2.out.mono ?_
    rintro e3 w3 ⟨rfl, hb3⟩
    have HB3 := hide (HB2.out.trans (hb3.mono HB2.out.size))
    have hX1aaa := Nat.lt_of_lt_of_le hX1aa hb3.size
    have hY1aaa := Nat.lt_of_lt_of_le hY1aa hb3.size
    clear hb3
    go_wp2_with fail
    go_ret
    exact ⟨rfl, HB3.out⟩
set_option maxHeartbeats 2000000 in
set_option maxRecDepth 100000 in
theorem snode_7 {A A2 Am Am2 Ak Ak2 : Option Addr} {n n2 c c2 m mm2 cm cm2 l l2 ck ck2 : Nat} {K k1 n1 : Int} {b1 : Bool} {nx : ByteArray} {w : World} (CU : ∀ W, Below w.heap.size w W → Calls Tryd.prog 35 #[.slice A n c, .slice A2 n2 c2] W fun e w' => e = .returned (.bool true) ∧ Below W.heap.size W w') (CB : ∀ W, Below w.heap.size w W → Calls Tryd.prog 36 #[.slice Am m cm, .slice Am2 mm2 cm2] W fun e w' => e = .returned (.bool true) ∧ Below W.heap.size W w') (CI : ∀ W, Below w.heap.size w W → Calls Tryd.prog 37 #[.slice Ak l ck, .slice Ak2 l2 ck2] W fun e w' => e = .returned (.bool true) ∧ Below W.heap.size W w') :
    Calls Tryd.prog 34 #[.agg #[.int .i64 K, .string nx, .slice A n c, .int .i64 k1, .int .i64 n1, .bool b1, .slice Am m cm, .slice Ak l ck], .agg #[.int .i64 K, .string nx, .slice A2 n2 c2, .int .i64 k1, .int .i64 n1, .bool b1, .slice Am2 mm2 cm2, .slice Ak2 l2 ck2]] w fun e w' => e = .returned (.bool true) ∧ Below w.heap.size w w' := by
  obtain ⟨W, hW⟩ : ∃ W, (w.alloc (.cells #[.int .i64 K, .string nx, .slice A n c, .int .i64 k1, .int .i64 n1, .bool b1, .slice Am m cm, .slice Ak l ck] 42)).alloc (.cells #[.int .i64 K, .string nx, .slice A2 n2 c2, .int .i64 k1, .int .i64 n1, .bool b1, .slice Am2 mm2 cm2, .slice Ak2 l2 ck2] 42) = W := ⟨_, rfl⟩
  have hb0 : Below w.heap.size w W := by rw [← hW]; exact ((Below.refl _ _).alloc (Nat.le_refl _) _).alloc (by simp) _
  have hX1 : w.heap.size < W.heap.size := by rw [← hW]; simp; omega
  have hY1 : w.heap.size + 1 < W.heap.size := by rw [← hW]; simp
  have x0 : W.cell? ⟨w.heap.size, 0, none⟩ = some (.int .i64 K) := by subst hW; go_simp
  have x1 : W.cell? ⟨w.heap.size, 1, none⟩ = some (.string nx) := by subst hW; go_simp
  have x2 : W.cell? ⟨w.heap.size, 2, none⟩ = some (.slice A n c) := by subst hW; go_simp
  have x3 : W.cell? ⟨w.heap.size, 3, none⟩ = some (.int .i64 k1) := by subst hW; go_simp
  have x4 : W.cell? ⟨w.heap.size, 4, none⟩ = some (.int .i64 n1) := by subst hW; go_simp
  have x5 : W.cell? ⟨w.heap.size, 5, none⟩ = some (.bool b1) := by subst hW; go_simp
  have x6 : W.cell? ⟨w.heap.size, 6, none⟩ = some (.slice Am m cm) := by subst hW; go_simp
  have x7 : W.cell? ⟨w.heap.size, 7, none⟩ = some (.slice Ak l ck) := by subst hW; go_simp
  have y0 : W.cell? ⟨w.heap.size + 1, 0, none⟩ = some (.int .i64 K) := by subst hW; go_simp
  have y1 : W.cell? ⟨w.heap.size + 1, 1, none⟩ = some (.string nx) := by subst hW; go_simp
  have y2 : W.cell? ⟨w.heap.size + 1, 2, none⟩ = some (.slice A2 n2 c2) := by subst hW; go_simp
  have y3 : W.cell? ⟨w.heap.size + 1, 3, none⟩ = some (.int .i64 k1) := by subst hW; go_simp
  have y4 : W.cell? ⟨w.heap.size + 1, 4, none⟩ = some (.int .i64 n1) := by subst hW; go_simp
  have y5 : W.cell? ⟨w.heap.size + 1, 5, none⟩ = some (.bool b1) := by subst hW; go_simp
  have y6 : W.cell? ⟨w.heap.size + 1, 6, none⟩ = some (.slice Am2 mm2 cm2) := by subst hW; go_simp
  have y7 : W.cell? ⟨w.heap.size + 1, 7, none⟩ = some (.slice Ak2 l2 ck2) := by subst hW; go_simp
  have HB0 := hide hb0
  have HCU := hide CU
  have HCB := hide CB
  have HCI := hide CI
  obtain ⟨X, hX⟩ : ∃ X, w.heap.size = X := ⟨_, rfl⟩
  cases b1
  all_goals
    go_enter Tryd.func34, Tryd.ntmps34
    go_upto_region 1 with (fail)
    clear hb0 hW CU CB CI
    rw [hX] at x0 y0 x1 y1 x2 y2 x3 y3 x4 y4 x5 y5 x6 y6 x7 y7 hX1 hY1
    clear hX
    go_wp2_with fail
    have D0 := hide (HCU.out W HB0.out)
    refine D0.out.mono ?_
    rintro e1 w1 ⟨rfl, hb1⟩
    have HB1 := hide (HB0.out.trans (hb1.mono HB0.out.size))
    have hX1a := Nat.lt_of_lt_of_le hX1 hb1.size
    have hY1a := Nat.lt_of_lt_of_le hY1 hb1.size
    have x3_1 := (hb1.cell (p := ⟨X, 3, none⟩) hX1).trans x3
    have y3_1 := (hb1.cell (p := ⟨X + 1, 3, none⟩) hY1).trans y3
    have x4_1 := (hb1.cell (p := ⟨X, 4, none⟩) hX1).trans x4
    have y4_1 := (hb1.cell (p := ⟨X + 1, 4, none⟩) hY1).trans y4
    have x5_1 := (hb1.cell (p := ⟨X, 5, none⟩) hX1).trans x5
    have y5_1 := (hb1.cell (p := ⟨X + 1, 5, none⟩) hY1).trans y5
    have x6_1 := (hb1.cell (p := ⟨X, 6, none⟩) hX1).trans x6
    have y6_1 := (hb1.cell (p := ⟨X + 1, 6, none⟩) hY1).trans y6
    have x7_1 := (hb1.cell (p := ⟨X, 7, none⟩) hX1).trans x7
    have y7_1 := (hb1.cell (p := ⟨X + 1, 7, none⟩) hY1).trans y7
    clear hb1
    go_wp2_with fail
    have D1 := hide (HCB.out w1 HB1.out)
    refine D1.out.mono ?_
    rintro e2 w2 ⟨rfl, hb2⟩
    have HB2 := hide (HB1.out.trans (hb2.mono HB1.out.size))
    have hX1aa := Nat.lt_of_lt_of_le hX1a hb2.size
    have hY1aa := Nat.lt_of_lt_of_le hY1a hb2.size
    have x7_2 := (hb2.cell (p := ⟨X, 7, none⟩) hX1a).trans x7_1
    have y7_2 := (hb2.cell (p := ⟨X + 1, 7, none⟩) hY1a).trans y7_1
    clear hb2
    go_wp2_with fail
    have D2 := hide (HCI.out w2 HB2.out)
    refine D2.out.mono ?_
    rintro e3 w3 ⟨rfl, hb3⟩
    have HB3 := hide (HB2.out.trans (hb3.mono HB2.out.size))
    have hX1aaa := Nat.lt_of_lt_of_le hX1aa hb3.size
    have hY1aaa := Nat.lt_of_lt_of_le hY1aa hb3.size
    clear hb3
    go_wp2_with fail
    go_ret
    exact ⟨rfl, HB3.out⟩
theorem snode_any {x y : Nd} {s r : NdSl} {B : Nat} {w : World} (hB : B ≤ w.heap.size) (hx : NdR w B x s) (hy : NdR w B y r) (h1 : x.str.length ≤ 1000000) (h2 : y.str.length ≤ 1000000) (h3 : x.mag.length ≤ 1000000) (h4 : y.mag.length ≤ 1000000) (h5 : x.kids.length ≤ 1000000) (h6 : y.kids.length ≤ 1000000) :
    Calls Tryd.prog 34 #[.agg (ndV x s).toArray, .agg (ndV y r).toArray] w fun e w' => e = .returned (.bool (decide (x = y))) ∧ Below w.heap.size w w' := by
  have CU := fun W (hb : Below w.heap.size w W) => sunits_any (c := s.cs) (d := r.cs) (Nat.le_trans hB hb.size) (hx.str.below (hb.mono hB)) (hy.str.below (hb.mono hB)) (by omega) (by omega)
  have CB := fun W (hb : Below w.heap.size w W) => slimbs_any (c := s.cm) (d := r.cm) (Nat.le_trans hB hb.size) (hx.mag.below (hb.mono hB)) (hy.mag.below (hb.mono hB)) (by omega) (by omega)
  have CI := fun W (hb : Below w.heap.size w W) => sints_any (c := s.ck) (d := r.ck) (Nat.le_trans hB hb.size) (hx.kids.below (hb.mono hB)) (hy.kids.below (hb.mono hB)) (by omega) (by omega)
  clear hx hy
  obtain ⟨a1, a2, a3, a4, a5, a6, a7, a8⟩ := x
  obtain ⟨b1, b2, b3, b4, b5, b6, b7, b8⟩ := y
  simp only at CU CB CI h1 h2 h3 h4 h5 h6
  by_cases e1 : a1 = b1
  · subst e1
    by_cases e2 : a2 = b2
    · subst e2
      by_cases e3 : a3 = b3
      · by_cases e4 : a4 = b4
        · subst e4
          by_cases e5 : a5 = b5
          · subst e5
            by_cases e6 : a6 = b6
            · subst e6
              by_cases e7 : a7 = b7
              · by_cases e8 : a8 = b8
                · have hE : (⟨a1, a2, a3, a4, a5, a6, a7, a8⟩ : Nd) = ⟨a1, a2, b3, a4, a5, a6, b7, b8⟩ := by rw [e3, e7, e8]
                  rw [decide_eq_true hE]
                  exact snode_7 (fun W hb => by have := CU W hb; rw [decide_eq_true e3] at this; exact this) (fun W hb => by have := CB W hb; rw [decide_eq_true e7] at this; exact this) (fun W hb => by have := CI W hb; rw [decide_eq_true e8] at this; exact this)
                · rw [decide_eq_false (fun h => e8 (nd_eq.1 h).2.2.2.2.2)]
                  exact snode_6 (fun W hb => by have := CU W hb; rw [decide_eq_true e3] at this; exact this) (fun W hb => by have := CB W hb; rw [decide_eq_true e7] at this; exact this) (fun W hb => by have := CI W hb; rw [decide_eq_false e8] at this; exact this)
              · rw [decide_eq_false (fun h => e7 (nd_eq.1 h).2.2.2.2.1.2)]
                exact snode_5 (fun W hb => by have := CU W hb; rw [decide_eq_true e3] at this; exact this) (fun W hb => by have := CB W hb; rw [decide_eq_false e7] at this; exact this)
            · rw [decide_eq_false (fun h => e6 (nd_eq.1 h).2.2.2.2.1.1)]
              exact snode_4 (fun W hb => by have := CU W hb; rw [decide_eq_true e3] at this; exact this) (by simpa using e6)
          · rw [decide_eq_false (fun h => e5 (nd_eq.1 h).2.2.2.1.2)]
            exact snode_3b (by simpa using e5) (fun W hb => by have := CU W hb; rw [decide_eq_true e3] at this; exact this)
        · rw [decide_eq_false (fun h => e4 (nd_eq.1 h).2.2.2.1.1)]
          exact snode_3a (by simpa using e4) (fun W hb => by have := CU W hb; rw [decide_eq_true e3] at this; exact this)
      · rw [decide_eq_false (fun h => e3 (nd_eq.1 h).2.2.1)]
        exact snode_2 (fun W hb => by have := CU W hb; rw [decide_eq_false e3] at this; exact this)
    · rw [decide_eq_false (fun h => e2 (nd_eq.1 h).2.1)]
      exact snode_1 (by rw [bytes_list, bytes_list]; simpa using e2)
  · rw [decide_eq_false (fun h => e1 (nd_eq.1 h).1)]
    exact snode_0 (by simpa using e1)
end Go.Proofs.YtelcjdblnagdgaaDoor

namespace Go.Proofs.YtelcjdblnagdgaaDoor
open Go.RowKit

section
variable {P : Program} {w0 w : World} {ops : Array Oper} {o : Oper} {a : Act} {K : Act → World → Prop} {Q : Exit → Act → World → Prop} {E : Prop}
/-- append of a slice that lies in memory, as a step of a region that draws -/
theorem step_any8 (hgd : o.guard = none) (s x : Operand) (t : TypeId)
    (ho : o.op = .call { callee := .builtin .append, args := #[s, x], argTypes := #[t, t] })
    (e : TypeId) (i : TypeInfo) (z : Value) (bytes : Nat) (ht : P.underlying t = some (.slice e)) (hi : P.info? e = some i) (hz : i.zero = some z)
    (hsize : i.size = 1) (hby : i.bytes = bytes) (hzs : z.cells.size = 1)
    (v : Value) (xs : List Value) (hs : a.eval s = v) (hm : Made w0 w e v xs)
    (B : Nat) (A : Option Addr) (m c : Nat) (news : List Value) (hx : a.eval x = .slice A m c) (hr : Reads w B 1 A m news) (h1 : ∀ u ∈ news, u.oneCell' = true)
    (hsz : xs.length + m ≤ 17592186044416) (hb2 : bytes ≤ 8)
    (h : ∀ v' w', Made w0 w' e v' (xs ++ news) → w.grownBy w' v.ownBlock → K (a.put o.dst v') w') :
    if Region.wanted o (yielded ops a.tmps) = true then Oper.wp P o a w K Q else E := by
  have hl : news.length = m := by have := hr.1; omega
  subst hl
  have hby2 : (xs.length + news.length) * bytes ≤ 140737488355328 := by
    calc (xs.length + news.length) * bytes ≤ 17592186044416 * 8 := Nat.mul_le_mul hsz hb2
      _ ≤ 140737488355328 := by omega
  obtain ⟨v', w', hrun, h2, h3, _⟩ := run_append_any (P := P) w w0.heap.size t o.type e i z 1 bytes ht hi hz hsize hby hzs (by omega) v xs.length xs hm.own B A news.length c news hr h1 (by unfold maxLen; omega) hby2 hm.below.size
  rw [if_pos (by simp [Region.wanted, hgd])]
  unfold Oper.wp execOp
  simp only [ho, resolve, invoke, builtin, Sem.run_bind, Sem.run_pure, Result.andThen_ok, List.map_toArray, List.map_cons, List.map_nil, hs, hx, hrun]
  exact h v' w' ⟨by rw [List.length_append]; exact h2, hm.below.grown h3 hm.below.size (fun k hk => (hm.own.lt k hk).1)⟩ h3
end
set_option maxHeartbeats 2000000 in
set_option maxRecDepth 100000 in
theorem copyBig_any {ng : Bool} {A : Option Addr} {c B n : Nat} {xs : List Nat} {w : World} (hn : xs.length = n) (hB : B ≤ w.heap.size) (ha : Reads w B 1 A n (n32s xs)) (hl : n ≤ 1000000) :
    Calls Tryd.prog 31 #[.agg #[.bool ng, .slice A n c]] w fun e w' => ∃ v, e = .returned (.agg #[.bool ng, v]) ∧ Made w w' 64 v (n32s xs) := by
  obtain ⟨i0, hi0, hz0, hz1, hz2⟩ := info_parts Tryd.info_u32
  obtain ⟨W, hW⟩ : ∃ W, w.alloc (.cells #[.bool ng, .slice A n c] 40) = W := ⟨_, rfl⟩
  have sW : W.heap.size = w.heap.size + 1 := by rw [← hW]; simp
  have bW : Below w.heap.size w W := by rw [← hW]; exact (Below.refl _ _).alloc (Nat.le_refl _) _
  have a0 : W.cell? ⟨w.heap.size, 0, none⟩ = some (.bool ng) := by rw [← hW, World.cell?_alloc_at _ _ _ _ rfl]; rfl
  have a1 : W.cell? ⟨w.heap.size, 1, none⟩ = some (.slice A n c) := by rw [← hW, World.cell?_alloc_at _ _ _ _ rfl]; rfl
  obtain ⟨V, hV⟩ : ∃ V, W.alloc (.cells #[.bool false, .slice none 0 0] 40) = V := ⟨_, rfl⟩
  have sV : V.heap.size = W.heap.size + 1 := by rw [← hV]; simp
  have bV : Below W.heap.size W V := by rw [← hV]; exact (Below.refl _ _).alloc (Nat.le_refl _) _
  have x0 := (bV.cell (p := ⟨w.heap.size, 0, none⟩) (show w.heap.size < W.heap.size by omega)).trans a0
  have x1 := (bV.cell (p := ⟨w.heap.size, 1, none⟩) (show w.heap.size < W.heap.size by omega)).trans a1
  have z0 : V.cell? ⟨W.heap.size, 0, none⟩ = some (.bool false) := by rw [← hV, World.cell?_alloc_at _ _ _ _ rfl]; rfl
  have z1 : V.cell? ⟨W.heap.size, 1, none⟩ = some (.slice none 0 0) := by rw [← hV, World.cell?_alloc_at _ _ _ _ rfl]; rfl
  have f0 : V.frozen? ⟨W.heap.size, 0, none⟩ = false := by rw [← hV]; exact World.frozen?_alloc_new _ _ _ _
  have f1 : V.frozen? ⟨W.heap.size, 1, none⟩ = false := by rw [← hV]; exact World.frozen?_alloc_new _ _ _ _
  have BV := hide (bW.trans (bV.mono bW.size))
  have ha' := hide (ha.below (BV.out.mono hB))
  obtain ⟨X, hX⟩ : ∃ X, w.heap.size = X := ⟨_, rfl⟩
  have BX := hide (show ∀ w', Below W.heap.size V w' → Below w.heap.size w w' from fun w' h => BV.out.trans (h.mono bW.size))
  have hsV : B ≤ V.heap.size := by omega
  have hVX : V.heap.size = X + 2 := by omega
  have SV := hide hVX
  have HB := hide hB
  rw [sW] at z0 z1 f0 f1
  rw [hX] at x0 x1 z0 z1 f0 f1
  go_enter Tryd.func31, Tryd.ntmps31
  go_upto_region 1 with (fail)
  have x1' : (V.alloc (.cells #[] 64)).cell? ⟨X, 1, none⟩ = some (.slice A n c) := (((Below.refl V.heap.size V).alloc (Nat.le_refl _) _).cell (p := ⟨X, 1, none⟩) (show X < V.heap.size by omega)).trans x1
  have x0' : (V.alloc (.cells #[] 64)).cell? ⟨X, 0, none⟩ = some (.bool ng) := (((Below.refl V.heap.size V).alloc (Nat.le_refl _) _).cell (p := ⟨X, 0, none⟩) (show X < V.heap.size by omega)).trans x0
  have hXV : X + 1 < V.heap.size := by omega
  have HWX := hide (show W.heap.size = X + 1 by omega)
  have hWV : W.heap.size ≤ V.heap.size := by omega
  have hXV0 : X < V.heap.size := by omega
  clear hV hW sV bV sW bW a0 a1 hB ha BV hVX
  have HX := hide hX
  clear hX
  go_region_law (refine step_any8 rfl _ _ 38 rfl 64 i0 _ 4 Tryd.underlying38 hi0 hz0 hz1 hz2 rfl _ _ rfl (Made.empty V 64).drew B A n c (n32s xs) rfl (ha'.out.alloc (by omega) _) (n32s_one _) (by simp; omega) (by omega) ?_; intro v' w' hm' _; have y0 := (hm'.below.cell (p := ⟨X + 1, 0, none⟩) hXV).trans z0; have y1 := (hm'.below.cell (p := ⟨X + 1, 1, none⟩) hXV).trans z1; have e0 := (hm'.below.frozen (p := ⟨X + 1, 0, none⟩) hXV).trans f0; have e1 := (hm'.below.frozen (p := ⟨X + 1, 1, none⟩) hXV).trans f1; have y2 := (hm'.below.cell (p := ⟨X, 0, none⟩) hXV0).trans x0; obtain ⟨A', c', rfl, _, _⟩ := own_shape hm'.own)
  all_goals go_wp2_with fail
  all_goals have q0 : ((w'.setCell ⟨X + 1, 0, none⟩ (.bool ng)).setCell ⟨X + 1, 1, none⟩ (.slice A' (n32s xs).length c')).cell? ⟨X + 1, 0, none⟩ = some (.bool ng) := by go_simp
  all_goals have q1 : ((w'.setCell ⟨X + 1, 0, none⟩ (.bool ng)).setCell ⟨X + 1, 1, none⟩ (.slice A' (n32s xs).length c')).cell? ⟨X + 1, 1, none⟩ = some (.slice A' (n32s xs).length c') := by go_simp
  all_goals refine bodyPost_ret (v := .agg #[.bool ng, .slice A' (n32s xs).length c']) (by simp [results, Tryd.results31, go_sem, q0, q1]) rfl ?_
  all_goals exact ⟨_, rfl, own_less (own_grown (own_grown hm'.own (grown_set w' (X + 1) 0 (.bool ng)) hXV) (grown_set _ (X + 1) 1 _) hXV) (by have := HX.out; have := SV.out; omega), BX.out _ (((hm'.below.mono hWV).setCell (by have := HWX.out; show W.heap.size ≤ X + 1; omega) _).setCell (by have := HWX.out; show W.heap.size ≤ X + 1; omega) _)⟩
end Go.Proofs.YtelcjdblnagdgaaDoor

namespace Go.Proofs.YtelcjdblnagdgaaDoor
open Go.RowKit

def zero8 : List Value := [.int .i64 0, .string ⟨#[]⟩, .slice none 0 0, .int .i64 0, .int .i64 0, .bool false, .slice none 0 0, .slice none 0 0]
theorem Tryd.info_node : (Tryd.prog.info? 42).map (fun i => (i.zero, i.size, i.bytes)) = some (some (.agg zero8.toArray), 8, 120) := by kernel_rfl
/-- what is copied: a slice of one's own -/
theorem copyU_is {A : Option Addr} {c B n : Nat} {xs : List UInt16} {w : World} (hn : xs.length = n) (hB : B ≤ w.heap.size) (ha : Reads w B 1 A n (u16s xs)) (hl : n ≤ 1000000) :
    Calls Tryd.prog 16 #[.slice A n c] w fun e w' => ∃ A' c', e = .returned (.slice A' n c') ∧ w'.ownsRow w.heap.size 34 1 (.slice A' n c') n (u16s xs) ∧ Below w.heap.size w w' := by
  subst hn
  refine (copyUnits_any hB ha (by omega)).mono ?_
  rintro e w' ⟨v, rfl, hm⟩
  have h1 := hm.own
  rw [u16s_len] at h1
  obtain ⟨A', c', rfl, _, _⟩ := own_shape h1
  exact ⟨A', c', rfl, h1, hm.below⟩
theorem copyB_is {ng : Bool} {A : Option Addr} {c B n : Nat} {xs : List Nat} {w : World} (hn : xs.length = n) (hB : B ≤ w.heap.size) (ha : Reads w B 1 A n (n32s xs)) (hl : n ≤ 1000000) :
    Calls Tryd.prog 31 #[.agg #[.bool ng, .slice A n c]] w fun e w' => ∃ A' c', e = .returned (.agg #[.bool ng, .slice A' n c']) ∧ w'.ownsRow w.heap.size 64 1 (.slice A' n c') n (n32s xs) ∧ Below w.heap.size w w' := by
  refine (copyBig_any hn hB ha hl).mono ?_
  rintro e w' ⟨v, rfl, hm⟩
  have h1 := hm.own
  rw [n32s_len, hn] at h1
  obtain ⟨A', c', rfl, _, _⟩ := own_shape h1
  exact ⟨A', c', rfl, h1, hm.below⟩
theorem copyI_is {A : Option Addr} {c B n : Nat} {xs : List Int} {w : World} (hn : xs.length = n) (hB : B ≤ w.heap.size) (ha : Reads w B 1 A n (i64s xs)) (hl : n ≤ 1000000) :
    Calls Tryd.prog 32 #[.slice A n c] w fun e w' => ∃ A' c', e = .returned (.slice A' n c') ∧ w'.ownsRow w.heap.size 3 1 (.slice A' n c') n (i64s xs) ∧ Below w.heap.size w w' := by
  refine (copyInts_any hn hB ha hl).mono ?_
  rintro e w' ⟨v, rfl, hm⟩
  have h1 := hm.own
  rw [i64s_len, hn] at h1
  obtain ⟨A', c', rfl, _, _⟩ := own_shape h1
  exact ⟨A', c', rfl, h1, hm.below⟩
/-- eight cells that may be stored -/
def NB (w : World) (N : Nat) (v0 v1 v2 v3 v4 v5 v6 v7 : Value) : Prop :=
  (w.cell? ⟨N, 0, none⟩ = some v0 ∧ w.cell? ⟨N, 1, none⟩ = some v1 ∧ w.cell? ⟨N, 2, none⟩ = some v2 ∧ w.cell? ⟨N, 3, none⟩ = some v3 ∧ w.cell? ⟨N, 4, none⟩ = some v4 ∧ w.cell? ⟨N, 5, none⟩ = some v5 ∧ w.cell? ⟨N, 6, none⟩ = some v6 ∧ w.cell? ⟨N, 7, none⟩ = some v7) ∧ ∀ j, j < 8 → w.frozen? ⟨N, j, none⟩ = false
section
variable {w w' : World} {N D : Nat} {v0 v1 v2 v3 v4 v5 v6 v7 : Value}
theorem NB.below (h : NB w N v0 v1 v2 v3 v4 v5 v6 v7) (hb : Below D w w') (hd : N < D) : NB w' N v0 v1 v2 v3 v4 v5 v6 v7 := by
  have hc : ∀ j, w'.cell? ⟨N, j, none⟩ = w.cell? ⟨N, j, none⟩ := fun j => hb.cell (p := ⟨N, j, none⟩) hd
  have hf : ∀ j, w'.frozen? ⟨N, j, none⟩ = w.frozen? ⟨N, j, none⟩ := fun j => hb.frozen (p := ⟨N, j, none⟩) hd
  unfold NB
  rw [hc, hc, hc, hc, hc, hc, hc, hc]
  exact ⟨h.1, fun j hj => by rw [hf]; exact h.2 j hj⟩
theorem off_ne {N i j : Nat} (h : i ≠ j) : (⟨N, i, none⟩ : Addr) ≠ ⟨N, j, none⟩ := fun e => h (by injection e)
theorem NB.set2 (h : NB w N v0 v1 v2 v3 v4 v5 v6 v7) (u : Value) : NB (w.setCell ⟨N, 2, none⟩ u) N v0 v1 u v3 v4 v5 v6 v7 := by
  obtain ⟨⟨h0, h1, h2, h3, h4, h5, h6, h7⟩, hf⟩ := h
  refine ⟨⟨?_, ?_, World.cell?_setCell_same _ _ _ h2, ?_, ?_, ?_, ?_, ?_⟩, fun j hj => by rw [World.frozen?_setCell]; exact hf j hj⟩
  all_goals (rw [World.cell?_setCell_other _ _ _ _ (off_ne (by decide))]; assumption)
theorem NB.set5 (h : NB w N v0 v1 v2 v3 v4 v5 v6 v7) (u : Value) : NB (w.setCell ⟨N, 5, none⟩ u) N v0 v1 v2 v3 v4 u v6 v7 := by
  obtain ⟨⟨h0, h1, h2, h3, h4, h5, h6, h7⟩, hf⟩ := h
  refine ⟨⟨?_, ?_, ?_, ?_, ?_, World.cell?_setCell_same _ _ _ h5, ?_, ?_⟩, fun j hj => by rw [World.frozen?_setCell]; exact hf j hj⟩
  all_goals (rw [World.cell?_setCell_other _ _ _ _ (off_ne (by decide))]; assumption)
theorem NB.set6 (h : NB w N v0 v1 v2 v3 v4 v5 v6 v7) (u : Value) : NB (w.setCell ⟨N, 6, none⟩ u) N v0 v1 v2 v3 v4 v5 u v7 := by
  obtain ⟨⟨h0, h1, h2, h3, h4, h5, h6, h7⟩, hf⟩ := h
  refine ⟨⟨?_, ?_, ?_, ?_, ?_, ?_, World.cell?_setCell_same _ _ _ h6, ?_⟩, fun j hj => by rw [World.frozen?_setCell]; exact hf j hj⟩
  all_goals (rw [World.cell?_setCell_other _ _ _ _ (off_ne (by decide))]; assumption)
theorem NB.set7 (h : NB w N v0 v1 v2 v3 v4 v5 v6 v7) (u : Value) : NB (w.setCell ⟨N, 7, none⟩ u) N v0 v1 v2 v3 v4 v5 v6 u := by
  obtain ⟨⟨h0, h1, h2, h3, h4, h5, h6, h7⟩, hf⟩ := h
  refine ⟨⟨?_, ?_, ?_, ?_, ?_, ?_, ?_, World.cell?_setCell_same _ _ _ h7⟩, fun j hj => by rw [World.frozen?_setCell]; exact hf j hj⟩
  all_goals (rw [World.cell?_setCell_other _ _ _ _ (off_ne (by decide))]; assumption)
end
theorem NB.new (w : World) (N : Nat) (hN : w.heap.size = N) (e : TypeId) (v0 v1 v2 v3 v4 v5 v6 v7 : Value) : NB (w.alloc (.cells #[v0, v1, v2, v3, v4, v5, v6, v7] e)) N v0 v1 v2 v3 v4 v5 v6 v7 := by
  subst hN
  refine ⟨⟨?_, ?_, ?_, ?_, ?_, ?_, ?_, ?_⟩, fun j _ => World.frozen?_alloc_new _ _ _ _⟩ <;> (rw [World.cell?_alloc_at _ _ _ _ rfl]; rfl)
/-- how far the copying is: the nodes so far, in blocks behind Y -/
structure CtS (W wr : World) (Y : Nat) (ts : List Nd) (A : Option Addr) (n c : Nat) : Prop where
  cell : wr.cell? ⟨Y, 0, none⟩ = some (.slice A n c)
  fz : wr.frozen? ⟨Y, 0, none⟩ = false
  len : ts.length = n
  tr : ∃ ss, TrO wr (Y + 1) ts ss (.slice A n c)
  below : Below (Y) W wr
  size : Y + 1 ≤ wr.heap.size
theorem CtS.go {W wr wd w' : World} {Y k N : Nat} {ts : List Nd} {x : Nd} {A1 A2 A3 Ao A' : Option Addr} {c1 c2 c3 co c' : Nat} {ss : List NdSl} (h : CtS W wr Y ts Ao k co) (ht : TrO wr (Y + 1) ts ss (.slice Ao k co)) (hb : Below wr.heap.size wr wd)
    (h1 : wd.ownsRow wr.heap.size 34 1 (.slice A1 x.str.length c1) x.str.length (u16s x.str)) (h2 : wd.ownsRow wr.heap.size 64 1 (.slice A2 x.mag.length c2) x.mag.length (n32s x.mag)) (h3 : wd.ownsRow wr.heap.size 3 1 (.slice A3 x.kids.length c3) x.kids.length (i64s x.kids))
    (ho : w'.ownsRow (Y + 1) 42 8 (.slice A' N c') N (cellsN ts ss ++ ndV x ⟨A1, A2, A3, c1, c2, c3⟩)) (hN : k + 1 = N) (hk : wd.grownBy w' (Value.slice Ao k co).ownBlock) :
    CtS W (w'.setCell ⟨Y, 0, none⟩ (.slice A' N c')) Y (ts ++ [x]) A' N c' := by
  have hd := ht.below hb
  have hsz := h.size
  have hne : ∀ g, (Value.slice Ao k co).ownBlock = some g → Y + 1 ≤ g := fun g hg => (ht.own.lt g hg).1
  have hsd : Y + 1 ≤ wd.heap.size := Nat.le_trans hsz hb.size
  have b1 : Below (Y + 1) wd w' := (Below.refl _ _).grown hk hsd hne
  have b2 : Below (Y + 1) wr w' := (hb.mono hsz).trans b1
  have hc := (b2.cell (p := ⟨Y, 0, none⟩) (show Y < Y + 1 by omega)).trans h.cell
  have hf := (b2.frozen (p := ⟨Y, 0, none⟩) (show Y < Y + 1 by omega)).trans h.fz
  have hlen := h.len
  refine ⟨World.cell?_setCell_same _ _ _ hc, by rw [World.frozen?_setCell]; exact hf, by simp [hlen, hN], ⟨ss ++ [⟨A1, A2, A3, c1, c2, c3⟩], ?_⟩, (h.below.trans (b2.mono (by omega))).setCell (Nat.le_refl _) _, ?_⟩
  · refine TrO.grown (w := w') (g := Y) ?_ (grown_set _ _ _ _) (by omega)
    have hnd : NdO wd (Y + 1) x ⟨A1, A2, A3, c1, c2, c3⟩ := ⟨own_less h1 hsz, own_less h2 hsz, own_less h3 hsz⟩
    refine TrO.snoc (w0 := wr) hd hnd (fun g hg => ?_) ht ?_ hk
    · exact (h3.lt g (by rw [kb_own (s := ⟨A1, A2, A3, c1, c2, c3⟩)]; exact hg)).1
    · rw [hlen, hN]; exact ho
  · simp only [World.setCell]
    have := b2.size
    simp
    omega
set_option maxHeartbeats 16000000 in
set_option maxRecDepth 100000 in
theorem copyTree_any {A : Option Addr} {c B n : Nat} {ts : List Nd} {w : World} (hN : NdsR w B A n ts) (hB : B ≤ w.heap.size) (hF : FewP ts) :
    Calls Tryd.prog 15 #[.agg #[.slice A n c]] w fun e w' => ∃ A' c', e = .returned (.agg #[.slice A' n c']) ∧ (∃ ss, TrO w' w.heap.size ts ss (.slice A' n c')) ∧ Below w.heap.size w w' := by
  obtain ⟨i0, hi0, hz0, hz1, hz2⟩ := info_parts Tryd.info_node
  have hn20 : n ≤ 20000 := by rw [← hN.1]; exact hF.len
  obtain ⟨W, hW⟩ : ∃ W, w.alloc (.cells #[.slice A n c] 24) = W := ⟨_, rfl⟩
  have sW : W.heap.size = w.heap.size + 1 := by rw [← hW]; simp
  have bW : Below w.heap.size w W := by rw [← hW]; exact (Below.refl _ _).alloc (Nat.le_refl _) _
  have a0 : W.cell? ⟨w.heap.size, 0, none⟩ = some (.slice A n c) := by rw [← hW, World.cell?_alloc_at _ _ _ _ rfl]; rfl
  obtain ⟨V, hV⟩ : ∃ V, W.alloc (.cells #[.slice none 0 0] 24) = V := ⟨_, rfl⟩
  have sV : V.heap.size = W.heap.size + 1 := by rw [← hV]; simp
  have bV : Below W.heap.size W V := by rw [← hV]; exact (Below.refl _ _).alloc (Nat.le_refl _) _
  have z0 : V.cell? ⟨W.heap.size, 0, none⟩ = some (.slice none 0 0) := by rw [← hV, World.cell?_alloc_at _ _ _ _ rfl]; rfl
  have f0 : V.frozen? ⟨W.heap.size, 0, none⟩ = false := by rw [← hV]; exact World.frozen?_alloc_new _ _ _ _
  have a1 := (bV.cell (p := ⟨w.heap.size, 0, none⟩) (show w.heap.size < W.heap.size by omega)).trans a0
  obtain ⟨U, hU⟩ : ∃ U, V.alloc (.cells #[.slice none 0 0] 24) = U := ⟨_, rfl⟩
  have sU : U.heap.size = V.heap.size + 1 := by rw [← hU]; simp
  have bU : Below V.heap.size V U := by rw [← hU]; exact (Below.refl _ _).alloc (Nat.le_refl _) _
  have y0 : U.cell? ⟨V.heap.size, 0, none⟩ = some (.slice none 0 0) := by rw [← hU, World.cell?_alloc_at _ _ _ _ rfl]; rfl
  have g0 : U.frozen? ⟨V.heap.size, 0, none⟩ = false := by rw [← hU]; exact World.frozen?_alloc_new _ _ _ _
  have a2 := (bU.cell (p := ⟨w.heap.size, 0, none⟩) (show w.heap.size < V.heap.size by omega)).trans a1
  have z1 := (bU.cell (p := ⟨W.heap.size, 0, none⟩) (show W.heap.size < V.heap.size by omega)).trans z0
  have f1 := (bU.frozen (p := ⟨W.heap.size, 0, none⟩) (show W.heap.size < V.heap.size by omega)).trans f0
  have bwU : Below w.heap.size w U := bW.trans ((bV.mono bW.size).trans (bU.mono (Nat.le_trans bW.size bV.size)))
  obtain ⟨X, hX⟩ : ∃ X, w.heap.size = X := ⟨_, rfl⟩
  obtain ⟨Y, hY⟩ : ∃ Y, X + 1 + 1 = Y := ⟨_, rfl⟩
  have e1 : W.heap.size = X + 1 := by omega
  have e2 : V.heap.size = Y := by omega
  have e3 : U.heap.size = Y + 1 := by omega
  have hXY : X + 1 < Y := by omega
  rw [e2] at y0 g0
  rw [e1] at z1 f1
  rw [hX] at a2 bwU hB
  have HS := hide (show CtS U U Y [] none 0 0 from ⟨y0, g0, rfl, ⟨[], TrO.nil _ _⟩, Below.refl _ _, by omega⟩)
  have HN := hide (hN.below (bwU.mono hB))
  have HL := hide hN.1
  have HBU := hide bwU
  have HFW := hide hF
  have HB := hide hB
  have HX := hide hX
  go_enter Tryd.func15, Tryd.ntmps15
  go_upto_region 2 with (fail)
  clear y0 g0 z0 f0 a0 a1 hW hV hU sW sV sU bW bV bU bwU hN hB hX e1 e2 e3 hF hY
  go_wp2_with fail
  go_loopw [4] (fun i wr => ∃ (k : Nat) (Ao : Option Addr) (co : Nat), k ≤ n ∧ i = .int .i64 (k : Int) ∧ Hid (CtS U wr Y (ts.take k) Ao k co)) (fun i _ => n - (intOf i).toNat)
  case atStart => exact ⟨0, none, 0, Nat.zero_le _, rfl, HS.out⟩
  case round =>
    obtain ⟨k, Ao, co, hk, rfl, hS⟩ := hrel
    have hcx : wr.cell? ⟨X, 0, none⟩ = some (.slice A n c) := (hS.out.below.cell (p := ⟨X, 0, none⟩) (show X < Y by omega)).trans a2
    have hco := hS.out.cell
    by_cases hlt : k < n
    · have h1 : (k : Int) < (n : Int) := by omega
      have h2 : decide ((k : Int) < (n : Int)) = true := decide_eq_true h1
      have hBY : B ≤ Y := by have := HB.out; omega
      obtain ⟨b, o, x, s, rfl, hbB, hx, hC, hR⟩ := (HN.out.below (hS.out.below.mono hBY)).get hlt
      obtain ⟨kc0, kc1, kc2, kc3, kc4, kc5, kc6, kc7⟩ := hC
      obtain ⟨q1, q2, q3, q4⟩ := HFW.out.each x (List.mem_of_getElem? hx)
      have HR := hide hR
      have htk := hide (show ts.take (k + 1) = ts.take k ++ [x] by rw [List.take_add_one, hx]; rfl)
      have hsz := hS.out.size
      clear hx hR
      obtain ⟨Ls, hLs⟩ : ∃ L, x.str.length = L := ⟨_, rfl⟩
      obtain ⟨Lm, hLm⟩ : ∃ L, x.mag.length = L := ⟨_, rfl⟩
      obtain ⟨Lk, hLk⟩ : ∃ L, x.kids.length = L := ⟨_, rfl⟩
      rw [hLs] at kc2 q1
      rw [hLm] at kc6 q2
      rw [hLk] at kc7 q3
      have R1 := hide (show Reads wr B 1 s.As Ls (u16s x.str) from by rw [← hLs]; exact HR.out.str)
      have R2 := hide (show Reads wr B 1 s.Am Lm (n32s x.mag) from by rw [← hLm]; exact HR.out.mag)
      have R3 := hide (show Reads wr B 1 s.Ak Lk (i64s x.kids) from by rw [← hLk]; exact HR.out.kids)
      have HLs := hide hLs
      have HLm := hide hLm
      have HLk := hide hLk
      clear hLs hLm hLk HR
      go_upto_region 6 with (fail)
      obtain ⟨W1, hW1⟩ : ∃ W1, wr.alloc (.cells #[.int .i64 x.kind, .string ⟨x.name.toArray⟩, .slice s.As Ls s.cs, .int .i64 x.nk, .int .i64 x.nn, .bool x.neg, .slice s.Am Lm s.cm, .slice s.Ak Lk s.ck] 42) = W1 := ⟨_, rfl⟩
      rw [hW1]
      obtain ⟨Nn, hNn⟩ : ∃ N, wr.heap.size = N := ⟨_, rfl⟩
      have nb1 := hide (show NB W1 Nn _ _ _ _ _ _ _ _ from by rw [← hW1]; exact NB.new wr Nn hNn _ _ _ _ _ _ _ _ _)
      have sz1 : W1.heap.size = Nn + 1 := by rw [← hW1]; simp [hNn]
      have BC1 := hide (show Below Nn wr W1 by rw [← hW1, ← hNn]; exact (Below.refl _ _).alloc (Nat.le_refl _) _)
      have hNX : Y + 1 ≤ Nn := by omega
      have hNB : B ≤ Nn := by omega
      rw [hNn]
      have HNn := hide hNn
      clear hW1 hNn kc0 kc1 kc2 kc3 kc4 kc5 kc6 kc7 hcx hsz hco
      have C1 := hide (copyU_is (c := s.cs) (w := W1) HLs.out (show B ≤ W1.heap.size by omega) (R1.out.below (BC1.out.mono hNB)) (show Ls ≤ 1000000 by omega))
      obtain ⟨⟨_, _, p2, _, _, _, _, _⟩, _⟩ := nb1.out
      go_wp2_with fail
      refine C1.out.mono ?_
      rintro e2 W2 ⟨A1, c1, rfl, ho1, hb1⟩
      have nb2 := hide (nb1.out.below hb1 (show Nn < W1.heap.size by omega))
      have hs2 : Nn + 1 ≤ W2.heap.size := by rw [← sz1]; exact hb1.size
      have HO1 := hide (own_grown ho1 (grown_set W2 Nn 2 (.slice A1 Ls c1)) (show Nn < W1.heap.size by omega))
      have BC3 := hide ((BC1.out.trans (hb1.mono (by omega))).setCell (p := ⟨Nn, 2, none⟩) (Nat.le_refl _) (.slice A1 Ls c1))
      have nb3 := hide (nb2.out.set2 (.slice A1 Ls c1))
      clear p2 ho1 hb1 nb1 BC1 C1
      obtain ⟨⟨_, _, p2, _, _, _, _, _⟩, pf⟩ := nb2.out
      have pf2 := pf 2 (by omega)
      go_upto_region 7 with (fail)
      obtain ⟨W3, hW3⟩ : ∃ W3, W2.setCell ⟨Nn, 2, none⟩ (.slice A1 Ls c1) = W3 := ⟨_, rfl⟩
      have hs3 : Nn + 1 ≤ W3.heap.size := by rw [← hW3]; simpa [World.setCell] using hs2
      rw [hW3] at HO1 BC3 nb3 ⊢
      clear hW3 p2 pf pf2 nb2 hs2
      obtain ⟨⟨_, _, _, _, _, p5, p6, _⟩, _⟩ := nb3.out
      have C2 := hide (copyB_is (ng := x.neg) (c := s.cm) (w := W3) HLm.out (show B ≤ W3.heap.size by omega) (R2.out.below (BC3.out.mono hNB)) (show Lm ≤ 1000000 by omega))
      go_wp2_with fail
      refine C2.out.mono ?_
      rintro e3 W4 ⟨A2, c2, rfl, ho2, hb2⟩
      have nb4 := hide (nb3.out.below hb2 (show Nn < W3.heap.size by omega))
      have hs4 : Nn + 1 ≤ W4.heap.size := Nat.le_trans hs3 hb2.size
      have HO1b := hide (own_grown (own_grown (own_below HO1.out hb2) (grown_set W4 Nn 5 (.bool x.neg)) (show Nn < W1.heap.size by omega)) (grown_set _ Nn 6 (.slice A2 Lm c2)) (show Nn < W1.heap.size by omega))
      have HO2 := hide (own_grown (own_grown ho2 (grown_set W4 Nn 5 (.bool x.neg)) (show Nn < W3.heap.size by omega)) (grown_set _ Nn 6 (.slice A2 Lm c2)) (show Nn < W3.heap.size by omega))
      have BC5 := hide (((BC3.out.trans (hb2.mono (by omega))).setCell (p := ⟨Nn, 5, none⟩) (Nat.le_refl _) (.bool x.neg)).setCell (p := ⟨Nn, 6, none⟩) (Nat.le_refl _) (.slice A2 Lm c2))
      have nb5 := hide ((nb4.out.set5 (.bool x.neg)).set6 (.slice A2 Lm c2))
      clear p5 p6 ho2 hb2 nb3 BC3 C2 HO1
      obtain ⟨⟨_, _, _, _, _, p5, p6, _⟩, pf⟩ := nb4.out
      have pf5 := pf 5 (by omega)
      have pf6 := pf 6 (by omega)
      go_upto_region 8 with (fail)
      obtain ⟨W5, hW5⟩ : ∃ W5, (W4.setCell ⟨Nn, 5, none⟩ (.bool x.neg)).setCell ⟨Nn, 6, none⟩ (.slice A2 Lm c2) = W5 := ⟨_, rfl⟩
      have hs5 : Nn + 1 ≤ W5.heap.size := by rw [← hW5]; simpa [World.setCell] using hs4
      rw [hW5] at HO1b HO2 BC5 nb5 ⊢
      clear hW5 p5 p6 pf pf5 pf6 nb4 hs4
      obtain ⟨⟨_, _, _, _, _, _, _, p7⟩, _⟩ := nb5.out
      have C3 := hide (copyI_is (c := s.ck) (w := W5) HLk.out (show B ≤ W5.heap.size by omega) (R3.out.below (BC5.out.mono hNB)) (show Lk ≤ 1000000 by omega))
      go_wp2_with fail
      refine C3.out.mono ?_
      rintro e4 W6 ⟨A3, c3, rfl, ho3, hb3⟩
      have nb6 := hide (nb5.out.below hb3 (show Nn < W5.heap.size by omega))
      have hs6 : Nn + 1 ≤ W6.heap.size := Nat.le_trans hs5 hb3.size
      have HO1c := hide (own_grown (own_below HO1b.out hb3) (grown_set W6 Nn 7 (.slice A3 Lk c3)) (show Nn < W1.heap.size by omega))
      have HO2c := hide (own_grown (own_below HO2.out hb3) (grown_set W6 Nn 7 (.slice A3 Lk c3)) (show Nn < W3.heap.size by omega))
      have HO3c := hide (own_grown ho3 (grown_set W6 Nn 7 (.slice A3 Lk c3)) (show Nn < W5.heap.size by omega))
      have BC7 := hide ((BC5.out.trans (hb3.mono (by omega))).setCell (p := ⟨Nn, 7, none⟩) (Nat.le_refl _) (.slice A3 Lk c3))
      have nb7 := hide (nb6.out.set7 (.slice A3 Lk c3))
      clear p7 ho3 hb3 nb5 BC5 C3 HO1b HO2
      obtain ⟨⟨_, _, _, _, _, _, _, p7⟩, pf⟩ := nb6.out
      have pf7 := pf 7 (by omega)
      go_upto_region 9 with (fail)
      obtain ⟨W7, hW7⟩ : ∃ W7, W6.setCell ⟨Nn, 7, none⟩ (.slice A3 Lk c3) = W7 := ⟨_, rfl⟩
      have hs7 : Nn + 1 ≤ W7.heap.size := by rw [← hW7]; simpa [World.setCell] using hs6
      rw [hW7] at HO1c HO2c HO3c BC7 nb7 ⊢
      clear hW7 p7 pf pf7 nb6 hs6
      obtain ⟨⟨p0, p1, p2, p3, p4, p5, p6, p7⟩, _⟩ := nb7.out
      have hY7 : Y < Nn := by omega
      have hco := (BC7.out.cell (p := ⟨Y, 0, none⟩) hY7).trans hS.out.cell
      have BCw := hide (show Below wr.heap.size wr W7 by rw [HNn.out]; exact BC7.out)
      obtain ⟨ss, htr⟩ := hS.out.tr
      have htl := hS.out.len
      have HOW := hide (show W7.ownsRow (Y + 1) 42 8 (.slice Ao k co) k (cellsN (ts.take k) ss) from by
        have := (htr.below BCw.out).own
        rwa [htl] at this)
      have hne : ∀ g, (Value.slice Ao k co).ownBlock = some g → Y + 1 ≤ g := fun g hg => (HOW.out.lt g hg).1
      have HNE := hide hne
      clear htl hne
      go_wp2_with (at_builtin; refine wpList_litK rfl _ _ 22 rfl (Y + 1) 42 i0 (.agg zero8.toArray) 8 120 Tryd.underlying22 hi0 hz0 hz1 hz2 rfl (by decide) (.slice Ao k co) k (cellsN (ts.take k) ss) rfl HOW.out (by omega) [.int .i64 x.kind, .string ⟨x.name.toArray⟩, .slice A1 Ls c1, .int .i64 x.nk, .int .i64 x.nn, .bool x.neg, .slice A2 Lm c2, .slice A3 Lk c3] 1 1 rfl rfl rfl (by omega) (by decide) ?_; intro v' w' ho' hk'; have hcA := (hk'.cell (p := ⟨Y, 0, none⟩) (show Y < W7.heap.size by omega) (fun e => by have := HNE.out Y e; omega)).trans hco; have hfA := (hk'.frozen (p := ⟨Y, 0, none⟩) (show Y < W7.heap.size by omega) (fun e => by have := HNE.out Y e; omega)).trans ((BC7.out.frozen (p := ⟨Y, 0, none⟩) hY7).trans hS.out.fz); obtain ⟨Aw, cw, rfl, _, _⟩ := own_shape ho')
      refine ⟨⟨k + 1, Aw, cw, by omega, by go_num, ?_⟩, by simp [intOf]; omega⟩
      rw [htk.out]
      have w1le : wr.heap.size ≤ W1.heap.size := by rw [HNn.out]; omega
      have w3le : wr.heap.size ≤ W3.heap.size := by rw [HNn.out]; omega
      have w5le : wr.heap.size ≤ W5.heap.size := by rw [HNn.out]; omega
      refine hS.out.go (x := x) (A1 := A1) (A2 := A2) (A3 := A3) (c1 := c1) (c2 := c2) (c3 := c3) htr BCw.out ?_ ?_ ?_ ?_ rfl ⟨hk'.os, hk'.tape, hk'.output, hk'.size, fun i hi hr => hk'.block i hi (fun e => hr e.symm)⟩
      · rw [HLs.out]; exact own_less HO1c.out w1le
      · rw [HLm.out]; exact own_less HO2c.out w3le
      · rw [HLk.out]; exact own_less HO3c.out w5le
      · unfold ndV
        simp only
        rw [HLs.out, HLm.out, HLk.out]
        exact ho'
    · have h1 : ¬ (k : Int) < (n : Int) := by omega
      have h2 : decide ((k : Int) < (n : Int)) = false := decide_eq_false h1
      obtain rfl : k = n := by omega
      have z2 := (hS.out.below.cell (p := ⟨X + 1, 0, none⟩) hXY).trans z1
      have f2 := (hS.out.below.frozen (p := ⟨X + 1, 0, none⟩) hXY).trans f1
      obtain ⟨ss, htr⟩ := hS.out.tr
      have htk : ts.take k = ts := List.take_of_length_le (by rw [HL.out]; exact Nat.le_refl _)
      rw [htk] at htr
      have HTR := hide htr
      clear htr htk
      go_wp2_with fail
      have q0 : (wr.setCell ⟨X + 1, 0, none⟩ (.slice Ao k co)).cell? ⟨X + 1, 0, none⟩ = some (.slice Ao k co) := by go_simp
      refine bodyPost_ret (v := .agg #[.slice Ao k co]) (by simp [results, Tryd.results15, go_sem, q0]) rfl ?_
      refine ⟨_, _, rfl, ⟨ss, ?_⟩, ?_⟩
      · exact ((HTR.out.grown (grown_set wr (X + 1) 0 (.slice Ao k co)) (by omega))).less (by rw [HX.out]; omega)
      · rw [HX.out]
        exact (HBU.out.trans (hS.out.below.mono (by omega))).setCell (show X ≤ X + 1 by omega) _
end Go.Proofs.YtelcjdblnagdgaaDoor

namespace Go.Proofs.YtelcjdblnagdgaaDoor
open Go.RowKit

theorem take_ne {α : Type} {l r : List α} {k : Nat} {x y : α} (hx : l[k]? = some x) (hy : r[k]? = some y) (h : x ≠ y) : l ≠ r := by
  rintro rfl
  rw [hx] at hy
  exact h (Option.some.inj hy)
theorem take_step {α : Type} {l r : List α} {k : Nat} {x : α} (hx : l[k]? = some x) (hy : r[k]? = some x) (h : l.take k = r.take k) : l.take (k + 1) = r.take (k + 1) := by
  rw [List.take_add_one, List.take_add_one, hx, hy, h]
set_option maxHeartbeats 4000000 in
set_option maxRecDepth 100000 in
theorem eqf_any {A A2 : Option Addr} {c c2 B n n2 : Nat} {ts us : List Nd} {w : World} (hN : NdsR w B A n ts) (hM : NdsR w B A2 n2 us) (hB : B ≤ w.heap.size) (hF : FewP ts) (hG : FewP us) :
    Calls Tryd.prog 33 #[.slice A n c, .slice A2 n2 c2, .func (.func 34) #[] #[]] w fun e w' => e = .returned (.bool (decide (ts = us))) ∧ Below w.heap.size w w' := by
  have hn20 : n ≤ 20000 := by rw [← hN.1]; exact hF.len
  by_cases hne : n = n2
  · subst hne
    have HN := hide hN
    have HM := hide hM
    have HF := hide hF
    have HG := hide hG
    have HB := hide hB
    clear hN hM hF hG hB
    go_enter Tryd.func33, Tryd.ntmps33
    go_wp2_with fail
    go_loopw [17] (fun i wr => ∃ k : Nat, k ≤ n ∧ i = .int .i64 (k : Int) ∧ Hid (ts.take k = us.take k) ∧ Hid (Below w.heap.size w wr)) (fun i _ => n - (intOf i).toNat)
    case atStart => exact ⟨0, Nat.zero_le _, rfl, rfl, Below.refl _ _⟩
    case round =>
      obtain ⟨k, hk, rfl, htk, hbr⟩ := hrel
      by_cases hlt : k < n
      · have h1 : (k : Int) < (n : Int) := by omega
        have h2 : decide ((k : Int) < (n : Int)) = true := decide_eq_true h1
        have hwB := HB.out
        have hsz := hbr.out.size
        obtain ⟨b, o, x, s, rfl, hbB, hx, hC, hR⟩ := (HN.out.below (hbr.out.mono hwB)).get hlt
        obtain ⟨kc0, kc1, kc2, kc3, kc4, kc5, kc6, kc7⟩ := hC
        obtain ⟨b', o', y, r, rfl, hbB', hy, hC', hR'⟩ := (HM.out.below (hbr.out.mono hwB)).get hlt
        have HC' := hide hC'
        have HX := hide hx
        have HY := hide hy
        obtain ⟨q1, q2, q3, _⟩ := HF.out.each x (List.mem_of_getElem? hx)
        obtain ⟨r1, r2, r3, _⟩ := HG.out.each y (List.mem_of_getElem? hy)
        have C := hide (fun (W : World) (hb : Below wr.heap.size wr W) => snode_any (Nat.le_trans (Nat.le_trans hwB hsz) hb.size) (hR.below (hb.mono (Nat.le_trans hwB hsz))) (hR'.below (hb.mono (Nat.le_trans hwB hsz))) (by omega) (by omega) (by omega) (by omega) (by omega) (by omega))
        clear hx hy hC' hR hR' q1 q2 q3 r1 r2 r3
        go_upto_region 6 with (fail)
        obtain ⟨W1, hW1⟩ : ∃ W1, wr.alloc (.cells #[.int .i64 x.kind, .string ⟨x.name.toArray⟩, .slice s.As x.str.length s.cs, .int .i64 x.nk, .int .i64 x.nn, .bool x.neg, .slice s.Am x.mag.length s.cm, .slice s.Ak x.kids.length s.ck] 42) = W1 := ⟨_, rfl⟩
        rw [hW1]
        have b1 : Below wr.heap.size wr W1 := by rw [← hW1]; exact (Below.refl _ _).alloc (Nat.le_refl _) _
        have s1 : W1.heap.size = wr.heap.size + 1 := by rw [← hW1]; simp
        have nx := hide (show NB W1 wr.heap.size _ _ _ _ _ _ _ _ from by rw [← hW1]; exact NB.new wr wr.heap.size rfl _ _ _ _ _ _ _ _ _)
        obtain ⟨d0, d1, d2, d3, d4, d5, d6, d7⟩ := HC'.out.below b1 (show b' < wr.heap.size by omega)
        clear kc0 kc1 kc2 kc3 kc4 kc5 kc6 kc7 hW1 HC'
        go_upto_region 7 with (fail)
        obtain ⟨W2, hW2⟩ : ∃ W2, W1.alloc (.cells #[.int .i64 y.kind, .string ⟨y.name.toArray⟩, .slice r.As y.str.length r.cs, .int .i64 y.nk, .int .i64 y.nn, .bool y.neg, .slice r.Am y.mag.length r.cm, .slice r.Ak y.kids.length r.ck] 42) = W2 := ⟨_, rfl⟩
        rw [hW2]
        have b2 : Below W1.heap.size W1 W2 := by rw [← hW2]; exact (Below.refl _ _).alloc (Nat.le_refl _) _
        have ny := hide (show NB W2 W1.heap.size _ _ _ _ _ _ _ _ from by rw [← hW2]; exact NB.new W1 W1.heap.size rfl _ _ _ _ _ _ _ _ _)
        have nx2 := hide (nx.out.below b2 (show wr.heap.size < W1.heap.size by omega))
        have BW := hide (b1.trans (b2.mono (by omega)))
        have CC := hide (C.out W2 BW.out)
        have HBR := hide (hbr.out.trans (BW.out.mono hsz))
        have HSW := hide BW.out.size
        rw [s1] at ny
        obtain ⟨⟨p0, p1, p2, p3, p4, p5, p6, p7⟩, _⟩ := nx2.out
        obtain ⟨⟨v0, v1, v2, v3, v4, v5, v6, v7⟩, _⟩ := ny.out
        obtain ⟨X, hX⟩ : ∃ X, wr.heap.size = X := ⟨_, rfl⟩
        rw [hX] at p0 p1 p2 p3 p4 p5 p6 p7 v0 v1 v2 v3 v4 v5 v6 v7
        rw [hX]
        obtain ⟨bq, hbq⟩ : ∃ bq, decide (x = y) = bq := ⟨_, rfl⟩
        rw [hbq] at CC
        have HQ := hide hbq
        clear hW2 d0 d1 d2 d3 d4 d5 d6 d7 b1 s1 b2 nx ny nx2 hX C hsz hbr hbB hbB' hbq
        go_wp2_with fail
        refine CC.out.mono ?_
        rintro e3 W3 ⟨rfl, hb3⟩
        have HB3 := hide (HBR.out.trans (hb3.mono HBR.out.size))
        clear hb3
        cases bq with
        | true =>
          have hxy : x = y := of_decide_eq_true HQ.out
          have HT := hide (take_step HX.out (by rw [hxy]; exact HY.out) htk.out)
          clear hxy
          go_wp2_with fail
          go_roundw
          case rel => exact ⟨k + 1, by omega, by go_num, HT.out, HB3.out⟩
          case measure => simp [intOf]; omega
        | false =>
          have hxy : x ≠ y := of_decide_eq_false HQ.out
          have HT := hide (take_ne HX.out HY.out hxy)
          clear hxy
          go_wp2_with fail
          go_ret
          exact ⟨ret_bool (decide_eq_false HT.out).symm, HB3.out⟩
      · have h1 : ¬ (k : Int) < (n : Int) := by omega
        have h2 : decide ((k : Int) < (n : Int)) = false := decide_eq_false h1
        obtain rfl : k = n := by omega
        have HT := hide (show ts = us from by
          have := htk.out
          rwa [List.take_of_length_le (by rw [HN.out.1]; exact Nat.le_refl _), List.take_of_length_le (by rw [HM.out.1]; exact Nat.le_refl _)] at this)
        clear htk
        go_wp2_with fail
        go_ret
        exact ⟨ret_bool (decide_eq_true HT.out).symm, hbr.out⟩
  · have HT := hide (show ¬ ts = us from fun e => hne (by rw [← hN.1, ← hM.1, e]))
    have h1 : ((n : Int) != (n2 : Int)) = true := by simp; omega
    have HNE := hide hne
    clear hN hM hne
    go_enter Tryd.func33, Tryd.ntmps33
    go_wp2_with fail
    go_ret
    exact ⟨ret_bool (decide_eq_false HT.out).symm, Below.refl _ _⟩
set_option maxRecDepth 100000 in
theorem same_any {A A2 : Option Addr} {c c2 B n n2 : Nat} {ts us : List Nd} {w : World} (hN : NdsR w B A n ts) (hM : NdsR w B A2 n2 us) (hB : B ≤ w.heap.size) (hF : FewP ts) (hG : FewP us) :
    Calls Tryd.prog 18 #[.agg #[.slice A n c], .agg #[.slice A2 n2 c2]] w fun e w' => e = .returned (.bool (decide (ts = us))) ∧ Below w.heap.size w w' := by
  have hb0 : Below w.heap.size w ((w.alloc (.cells #[.slice A n c] 24)).alloc (.cells #[.slice A2 n2 c2] 24)) := ((Below.refl _ _).alloc (Nat.le_refl _) _).alloc (by simp) _
  have C := hide (eqf_any (c := c) (c2 := c2) (hN.below (hb0.mono hB)) (hM.below (hb0.mono hB)) (Nat.le_trans hB hb0.size) hF hG)
  have HB0 := hide hb0
  clear hN hM hF hG hb0
  go_enter Tryd.func18, Tryd.ntmps18
  go_wp2_with fail
  refine C.out.mono ?_
  rintro e1 w1 ⟨rfl, hb1⟩
  have HB1 := hide (HB0.out.trans (hb1.mono HB0.out.size))
  clear hb1
  go_wp2_with fail
  go_ret
  exact ⟨rfl, HB1.out⟩
end Go.Proofs.YtelcjdblnagdgaaDoor

namespace Go.Proofs.YtelcjdblnagdgaaDoor
open Go.RowKit

set_option maxHeartbeats 8000000 in
set_option maxRecDepth 100000 in
theorem rtree_any {A A2 : Option Addr} {c c2 B n n2 : Nat} {ts us : List Nd} {w : World} (hN : NdsR w B A n ts) (hM : NdsR w B A2 n2 us) (hB : B ≤ w.heap.size) (hF : FewP ts) (hG : FewP us) :
    Calls Tryd.prog 19 #[.agg #[.slice A n c], .agg #[.slice A2 n2 c2]] w fun e w' => e = .returned (.bool (decide (ts = us))) ∧ Below w.heap.size w w' := by
  have hn20 : n ≤ 20000 := by rw [← hN.1]; exact hF.len
  obtain ⟨W, hW⟩ : ∃ W, w.alloc (.cells #[.slice A n c] 24) = W := ⟨_, rfl⟩
  have sW : W.heap.size = w.heap.size + 1 := by rw [← hW]; simp
  have bW : Below w.heap.size w W := by rw [← hW]; exact (Below.refl _ _).alloc (Nat.le_refl _) _
  have a0 : W.cell? ⟨w.heap.size, 0, none⟩ = some (.slice A n c) := by rw [← hW, World.cell?_alloc_at _ _ _ _ rfl]; rfl
  obtain ⟨V, hV⟩ : ∃ V, W.alloc (.cells #[.slice A2 n2 c2] 24) = V := ⟨_, rfl⟩
  have sV : V.heap.size = W.heap.size + 1 := by rw [← hV]; simp
  have bV : Below W.heap.size W V := by rw [← hV]; exact (Below.refl _ _).alloc (Nat.le_refl _) _
  have z0 : V.cell? ⟨W.heap.size, 0, none⟩ = some (.slice A2 n2 c2) := by rw [← hV, World.cell?_alloc_at _ _ _ _ rfl]; rfl
  have a1 := (bV.cell (p := ⟨w.heap.size, 0, none⟩) (show w.heap.size < W.heap.size by omega)).trans a0
  have bw := bW.trans (bV.mono bW.size)
  obtain ⟨X, hX⟩ : ∃ X, w.heap.size = X := ⟨_, rfl⟩
  have e1 : W.heap.size = X + 1 := by omega
  have hXV : X + 1 < V.heap.size := by omega
  rw [e1] at z0
  rw [hX] at a1
  have HN := hide (hN.below (bw.mono hB))
  have HM := hide (hM.below (bw.mono hB))
  have HB := hide (show B ≤ V.heap.size by omega)
  have HBW := hide bw
  have HF := hide hF
  have HG := hide hG
  by_cases hne : n = n2
  · subst hne
    go_enter Tryd.func19, Tryd.ntmps19
    go_upto_region 1 with (fail)
    clear hN hM hF hG hB bw bV bW a0 hW hV sW sV e1 hX
    go_wp2_with fail
    go_loopw [5] (fun i wr => ∃ k : Nat, k ≤ n ∧ i = .int .i64 (k : Int) ∧ Hid (ts.take k = us.take k) ∧ Hid (Below V.heap.size V wr)) (fun i _ => n - (intOf i).toNat)
    case atStart => exact ⟨0, Nat.zero_le _, rfl, rfl, Below.refl _ _⟩
    case round =>
      obtain ⟨k, hk, rfl, htk, hbr⟩ := hrel
      have x0 := (hbr.out.cell (p := ⟨X, 0, none⟩) (show X < V.heap.size by omega)).trans a1
      have y0 := (hbr.out.cell (p := ⟨X + 1, 0, none⟩) hXV).trans z0
      by_cases hlt : k < n
      · have h1 : (k : Int) < (n : Int) := by omega
        have h2 : decide ((k : Int) < (n : Int)) = true := decide_eq_true h1
        have hwB := HB.out
        have hsz := hbr.out.size
        obtain ⟨b, o, x, s, rfl, hbB, hx, hC, hR⟩ := (HN.out.below (hbr.out.mono hwB)).get hlt
        obtain ⟨kc0, kc1, kc2, kc3, kc4, kc5, kc6, kc7⟩ := hC
        obtain ⟨b', o', y, r, rfl, hbB', hy, hC', hR'⟩ := (HM.out.below (hbr.out.mono hwB)).get hlt
        obtain ⟨d0, d1, d2, d3, d4, d5, d6, d7⟩ := hC'
        have HX := hide hx
        have HY := hide hy
        obtain ⟨q1, q2, q3, _⟩ := HF.out.each x (List.mem_of_getElem? hx)
        obtain ⟨r1, r2, r3, _⟩ := HG.out.each y (List.mem_of_getElem? hy)
        have CC := hide (show Calls Tryd.prog 38 #[.agg #[.int .i64 x.kind, .string ⟨x.name.toArray⟩, .slice s.As x.str.length s.cs, .int .i64 x.nk, .int .i64 x.nn, .bool x.neg, .slice s.Am x.mag.length s.cm, .slice s.Ak x.kids.length s.ck], .agg #[.int .i64 y.kind, .string ⟨y.name.toArray⟩, .slice r.As y.str.length r.cs, .int .i64 y.nk, .int .i64 y.nn, .bool y.neg, .slice r.Am y.mag.length r.cm, .slice r.Ak y.kids.length r.ck]] wr.drew fun e w' => e = .returned (.bool (decide (x = y))) ∧ Below wr.heap.size wr w' from
          (rnode_any (w := wr.drew) (Nat.le_trans hwB hsz) (hR.below ((Below.refl B wr).drew)) (hR'.below ((Below.refl B wr).drew)) (by omega) (by omega) (by omega) (by omega) (by omega) (by omega)).mono fun e w' h => ⟨h.1, ⟨h.2.os, h.2.tape, h.2.output, h.2.size, h.2.block⟩⟩)
        obtain ⟨bq, hbq⟩ : ∃ bq, decide (x = y) = bq := ⟨_, rfl⟩
        rw [hbq] at CC
        have HQ := hide hbq
        have HBR := hide hbr.out
        clear hx hy hR hR' q1 q2 q3 r1 r2 r3 hbq hbr
        go_wp2_with fail
        go_region_law (go_simp; go_at_call 38; refine CC.out.mono ?_; rintro e3 W3 ⟨rfl, hb3⟩)
        all_goals
          have HB3 := hide (HBR.out.trans (hb3.mono hsz))
          clear hb3
          cases bq with
          | true =>
            have hxy : x = y := of_decide_eq_true HQ.out
            have HT := hide (take_step HX.out (by rw [hxy]; exact HY.out) htk.out)
            clear hxy
            go_wp2_with fail
            go_roundw
            case rel => exact ⟨k + 1, by omega, by go_num, HT.out, HB3.out⟩
            case measure => simp [intOf]; omega
          | false =>
            have hxy : x ≠ y := of_decide_eq_false HQ.out
            have HT := hide (take_ne HX.out HY.out hxy)
            clear hxy
            go_wp2_with fail
            go_ret
            exact ⟨ret_bool (decide_eq_false HT.out).symm, HBW.out.trans (HB3.out.mono HBW.out.size)⟩
      · have h1 : ¬ (k : Int) < (n : Int) := by omega
        have h2 : decide ((k : Int) < (n : Int)) = false := decide_eq_false h1
        obtain rfl : k = n := by omega
        have HT := hide (show ts = us from by
          have := htk.out
          rwa [List.take_of_length_le (by rw [HN.out.1]; exact Nat.le_refl _), List.take_of_length_le (by rw [HM.out.1]; exact Nat.le_refl _)] at this)
        clear htk
        go_wp2_with fail
        go_ret
        exact ⟨ret_bool (decide_eq_true HT.out).symm, HBW.out.trans (hbr.out.mono HBW.out.size)⟩
  · have HT := hide (show ¬ ts = us from fun e => hne (by rw [← hN.1, ← hM.1, e]))
    have h1 : ((n : Int) != (n2 : Int)) = true := by simp; omega
    have HNE := hide hne
    clear hne
    go_enter Tryd.func19, Tryd.ntmps19
    go_upto_region 1 with (fail)
    clear hN hM hF hG hB bw bV bW a0 hW hV sW sV e1 hX
    go_wp2_with fail
    go_ret
    exact ⟨ret_bool (decide_eq_false HT.out).symm, HBW.out⟩
end Go.Proofs.YtelcjdblnagdgaaDoor

namespace Go.Proofs.YtelcjdblnagdgaaDoor
open Go.RowKit

theorem FewP.all1 {ts : List Nd} (h : FewP ts) : (kidsAll ts).length ≤ 1000000 := by have := h.all; omega
theorem bytes_arr' (s : ByteArray) : (⟨s.toList.toArray⟩ : ByteArray) = s := by
  rw [ByteArray.toList_eq]
theorem set_eq_iff {α : Type} {l : List α} {k : Nat} {x x' : α} (hx : l[k]? = some x) : l = l.set k x' ↔ x' = x := by
  obtain ⟨hl, rfl⟩ := List.getElem?_eq_some_iff.1 hx
  constructor
  · intro h
    have : l[k]? = (l.set k x')[k]? := by rw [← h]
    rw [List.getElem?_set_self hl, List.getElem?_eq_getElem hl] at this
    exact (Option.some.inj this).symm
  · rintro rfl
    rw [List.set_getElem_self]
theorem kidsAll_set {l : List Nd} {k : Nat} {x x' : Nd} (hx : l[k]? = some x) (h : x'.kids = x.kids) : kidsAll (l.set k x') = kidsAll l := by
  induction l generalizing k with
  | nil => cases hx
  | cons y r ih =>
    cases k with
    | zero =>
      obtain rfl : y = x := Option.some.inj hx
      rw [List.set_cons_zero, kidsAll_cons, kidsAll_cons, h]
    | succ k => rw [List.set_cons_succ, kidsAll_cons, kidsAll_cons, ih (by simpa using hx)]
theorem FewP.set {l : List Nd} {k : Nat} {x x' : Nd} (h : FewP l) (hx : l[k]? = some x) (h1 : x'.str = x.str) (h2 : x'.mag = x.mag) (h3 : x'.kids = x.kids) (h4 : x'.name.length ≤ 20000) : FewP (l.set k x') := by
  have hq := h.each x (List.mem_of_getElem? hx)
  refine ⟨by rw [List.length_set]; exact h.len, by rw [kidsAll_set hx h3]; exact h.all, fun y hy => ?_⟩
  rcases List.mem_or_eq_of_mem_set hy with hy | rfl
  · exact h.each y hy
  · exact ⟨by rw [h1]; exact hq.1, by rw [h2]; exact hq.2.1, by rw [h3]; exact hq.2.2.1, h4⟩
theorem p_set {l : List Nd} {k : Nat} {x' : Nd} (h : ∀ x ∈ l, NdP x) (hp : NdP x') : ∀ x ∈ l.set k x', NdP x := by
  intro y hy
  rcases List.mem_or_eq_of_mem_set hy with hy | rfl
  · exact h y hy
  · exact hp
theorem printE_any {A : Option Addr} {c B n : Nat} {ts : List Nd} {w : World} (hN : NdsR w B A n ts) (hB : B ≤ w.heap.size) (hc : n ≤ c) (ht : (kidsAll ts).length ≤ 1000000) (hT : Tab w) (hgB : 0 < B) {q : Bool} (hq : mayF ts = q) :
    Calls Tryd.prog 14 #[.agg #[.slice A n c]] w fun e w' => ∃ (v : Value) (ev : Int), e = .returned (.tuple #[v, .int .i64 ev]) ∧ ((ev == 2) = !q) ∧ Below w.heap.size w w' := by
  refine (print_any hN hB hc ht hT hgB).mono ?_
  rintro e w' (⟨h1, rfl, hb⟩ | ⟨t, _, h1, hb, ⟨_, rfl⟩ | ⟨_, v, rfl, _⟩⟩)
  · exact ⟨_, 2, rfl, by rw [← hq, h1]; rfl, hb⟩
  · exact ⟨_, 3, rfl, by rw [← hq, h1]; rfl, hb⟩
  · exact ⟨v, 0, rfl, by rw [← hq, h1]; rfl, hb⟩
/-- a copy in a box, one of its cells turned -/
theorem turned {w w4 : World} {A : Option Addr} {n c k j : Nat} {ts : List Nd} {x x' : Nd} {u : Value} {ss : List NdSl} (ht : TrO w4 w.heap.size ts ss (.slice A n c)) (hn : ts.length = n) (hb : Below w.heap.size w w4) (hk : k < n) (hx : ts[k]? = some x) (hj : j < 8)
    (hu : ∀ s, ndV x' s = (ndV x s).set j u) (h1 : x'.str = x.str) (h2 : x'.mag = x.mag) (h3 : x'.kids = x.kids) (hp : ∀ y ∈ ts.set k x', NdP y) {Bx : Nat} (hBx : w4.heap.size = Bx) :
    ∃ g, A = some ⟨g, 0, none⟩ ∧ g < Bx ∧ (∃ v, (w4.alloc (.cells #[.slice A n c] 24)).cell? ⟨g, k * 8 + j, none⟩ = some v) ∧ (w4.alloc (.cells #[.slice A n c] 24)).frozen? ⟨g, k * 8 + j, none⟩ = false
      ∧ NdsR ((w4.alloc (.cells #[.slice A n c] 24)).setCell ⟨g, k * 8 + j, none⟩ u) (Bx + 1) A n (ts.set k x') ∧ Below w.heap.size w ((w4.alloc (.cells #[.slice A n c] 24)).setCell ⟨g, k * 8 + j, none⟩ u)
      ∧ ((w4.alloc (.cells #[.slice A n c] 24)).setCell ⟨g, k * 8 + j, none⟩ u).heap.size = Bx + 1
      ∧ ((w4.alloc (.cells #[.slice A n c] 24)).setCell ⟨g, k * 8 + j, none⟩ u).cell? ⟨Bx, 0, none⟩ = some (.slice A n c) := by
  subst hBx
  have hks : k < ss.length := by rw [ht.len, hn]; exact hk
  have hs : ss[k]? = some ss[k] := List.getElem?_eq_getElem hks
  have hto := ht.own
  rw [hn] at hto
  obtain ⟨g, cap, hv, hbg, hlt⟩ := hto.form (by omega)
  obtain ⟨rfl, rfl⟩ : A = some ⟨g, 0, none⟩ ∧ c = cap := by injection hv with e1 _ e2; exact ⟨e1, e2⟩
  have hal := (Below.refl w4.heap.size w4).alloc (Nat.le_refl _) (.cells #[.slice (some ⟨g, 0, none⟩) n c] 24)
  have ht5 := ht.below hal
  have h8 : ∃ v, (ndV x ss[k])[j]? = some v := ⟨_, List.getElem?_eq_getElem (by rw [ndV_len]; exact hj)⟩
  obtain ⟨v8, h8⟩ := h8
  have hto5 := ht5.own
  rw [hn] at hto5
  have ht6 := ht5
  rw [← hn] at ht6
  obtain ⟨hp6, _⟩ := ht6.put hj hx hs (hu _) h1 h2 h3
  have hl : (ts.set k x').length = n := by rw [List.length_set]; exact hn
  have hsz : ((w4.alloc (.cells #[.slice (some ⟨g, 0, none⟩) n c] 24)).setCell ⟨g, k * 8 + j, none⟩ u).heap.size = w4.heap.size + 1 := by simp [World.setCell]
  refine ⟨g, rfl, hlt, ⟨v8, (ht5.at_ hn hj hx hs).trans h8⟩, hto5.frozenAt _, ?_, (hb.trans (hal.mono hb.size)).setCell hbg _, hsz, ?_⟩
  · have h9 := TrO.reads (c := c) (n := n) (A := some ⟨g, 0, none⟩) (ts := ts.set k x') (by rw [hn] at hp6; exact hp6) hl hp
    rw [hsz] at h9
    exact h9
  · rw [World.cell?_setCell_other _ _ _ _ (fun e => by injection e with e; omega), World.cell?_alloc_at _ _ _ _ rfl]; rfl
set_option maxHeartbeats 16000000 in
set_option maxRecDepth 100000 in
theorem treeTurns_law (A : Option Addr) (n c : Nat) (ts : List Nd) (hc : n ≤ c) (_hm : c ≤ maxLen) (p : Int) (_hp : -9223372036854775808 ≤ p ∧ p ≤ 9223372036854775807) (kd : Int) (hkd : -9223372036854775808 ≤ kd ∧ kd ≤ 9223372036854775807) (nm : ByteArray) (_hnm : nm.size ≤ maxLen) (w : World) (hN : NdsR w w.heap.size A n ts) (hT : Tab w) :
    Calls Tryd.prog 8 #[.agg #[.slice A n c], .int .i64 p, .int .i64 kd, .string nm] w fun e w' => e = .returned (.bool true) ∧ Below w.heap.size w w' := by
  obtain ⟨W, hW⟩ : ∃ W, w.alloc (.cells #[.slice A n c] 24) = W := ⟨_, rfl⟩
  have hbW : Below w.heap.size w W := by rw [← hW]; exact (Below.refl _ _).alloc (Nat.le_refl _) _
  have hX1 : w.heap.size < W.heap.size := by rw [← hW]; simp
  have x0 : W.cell? ⟨w.heap.size, 0, none⟩ = some (.slice A n c) := by rw [← hW, World.cell?_alloc_at _ _ _ _ rfl]; rfl
  have HN := hide hN
  have HBW := hide hbW
  have HTW := hide (hT.go hbW)
  have HGL := hide hT.lt
  have CM := hide (fun (w1 : World) (hb : Below w.heap.size w w1) (hf : FewP ts) (q : Bool) (hq : mayF ts = q) => may_any (c := c) (hN.below hb) hb.size hc hf.all1 hq)
  obtain ⟨X, hX⟩ : ∃ X, w.heap.size = X := ⟨_, rfl⟩
  have HXX := hide hX
  go_enter Tryd.func8, Tryd.ntmps8
  go_upto_region 1 with (fail)
  clear hN hbW hT hW
  rw [hX] at x0 hX1
  clear hX
  go_wp2_with fail
  refine (first_any HTW.out).mono ?_
  rintro e1 w1 ⟨rfl, hb1⟩
  have y1 := (hb1.cell (p := ⟨X, 0, none⟩) hX1).trans x0
  have HB1 := hide (HBW.out.trans (hb1.mono HBW.out.size))
  have HT1 := hide (HTW.out.go hb1)
  have hX2 : X < w1.heap.size := Nat.lt_of_lt_of_le hX1 hb1.size
  clear hb1 x0 hX1 HBW HTW
  go_wp2_with fail
  refine (few_any (c := c) (HN.out.below HB1.out) HB1.out.size).mono ?_
  rintro e2 w2 ⟨q, rfl, hf, hb2⟩
  have y2 := (hb2.cell (p := ⟨X, 0, none⟩) hX2).trans y1
  have HB2 := hide (HB1.out.trans (hb2.mono HB1.out.size))
  have HT2 := hide (HT1.out.go hb2)
  have hX3 : X < w2.heap.size := Nat.lt_of_lt_of_le hX2 hb2.size
  clear hb2 y1 hX2 HB1 HT1
  cases q with
  | false =>
    clear hf
    go_wp2_with fail
    refine (first_any HT2.out).mono ?_
    rintro e3 w3 ⟨rfl, hb3⟩
    have HB3 := hide (HB2.out.trans (hb3.mono HB2.out.size))
    clear hb3
    go_wp2_with fail
    go_ret
    exact ⟨rfl, HB3.out⟩
  | true =>
    have HF := hide (hf rfl)
    clear hf
    obtain ⟨q, hq⟩ : ∃ q, mayF ts = q := ⟨_, rfl⟩
    have C2 := hide (CM.out w2 HB2.out HF.out q hq)
    have HQ := hide hq
    clear CM hq
    go_wp2_with fail
    refine C2.out.mono ?_
    rintro e3 w3 ⟨rfl, hb3⟩
    have y3 := (hb3.cell (p := ⟨X, 0, none⟩) hX3).trans y2
    have HB3 := hide (HB2.out.trans (hb3.mono HB2.out.size))
    have HT3 := hide (HT2.out.go hb3)
    have hX4 : X < w3.heap.size := Nat.lt_of_lt_of_le hX3 hb3.size
    clear hb3 y2 hX3 HB2 HT2 C2
    cases q with
    | false =>
      go_wp2_with fail
      refine (first_any HT3.out).mono ?_
      rintro e4 w4 ⟨rfl, hb4⟩
      have HB4 := hide (HB3.out.trans (hb4.mono HB3.out.size))
      clear hb4
      go_wp2_with fail
      go_ret
      exact ⟨rfl, HB4.out⟩
    | true =>
      have hl0 : 0 < n := by
        obtain ⟨t, ht⟩ := may_tree HQ.out
        have h1 := congrArg List.length ht.flat
        rw [flatT_len, HN.out.1] at h1
        rw [h1]; exact size_pos t
      have hn20 : n ≤ 20000 := by rw [← HN.out.1]; exact HF.out.len
      by_cases hlong : 100 < nm.size
      · have l1 : (100 : Int) < (nm.size : Int) := by omega
        have l2 : decide ((100 : Int) < (nm.size : Int)) = true := decide_eq_true l1
        have l0 : ((n : Int) == 0) = false := beq_eq_false_iff_ne.2 (by omega)
        go_wp2_with fail
        refine (first_any HT3.out).mono ?_
        rintro e4 w4 ⟨rfl, hb4⟩
        have HB4 := hide (HB3.out.trans (hb4.mono HB3.out.size))
        clear hb4
        go_wp2_with fail
        go_ret
        exact ⟨rfl, HB4.out⟩
      · have l1 : ¬ (100 : Int) < (nm.size : Int) := by omega
        have l2 : decide ((100 : Int) < (nm.size : Int)) = false := decide_eq_false l1
        have l0 : ((n : Int) == 0) = false := beq_eq_false_iff_ne.2 (by omega)
        obtain ⟨k, hk, hke⟩ := mod_twice p n hl0
        have lz : ¬ (n : Int) = 0 := by omega
        have lb1 : -(n : Int) < p.tmod n := Int.lt_tmod_of_pos p (by omega)
        have lb2 : p.tmod n < n := Int.tmod_lt_of_pos p (by omega)
        go_upto_region 5 with (fail)
        go_quiet (fail)
        obtain ⟨w4, hw4⟩ : ∃ w4, w3.drewN nq = w4 := ⟨_, rfl⟩
        rw [hw4]
        have y4 : w4.cell? ⟨X, 0, none⟩ = some (.slice A n c) := by rw [← hw4]; exact y3
        have HB4 := hide (show Below w.heap.size w w4 by rw [← hw4]; exact below_drewN HB3.out _)
        have HT4 := hide (show Tab w4 by rw [← hw4]; exact HT3.out)
        have hX5 : X < w4.heap.size := by rw [← hw4]; exact hX4
        clear hw4 y3 HB3 HT3 hX4 hke lz lb1 lb2 l0 l1 l2
        obtain ⟨x, hx⟩ : ∃ x, ts[k]? = some x := ⟨_, List.getElem?_eq_getElem (by rw [HN.out.1]; exact hk)⟩
        have HX := hide hx
        have hpn : ∀ y ∈ ts, NdP y := HN.out.p
        have hpx := hpn x (List.mem_of_getElem? hx)
        obtain ⟨x1, hx1⟩ : ∃ x1 : Nd, { x with kind := kd } = x1 := ⟨_, rfl⟩
        obtain ⟨x2, hx2⟩ : ∃ x2 : Nd, { x with name := nm.toList } = x2 := ⟨_, rfl⟩
        have hnl : nm.toList.length ≤ 100 := by
          rw [ByteArray.toList_eq]
          have : nm.data.toList.length = nm.size := by simp
          omega
        have hp1 := p_set (k := k) hpn (x' := x1) (by rw [← hx1]; exact ⟨hpx.limb, hpx.kin, hkd, hpx.nkb, hpx.nnb, hpx.nm⟩)
        have hp2 := p_set (k := k) hpn (x' := x2) (by rw [← hx2]; exact ⟨hpx.limb, hpx.kin, hpx.kb, hpx.nkb, hpx.nnb, (show nm.toList.length ≤ 9223372036854775807 by omega)⟩)
        have HF1 := hide (HF.out.set hx (x' := x1) (by rw [← hx1]) (by rw [← hx1]) (by rw [← hx1]) (by rw [← hx1]; exact (HF.out.each x (List.mem_of_getElem? hx)).2.2.2))
        have HF2 := hide (HF.out.set hx (x' := x2) (by rw [← hx2]) (by rw [← hx2]) (by rw [← hx2]) (by rw [← hx2]; exact (show nm.toList.length ≤ 20000 by omega)))
        have TU1 := hide (fun (wa wb : World) (Ax : Option Addr) (cx : Nat) (ss : List NdSl) (ht : TrO wb wa.heap.size ts ss (.slice Ax n cx)) (hb : Below wa.heap.size wa wb) (Bx : Nat) (hBx : wb.heap.size = Bx) => turned (x' := x1) (u := .int .i64 kd) (j := 0) ht HN.out.1 hb hk hx (by omega) (fun s => by rw [← hx1]; rfl) (by rw [← hx1]) (by rw [← hx1]) (by rw [← hx1]) hp1 hBx)
        have TU2 := hide (fun (wa wb : World) (Ax : Option Addr) (cx : Nat) (ss : List NdSl) (ht : TrO wb wa.heap.size ts ss (.slice Ax n cx)) (hb : Below wa.heap.size wa wb) (Bx : Nat) (hBx : wb.heap.size = Bx) => turned (x' := x2) (u := .string nm) (j := 1) ht HN.out.1 hb hk hx (by omega) (fun s => by rw [← hx2]; unfold ndV; simp only [bytes_arr']; rfl) (by rw [← hx2]) (by rw [← hx2]) (by rw [← hx2]) hp2 hBx)
        have E1 := hide (show ts = ts.set k x1 ↔ kd = x.kind from (set_eq_iff hx).trans ⟨fun e => by have := congrArg Nd.kind e; rw [← hx1] at this; exact this, fun e => by rw [← hx1, e]⟩)
        have E2 := hide (show ts = ts.set k x2 ↔ nm.toList = x.name from (set_eq_iff hx).trans ⟨fun e => by have := congrArg Nd.name e; rw [← hx2] at this; exact this, fun e => by rw [← hx2, e]⟩)
        obtain ⟨xs, hxs⟩ : ∃ xs, ts.set k x1 = xs := ⟨_, rfl⟩
        obtain ⟨ys, hys⟩ : ∃ ys, ts.set k x2 = ys := ⟨_, rfl⟩
        rw [hxs] at TU1 HF1 E1
        rw [hys] at TU2 HF2 E2
        have CT := hide (fun (wa : World) (hb : Below w.heap.size w wa) => copyTree_any (c := c) (HN.out.below hb) hb.size HF.out)
        have CC := hide (CT.out w4 HB4.out)
        clear hx hpn hpx hp1 hp2 hxs hys hx1 hx2 hnl
        go_wp2_with fail
        refine CC.out.mono ?_
        rintro e5 w5 ⟨Ax, cx, rfl, ⟨ss, ht5⟩, hb5⟩
        obtain ⟨Bx, hBx⟩ : ∃ Bx, w5.heap.size = Bx := ⟨_, rfl⟩
        have hcx : n ≤ cx := by
          obtain ⟨_, _, hv, h1, _⟩ := ht5.shape
          injection hv with _ _ e
          rw [HN.out.1, ← e] at h1; exact h1
        obtain ⟨gx, rfl, hgx, ⟨v0, hv0⟩, hf0, hN6, hb6, hs6, hc6⟩ := TU1.out w4 w5 Ax cx ss ht5 hb5 Bx hBx
        rw [Nat.add_zero] at hv0 hf0 hN6 hb6 hs6 hc6
        go_upto_region 7 with (fail)
        have cB : (w5.alloc (.cells #[.slice (some ⟨gx, 0, none⟩) n cx] 24)).cell? ⟨Bx, 0, none⟩ = some (.slice (some ⟨gx, 0, none⟩) n cx) := by rw [← hBx, World.cell?_alloc_at _ _ _ _ rfl]; rfl
        have hkn : (k : Int) < (n : Int) := by omega
        obtain ⟨W5, hW5⟩ : ∃ W5, w5.alloc (.cells #[.slice (some ⟨gx, 0, none⟩) n cx] 24) = W5 := ⟨_, rfl⟩
        rw [hW5] at hv0 hf0 hN6 hb6 hs6 hc6 cB ⊢
        clear hW5
        go_upto_region 8 with (fail)
        obtain ⟨w6, hw6⟩ : ∃ w6, W5.setCell ⟨gx, k * 8, none⟩ (.int .i64 kd) = w6 := ⟨_, rfl⟩
        rw [hw6] at hN6 hb6 hs6 hc6 ⊢
        have y6 := (hb6.cell (p := ⟨X, 0, none⟩) hX5).trans y4
        have HB6 := hide (HB4.out.trans (hb6.mono HB4.out.size))
        have HT6 := hide (HT4.out.go hb6)
        have HN6 := hide hN6
        have hX6 : X < w6.heap.size := Nat.lt_of_lt_of_le hX5 hb6.size
        have hB6 : Bx < w6.heap.size := by omega
        clear hw6 hv0 hf0 hN6 hb6 ht5 hb5 hBx hgx cB y4 HB4 HT4 hX5 CC
        have CC := hide (CT.out w6 HB6.out)
        go_wp2_with fail
        refine CC.out.mono ?_
        rintro e7 w7 ⟨Ay, cy, rfl, ⟨ss, ht7⟩, hb7⟩
        obtain ⟨By, hBy⟩ : ∃ By, w7.heap.size = By := ⟨_, rfl⟩
        have hcy : n ≤ cy := by
          obtain ⟨_, _, hv, h1, _⟩ := ht7.shape
          injection hv with _ _ e
          rw [HN.out.1, ← e] at h1; exact h1
        obtain ⟨gy, rfl, hgy, ⟨v0, hv0⟩, hf0, hN8, hb8, hs8, hc8⟩ := TU2.out w6 w7 Ay cy ss ht7 hb7 By hBy
        have cB : (w7.alloc (.cells #[.slice (some ⟨gy, 0, none⟩) n cy] 24)).cell? ⟨By, 0, none⟩ = some (.slice (some ⟨gy, 0, none⟩) n cy) := by rw [← hBy, World.cell?_alloc_at _ _ _ _ rfl]; rfl
        go_upto_region 9 with (fail)
        obtain ⟨W7, hW7⟩ : ∃ W7, w7.alloc (.cells #[.slice (some ⟨gy, 0, none⟩) n cy] 24) = W7 := ⟨_, rfl⟩
        rw [hW7] at hv0 hf0 hN8 hb8 hs8 hc8 cB ⊢
        clear hW7
        go_upto_region 10 with (fail)
        obtain ⟨w8, hw8⟩ : ∃ w8, W7.setCell ⟨gy, k * 8 + 1, none⟩ (.string nm) = w8 := ⟨_, rfl⟩
        rw [hw8] at hN8 hb8 hs8 hc8 ⊢
        have y8 := (hb8.cell (p := ⟨X, 0, none⟩) hX6).trans y6
        have x8 := (hb8.cell (p := ⟨Bx, 0, none⟩) hB6).trans hc6
        have HB8 := hide (HB6.out.trans (hb8.mono HB6.out.size))
        have HT8 := hide (HT6.out.go hb8)
        have HM8 := hide (HN6.out.below (hb8.mono (by omega)))
        have HN8 := hide hN8
        have hX8 : X < w8.heap.size := Nat.lt_of_lt_of_le hX6 hb8.size
        have hB8 : Bx < w8.heap.size := Nat.lt_of_lt_of_le hB6 hb8.size
        have hBx8 : Bx + 1 ≤ w8.heap.size := by omega
        have hBy8 : By < w8.heap.size := by omega
        have hXB : X ≤ Bx + 1 := by omega
        have hXB2 : X ≤ By + 1 := by omega
        have hgx8 : 0 < Bx + 1 := by have := HGL.out; have := HXX.out; have := HB6.out.size; omega
        have hgy8 : 0 < By + 1 := by omega
        clear hw8 hv0 hf0 hN8 hb8 ht7 hb7 hBy hgy cB y6 HB6 HT6 HN6 hX6 hB6 CC CT TU1 TU2 hc6 hs6
        obtain ⟨q1, hq1⟩ : ∃ q1, mayF xs = q1 := ⟨_, rfl⟩
        obtain ⟨q2, hq2⟩ : ∃ q2, mayF ys = q2 := ⟨_, rfl⟩
        have CX := hide (printE_any (c := cx) (w := w8) HM8.out hBx8 hcx HF1.out.all1 HT8.out hgx8 hq1)
        have CPY := hide (fun (wa : World) (hb : Below w8.heap.size w8 wa) => printE_any (c := cy) (w := wa) (HN8.out.below (hb.mono (by omega))) (Nat.le_trans (by omega) hb.size) hcy HF2.out.all1 (HT8.out.go hb) hgy8 hq2)
        have CMX := hide (fun (wa : World) (hb : Below w8.heap.size w8 wa) => may_any (c := cx) (HM8.out.below (hb.mono hBx8)) (Nat.le_trans hBx8 hb.size) hcx HF1.out.all1 hq1)
        have CMY := hide (fun (wa : World) (hb : Below w8.heap.size w8 wa) => may_any (c := cy) (HN8.out.below (hb.mono (by omega))) (Nat.le_trans (by omega) hb.size) hcy HF2.out.all1 hq2)
        obtain ⟨s1, hs1⟩ : ∃ s1, decide (ts = xs) = s1 := ⟨_, rfl⟩
        obtain ⟨s2, hs2⟩ : ∃ s2, decide (ts = ys) = s2 := ⟨_, rfl⟩
        have hwX : w.heap.size ≤ Bx + 1 := by have := HXX.out; omega
        have hwY : w.heap.size ≤ By + 1 := by have := HXX.out; omega
        have CSX := hide (fun (wa : World) (hb : Below w8.heap.size w8 wa) => (show Calls Tryd.prog 18 #[.agg #[.slice A n c], .agg #[.slice (some ⟨gx, 0, none⟩) n cx]] wa fun e w' => e = .returned (.bool s1) ∧ Below wa.heap.size wa w' by rw [← hs1]; exact same_any (B := Bx + 1) ((HN.out.below (HB8.out.trans (hb.mono HB8.out.size))).more hwX) (HM8.out.below (hb.mono hBx8)) (Nat.le_trans hBx8 hb.size) HF.out HF1.out))
        have CSY := hide (fun (wa : World) (hb : Below w8.heap.size w8 wa) => (show Calls Tryd.prog 18 #[.agg #[.slice A n c], .agg #[.slice (some ⟨gy, 0, none⟩) n cy]] wa fun e w' => e = .returned (.bool s2) ∧ Below wa.heap.size wa w' by rw [← hs2]; exact same_any (B := By + 1) ((HN.out.below (HB8.out.trans (hb.mono HB8.out.size))).more hwY) (HN8.out.below (hb.mono (by omega))) (Nat.le_trans (by omega) hb.size) HF.out HF2.out))
        have H1 := hide (show s1 = (kd == x.kind) from by rw [← hs1, Bool.eq_iff_iff, decide_eq_true_iff, beq_iff_eq]; exact E1.out)
        have H2 := hide (show s2 = (nm.toList == x.name) from by rw [← hs2, Bool.eq_iff_iff, decide_eq_true_iff, beq_iff_eq]; exact E2.out)
        obtain ⟨b, o, x', sx, hA, hbB, hx', hC, _⟩ := (HN.out.below HB8.out).get hk
        obtain rfl : x = x' := Option.some.inj (HX.out.symm.trans hx')
        have hck := hC.k0
        have hcn := hC.k1
        rw [HXX.out] at hbB
        have hb8 : b < w8.heap.size := by omega
        clear hx' hC hq1 hq2 hs1 hs2 E1 E2 HF HF1 HF2 hgx8 hgy8 hwX hwY
        subst hA
        go_wp2_with fail
        refine CX.out.mono ?_
        rintro e9 w9 ⟨vx, ex, rfl, hex, hb9⟩
        have HB9 := hide hb9
        have y9 := (hb9.cell (p := ⟨X, 0, none⟩) hX8).trans y8
        have x9 := (hb9.cell (p := ⟨Bx, 0, none⟩) hB8).trans x8
        have z9 := (hb9.cell (p := ⟨By, 0, none⟩) hBy8).trans hc8
        have ck9 := (hb9.cell (p := ⟨b, o + k * 8, none⟩) hb8).trans hck
        have cn9 := (hb9.cell (p := ⟨b, o + k * 8 + 1, none⟩) hb8).trans hcn
        have CY := hide (CPY.out w9 HB9.out)
        clear hb9 y8 x8 hc8 hck hcn CX CPY
        go_wp2_with fail
        refine CY.out.mono ?_
        rintro ea wa ⟨vy, ey, rfl, hey, hba⟩
        have HBa := hide (HB9.out.trans (hba.mono HB9.out.size))
        have hXa : X < w9.heap.size := Nat.lt_of_lt_of_le hX8 HB9.out.size
        have hBa : Bx < w9.heap.size := Nat.lt_of_lt_of_le hB8 HB9.out.size
        have hYa : By < w9.heap.size := Nat.lt_of_lt_of_le hBy8 HB9.out.size
        have hba' : b < w9.heap.size := Nat.lt_of_lt_of_le hb8 HB9.out.size
        have ya := (hba.cell (p := ⟨X, 0, none⟩) hXa).trans y9
        have xa := (hba.cell (p := ⟨Bx, 0, none⟩) hBa).trans x9
        have za := (hba.cell (p := ⟨By, 0, none⟩) hYa).trans z9
        have cka := (hba.cell (p := ⟨b, o + k * 8, none⟩) hba').trans ck9
        have cna := (hba.cell (p := ⟨b, o + k * 8 + 1, none⟩) hba').trans cn9
        have HTa := hide (HT8.out.go HBa.out)
        clear hba y9 x9 z9 ck9 cn9 CY
        have H3 := hide (show (nm.toList == (⟨x.name.toArray⟩ : ByteArray).toList) = s2 by rw [bytes_list x.name]; exact H2.out.symm)
        have CFa := hide (first_any (w := wa.drew) HTa.out)
        have hbA : b < wa.heap.size := Nat.lt_of_lt_of_le hb8 HBa.out.size
        have hXA : X < wa.heap.size := Nat.lt_of_lt_of_le hX8 HBa.out.size
        have hBA : Bx < wa.heap.size := Nat.lt_of_lt_of_le hB8 HBa.out.size
        have hYA : By < wa.heap.size := Nat.lt_of_lt_of_le hBy8 HBa.out.size
        have HBW := hide (HB8.out.trans (HBa.out.mono HB8.out.size))
        have SW := HBW.out.size
        have SA := HBa.out.size
        obtain ⟨kv, hkv⟩ : ∃ kv, x.kind = kv := ⟨_, rfl⟩
        obtain ⟨nv, hnv⟩ : ∃ nv : ByteArray, (⟨x.name.toArray⟩ : ByteArray) = nv := ⟨_, rfl⟩
        rw [hnv] at cna H3
        rw [hkv] at cka H1
        have h1 := H1.out.symm
        have h3 := H3.out
        have D2 := hide (fun (wb : World) (hb : Below wa.heap.size wa wb) => CSX.out wb (HBa.out.trans (hb.mono SA)))
        have D3 := hide (fun (wb : World) (hb : Below wa.heap.size wa wb) => CSY.out wb (HBa.out.trans (hb.mono SA)))
        have D4 := hide (fun (wb : World) (hb : Below wa.heap.size wa wb) => CMX.out wb (HBa.out.trans (hb.mono SA)))
        have D5 := hide (fun (wb : World) (hb : Below wa.heap.size wa wb) => CMY.out wb (HBa.out.trans (hb.mono SA)))
        clear CSX CSY CMX CMY HTa HT8 HM8 HN8 H1 H2 H3 HX hkv hnv hXa hBa hYa hba' HB9 hX8 hB8 hBy8 hb8 hXB hXB2 hBx8
        go_wp2_with fail
        have z1 : (s1 == s1) = true := beq_self_eq_true s1
        have z2 : (s2 == s2) = true := beq_self_eq_true s2
        have z3 : ((!q1) == (!q1)) = true := beq_self_eq_true _
        have z4 : ((!q2) == (!q2)) = true := beq_self_eq_true _
        · go_region_held3 (fun w' => w'.cell? ⟨X, 0, none⟩ = some (.slice (some ⟨b, o, none⟩) n c) ∧ w'.cell? ⟨Bx, 0, none⟩ = some (.slice (some ⟨gx, 0, none⟩) n cx) ∧ w'.cell? ⟨By, 0, none⟩ = some (.slice (some ⟨gy, 0, none⟩) n cy) ∧ w'.cell? ⟨b, o + k * 8, none⟩ = some (.int .i64 kv) ∧ w'.cell? ⟨b, o + k * 8 + 1, none⟩ = some (.string nv))
            (first | (exact ⟨ya, xa, za, cka, cna⟩) | (exact ⟨(HD1.out.cell (p := ⟨X, 0, none⟩) hXA).trans ya, (HD1.out.cell (p := ⟨Bx, 0, none⟩) hBA).trans xa, (HD1.out.cell (p := ⟨By, 0, none⟩) hYA).trans za, (HD1.out.cell (p := ⟨b, o + k * 8, none⟩) hbA).trans cka, (HD1.out.cell (p := ⟨b, o + k * 8 + 1, none⟩) hbA).trans cna⟩) | (exact ⟨(HD2.out.cell (p := ⟨X, 0, none⟩) hXA).trans ya, (HD2.out.cell (p := ⟨Bx, 0, none⟩) hBA).trans xa, (HD2.out.cell (p := ⟨By, 0, none⟩) hYA).trans za, (HD2.out.cell (p := ⟨b, o + k * 8, none⟩) hbA).trans cka, (HD2.out.cell (p := ⟨b, o + k * 8 + 1, none⟩) hbA).trans cna⟩) | (exact ⟨(HD3.out.cell (p := ⟨X, 0, none⟩) hXA).trans ya, (HD3.out.cell (p := ⟨Bx, 0, none⟩) hBA).trans xa, (HD3.out.cell (p := ⟨By, 0, none⟩) hYA).trans za, (HD3.out.cell (p := ⟨b, o + k * 8, none⟩) hbA).trans cka, (HD3.out.cell (p := ⟨b, o + k * 8 + 1, none⟩) hbA).trans cna⟩) | (exact ⟨(HD4.out.cell (p := ⟨X, 0, none⟩) hXA).trans ya, (HD4.out.cell (p := ⟨Bx, 0, none⟩) hBA).trans xa, (HD4.out.cell (p := ⟨By, 0, none⟩) hYA).trans za, (HD4.out.cell (p := ⟨b, o + k * 8, none⟩) hbA).trans cka, (HD4.out.cell (p := ⟨b, o + k * 8 + 1, none⟩) hbA).trans cna⟩) | (exact ⟨(HD5.out.cell (p := ⟨X, 0, none⟩) hXA).trans ya, (HD5.out.cell (p := ⟨Bx, 0, none⟩) hBA).trans xa, (HD5.out.cell (p := ⟨By, 0, none⟩) hYA).trans za, (HD5.out.cell (p := ⟨b, o + k * 8, none⟩) hbA).trans cka, (HD5.out.cell (p := ⟨b, o + k * 8 + 1, none⟩) hbA).trans cna⟩) | go_keep)
            (first | (go_at_call 9; go_split_ands; (with_reducible refine CFa.out.mono ?_); rintro eb wb ⟨rfl, hbb⟩; have HD1 := hide (show Below wa.heap.size wa wb from ⟨hbb.os, hbb.tape, hbb.output, hbb.size, hbb.block⟩); clear hbb) | (go_at_call 18; go_split_ands; (with_reducible refine (D2.out wb HD1.out).mono ?_); rintro ec wc ⟨rfl, hbc⟩; have HD2 := hide (HD1.out.trans (hbc.mono HD1.out.size)); clear hbc) | (go_at_call 18; go_split_ands; (with_reducible refine (D3.out wc HD2.out).mono ?_); rintro ed wd ⟨rfl, hbd⟩; have HD3 := hide (HD2.out.trans (hbd.mono HD2.out.size)); clear hbd) | (go_at_call 11; go_split_ands; (with_reducible refine (D4.out wd HD3.out).mono ?_); rintro ee we ⟨rfl, hbe⟩; have HD4 := hide (HD3.out.trans (hbe.mono HD3.out.size)); clear hbe) | (go_at_call 11; go_split_ands; (with_reducible refine (D5.out we HD4.out).mono ?_); rintro ef wf ⟨rfl, hbf⟩; have HD5 := hide (HD4.out.trans (hbf.mono HD4.out.size)); clear hbf))
          go_wp2_with fail
          go_ret
          exact ⟨rfl, HBW.out.trans (HD5.out.mono SW)⟩
end Go.Proofs.YtelcjdblnagdgaaDoor

namespace Go.Proofs.YtelcjdblnagdgaaDoor.lawTreeTurns
open Go.ChangeShapes Go.WideShapes Go.ChangeAt Go.RowKit

set_option maxRecDepth 1000000 in
theorem contract (H : Type) (enc : TypeId × Value → H) (W : World) (base : Nat) (args : Array Value) (ds gs : List (DataW H)) (before : List MemPlace)
    (hval : ∀ (j : Nat) t v, Tryd.f8.params[j]? = some t → args[j]? = some v → Value.okWide Tryd.prog W .any base t v)
    (hW : DataW.Whole enc Tryd.prog Tryd.f8.params.toList Rows.treeTurnsSpec.vars false W args.toList ds gs before) (hL : laidMetH Tryd.prog Rows.treeTurnsRow.laid W) :
    Calls Tryd.prog 8 args W fun e W' => ∃ v, e = .returned v ∧ Rows.treeTurnsSpec.post enc Tryd.prog Tryd.f8 false true false false W args v W' := by
  have hW' := hW
  obtain ⟨p, q, hA0, hV, rfl, hfz, hnd⟩ := hW
  have hA : DataW.TrodAll enc Tryd.prog W 0 (fun _ => true) true Tryd.f8.params.toList args.toList ds p := hA0
  rw [Tryd.params8] at hA hval
  have hA1 := hA
  obtain ⟨v0, vs0, d0, ds0, p0, q0, hargs, rfl, rfl, h0, r0⟩ := trodAll_cons hA
  obtain ⟨v1, vs1, d1, ds1, p1, q1, rfl, rfl, rfl, h1, r1⟩ := trodAll_cons r0
  obtain ⟨v2, vs2, d2, ds2, p2, q2, rfl, rfl, rfl, h2, r2⟩ := trodAll_cons r1
  obtain ⟨v3, vs3, d3, ds3, p3, q3, rfl, rfl, rfl, h3, r3⟩ := trodAll_cons r2
  obtain ⟨rfl, rfl, rfl⟩ := trodAll_nil r3
  obtain rfl : args = #[v0, v1, v2, v3] := by cases args; simp_all
  obtain ⟨rfl, rfl⟩ := trodVars_none hV
  obtain ⟨A0, n0, c0, x0, rfl, hc0, hm0, hr0⟩ := param_tree (hval 0 24 v0 rfl rfl) h0
  obtain ⟨x1, hx1, hd1, hp1, hs1⟩ := open_int Tryd.underlying3 (hval 1 3 v1 rfl rfl) h1
  subst hx1
  obtain ⟨x2, hx2, hd2, hp2, hs2⟩ := open_int Tryd.underlying3 (hval 2 3 v2 rfl rfl) h2
  subst hx2
  obtain ⟨x3, hx3, hd3, hp3, hs3⟩ := Go.ChangeMaps.open_string Tryd.underlying9 (hval 3 9 v3 rfl rfl) h3
  subst hx3
  clear hA0
  have hlt := hW'.lt
  refine (treeTurns_law A0 n0 c0 x0 hc0 hm0 x1 (bounds_i64 hs1) x2 (bounds_i64 hs2) x3 hs3 W hr0 (tab_laid hL)).mono fun e W' ⟨he, hb⟩ => ?_
  subst he
  exact ⟨_, rfl, post_of_below (pv := []) hW' (fun _ _ _ => trodAll_cons_mk (shut_bool Tryd.underlying4 _) trodAll_mk0)
    (fun sp hsp => by
      rw [Tryd.params8]
      exact trodAll_stays (fun t ht => by
        have : t ∈ [24, 3, 3, 9] := ht
        simp only [List.mem_cons, List.mem_nil_iff, or_false] at this
        rcases this with rfl | rfl | rfl | rfl <;> exact ⟨by kernel_rfl, of_decide_eq_true (by kernel_rfl)⟩) hA1 hb (fun x hx => hlt x (by simpa using hx)) (fun x hx => hsp x (by simpa using hx)))
    (fun _ _ => rfl) rfl hb (ok_one (by kernel_rfl) rfl (okWide_bool_mk Tryd.underlying4 _))⟩

theorem laid_met (os : Os) : laidMet Tryd.prog Rows.treeTurnsRow.laid ((laidWorld os).forCall (fun _ _ => 0) ⟨#[], #[.agg #[.slice none 0 0], .int .i64 0, .int .i64 0, .string ⟨#[]⟩], []⟩).memory :=
  laidMet_of_run' 8 (by kernel_rfl) (by kernel_rfl)
theorem reads (os : Os) {H : Type} (enc : TypeId × Value → H) : ∃ places, DataW.whole enc Tryd.prog ((laidWorld os).forCall (fun _ _ => 0) ⟨#[], #[.agg #[.slice none 0 0], .int .i64 0, .int .i64 0, .string ⟨#[]⟩], []⟩).memory Tryd.f8.params.toList Rows.treeTurnsSpec.vars false (#[.agg #[.slice none 0 0], .int .i64 0, .int .i64 0, .string ⟨#[]⟩] : Array Value).toList 8 = some ([.agg [.nil], .lit (.int .i64 0), .lit (.int .i64 0), .lit (.string [])], [], places) :=
  ⟨[], by kernel_rfl⟩

set_option maxRecDepth 100000 in
theorem lifted (os : Os) (started : os.Started) (H : Type) (enc : TypeId × Value → H) (F : Stop.Interp) :
    ReturnsInHanded {} Tryd.checked os 8 .any ((OpenSpec.ofChange Rows.treeTurnsSpec).preRow enc Tryd.prog Tryd.f8 Rows.treeTurnsRow.domain false Rows.treeTurnsRow.laid) (((OpenSpec.ofChange Rows.treeTurnsSpec).at F).post enc Tryd.prog Tryd.f8 false true false false) := by
  obtain ⟨places, hx⟩ := reads os enc
  refine returnsInHanded_of_row (C := Tryd.checked) (s := OpenSpec.ofChange Rows.treeTurnsSpec) own started (by kernel_rfl) Tryd.func8
    (witness_row_at (enc := enc) (C := Tryd.checked) false (laidWorld os) #[.agg #[.slice none 0 0], .int .i64 0, .int .i64 0, .string ⟨#[]⟩] rfl (by kernel_rfl) (by kernel_rfl) (by kernel_rfl)
      (OpenSpec.preRow_of_cond 8 hx (by kernel_rfl) (fun k hk => by cases hk) (by kernel_rfl) (laid_met os))) ?_
  intro W base args ds gs before hval hW _ _ _ hL _ _
  exact contract H enc W base args ds gs before hval hW hL

theorem said : Rows.TreeTurnsSaid :=
  OpenClaim.holds_of_cond 8 Tryd.f8 rfl rfl rfl rfl rfl rfl rfl ⟨rfl, rfl, rfl, rfl, rfl⟩ rfl rfl rfl rfl rfl (by kernel_rfl) Tryd.func8 (by kernel_rfl)
    (of_decide_eq_true (by kernel_rfl)) (by unfold Func.isWrapper; first | (rw [if_pos (by decide +kernel)]; kernel_rfl) | (rw [if_neg (by decide +kernel)]; exact ⟨rfl, rfl⟩))
    (fun os started H enc _ F => by rw [OpenClaim.pre_eq_preRow]; exact lifted os started H enc F)

theorem plain (f : FuncId) (fn : Func) (hf : Tryd.pinned.checked.prog.funcNamed "rendezvous/renlaw6.TreeTurns" = some f) (hfn : Tryd.pinned.checked.prog.funcs[f]? = some fn) :
    false = Tryd.pinned.checked.prog.looks [] ∧ ∀ (j : Nat) t, fn.params[j]? = some t → Tryd.pinned.checked.prog.wantsStandIn t = false := by
  obtain rfl : f = 8 := Option.some.inj ((show Tryd.prog.funcNamed "rendezvous/renlaw6.TreeTurns" = some 8 by kernel_rfl).symm.trans hf) |>.symm
  obtain rfl : fn = Tryd.f8 := (Option.some.inj (Tryd.func8.symm.trans hfn)).symm
  refine ⟨by kernel_rfl, fun j t ht => ?_⟩
  rw [Tryd.params8] at ht
  have hin : t ∈ [24, 3, 3, 9] := Array.mem_toList_iff.2 (Array.mem_of_getElem? ht)
  have hall : ([24, 3, 3, 9].all fun u => !Tryd.pinned.checked.prog.wantsStandIn u) = true := by kernel_rfl
  simpa using List.all_eq_true.1 hall t hin

/-- The card. -/
theorem card : Rows.TreeTurnsCardSaid :=
  Claim7.holds_tied_plain_at .later [] _ _ _ _ said (fun _ h => by cases h) (by kernel_rfl) (fun _ h => by cases h) treeTurns_row_tie rfl ⟨rfl, rfl⟩ (by kernel_rfl) rfl plain (by kernel_rfl)
end Go.Proofs.YtelcjdblnagdgaaDoor.lawTreeTurns
