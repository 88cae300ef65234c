/- Joined for a claim: Eq, TEqs, TFirst, PFew, TFew, TNodeEq, FrameT. -/
import Derived.Test.YtelcjdblnagdgaaDoorM16
import Derived.Test.YtelcjdblnagdgaaDoorM01
import Derived.Test.YtelcjdblnagdgaaDoorM09
import Derived.Test.YtelcjdblnagdgaaDoorM04
import Derived.Test.YtelcjdblnagdgaaDoorM15
import Derived.Test.YtelcjdblnagdgaaDoorM02
import Derived.Test.YtelcjdblnagdgaaDoorM10
import Derived.Deep.CutBlock
import Derived.Deep.DeepCutAuto
import Derived.Test.YtelcjdblnagdgaaDoorCards
import Derived.Test.YtelcjdblnagdgaaDoorTie
import Derived.ProofKit
import Derived.OpenShut
import Derived.Deep.DeepHandedRow
import Derived.Lib.LaidTab
namespace Go.Proofs.YtelcjdblnagdgaaDoor
open Go.RowKit

set_option maxHeartbeats 400000 in
theorem runits_any {A A' : Option Addr} {c d B : Nat} {xs ys : List UInt16} {w : World} (hB : B ≤ w.heap.size) (ha : Reads w B 1 A xs.length (u16s xs)) (hb : Reads w B 1 A' ys.length (u16s ys)) (hl : xs.length ≤ 70368744177664) (hl2 : ys.length ≤ 70368744177664) :
    Calls Tryd.prog 17 #[.slice A xs.length c, .slice A' ys.length d] w fun e w' => e = .returned (.bool (decide (xs = ys))) ∧ Below w.heap.size w w' := by
  by_cases hne : xs.length = ys.length
  · have H := hide hne
    clear hne
    have e1 : ((xs.length : Int) == (ys.length : Int)) = true := by rw [H.out]; simp
    have e2 : ((xs.length : Int) != (ys.length : Int)) = false := by rw [H.out]; simp
    go_enter Tryd.func17, Tryd.ntmps17
    go_wp2
    go_loopw [5] (fun i wr => ∃ k : Nat, k ≤ xs.length ∧ i = .int .i64 k ∧ xs.take k = ys.take k ∧ Below w.heap.size w wr) (fun i _ => xs.length - (intOf i).toNat)
    case atStart => exact ⟨0, Nat.zero_le _, rfl, by simp, Below.refl _ _⟩
    case round =>
      obtain ⟨k, hk, rfl, htk, hnx⟩ := hrel
      have HT := hide htk
      clear htk
      by_cases hlt : k < xs.length
      · have hlt2 : k < ys.length := by have := H.out; omega
        obtain ⟨ad, rfl, _, hca⟩ := (ha.below (hnx.mono hB)).u16 hlt
        obtain ⟨ad', rfl, _, hcb⟩ := (hb.below (hnx.mono hB)).u16 hlt2
        have h3 : (k : Int) < (xs.length : Int) := by omega
        have h4 : (k : Int) < (ys.length : Int) := by omega
        go_wp2
        go_quiet (fail)
        go_wp2
        · go_ret
          refine ⟨ret_bool ?_, below_drewN hnx _⟩
          have hne : (xs[k].toNat : Int) ≠ ys[k].toNat := by have h : ((xs[k].toNat : Int) != ys[k].toNat) = true := by assumption
                                                             simpa using h
          refine (decide_eq_false ?_).symm
          rintro rfl
          exact hne rfl
        · go_roundw
          case rel =>
            have h : ((xs[k].toNat : Int) != ys[k].toNat) = false := by assumption
            have h' : xs[k] = ys[k] := by
              apply UInt16.toNat_inj.1
              simp at h
              omega
            exact ⟨k + 1, by omega, by go_num, by rw [List.take_succ_eq_append_getElem hlt, List.take_succ_eq_append_getElem hlt2, HT.out, h'], below_drewN hnx _⟩
          case measure => simp [intOf]; omega
      · go_wp2
        go_ret
        refine ⟨ret_bool ?_, hnx⟩
        have hkk : k = xs.length := by omega
        refine (decide_eq_true ?_).symm
        have h1 := HT.out
        rw [List.take_of_length_le (by omega), List.take_of_length_le (by rw [← H.out]; omega)] at h1
        exact h1
  · have e1 : ((xs.length : Int) != (ys.length : Int)) = true := by simp; omega
    go_enter Tryd.func17, Tryd.ntmps17
    go_wp2
    go_ret
    refine ⟨ret_bool (decide_eq_false ?_).symm, Below.refl _ _⟩
    rintro rfl
    exact hne rfl
end Go.Proofs.YtelcjdblnagdgaaDoor

namespace Go.Proofs.YtelcjdblnagdgaaDoor
open Go.RowKit

set_option maxHeartbeats 400000 in
theorem rints_any {A A' : Option Addr} {c d B : Nat} {xs ys : List Int} {w : World} (hB : B ≤ w.heap.size) (ha : Reads w B 1 A xs.length (i64s xs)) (hb : Reads w B 1 A' ys.length (i64s ys)) (hl : xs.length ≤ 70368744177664) (hl2 : ys.length ≤ 70368744177664) :
    Calls Tryd.prog 22 #[.slice A xs.length c, .slice A' ys.length d] w fun e w' => e = .returned (.bool (decide (xs = ys))) ∧ Below w.heap.size w w' := by
  by_cases hne : xs.length = ys.length
  · have H := hide hne
    clear hne
    have e1 : ((xs.length : Int) == (ys.length : Int)) = true := by rw [H.out]; simp
    have e2 : ((xs.length : Int) != (ys.length : Int)) = false := by rw [H.out]; simp
    go_enter Tryd.func22, Tryd.ntmps22
    go_wp2
    go_loopw [5] (fun i wr => ∃ k : Nat, k ≤ xs.length ∧ i = .int .i64 k ∧ xs.take k = ys.take k ∧ Below w.heap.size w wr) (fun i _ => xs.length - (intOf i).toNat)
    case atStart => exact ⟨0, Nat.zero_le _, rfl, by simp, Below.refl _ _⟩
    case round =>
      obtain ⟨k, hk, rfl, htk, hnx⟩ := hrel
      have HT := hide htk
      clear htk
      by_cases hlt : k < xs.length
      · have hlt2 : k < ys.length := by have := H.out; omega
        obtain ⟨ba, oa, rfl, _, hca1⟩ := (ha.below (hnx.mono hB)).spotR (by omega)
        have hca := hca1 k ((.int .i64 xs[k])) (by simp [i64s, List.getElem?_eq_getElem hlt])
        obtain ⟨bb, ob, rfl, _, hcb1⟩ := (hb.below (hnx.mono hB)).spotR (by omega)
        have hcb := hcb1 k ((.int .i64 ys[k])) (by simp [i64s, List.getElem?_eq_getElem hlt2])
        obtain ⟨xk, hxk⟩ : ∃ z, xs[k] = z := ⟨_, rfl⟩
        obtain ⟨yk, hyk⟩ : ∃ z, ys[k] = z := ⟨_, rfl⟩
        rw [hxk] at hca
        rw [hyk] at hcb
        have HXK := hide hxk
        have HYK := hide hyk
        clear hca1 hcb1 hxk hyk
        have h3 : (k : Int) < (xs.length : Int) := by omega
        have h4 : (k : Int) < (ys.length : Int) := by omega
        go_wp2
        go_quiet (fail)
        go_wp2
        · go_ret
          refine ⟨ret_bool ?_, below_drewN hnx _⟩
          have hne : ¬ (xk = yk) := by
            have h : (xk != yk) = true := by assumption
            simpa using h
          refine (decide_eq_false ?_).symm
          rintro rfl
          exact hne (by rw [← HXK.out, ← HYK.out])
        · go_roundw
          case rel =>
            have h : (xk != yk) = false := by assumption
            have h' : xs[k] = ys[k] := by
              rw [HXK.out, HYK.out]
              simp at h
              omega
            exact ⟨k + 1, by omega, by go_num, by rw [List.take_succ_eq_append_getElem hlt, List.take_succ_eq_append_getElem hlt2, HT.out, h'], below_drewN hnx _⟩
          case measure => simp [intOf]; omega
      · go_wp2
        go_ret
        refine ⟨ret_bool ?_, hnx⟩
        have hkk : k = xs.length := by omega
        refine (decide_eq_true ?_).symm
        have h1 := HT.out
        rw [List.take_of_length_le (by omega), List.take_of_length_le (by rw [← H.out]; omega)] at h1
        exact h1
  · have e1 : ((xs.length : Int) != (ys.length : Int)) = true := by simp; omega
    go_enter Tryd.func22, Tryd.ntmps22
    go_wp2
    go_ret
    refine ⟨ret_bool (decide_eq_false ?_).symm, Below.refl _ _⟩
    rintro rfl
    exact hne rfl
set_option maxHeartbeats 400000 in
theorem rlimbs_any {A A' : Option Addr} {c d B : Nat} {xs ys : List Nat} {w : World} (hB : B ≤ w.heap.size) (ha : Reads w B 1 A xs.length (n32s xs)) (hb : Reads w B 1 A' ys.length (n32s ys)) (hl : xs.length ≤ 70368744177664) (hl2 : ys.length ≤ 70368744177664) :
    Calls Tryd.prog 72 #[.slice A xs.length c, .slice A' ys.length d] w fun e w' => e = .returned (.bool (decide (xs = ys))) ∧ Below w.heap.size w w' := by
  by_cases hne : xs.length = ys.length
  · have H := hide hne
    clear hne
    have e1 : ((xs.length : Int) == (ys.length : Int)) = true := by rw [H.out]; simp
    have e2 : ((xs.length : Int) != (ys.length : Int)) = false := by rw [H.out]; simp
    go_enter Tryd.func72, Tryd.ntmps72
    go_wp2
    go_loopw [5] (fun i wr => ∃ k : Nat, k ≤ xs.length ∧ i = .int .i64 k ∧ xs.take k = ys.take k ∧ Below w.heap.size w wr) (fun i _ => xs.length - (intOf i).toNat)
    case atStart => exact ⟨0, Nat.zero_le _, rfl, by simp, Below.refl _ _⟩
    case round =>
      obtain ⟨k, hk, rfl, htk, hnx⟩ := hrel
      have HT := hide htk
      clear htk
      by_cases hlt : k < xs.length
      · have hlt2 : k < ys.length := by have := H.out; omega
        obtain ⟨ba, oa, rfl, _, hca1⟩ := (ha.below (hnx.mono hB)).spotR (by omega)
        have hca := hca1 k ((.int .u32 xs[k])) (by simp [n32s, List.getElem?_eq_getElem hlt])
        obtain ⟨bb, ob, rfl, _, hcb1⟩ := (hb.below (hnx.mono hB)).spotR (by omega)
        have hcb := hcb1 k ((.int .u32 ys[k])) (by simp [n32s, List.getElem?_eq_getElem hlt2])
        obtain ⟨xk, hxk⟩ : ∃ z, xs[k] = z := ⟨_, rfl⟩
        obtain ⟨yk, hyk⟩ : ∃ z, ys[k] = z := ⟨_, rfl⟩
        rw [hxk] at hca
        rw [hyk] at hcb
        have HXK := hide hxk
        have HYK := hide hyk
        clear hca1 hcb1 hxk hyk
        have h3 : (k : Int) < (xs.length : Int) := by omega
        have h4 : (k : Int) < (ys.length : Int) := by omega
        go_wp2
        go_quiet (fail)
        go_wp2
        · go_ret
          refine ⟨ret_bool ?_, below_drewN hnx _⟩
          have hne : ¬ ((xk : Int) = (yk : Int)) := by
            have h : ((xk : Int) != (yk : Int)) = true := by assumption
            simpa using h
          refine (decide_eq_false ?_).symm
          rintro rfl
          exact hne (by rw [← HXK.out, ← HYK.out])
        · go_roundw
          case rel =>
            have h : ((xk : Int) != (yk : Int)) = false := by assumption
            have h' : xs[k] = ys[k] := by
              rw [HXK.out, HYK.out]
              simp at h
              omega
            exact ⟨k + 1, by omega, by go_num, by rw [List.take_succ_eq_append_getElem hlt, List.take_succ_eq_append_getElem hlt2, HT.out, h'], below_drewN hnx _⟩
          case measure => simp [intOf]; omega
      · go_wp2
        go_ret
        refine ⟨ret_bool ?_, hnx⟩
        have hkk : k = xs.length := by omega
        refine (decide_eq_true ?_).symm
        have h1 := HT.out
        rw [List.take_of_length_le (by omega), List.take_of_length_le (by rw [← H.out]; omega)] at h1
        exact h1
  · have e1 : ((xs.length : Int) != (ys.length : Int)) = true := by simp; omega
    go_enter Tryd.func72, Tryd.ntmps72
    go_wp2
    go_ret
    refine ⟨ret_bool (decide_eq_false ?_).symm, Below.refl _ _⟩
    rintro rfl
    exact hne rfl
end Go.Proofs.YtelcjdblnagdgaaDoor

namespace Go.Proofs.YtelcjdblnagdgaaDoor
open Go.RowKit

theorem bstep {a b c : World} (h : Below a.heap.size a b) (k : Below b.heap.size b c) : Below a.heap.size a c := h.trans (k.mono h.size)
theorem Tab.go {w w' : World} (h : Tab w) (hb : Below w.heap.size w w') : Tab w' := h.below h.lt hb
theorem NdsR.go {w w' : World} {A : Option Addr} {n : Nat} {ts : List Nd} (h : NdsR w w.heap.size A n ts) (hb : Below w.heap.size w w') : NdsR w' w.heap.size A n ts := h.below hb
theorem units_is {A A' : Option Addr} {c d B n m : Nat} {xs ys : List UInt16} {w : World} (hB : B ≤ w.heap.size) (hn : xs.length = n) (hm : ys.length = m) (ha : Reads w B 1 A n (u16s xs)) (hb : Reads w B 1 A' m (u16s ys)) (hl : n ≤ 70368744177664) (hl2 : m ≤ 70368744177664) {r : Bool} (hr : decide (xs = ys) = r) :
    Calls Tryd.prog 17 #[.slice A n c, .slice A' m d] w fun e w' => e = .returned (.bool r) ∧ Below w.heap.size w w' := by
  subst hn hm hr
  exact runits_any hB ha hb hl hl2
theorem ints_is {A A' : Option Addr} {c d B n m : Nat} {xs ys : List Int} {w : World} (hB : B ≤ w.heap.size) (hn : xs.length = n) (hm : ys.length = m) (ha : Reads w B 1 A n (i64s xs)) (hb : Reads w B 1 A' m (i64s ys)) (hl : n ≤ 70368744177664) (hl2 : m ≤ 70368744177664) {r : Bool} (hr : decide (xs = ys) = r) :
    Calls Tryd.prog 22 #[.slice A n c, .slice A' m d] w fun e w' => e = .returned (.bool r) ∧ Below w.heap.size w w' := by
  subst hn hm hr
  exact rints_any hB ha hb hl hl2
theorem asc_lit (s : ByteArray) (l : List UInt16) (n : Nat) (hs : ascii s.data.toList = l) (hn : l.length = n) (hl : s.size ≤ 4096) (w : World) :
    Calls Tryd.prog 21 #[.string s] w fun e w' => ∃ A c, e = .returned (.slice A n c) ∧ Reads w' w'.heap.size 1 A n (u16s l) ∧ n ≤ c ∧ c ≤ maxLen ∧ Below w.heap.size w w' := by
  subst hn
  refine (ascii_any s w (by omega)).mono ?_
  rintro e w' ⟨v, rfl, hm⟩
  rw [hs] at hm
  obtain ⟨A, c, rfl, h1, h2, hr⟩ := hm.u16
  exact ⟨A, c, rfl, hr, h1, h2, hm.below⟩
theorem print_is {A : Option Addr} {c B n m : Nat} {ts : List Nd} {t : Tr} {u : List UInt16} {w : World} (hN : NdsR w B A n ts) (hB : B ≤ w.heap.size) (hc : n ≤ c) (ht : (kidsAll ts).length ≤ 1000000) (hT : Tab w) (hgB : 0 < B) (hM : May ts t) (hu : printF t = u) (hm : u.length = m) (hl : m ≤ 4096) :
    Calls Tryd.prog 14 #[.agg #[.slice A n c]] w fun e w' => ∃ A' c', e = .returned (.tuple #[.slice A' m c', .int .i64 0]) ∧ Reads w' w'.heap.size 1 A' m (u16s u) ∧ m ≤ c' ∧ c' ≤ maxLen ∧ Below w.heap.size w w' := by
  subst hu hm
  refine (print_yes hN hB hc ht hT hgB hM (may_put hM hN.limbs)).mono ?_
  rintro e w' ⟨hb, ⟨h1, _⟩ | ⟨_, v, rfl, hm⟩⟩
  · omega
  · obtain ⟨A', c', rfl, h1, h2, hr⟩ := hm.u16
    exact ⟨A', c', rfl, hr, h1, h2, hb⟩
set_option maxHeartbeats 4000000 in
set_option maxRecDepth 100000 in
theorem first_any {w : World} (hT : Tab w) : Calls Tryd.prog 9 #[] w fun e w' => e = .returned (.bool true) ∧ Below w.heap.size w w' := by
  have HT := hide hT
  clear hT
  go_enter Tryd.func9, Tryd.ntmps9
  go_wp2_with fail
  refine (sum_any w).mono ?_
  rintro e w1 ⟨A1, rfl, hN1, hb1⟩
  have HT1 := hide (HT.out.go hb1)
  have C1 := hide (print_is (c := 5) hN1 (Nat.le_refl _) (by omega) (by decide) HT1.out HT1.out.lt sum_tree sum_print rfl (m := 11) (by omega))
  have HB1 := hide hb1
  clear hN1 hb1
  go_wp2_with fail
  refine C1.out.mono ?_
  rintro e w2 ⟨A2, c2, rfl, hr2, hl2, hm2, hb2⟩
  have HR2 := hide hr2
  have HB2 := hide (bstep HB1.out hb2)
  have HT2 := hide (HT1.out.go hb2)
  have C2 := hide (print_no (c := 0) (A := none) (B := w2.heap.size) (w := w2) (NdsR.nil rfl) (Nat.le_refl _) (by omega) (by decide) (show mayF [] = false by decide))
  clear hr2 hl2 hm2 hb2
  go_wp2_with fail
  refine C2.out.mono ?_
  rintro e w3 ⟨rfl, hb3⟩
  have HR3 := hide (HR2.out.below hb3)
  have HS3 := hide hb3.size
  have HB3 := hide (bstep HB2.out hb3)
  have HT3 := hide (HT2.out.go hb3)
  clear hb3 HR2 C2
  go_wp2_with fail
  refine (asc_lit _ [40, 32, 49, 32, 43, 32, 97, 32, 41, 32, 59] 11 rfl rfl (by decide) w3).mono ?_
  rintro e w4 ⟨A4, c4, rfl, hr4, hl4, hm4, hb4⟩
  have HB4 := hide (bstep HB3.out hb4)
  have HT4 := hide (HT3.out.go hb4)
  have C4 := hide (units_is (c := c2) (d := c4) (n := 11) (m := 11) (Nat.le_refl _) rfl rfl ((HR3.out.below (hb4.mono HS3.out)).more (Nat.le_trans HS3.out hb4.size)) hr4 (by decide) (by decide) (r := true) rfl)
  clear hr4 hl4 hm4 hb4
  go_wp2_with fail
  refine C4.out.mono ?_
  rintro e w5 ⟨rfl, hb5⟩
  have HB5 := hide (bstep HB4.out hb5)
  have HT5 := hide (HT4.out.go hb5)
  clear hb5
  go_wp2_with fail
  refine (sum_any w5).mono ?_
  rintro e w6 ⟨A6, rfl, hN6, hb6⟩
  have C6 := hide (may_any (c := 5) hN6 (Nat.le_refl _) (by omega) (by decide) sum_may)
  have HB6 := hide (bstep HB5.out hb6)
  clear hN6 hb6
  go_wp2_with fail
  refine C6.out.mono ?_
  rintro e w7 ⟨rfl, hb7⟩
  have HB7 := hide (bstep HB6.out hb7)
  clear hb7
  go_wp2_with fail
  refine (sum_any w7).mono ?_
  rintro e w8 ⟨A8, rfl, hN8, hb8⟩
  have C8 := hide (nest_yes (c := 5) hN8 (Nat.le_refl _) (by omega) (by decide) sum_may (by omega) (by omega) (fwd_order (by decide +kernel)) sum_nest)
  have HB8 := hide (bstep HB7.out hb8)
  clear hN8 hb8
  go_wp2_with fail
  refine C8.out.mono ?_
  rintro e w9 ⟨rfl, hb9⟩
  have HB9 := hide (bstep HB8.out hb9)
  clear hb9
  go_wp2_with fail
  refine (sum_any w9).mono ?_
  rintro e wa ⟨Aa, rfl, hNa, hba⟩
  have Ca := hide (tkids_in (c := 5) (k := 2) (x := { noNd with kind := 46, name := [43], kids := [3, 4] }) hNa (Nat.le_refl _) (by omega) rfl (by decide))
  have HBa := hide (bstep HB9.out hba)
  clear hNa hba
  go_wp2_with fail
  refine Ca.out.mono ?_
  rintro e wb ⟨v, rfl, hmb⟩
  have HBb := hide (bstep HBa.out hmb.below)
  obtain ⟨A, c, rfl, _, _⟩ := own_shape hmb.own
  have HRb := hide (show Reads wb wb.heap.size 1 A 2 (i64s [3, 4]) from Reads.of_own hmb.own)
  clear hmb
  go_wp2_with fail
  refine (ints_is (w := wb.alloc (.cells #[.int .i64 3, .int .i64 4] 3)) (B := wb.heap.size + 1) (by simp) rfl rfl (xs := [3, 4]) (ys := [3, 4]) ((HRb.out.alloc (Nat.le_refl _) _).more (by simp)) (reads_at wb 3 [.int .i64 3, .int .i64 4] 2 _ rfl rfl (by decide)) (by decide) (by decide) (r := true) rfl).mono ?_
  rintro e wc ⟨rfl, hbc⟩
  go_wp2_with fail
  go_ret
  exact ⟨rfl, bstep HBb.out (bstep ((Below.refl _ _).alloc (Nat.le_refl _) _) hbc)⟩
end Go.Proofs.YtelcjdblnagdgaaDoor

namespace Go.Proofs.YtelcjdblnagdgaaDoor

/-- how many units, limbs, kids and bytes of names nodes have, and one a node -/
def wsum : List Nd → Nat
  | [] => 0
  | x :: r => 1 + x.str.length + x.mag.length + x.kids.length + x.name.length + wsum r
theorem wsum_app (a b : List Nd) : wsum (a ++ b) = wsum a + wsum b := by
  induction a with
  | nil => simp [wsum]
  | cons x r ih => simp only [List.cons_append, wsum, ih]; omega
theorem wsum_step {ts : List Nd} {k : Nat} {x : Nd} (h : ts[k]? = some x) : wsum (ts.take (k + 1)) = wsum (ts.take k) + (1 + x.str.length + x.mag.length + x.kids.length + x.name.length) := by
  obtain ⟨hl, rfl⟩ := List.getElem?_eq_some_iff.1 h
  rw [List.take_succ_eq_append_getElem hl, wsum_app]
  simp [wsum]
theorem wsum_mem {ts : List Nd} {x : Nd} (h : x ∈ ts) : x.str.length + x.mag.length + x.kids.length + x.name.length ≤ wsum ts := by
  induction ts with
  | nil => cases h
  | cons y r ih =>
    rcases List.mem_cons.1 h with rfl | h
    · simp only [wsum]; omega
    · have := ih h; simp only [wsum]; omega
theorem wsum_kids (ts : List Nd) : (kidsAll ts).length + ts.length ≤ wsum ts := by
  induction ts with
  | nil => exact Nat.le_refl _
  | cons x r ih => rw [kidsAll_cons, List.length_append, List.length_cons]; simp only [wsum]; omega
/-- few and small nodes -/
structure FewP (ts : List Nd) : Prop where
  len : ts.length ≤ 20000
  all : (kidsAll ts).length ≤ 20000
  each : ∀ x ∈ ts, x.str.length ≤ 20000 ∧ x.mag.length ≤ 20000 ∧ x.kids.length ≤ 20000 ∧ x.name.length ≤ 20000
theorem few_of {ts : List Nd} (h : wsum ts ≤ 20000) : FewP ts := by
  have h1 := wsum_kids ts
  refine ⟨by omega, by omega, fun x hx => ?_⟩
  have := wsum_mem hx
  omega
/-- how far the weighing is: a is the sum of the first k nodes, as long as it is small -/
def WgtAt (ts : List Nd) (k : Nat) (a : Nat) : Prop := (a ≤ 20000 → a = wsum (ts.take k)) ∧ a ≤ 200000
theorem WgtAt.start (ts : List Nd) : WgtAt ts 0 0 := ⟨fun _ => by simp [wsum], by omega⟩
theorem WgtAt.step {ts : List Nd} {k a : Nat} {x : Nd} (h : WgtAt ts k a) (ha : a ≤ 20000) (hx : ts[k]? = some x) {p q r s : Nat} (hp : p = min x.str.length 20001) (hq : q = min x.mag.length 20001) (hr : r = min x.kids.length 20001) (hs : s = min x.name.length 20001) : WgtAt ts (k + 1) (a + 1 + p + q + r + s) := by
  have h1 := h.1 ha
  refine ⟨fun hle => ?_, by omega⟩
  rw [wsum_step hx, ← h1]
  omega
theorem WgtAt.done {ts : List Nd} {a : Nat} (h : WgtAt ts ts.length a) (ha : a ≤ 20000) : FewP ts := by
  have := h.1 ha
  rw [List.take_of_length_le (Nat.le_refl _)] at this
  exact few_of (by omega)
end Go.Proofs.YtelcjdblnagdgaaDoor

namespace Go.Proofs.YtelcjdblnagdgaaDoor
open Go.RowKit

theorem min_if (L : Nat) : (if (20001 : Int) < (L : Int) then (20001 : Int) else (L : Int)) = ((min L 20001 : Nat) : Int) := by split <;> omega
def FewQ (ts : List Nd) (w : World) (e : Ending) (w' : World) : Prop := ∃ q : Bool, e = .returned (.bool q) ∧ (q = true → FewP ts) ∧ Below w.heap.size w w'
set_option maxHeartbeats 4000000 in
set_option maxRecDepth 100000 in
theorem weight_any {A : Option Addr} {c B n : Nat} {ts : List Nd} {w : World} (hN : NdsR w B A n ts) (hB : B ≤ w.heap.size) (hl : n ≤ 20000) :
    Calls Tryd.prog 23 #[.agg #[.slice A n c], .int .i64 20000] w fun e w' => ∃ r : Nat, e = .returned (.int .i64 (r : Int)) ∧ (r ≤ 20000 → FewP ts) ∧ Below w.heap.size w w' := by
  obtain ⟨W, hW⟩ : ∃ W, w.alloc (.cells #[.slice A n c] 24) = W := ⟨_, rfl⟩
  have hbW : Below w.heap.size w W := by rw [← hW]; exact (Below.refl _ _).alloc (Nat.le_refl _) _
  have hsW : W.heap.size = w.heap.size + 1 := by rw [← hW]; simp
  have hNW := hide ((hN.below (hbW.mono hB)))
  have hcW : W.cell? ⟨w.heap.size, 0, none⟩ = some (.slice A n c) := by rw [← hW, World.cell?_alloc_at _ _ _ _ rfl]; rfl
  have HBW := hide hbW
  have HLN := hide hN.1
  have HB := hide hB
  clear hbW hN
  go_enter Tryd.func23, Tryd.ntmps23
  go_upto_region 1 with (fail)
  have HW := hide hW
  clear hW
  have hltW : w.heap.size < W.heap.size := by omega
  go_wp2_with fail
  go_loopw [5, 6] (fun v i wr => ∃ (k a : Nat), k ≤ n ∧ v = .int .i64 (a : Int) ∧ i = .int .i64 (k : Int) ∧ Hid (WgtAt ts k a) ∧ Hid (Below W.heap.size W wr)) (fun _ i _ => n - (intOf i).toNat)
  case atStart => exact ⟨0, 0, Nat.zero_le _, rfl, rfl, WgtAt.start ts, Below.refl _ _⟩
  case round =>
    obtain ⟨k, a, hk, rfl, rfl, hat, hbr⟩ := hrel
    have hsz := hbr.out.size
    have hcx : wr.cell? ⟨w.heap.size, 0, none⟩ = some (.slice A n c) := (hbr.out.cell (p := ⟨w.heap.size, 0, none⟩) hltW).trans hcW
    have hab := hat.out.2
    by_cases hlt : k < n
    · have h1 : (k : Int) < (n : Int) := by omega
      have h2 : decide ((k : Int) < (n : Int)) = true := decide_eq_true h1
      by_cases hle : a ≤ 20000
      · have h3 : (a : Int) ≤ 20000 := by omega
        have h4 : decide ((a : Int) ≤ 20000) = true := decide_eq_true h3
        obtain ⟨b, o, x, s, rfl, hbB, hx, hC, hR⟩ := (hNW.out.below (hbr.out.mono (by omega))).get hlt
        obtain ⟨kc0, kc1, kc2, kc3, kc4, kc5, kc6, kc7⟩ := hC
        have HX := hide hx
        clear hx hR
        go_upto_region 6 with (fail)
        obtain ⟨W1, hW1⟩ : ∃ W1, wr.alloc (.cells #[.int .i64 x.kind, .string ⟨x.name.toArray⟩, .slice s.As x.str.length s.cs, .int .i64 x.nk, .int .i64 x.nn, .bool x.neg, .slice s.Am x.mag.length s.cm, .slice s.Ak x.kids.length s.ck] 42) = W1 := ⟨_, rfl⟩
        rw [hW1]
        have p1 : W1.cell? ⟨wr.heap.size, 1, none⟩ = some (.string ⟨x.name.toArray⟩) := by rw [← hW1, World.cell?_alloc_at _ _ _ _ rfl]; rfl
        have p2 : W1.cell? ⟨wr.heap.size, 2, none⟩ = some (.slice s.As x.str.length s.cs) := by rw [← hW1, World.cell?_alloc_at _ _ _ _ rfl]; rfl
        have p6 : W1.cell? ⟨wr.heap.size, 6, none⟩ = some (.slice s.Am x.mag.length s.cm) := by rw [← hW1, World.cell?_alloc_at _ _ _ _ rfl]; rfl
        have p7 : W1.cell? ⟨wr.heap.size, 7, none⟩ = some (.slice s.Ak x.kids.length s.ck) := by rw [← hW1, World.cell?_alloc_at _ _ _ _ rfl]; rfl
        have HB1 := hide (show Below W.heap.size W W1 from by rw [← hW1]; exact hbr.out.alloc hsz _)
        obtain ⟨X, hX⟩ : ∃ X, wr.heap.size = X := ⟨_, rfl⟩
        rw [hX] at p1 p2 p6 p7
        rw [hX]
        clear hW1 kc0 kc1 kc2 kc3 kc4 kc5 kc6 kc7 hcx hX hbr hsz
        go_wp2_with fail
        go_roundw
        case rel =>
          exact ⟨k + 1, _, by omega, by first | (rw [min_if, min_if, min_if, min_if]; rfl) | exact congrArg (Value.int IntKind.i64) (by omega), by go_num, hat.out.step hle HX.out rfl rfl rfl rfl, HB1.out⟩
        case measure => simp [intOf]; omega
      · have h3 : ¬ (a : Int) ≤ 20000 := by omega
        have h4 : decide ((a : Int) ≤ 20000) = false := decide_eq_false h3
        go_wp2_with fail
        go_ret
        exact ⟨a, rfl, fun h => absurd h hle, HBW.out.trans (hbr.out.mono (by omega))⟩
    · have h1 : ¬ (k : Int) < (n : Int) := by omega
      have h2 : decide ((k : Int) < (n : Int)) = false := decide_eq_false h1
      obtain rfl : k = n := by omega
      have hdn := hide (fun h : a ≤ 20000 => (show WgtAt ts ts.length a by rw [HLN.out]; exact hat.out).done h)
      go_wp2_with fail
      go_ret
      exact ⟨a, rfl, hdn.out, HBW.out.trans (hbr.out.mono (by omega))⟩
set_option maxHeartbeats 1000000 in
set_option maxRecDepth 100000 in
/-- few and small nodes, if it says so -/
theorem few_any {A : Option Addr} {c B n : Nat} {ts : List Nd} {w : World} (hN : NdsR w B A n ts) (hB : B ≤ w.heap.size) :
    Calls Tryd.prog 10 #[.agg #[.slice A n c]] w (FewQ ts w) := by
  by_cases h : n ≤ 20000
  · have h1 : (n : Int) ≤ 20000 := by omega
    have h2 : decide ((n : Int) ≤ 20000) = true := decide_eq_true h1
    have CW := hide (fun (W : World) (hb : Below w.heap.size w W) => weight_any (c := c) (hN.below (hb.mono hB)) (Nat.le_trans hB hb.size) h)
    clear hN
    go_enter Tryd.func10, Tryd.ntmps10
    go_wp2_with fail
    refine (CW.out _ ((Below.refl _ _).alloc (Nat.le_refl _) _)).mono ?_
    rintro e1 w1 ⟨r, rfl, hr, hb1⟩
    have HB1 := hide (((Below.refl w.heap.size w).alloc (Nat.le_refl _) _).trans (hb1.mono (by simp)))
    have HR := hide hr
    clear hb1 hr
    by_cases hrl : r ≤ 20000
    · have h3 : (r : Int) ≤ 20000 := by omega
      have h4 : decide ((r : Int) ≤ 20000) = true := decide_eq_true h3
      go_wp2_with fail
      go_ret
      exact ⟨true, rfl, fun _ => HR.out hrl, HB1.out⟩
    · have h3 : ¬ (r : Int) ≤ 20000 := by omega
      have h4 : decide ((r : Int) ≤ 20000) = false := decide_eq_false h3
      go_wp2_with fail
      go_ret
      exact ⟨false, rfl, fun h => (by cases h), HB1.out⟩
  · have h1 : ¬ (n : Int) ≤ 20000 := by omega
    have h2 : decide ((n : Int) ≤ 20000) = false := decide_eq_false h1
    go_enter Tryd.func10, Tryd.ntmps10
    go_wp2_with fail
    go_ret
    exact ⟨false, rfl, fun h => (by cases h), (Below.refl _ _).alloc (Nat.le_refl _) _⟩
end Go.Proofs.YtelcjdblnagdgaaDoor

namespace Go.Proofs.YtelcjdblnagdgaaDoor
open Go.RowKit

theorem rnum_any (k n k' n' : Int) (w : World) :
    Calls Tryd.prog 48 #[.agg #[.int .i64 k, .int .i64 n], .agg #[.int .i64 k', .int .i64 n']] w fun e w' => e = .returned (.bool (decide (k = k' ∧ n = n'))) ∧ Below w.heap.size w w' := by
  by_cases h : k = k'
  · subst h
    go_enter Tryd.func48, Tryd.ntmps48
    go_wp2
    go_ret
    exact ⟨ret_bool (by rw [Bool.eq_iff_iff]; simp), by go_grown⟩
  · have e1 : (k == k') = false := beq_eq_false_iff_ne.2 h
    have H := hide h
    clear h
    go_enter Tryd.func48, Tryd.ntmps48
    go_wp2
    go_ret
    exact ⟨ret_bool (decide_eq_false (fun h2 => H.out h2.1)).symm, by go_grown⟩
set_option maxHeartbeats 2000000 in
set_option maxRecDepth 100000 in
theorem rbig_any {A A2 : Option Addr} {B n n2 c c2 : Nat} {xs ys : List Nat} {w : World} (a b : Bool) (hn : xs.length = n) (hn2 : ys.length = n2) (hB : B ≤ w.heap.size) (ha : Reads w B 1 A n (n32s xs)) (ha2 : Reads w B 1 A2 n2 (n32s ys)) (hl : n ≤ 1000000) (hl2 : n2 ≤ 1000000) :
    Calls Tryd.prog 49 #[.agg #[.bool a, .slice A n c], .agg #[.bool b, .slice A2 n2 c2]] w fun e w' => e = .returned (.bool (decide (a = b ∧ xs = ys))) ∧ Below w.heap.size w w' := by
  obtain ⟨W, hW⟩ : ∃ W, (w.alloc (.cells #[.bool a, .slice A n c] 40)).alloc (.cells #[.bool b, .slice A2 n2 c2] 40) = W := ⟨_, rfl⟩
  have hb0 : Below w.heap.size w W := by rw [← hW]; exact ((Below.refl _ _).alloc (Nat.le_refl _) _).alloc (by simp) _
  have hX1 : w.heap.size < W.heap.size := by rw [← hW]; simp; omega
  have hY1 : w.heap.size + 1 < W.heap.size := by rw [← hW]; simp
  have x0 : W.cell? ⟨w.heap.size, 0, none⟩ = some (.bool a) := by subst hW; go_simp
  have x1 : W.cell? ⟨w.heap.size, 1, none⟩ = some (.slice A n c) := by subst hW; go_simp
  have y0 : W.cell? ⟨w.heap.size + 1, 0, none⟩ = some (.bool b) := by subst hW; go_simp
  have y1 : W.cell? ⟨w.heap.size + 1, 1, none⟩ = some (.slice A2 n2 c2) := by subst hW; go_simp
  have CL := hide (rlimbs_any (c := c) (d := c2) (Nat.le_trans hB hb0.size) (by rw [hn]; exact ha.below (hb0.mono hB)) (by rw [hn2]; exact ha2.below (hb0.mono hB)) (by omega) (by omega))
  rw [hn, hn2] at CL
  have HB0 := hide hb0
  obtain ⟨q, hq⟩ : ∃ q, decide (xs = ys) = q := ⟨_, rfl⟩
  rw [hq] at CL
  obtain ⟨X, hX⟩ : ∃ X, w.heap.size = X := ⟨_, rfl⟩
  have hr : decide (a = b ∧ xs = ys) = (decide (a = b) && q) := by rw [← hq, Bool.decide_and]
  rw [hr]
  cases a <;> cases b
  · go_enter Tryd.func49, Tryd.ntmps49
    go_upto_region 1 with (fail)
    clear ha ha2 hb0 hW hn hn2 hq hr
    rw [hX] at x0 x1 y0 y1 hX1 hY1
    clear hX
    go_wp2_with fail
    refine CL.out.mono ?_
    rintro e1 w1 ⟨rfl, hb1⟩
    have HB1 := hide (HB0.out.trans (hb1.mono HB0.out.size))
    clear hb1
    go_wp2_with fail
    go_ret
    exact ⟨rfl, HB1.out⟩
  · go_enter Tryd.func49, Tryd.ntmps49
    go_upto_region 1 with (fail)
    clear ha ha2 hb0 hW hn hn2 hq hr
    rw [hX] at x0 x1 y0 y1 hX1 hY1
    clear hX
    go_wp2_with fail
    go_ret
    exact ⟨rfl, HB0.out⟩
  · go_enter Tryd.func49, Tryd.ntmps49
    go_upto_region 1 with (fail)
    clear ha ha2 hb0 hW hn hn2 hq hr
    rw [hX] at x0 x1 y0 y1 hX1 hY1
    clear hX
    go_wp2_with fail
    go_ret
    exact ⟨rfl, HB0.out⟩
  · go_enter Tryd.func49, Tryd.ntmps49
    go_upto_region 1 with (fail)
    clear ha ha2 hb0 hW hn hn2 hq hr
    rw [hX] at x0 x1 y0 y1 hX1 hY1
    clear hX
    go_wp2_with fail
    refine CL.out.mono ?_
    rintro e1 w1 ⟨rfl, hb1⟩
    have HB1 := hide (HB0.out.trans (hb1.mono HB0.out.size))
    clear hb1
    go_wp2_with fail
    go_ret
    exact ⟨rfl, HB1.out⟩
set_option maxHeartbeats 2000000 in
set_option maxRecDepth 100000 in
theorem rnode_0 {A A2 Am Am2 Ak Ak2 : Option Addr} {n n2 c c2 m mm2 cm cm2 l l2 ck ck2 : Nat} {K K2 k1 k2 n1 m2 : Int} {b1 b2 : Bool} {nx ny : ByteArray} {w : World} (h1 : (K == K2) = false) :
    Calls Tryd.prog 38 #[.agg #[.int .i64 K, .string nx, .slice A n c, .int .i64 k1, .int .i64 n1, .bool b1, .slice Am m cm, .slice Ak l ck], .agg #[.int .i64 K2, .string ny, .slice A2 n2 c2, .int .i64 k2, .int .i64 m2, .bool b2, .slice Am2 mm2 cm2, .slice Ak2 l2 ck2]] w fun e w' => e = .returned (.bool false) ∧ Below w.heap.size w w' := by
  obtain ⟨W, hW⟩ : ∃ W, (w.alloc (.cells #[.int .i64 K, .string nx, .slice A n c, .int .i64 k1, .int .i64 n1, .bool b1, .slice Am m cm, .slice Ak l ck] 42)).alloc (.cells #[.int .i64 K2, .string ny, .slice A2 n2 c2, .int .i64 k2, .int .i64 m2, .bool b2, .slice Am2 mm2 cm2, .slice Ak2 l2 ck2] 42) = W := ⟨_, rfl⟩
  have hb0 : Below w.heap.size w W := by rw [← hW]; exact ((Below.refl _ _).alloc (Nat.le_refl _) _).alloc (by simp) _
  have hX1 : w.heap.size < W.heap.size := by rw [← hW]; simp; omega
  have hY1 : w.heap.size + 1 < W.heap.size := by rw [← hW]; simp
  have x0 : W.cell? ⟨w.heap.size, 0, none⟩ = some (.int .i64 K) := by subst hW; go_simp
  have x1 : W.cell? ⟨w.heap.size, 1, none⟩ = some (.string nx) := by subst hW; go_simp
  have x2 : W.cell? ⟨w.heap.size, 2, none⟩ = some (.slice A n c) := by subst hW; go_simp
  have x3 : W.cell? ⟨w.heap.size, 3, none⟩ = some (.int .i64 k1) := by subst hW; go_simp
  have x4 : W.cell? ⟨w.heap.size, 4, none⟩ = some (.int .i64 n1) := by subst hW; go_simp
  have x5 : W.cell? ⟨w.heap.size, 5, none⟩ = some (.bool b1) := by subst hW; go_simp
  have x6 : W.cell? ⟨w.heap.size, 6, none⟩ = some (.slice Am m cm) := by subst hW; go_simp
  have x7 : W.cell? ⟨w.heap.size, 7, none⟩ = some (.slice Ak l ck) := by subst hW; go_simp
  have y0 : W.cell? ⟨w.heap.size + 1, 0, none⟩ = some (.int .i64 K2) := by subst hW; go_simp
  have y1 : W.cell? ⟨w.heap.size + 1, 1, none⟩ = some (.string ny) := by subst hW; go_simp
  have y2 : W.cell? ⟨w.heap.size + 1, 2, none⟩ = some (.slice A2 n2 c2) := by subst hW; go_simp
  have y3 : W.cell? ⟨w.heap.size + 1, 3, none⟩ = some (.int .i64 k2) := by subst hW; go_simp
  have y4 : W.cell? ⟨w.heap.size + 1, 4, none⟩ = some (.int .i64 m2) := by subst hW; go_simp
  have y5 : W.cell? ⟨w.heap.size + 1, 5, none⟩ = some (.bool b2) := by subst hW; go_simp
  have y6 : W.cell? ⟨w.heap.size + 1, 6, none⟩ = some (.slice Am2 mm2 cm2) := by subst hW; go_simp
  have y7 : W.cell? ⟨w.heap.size + 1, 7, none⟩ = some (.slice Ak2 l2 ck2) := by subst hW; go_simp
  have HB0 := hide hb0
  obtain ⟨X, hX⟩ : ∃ X, w.heap.size = X := ⟨_, rfl⟩
  go_enter Tryd.func38, Tryd.ntmps38
  go_upto_region 1 with (fail)
  clear hb0 hW 
  rw [hX] at x0 y0 x1 y1 x2 y2 x3 y3 x4 y4 x5 y5 x6 y6 x7 y7 hX1 hY1
  clear hX
  go_wp2_with fail
  go_ret
  exact ⟨rfl, HB0.out⟩
set_option maxHeartbeats 2000000 in
set_option maxRecDepth 100000 in
theorem rnode_1 {A A2 Am Am2 Ak Ak2 : Option Addr} {n n2 c c2 m mm2 cm cm2 l l2 ck ck2 : Nat} {K K2 k1 k2 n1 m2 : Int} {b1 b2 : Bool} {nx ny : ByteArray} {w : World} (h1 : (K == K2) = true) (h2 : (nx.toList == ny.toList) = false) :
    Calls Tryd.prog 38 #[.agg #[.int .i64 K, .string nx, .slice A n c, .int .i64 k1, .int .i64 n1, .bool b1, .slice Am m cm, .slice Ak l ck], .agg #[.int .i64 K2, .string ny, .slice A2 n2 c2, .int .i64 k2, .int .i64 m2, .bool b2, .slice Am2 mm2 cm2, .slice Ak2 l2 ck2]] w fun e w' => e = .returned (.bool false) ∧ Below w.heap.size w w' := by
  obtain ⟨W, hW⟩ : ∃ W, (w.alloc (.cells #[.int .i64 K, .string nx, .slice A n c, .int .i64 k1, .int .i64 n1, .bool b1, .slice Am m cm, .slice Ak l ck] 42)).alloc (.cells #[.int .i64 K2, .string ny, .slice A2 n2 c2, .int .i64 k2, .int .i64 m2, .bool b2, .slice Am2 mm2 cm2, .slice Ak2 l2 ck2] 42) = W := ⟨_, rfl⟩
  have hb0 : Below w.heap.size w W := by rw [← hW]; exact ((Below.refl _ _).alloc (Nat.le_refl _) _).alloc (by simp) _
  have hX1 : w.heap.size < W.heap.size := by rw [← hW]; simp; omega
  have hY1 : w.heap.size + 1 < W.heap.size := by rw [← hW]; simp
  have x0 : W.cell? ⟨w.heap.size, 0, none⟩ = some (.int .i64 K) := by subst hW; go_simp
  have x1 : W.cell? ⟨w.heap.size, 1, none⟩ = some (.string nx) := by subst hW; go_simp
  have x2 : W.cell? ⟨w.heap.size, 2, none⟩ = some (.slice A n c) := by subst hW; go_simp
  have x3 : W.cell? ⟨w.heap.size, 3, none⟩ = some (.int .i64 k1) := by subst hW; go_simp
  have x4 : W.cell? ⟨w.heap.size, 4, none⟩ = some (.int .i64 n1) := by subst hW; go_simp
  have x5 : W.cell? ⟨w.heap.size, 5, none⟩ = some (.bool b1) := by subst hW; go_simp
  have x6 : W.cell? ⟨w.heap.size, 6, none⟩ = some (.slice Am m cm) := by subst hW; go_simp
  have x7 : W.cell? ⟨w.heap.size, 7, none⟩ = some (.slice Ak l ck) := by subst hW; go_simp
  have y0 : W.cell? ⟨w.heap.size + 1, 0, none⟩ = some (.int .i64 K2) := by subst hW; go_simp
  have y1 : W.cell? ⟨w.heap.size + 1, 1, none⟩ = some (.string ny) := by subst hW; go_simp
  have y2 : W.cell? ⟨w.heap.size + 1, 2, none⟩ = some (.slice A2 n2 c2) := by subst hW; go_simp
  have y3 : W.cell? ⟨w.heap.size + 1, 3, none⟩ = some (.int .i64 k2) := by subst hW; go_simp
  have y4 : W.cell? ⟨w.heap.size + 1, 4, none⟩ = some (.int .i64 m2) := by subst hW; go_simp
  have y5 : W.cell? ⟨w.heap.size + 1, 5, none⟩ = some (.bool b2) := by subst hW; go_simp
  have y6 : W.cell? ⟨w.heap.size + 1, 6, none⟩ = some (.slice Am2 mm2 cm2) := by subst hW; go_simp
  have y7 : W.cell? ⟨w.heap.size + 1, 7, none⟩ = some (.slice Ak2 l2 ck2) := by subst hW; go_simp
  have HB0 := hide hb0
  obtain ⟨X, hX⟩ : ∃ X, w.heap.size = X := ⟨_, rfl⟩
  go_enter Tryd.func38, Tryd.ntmps38
  go_upto_region 1 with (fail)
  clear hb0 hW 
  rw [hX] at x0 y0 x1 y1 x2 y2 x3 y3 x4 y4 x5 y5 x6 y6 x7 y7 hX1 hY1
  clear hX
  go_wp2_with fail
  go_ret
  exact ⟨rfl, HB0.out⟩
set_option maxHeartbeats 2000000 in
set_option maxRecDepth 100000 in
theorem rnode_2 {A A2 Am Am2 Ak Ak2 : Option Addr} {n n2 c c2 m mm2 cm cm2 l l2 ck ck2 : Nat} {K K2 k1 k2 n1 m2 : Int} {b1 b2 : Bool} {nx ny : ByteArray} {w : World} (h1 : (K == K2) = true) (h2 : (nx.toList == ny.toList) = true) (CU : ∀ W, Below w.heap.size w W → Calls Tryd.prog 17 #[.slice A n c, .slice A2 n2 c2] W fun e w' => e = .returned (.bool false) ∧ Below W.heap.size W w') :
    Calls Tryd.prog 38 #[.agg #[.int .i64 K, .string nx, .slice A n c, .int .i64 k1, .int .i64 n1, .bool b1, .slice Am m cm, .slice Ak l ck], .agg #[.int .i64 K2, .string ny, .slice A2 n2 c2, .int .i64 k2, .int .i64 m2, .bool b2, .slice Am2 mm2 cm2, .slice Ak2 l2 ck2]] w fun e w' => e = .returned (.bool false) ∧ Below w.heap.size w w' := by
  obtain ⟨W, hW⟩ : ∃ W, (w.alloc (.cells #[.int .i64 K, .string nx, .slice A n c, .int .i64 k1, .int .i64 n1, .bool b1, .slice Am m cm, .slice Ak l ck] 42)).alloc (.cells #[.int .i64 K2, .string ny, .slice A2 n2 c2, .int .i64 k2, .int .i64 m2, .bool b2, .slice Am2 mm2 cm2, .slice Ak2 l2 ck2] 42) = W := ⟨_, rfl⟩
  have hb0 : Below w.heap.size w W := by rw [← hW]; exact ((Below.refl _ _).alloc (Nat.le_refl _) _).alloc (by simp) _
  have hX1 : w.heap.size < W.heap.size := by rw [← hW]; simp; omega
  have hY1 : w.heap.size + 1 < W.heap.size := by rw [← hW]; simp
  have x0 : W.cell? ⟨w.heap.size, 0, none⟩ = some (.int .i64 K) := by subst hW; go_simp
  have x1 : W.cell? ⟨w.heap.size, 1, none⟩ = some (.string nx) := by subst hW; go_simp
  have x2 : W.cell? ⟨w.heap.size, 2, none⟩ = some (.slice A n c) := by subst hW; go_simp
  have x3 : W.cell? ⟨w.heap.size, 3, none⟩ = some (.int .i64 k1) := by subst hW; go_simp
  have x4 : W.cell? ⟨w.heap.size, 4, none⟩ = some (.int .i64 n1) := by subst hW; go_simp
  have x5 : W.cell? ⟨w.heap.size, 5, none⟩ = some (.bool b1) := by subst hW; go_simp
  have x6 : W.cell? ⟨w.heap.size, 6, none⟩ = some (.slice Am m cm) := by subst hW; go_simp
  have x7 : W.cell? ⟨w.heap.size, 7, none⟩ = some (.slice Ak l ck) := by subst hW; go_simp
  have y0 : W.cell? ⟨w.heap.size + 1, 0, none⟩ = some (.int .i64 K2) := by subst hW; go_simp
  have y1 : W.cell? ⟨w.heap.size + 1, 1, none⟩ = some (.string ny) := by subst hW; go_simp
  have y2 : W.cell? ⟨w.heap.size + 1, 2, none⟩ = some (.slice A2 n2 c2) := by subst hW; go_simp
  have y3 : W.cell? ⟨w.heap.size + 1, 3, none⟩ = some (.int .i64 k2) := by subst hW; go_simp
  have y4 : W.cell? ⟨w.heap.size + 1, 4, none⟩ = some (.int .i64 m2) := by subst hW; go_simp
  have y5 : W.cell? ⟨w.heap.size + 1, 5, none⟩ = some (.bool b2) := by subst hW; go_simp
  have y6 : W.cell? ⟨w.heap.size + 1, 6, none⟩ = some (.slice Am2 mm2 cm2) := by subst hW; go_simp
  have y7 : W.cell? ⟨w.heap.size + 1, 7, none⟩ = some (.slice Ak2 l2 ck2) := by subst hW; go_simp
  have HB0 := hide hb0
  have HCU := hide CU
  obtain ⟨X, hX⟩ : ∃ X, w.heap.size = X := ⟨_, rfl⟩
  go_enter Tryd.func38, Tryd.ntmps38
  go_upto_region 1 with (fail)
  clear hb0 hW CU
  rw [hX] at x0 y0 x1 y1 x2 y2 x3 y3 x4 y4 x5 y5 x6 y6 x7 y7 hX1 hY1
  clear hX
  go_wp2_with fail
  have D0 := hide (HCU.out W HB0.out)
  refine D0.out.mono ?_
  rintro e1 w1 ⟨rfl, hb1⟩
  have HB1 := hide (HB0.out.trans (hb1.mono HB0.out.size))
  have hX1a := Nat.lt_of_lt_of_le hX1 hb1.size
  have hY1a := Nat.lt_of_lt_of_le hY1 hb1.size
  have x3_1 := (hb1.cell (p := ⟨X, 3, none⟩) hX1).trans x3
  have y3_1 := (hb1.cell (p := ⟨X + 1, 3, none⟩) hY1).trans y3
  have x4_1 := (hb1.cell (p := ⟨X, 4, none⟩) hX1).trans x4
  have y4_1 := (hb1.cell (p := ⟨X + 1, 4, none⟩) hY1).trans y4
  have x5_1 := (hb1.cell (p := ⟨X, 5, none⟩) hX1).trans x5
  have y5_1 := (hb1.cell (p := ⟨X + 1, 5, none⟩) hY1).trans y5
  have x6_1 := (hb1.cell (p := ⟨X, 6, none⟩) hX1).trans x6
  have y6_1 := (hb1.cell (p := ⟨X + 1, 6, none⟩) hY1).trans y6
  have x7_1 := (hb1.cell (p := ⟨X, 7, none⟩) hX1).trans x7
  have y7_1 := (hb1.cell (p := ⟨X + 1, 7, none⟩) hY1).trans y7
  clear hb1
  go_wp2_with fail
  go_ret
  exact ⟨rfl, HB1.out⟩
set_option maxHeartbeats 2000000 in
set_option maxRecDepth 100000 in
theorem rnode_3 {A A2 Am Am2 Ak Ak2 : Option Addr} {n n2 c c2 m mm2 cm cm2 l l2 ck ck2 : Nat} {K K2 k1 k2 n1 m2 : Int} {b1 b2 : Bool} {nx ny : ByteArray} {w : World} (h1 : (K == K2) = true) (h2 : (nx.toList == ny.toList) = true) (CU : ∀ W, Below w.heap.size w W → Calls Tryd.prog 17 #[.slice A n c, .slice A2 n2 c2] W fun e w' => e = .returned (.bool true) ∧ Below W.heap.size W w') (CN : ∀ W, Calls Tryd.prog 48 #[.agg #[.int .i64 k1, .int .i64 n1], .agg #[.int .i64 k2, .int .i64 m2]] W fun e w' => e = .returned (.bool false) ∧ Below W.heap.size W w') :
    Calls Tryd.prog 38 #[.agg #[.int .i64 K, .string nx, .slice A n c, .int .i64 k1, .int .i64 n1, .bool b1, .slice Am m cm, .slice Ak l ck], .agg #[.int .i64 K2, .string ny, .slice A2 n2 c2, .int .i64 k2, .int .i64 m2, .bool b2, .slice Am2 mm2 cm2, .slice Ak2 l2 ck2]] w fun e w' => e = .returned (.bool false) ∧ Below w.heap.size w w' := by
  obtain ⟨W, hW⟩ : ∃ W, (w.alloc (.cells #[.int .i64 K, .string nx, .slice A n c, .int .i64 k1, .int .i64 n1, .bool b1, .slice Am m cm, .slice Ak l ck] 42)).alloc (.cells #[.int .i64 K2, .string ny, .slice A2 n2 c2, .int .i64 k2, .int .i64 m2, .bool b2, .slice Am2 mm2 cm2, .slice Ak2 l2 ck2] 42) = W := ⟨_, rfl⟩
  have hb0 : Below w.heap.size w W := by rw [← hW]; exact ((Below.refl _ _).alloc (Nat.le_refl _) _).alloc (by simp) _
  have hX1 : w.heap.size < W.heap.size := by rw [← hW]; simp; omega
  have hY1 : w.heap.size + 1 < W.heap.size := by rw [← hW]; simp
  have x0 : W.cell? ⟨w.heap.size, 0, none⟩ = some (.int .i64 K) := by subst hW; go_simp
  have x1 : W.cell? ⟨w.heap.size, 1, none⟩ = some (.string nx) := by subst hW; go_simp
  have x2 : W.cell? ⟨w.heap.size, 2, none⟩ = some (.slice A n c) := by subst hW; go_simp
  have x3 : W.cell? ⟨w.heap.size, 3, none⟩ = some (.int .i64 k1) := by subst hW; go_simp
  have x4 : W.cell? ⟨w.heap.size, 4, none⟩ = some (.int .i64 n1) := by subst hW; go_simp
  have x5 : W.cell? ⟨w.heap.size, 5, none⟩ = some (.bool b1) := by subst hW; go_simp
  have x6 : W.cell? ⟨w.heap.size, 6, none⟩ = some (.slice Am m cm) := by subst hW; go_simp
  have x7 : W.cell? ⟨w.heap.size, 7, none⟩ = some (.slice Ak l ck) := by subst hW; go_simp
  have y0 : W.cell? ⟨w.heap.size + 1, 0, none⟩ = some (.int .i64 K2) := by subst hW; go_simp
  have y1 : W.cell? ⟨w.heap.size + 1, 1, none⟩ = some (.string ny) := by subst hW; go_simp
  have y2 : W.cell? ⟨w.heap.size + 1, 2, none⟩ = some (.slice A2 n2 c2) := by subst hW; go_simp
  have y3 : W.cell? ⟨w.heap.size + 1, 3, none⟩ = some (.int .i64 k2) := by subst hW; go_simp
  have y4 : W.cell? ⟨w.heap.size + 1, 4, none⟩ = some (.int .i64 m2) := by subst hW; go_simp
  have y5 : W.cell? ⟨w.heap.size + 1, 5, none⟩ = some (.bool b2) := by subst hW; go_simp
  have y6 : W.cell? ⟨w.heap.size + 1, 6, none⟩ = some (.slice Am2 mm2 cm2) := by subst hW; go_simp
  have y7 : W.cell? ⟨w.heap.size + 1, 7, none⟩ = some (.slice Ak2 l2 ck2) := by subst hW; go_simp
  have HB0 := hide hb0
  have HCU := hide CU
  have HCN := hide CN
  obtain ⟨X, hX⟩ : ∃ X, w.heap.size = X := ⟨_, rfl⟩
  go_enter Tryd.func38, Tryd.ntmps38
  go_upto_region 1 with (fail)
  clear hb0 hW CU CN
  rw [hX] at x0 y0 x1 y1 x2 y2 x3 y3 x4 y4 x5 y5 x6 y6 x7 y7 hX1 hY1
  clear hX
  go_wp2_with fail
  have D0 := hide (HCU.out W HB0.out)
  refine D0.out.mono ?_
  rintro e1 w1 ⟨rfl, hb1⟩
  have HB1 := hide (HB0.out.trans (hb1.mono HB0.out.size))
  have hX1a := Nat.lt_of_lt_of_le hX1 hb1.size
  have hY1a := Nat.lt_of_lt_of_le hY1 hb1.size
  have x3_1 := (hb1.cell (p := ⟨X, 3, none⟩) hX1).trans x3
  have y3_1 := (hb1.cell (p := ⟨X + 1, 3, none⟩) hY1).trans y3
  have x4_1 := (hb1.cell (p := ⟨X, 4, none⟩) hX1).trans x4
  have y4_1 := (hb1.cell (p := ⟨X + 1, 4, none⟩) hY1).trans y4
  have x5_1 := (hb1.cell (p := ⟨X, 5, none⟩) hX1).trans x5
  have y5_1 := (hb1.cell (p := ⟨X + 1, 5, none⟩) hY1).trans y5
  have x6_1 := (hb1.cell (p := ⟨X, 6, none⟩) hX1).trans x6
  have y6_1 := (hb1.cell (p := ⟨X + 1, 6, none⟩) hY1).trans y6
  have x7_1 := (hb1.cell (p := ⟨X, 7, none⟩) hX1).trans x7
  have y7_1 := (hb1.cell (p := ⟨X + 1, 7, none⟩) hY1).trans y7
  clear hb1
  go_wp2_with fail
  have D1 := hide (HCN.out w1)
  refine D1.out.mono ?_
  rintro e2 w2 ⟨rfl, hb2⟩
  have HB2 := hide (HB1.out.trans (hb2.mono HB1.out.size))
  have hX1aa := Nat.lt_of_lt_of_le hX1a hb2.size
  have hY1aa := Nat.lt_of_lt_of_le hY1a hb2.size
  have x5_2 := (hb2.cell (p := ⟨X, 5, none⟩) hX1a).trans x5_1
  have y5_2 := (hb2.cell (p := ⟨X + 1, 5, none⟩) hY1a).trans y5_1
  have x6_2 := (hb2.cell (p := ⟨X, 6, none⟩) hX1a).trans x6_1
  have y6_2 := (hb2.cell (p := ⟨X + 1, 6, none⟩) hY1a).trans y6_1
  have x7_2 := (hb2.cell (p := ⟨X, 7, none⟩) hX1a).trans x7_1
  have y7_2 := (hb2.cell (p := ⟨X + 1, 7, none⟩) hY1a).trans y7_1
  clear hb2
  go_wp2_with fail
  go_ret
  exact ⟨rfl, HB2.out⟩
set_option maxHeartbeats 2000000 in
set_option maxRecDepth 100000 in
theorem rnode_4 {A A2 Am Am2 Ak Ak2 : Option Addr} {n n2 c c2 m mm2 cm cm2 l l2 ck ck2 : Nat} {K K2 k1 k2 n1 m2 : Int} {b1 b2 : Bool} {nx ny : ByteArray} {w : World} (h1 : (K == K2) = true) (h2 : (nx.toList == ny.toList) = true) (CU : ∀ W, Below w.heap.size w W → Calls Tryd.prog 17 #[.slice A n c, .slice A2 n2 c2] W fun e w' => e = .returned (.bool true) ∧ Below W.heap.size W w') (CN : ∀ W, Calls Tryd.prog 48 #[.agg #[.int .i64 k1, .int .i64 n1], .agg #[.int .i64 k2, .int .i64 m2]] W fun e w' => e = .returned (.bool true) ∧ Below W.heap.size W w') (CB : ∀ W, Below w.heap.size w W → Calls Tryd.prog 49 #[.agg #[.bool b1, .slice Am m cm], .agg #[.bool b2, .slice Am2 mm2 cm2]] W fun e w' => e = .returned (.bool false) ∧ Below W.heap.size W w') :
    Calls Tryd.prog 38 #[.agg #[.int .i64 K, .string nx, .slice A n c, .int .i64 k1, .int .i64 n1, .bool b1, .slice Am m cm, .slice Ak l ck], .agg #[.int .i64 K2, .string ny, .slice A2 n2 c2, .int .i64 k2, .int .i64 m2, .bool b2, .slice Am2 mm2 cm2, .slice Ak2 l2 ck2]] w fun e w' => e = .returned (.bool false) ∧ Below w.heap.size w w' := by
  obtain ⟨W, hW⟩ : ∃ W, (w.alloc (.cells #[.int .i64 K, .string nx, .slice A n c, .int .i64 k1, .int .i64 n1, .bool b1, .slice Am m cm, .slice Ak l ck] 42)).alloc (.cells #[.int .i64 K2, .string ny, .slice A2 n2 c2, .int .i64 k2, .int .i64 m2, .bool b2, .slice Am2 mm2 cm2, .slice Ak2 l2 ck2] 42) = W := ⟨_, rfl⟩
  have hb0 : Below w.heap.size w W := by rw [← hW]; exact ((Below.refl _ _).alloc (Nat.le_refl _) _).alloc (by simp) _
  have hX1 : w.heap.size < W.heap.size := by rw [← hW]; simp; omega
  have hY1 : w.heap.size + 1 < W.heap.size := by rw [← hW]; simp
  have x0 : W.cell? ⟨w.heap.size, 0, none⟩ = some (.int .i64 K) := by subst hW; go_simp
  have x1 : W.cell? ⟨w.heap.size, 1, none⟩ = some (.string nx) := by subst hW; go_simp
  have x2 : W.cell? ⟨w.heap.size, 2, none⟩ = some (.slice A n c) := by subst hW; go_simp
  have x3 : W.cell? ⟨w.heap.size, 3, none⟩ = some (.int .i64 k1) := by subst hW; go_simp
  have x4 : W.cell? ⟨w.heap.size, 4, none⟩ = some (.int .i64 n1) := by subst hW; go_simp
  have x5 : W.cell? ⟨w.heap.size, 5, none⟩ = some (.bool b1) := by subst hW; go_simp
  have x6 : W.cell? ⟨w.heap.size, 6, none⟩ = some (.slice Am m cm) := by subst hW; go_simp
  have x7 : W.cell? ⟨w.heap.size, 7, none⟩ = some (.slice Ak l ck) := by subst hW; go_simp
  have y0 : W.cell? ⟨w.heap.size + 1, 0, none⟩ = some (.int .i64 K2) := by subst hW; go_simp
  have y1 : W.cell? ⟨w.heap.size + 1, 1, none⟩ = some (.string ny) := by subst hW; go_simp
  have y2 : W.cell? ⟨w.heap.size + 1, 2, none⟩ = some (.slice A2 n2 c2) := by subst hW; go_simp
  have y3 : W.cell? ⟨w.heap.size + 1, 3, none⟩ = some (.int .i64 k2) := by subst hW; go_simp
  have y4 : W.cell? ⟨w.heap.size + 1, 4, none⟩ = some (.int .i64 m2) := by subst hW; go_simp
  have y5 : W.cell? ⟨w.heap.size + 1, 5, none⟩ = some (.bool b2) := by subst hW; go_simp
  have y6 : W.cell? ⟨w.heap.size + 1, 6, none⟩ = some (.slice Am2 mm2 cm2) := by subst hW; go_simp
  have y7 : W.cell? ⟨w.heap.size + 1, 7, none⟩ = some (.slice Ak2 l2 ck2) := by subst hW; go_simp
  have HB0 := hide hb0
  have HCU := hide CU
  have HCN := hide CN
  have HCB := hide CB
  obtain ⟨X, hX⟩ : ∃ X, w.heap.size = X := ⟨_, rfl⟩
  go_enter Tryd.func38, Tryd.ntmps38
  go_upto_region 1 with (fail)
  clear hb0 hW CU CN CB
  rw [hX] at x0 y0 x1 y1 x2 y2 x3 y3 x4 y4 x5 y5 x6 y6 x7 y7 hX1 hY1
  clear hX
  go_wp2_with fail
  have D0 := hide (HCU.out W HB0.out)
  refine D0.out.mono ?_
  rintro e1 w1 ⟨rfl, hb1⟩
  have HB1 := hide (HB0.out.trans (hb1.mono HB0.out.size))
  have hX1a := Nat.lt_of_lt_of_le hX1 hb1.size
  have hY1a := Nat.lt_of_lt_of_le hY1 hb1.size
  have x3_1 := (hb1.cell (p := ⟨X, 3, none⟩) hX1).trans x3
  have y3_1 := (hb1.cell (p := ⟨X + 1, 3, none⟩) hY1).trans y3
  have x4_1 := (hb1.cell (p := ⟨X, 4, none⟩) hX1).trans x4
  have y4_1 := (hb1.cell (p := ⟨X + 1, 4, none⟩) hY1).trans y4
  have x5_1 := (hb1.cell (p := ⟨X, 5, none⟩) hX1).trans x5
  have y5_1 := (hb1.cell (p := ⟨X + 1, 5, none⟩) hY1).trans y5
  have x6_1 := (hb1.cell (p := ⟨X, 6, none⟩) hX1).trans x6
  have y6_1 := (hb1.cell (p := ⟨X + 1, 6, none⟩) hY1).trans y6
  have x7_1 := (hb1.cell (p := ⟨X, 7, none⟩) hX1).trans x7
  have y7_1 := (hb1.cell (p := ⟨X + 1, 7, none⟩) hY1).trans y7
  clear hb1
  go_wp2_with fail
  have D1 := hide (HCN.out w1)
  refine D1.out.mono ?_
  rintro e2 w2 ⟨rfl, hb2⟩
  have HB2 := hide (HB1.out.trans (hb2.mono HB1.out.size))
  have hX1aa := Nat.lt_of_lt_of_le hX1a hb2.size
  have hY1aa := Nat.lt_of_lt_of_le hY1a hb2.size
  have x5_2 := (hb2.cell (p := ⟨X, 5, none⟩) hX1a).trans x5_1
  have y5_2 := (hb2.cell (p := ⟨X + 1, 5, none⟩) hY1a).trans y5_1
  have x6_2 := (hb2.cell (p := ⟨X, 6, none⟩) hX1a).trans x6_1
  have y6_2 := (hb2.cell (p := ⟨X + 1, 6, none⟩) hY1a).trans y6_1
  have x7_2 := (hb2.cell (p := ⟨X, 7, none⟩) hX1a).trans x7_1
  have y7_2 := (hb2.cell (p := ⟨X + 1, 7, none⟩) hY1a).trans y7_1
  clear hb2
  go_wp2_with fail
  have D2 := hide (HCB.out w2 HB2.out)
  refine D2.out.mono ?_
  rintro e3 w3 ⟨rfl, hb3⟩
  have HB3 := hide (HB2.out.trans (hb3.mono HB2.out.size))
  have hX1aaa := Nat.lt_of_lt_of_le hX1aa hb3.size
  have hY1aaa := Nat.lt_of_lt_of_le hY1aa hb3.size
  have x7_3 := (hb3.cell (p := ⟨X, 7, none⟩) hX1aa).trans x7_2
  have y7_3 := (hb3.cell (p := ⟨X + 1, 7, none⟩) hY1aa).trans y7_2
  clear hb3
  go_wp2_with fail
  go_ret
  exact ⟨rfl, HB3.out⟩
set_option maxHeartbeats 2000000 in
set_option maxRecDepth 100000 in
theorem rnode_5 {A A2 Am Am2 Ak Ak2 : Option Addr} {n n2 c c2 m mm2 cm cm2 l l2 ck ck2 : Nat} {K K2 k1 k2 n1 m2 : Int} {b1 b2 : Bool} {nx ny : ByteArray} {w : World} (h1 : (K == K2) = true) (h2 : (nx.toList == ny.toList) = true) (CU : ∀ W, Below w.heap.size w W → Calls Tryd.prog 17 #[.slice A n c, .slice A2 n2 c2] W fun e w' => e = .returned (.bool true) ∧ Below W.heap.size W w') (CN : ∀ W, Calls Tryd.prog 48 #[.agg #[.int .i64 k1, .int .i64 n1], .agg #[.int .i64 k2, .int .i64 m2]] W fun e w' => e = .returned (.bool true) ∧ Below W.heap.size W w') (CB : ∀ W, Below w.heap.size w W → Calls Tryd.prog 49 #[.agg #[.bool b1, .slice Am m cm], .agg #[.bool b2, .slice Am2 mm2 cm2]] W fun e w' => e = .returned (.bool true) ∧ Below W.heap.size W w') (CI : ∀ W, Below w.heap.size w W → Calls Tryd.prog 22 #[.slice Ak l ck, .slice Ak2 l2 ck2] W fun e w' => e = .returned (.bool false) ∧ Below W.heap.size W w') :
    Calls Tryd.prog 38 #[.agg #[.int .i64 K, .string nx, .slice A n c, .int .i64 k1, .int .i64 n1, .bool b1, .slice Am m cm, .slice Ak l ck], .agg #[.int .i64 K2, .string ny, .slice A2 n2 c2, .int .i64 k2, .int .i64 m2, .bool b2, .slice Am2 mm2 cm2, .slice Ak2 l2 ck2]] w fun e w' => e = .returned (.bool false) ∧ Below w.heap.size w w' := by
  obtain ⟨W, hW⟩ : ∃ W, (w.alloc (.cells #[.int .i64 K, .string nx, .slice A n c, .int .i64 k1, .int .i64 n1, .bool b1, .slice Am m cm, .slice Ak l ck] 42)).alloc (.cells #[.int .i64 K2, .string ny, .slice A2 n2 c2, .int .i64 k2, .int .i64 m2, .bool b2, .slice Am2 mm2 cm2, .slice Ak2 l2 ck2] 42) = W := ⟨_, rfl⟩
  have hb0 : Below w.heap.size w W := by rw [← hW]; exact ((Below.refl _ _).alloc (Nat.le_refl _) _).alloc (by simp) _
  have hX1 : w.heap.size < W.heap.size := by rw [← hW]; simp; omega
  have hY1 : w.heap.size + 1 < W.heap.size := by rw [← hW]; simp
  have x0 : W.cell? ⟨w.heap.size, 0, none⟩ = some (.int .i64 K) := by subst hW; go_simp
  have x1 : W.cell? ⟨w.heap.size, 1, none⟩ = some (.string nx) := by subst hW; go_simp
  have x2 : W.cell? ⟨w.heap.size, 2, none⟩ = some (.slice A n c) := by subst hW; go_simp
  have x3 : W.cell? ⟨w.heap.size, 3, none⟩ = some (.int .i64 k1) := by subst hW; go_simp
  have x4 : W.cell? ⟨w.heap.size, 4, none⟩ = some (.int .i64 n1) := by subst hW; go_simp
  have x5 : W.cell? ⟨w.heap.size, 5, none⟩ = some (.bool b1) := by subst hW; go_simp
  have x6 : W.cell? ⟨w.heap.size, 6, none⟩ = some (.slice Am m cm) := by subst hW; go_simp
  have x7 : W.cell? ⟨w.heap.size, 7, none⟩ = some (.slice Ak l ck) := by subst hW; go_simp
  have y0 : W.cell? ⟨w.heap.size + 1, 0, none⟩ = some (.int .i64 K2) := by subst hW; go_simp
  have y1 : W.cell? ⟨w.heap.size + 1, 1, none⟩ = some (.string ny) := by subst hW; go_simp
  have y2 : W.cell? ⟨w.heap.size + 1, 2, none⟩ = some (.slice A2 n2 c2) := by subst hW; go_simp
  have y3 : W.cell? ⟨w.heap.size + 1, 3, none⟩ = some (.int .i64 k2) := by subst hW; go_simp
  have y4 : W.cell? ⟨w.heap.size + 1, 4, none⟩ = some (.int .i64 m2) := by subst hW; go_simp
  have y5 : W.cell? ⟨w.heap.size + 1, 5, none⟩ = some (.bool b2) := by subst hW; go_simp
  have y6 : W.cell? ⟨w.heap.size + 1, 6, none⟩ = some (.slice Am2 mm2 cm2) := by subst hW; go_simp
  have y7 : W.cell? ⟨w.heap.size + 1, 7, none⟩ = some (.slice Ak2 l2 ck2) := by subst hW; go_simp
  have HB0 := hide hb0
  have HCU := hide CU
  have HCN := hide CN
  have HCB := hide CB
  have HCI := hide CI
  obtain ⟨X, hX⟩ : ∃ X, w.heap.size = X := ⟨_, rfl⟩
  go_enter Tryd.func38, Tryd.ntmps38
  go_upto_region 1 with (fail)
  clear hb0 hW CU CN CB CI
  rw [hX] at x0 y0 x1 y1 x2 y2 x3 y3 x4 y4 x5 y5 x6 y6 x7 y7 hX1 hY1
  clear hX
  go_wp2_with fail
  have D0 := hide (HCU.out W HB0.out)
  refine D0.out.mono ?_
  rintro e1 w1 ⟨rfl, hb1⟩
  have HB1 := hide (HB0.out.trans (hb1.mono HB0.out.size))
  have hX1a := Nat.lt_of_lt_of_le hX1 hb1.size
  have hY1a := Nat.lt_of_lt_of_le hY1 hb1.size
  have x3_1 := (hb1.cell (p := ⟨X, 3, none⟩) hX1).trans x3
  have y3_1 := (hb1.cell (p := ⟨X + 1, 3, none⟩) hY1).trans y3
  have x4_1 := (hb1.cell (p := ⟨X, 4, none⟩) hX1).trans x4
  have y4_1 := (hb1.cell (p := ⟨X + 1, 4, none⟩) hY1).trans y4
  have x5_1 := (hb1.cell (p := ⟨X, 5, none⟩) hX1).trans x5
  have y5_1 := (hb1.cell (p := ⟨X + 1, 5, none⟩) hY1).trans y5
  have x6_1 := (hb1.cell (p := ⟨X, 6, none⟩) hX1).trans x6
  have y6_1 := (hb1.cell (p := ⟨X + 1, 6, none⟩) hY1).trans y6
  have x7_1 := (hb1.cell (p := ⟨X, 7, none⟩) hX1).trans x7
  have y7_1 := (hb1.cell (p := ⟨X + 1, 7, none⟩) hY1).trans y7
  clear hb1
  go_wp2_with fail
  have D1 := hide (HCN.out w1)
  refine D1.out.mono ?_
  rintro e2 w2 ⟨rfl, hb2⟩
  have HB2 := hide (HB1.out.trans (hb2.mono HB1.out.size))
  have hX1aa := Nat.lt_of_lt_of_le hX1a hb2.size
  have hY1aa := Nat.lt_of_lt_of_le hY1a hb2.size
  have x5_2 := (hb2.cell (p := ⟨X, 5, none⟩) hX1a).trans x5_1
  have y5_2 := (hb2.cell (p := ⟨X + 1, 5, none⟩) hY1a).trans y5_1
  have x6_2 := (hb2.cell (p := ⟨X, 6, none⟩) hX1a).trans x6_1
  have y6_2 := (hb2.cell (p := ⟨X + 1, 6, none⟩) hY1a).trans y6_1
  have x7_2 := (hb2.cell (p := ⟨X, 7, none⟩) hX1a).trans x7_1
  have y7_2 := (hb2.cell (p := ⟨X + 1, 7, none⟩) hY1a).trans y7_1
  clear hb2
  go_wp2_with fail
  have D2 := hide (HCB.out w2 HB2.out)
  refine D2.out.mono ?_
  rintro e3 w3 ⟨rfl, hb3⟩
  have HB3 := hide (HB2.out.trans (hb3.mono HB2.out.size))
  have hX1aaa := Nat.lt_of_lt_of_le hX1aa hb3.size
  have hY1aaa := Nat.lt_of_lt_of_le hY1aa hb3.size
  have x7_3 := (hb3.cell (p := ⟨X, 7, none⟩) hX1aa).trans x7_2
  have y7_3 := (hb3.cell (p := ⟨X + 1, 7, none⟩) hY1aa).trans y7_2
  clear hb3
  go_wp2_with fail
  have D3 := hide (HCI.out w3 HB3.out)
  refine D3.out.mono ?_
  rintro e4 w4 ⟨rfl, hb4⟩
  have HB4 := hide (HB3.out.trans (hb4.mono HB3.out.size))
  have hX1aaaa := Nat.lt_of_lt_of_le hX1aaa hb4.size
  have hY1aaaa := Nat.lt_of_lt_of_le hY1aaa hb4.size
  clear hb4
  go_wp2_with fail
  go_ret
  exact ⟨rfl, HB4.out⟩
set_option maxHeartbeats 2000000 in
set_option maxRecDepth 100000 in
theorem rnode_6 {A A2 Am Am2 Ak Ak2 : Option Addr} {n n2 c c2 m mm2 cm cm2 l l2 ck ck2 : Nat} {K K2 k1 k2 n1 m2 : Int} {b1 b2 : Bool} {nx ny : ByteArray} {w : World} (h1 : (K == K2) = true) (h2 : (nx.toList == ny.toList) = true) (CU : ∀ W, Below w.heap.size w W → Calls Tryd.prog 17 #[.slice A n c, .slice A2 n2 c2] W fun e w' => e = .returned (.bool true) ∧ Below W.heap.size W w') (CN : ∀ W, Calls Tryd.prog 48 #[.agg #[.int .i64 k1, .int .i64 n1], .agg #[.int .i64 k2, .int .i64 m2]] W fun e w' => e = .returned (.bool true) ∧ Below W.heap.size W w') (CB : ∀ W, Below w.heap.size w W → Calls Tryd.prog 49 #[.agg #[.bool b1, .slice Am m cm], .agg #[.bool b2, .slice Am2 mm2 cm2]] W fun e w' => e = .returned (.bool true) ∧ Below W.heap.size W w') (CI : ∀ W, Below w.heap.size w W → Calls Tryd.prog 22 #[.slice Ak l ck, .slice Ak2 l2 ck2] W fun e w' => e = .returned (.bool true) ∧ Below W.heap.size W w') :
    Calls Tryd.prog 38 #[.agg #[.int .i64 K, .string nx, .slice A n c, .int .i64 k1, .int .i64 n1, .bool b1, .slice Am m cm, .slice Ak l ck], .agg #[.int .i64 K2, .string ny, .slice A2 n2 c2, .int .i64 k2, .int .i64 m2, .bool b2, .slice Am2 mm2 cm2, .slice Ak2 l2 ck2]] w fun e w' => e = .returned (.bool true) ∧ Below w.heap.size w w' := by
  obtain ⟨W, hW⟩ : ∃ W, (w.alloc (.cells #[.int .i64 K, .string nx, .slice A n c, .int .i64 k1, .int .i64 n1, .bool b1, .slice Am m cm, .slice Ak l ck] 42)).alloc (.cells #[.int .i64 K2, .string ny, .slice A2 n2 c2, .int .i64 k2, .int .i64 m2, .bool b2, .slice Am2 mm2 cm2, .slice Ak2 l2 ck2] 42) = W := ⟨_, rfl⟩
  have hb0 : Below w.heap.size w W := by rw [← hW]; exact ((Below.refl _ _).alloc (Nat.le_refl _) _).alloc (by simp) _
  have hX1 : w.heap.size < W.heap.size := by rw [← hW]; simp; omega
  have hY1 : w.heap.size + 1 < W.heap.size := by rw [← hW]; simp
  have x0 : W.cell? ⟨w.heap.size, 0, none⟩ = some (.int .i64 K) := by subst hW; go_simp
  have x1 : W.cell? ⟨w.heap.size, 1, none⟩ = some (.string nx) := by subst hW; go_simp
  have x2 : W.cell? ⟨w.heap.size, 2, none⟩ = some (.slice A n c) := by subst hW; go_simp
  have x3 : W.cell? ⟨w.heap.size, 3, none⟩ = some (.int .i64 k1) := by subst hW; go_simp
  have x4 : W.cell? ⟨w.heap.size, 4, none⟩ = some (.int .i64 n1) := by subst hW; go_simp
  have x5 : W.cell? ⟨w.heap.size, 5, none⟩ = some (.bool b1) := by subst hW; go_simp
  have x6 : W.cell? ⟨w.heap.size, 6, none⟩ = some (.slice Am m cm) := by subst hW; go_simp
  have x7 : W.cell? ⟨w.heap.size, 7, none⟩ = some (.slice Ak l ck) := by subst hW; go_simp
  have y0 : W.cell? ⟨w.heap.size + 1, 0, none⟩ = some (.int .i64 K2) := by subst hW; go_simp
  have y1 : W.cell? ⟨w.heap.size + 1, 1, none⟩ = some (.string ny) := by subst hW; go_simp
  have y2 : W.cell? ⟨w.heap.size + 1, 2, none⟩ = some (.slice A2 n2 c2) := by subst hW; go_simp
  have y3 : W.cell? ⟨w.heap.size + 1, 3, none⟩ = some (.int .i64 k2) := by subst hW; go_simp
  have y4 : W.cell? ⟨w.heap.size + 1, 4, none⟩ = some (.int .i64 m2) := by subst hW; go_simp
  have y5 : W.cell? ⟨w.heap.size + 1, 5, none⟩ = some (.bool b2) := by subst hW; go_simp
  have y6 : W.cell? ⟨w.heap.size + 1, 6, none⟩ = some (.slice Am2 mm2 cm2) := by subst hW; go_simp
  have y7 : W.cell? ⟨w.heap.size + 1, 7, none⟩ = some (.slice Ak2 l2 ck2) := by subst hW; go_simp
  have HB0 := hide hb0
  have HCU := hide CU
  have HCN := hide CN
  have HCB := hide CB
  have HCI := hide CI
  obtain ⟨X, hX⟩ : ∃ X, w.heap.size = X := ⟨_, rfl⟩
  go_enter Tryd.func38, Tryd.ntmps38
  go_upto_region 1 with (fail)
  clear hb0 hW CU CN CB CI
  rw [hX] at x0 y0 x1 y1 x2 y2 x3 y3 x4 y4 x5 y5 x6 y6 x7 y7 hX1 hY1
  clear hX
  go_wp2_with fail
  have D0 := hide (HCU.out W HB0.out)
  refine D0.out.mono ?_
  rintro e1 w1 ⟨rfl, hb1⟩
  have HB1 := hide (HB0.out.trans (hb1.mono HB0.out.size))
  have hX1a := Nat.lt_of_lt_of_le hX1 hb1.size
  have hY1a := Nat.lt_of_lt_of_le hY1 hb1.size
  have x3_1 := (hb1.cell (p := ⟨X, 3, none⟩) hX1).trans x3
  have y3_1 := (hb1.cell (p := ⟨X + 1, 3, none⟩) hY1).trans y3
  have x4_1 := (hb1.cell (p := ⟨X, 4, none⟩) hX1).trans x4
  have y4_1 := (hb1.cell (p := ⟨X + 1, 4, none⟩) hY1).trans y4
  have x5_1 := (hb1.cell (p := ⟨X, 5, none⟩) hX1).trans x5
  have y5_1 := (hb1.cell (p := ⟨X + 1, 5, none⟩) hY1).trans y5
  have x6_1 := (hb1.cell (p := ⟨X, 6, none⟩) hX1).trans x6
  have y6_1 := (hb1.cell (p := ⟨X + 1, 6, none⟩) hY1).trans y6
  have x7_1 := (hb1.cell (p := ⟨X, 7, none⟩) hX1).trans x7
  have y7_1 := (hb1.cell (p := ⟨X + 1, 7, none⟩) hY1).trans y7
  clear hb1
  go_wp2_with fail
  have D1 := hide (HCN.out w1)
  refine D1.out.mono ?_
  rintro e2 w2 ⟨rfl, hb2⟩
  have HB2 := hide (HB1.out.trans (hb2.mono HB1.out.size))
  have hX1aa := Nat.lt_of_lt_of_le hX1a hb2.size
  have hY1aa := Nat.lt_of_lt_of_le hY1a hb2.size
  have x5_2 := (hb2.cell (p := ⟨X, 5, none⟩) hX1a).trans x5_1
  have y5_2 := (hb2.cell (p := ⟨X + 1, 5, none⟩) hY1a).trans y5_1
  have x6_2 := (hb2.cell (p := ⟨X, 6, none⟩) hX1a).trans x6_1
  have y6_2 := (hb2.cell (p := ⟨X + 1, 6, none⟩) hY1a).trans y6_1
  have x7_2 := (hb2.cell (p := ⟨X, 7, none⟩) hX1a).trans x7_1
  have y7_2 := (hb2.cell (p := ⟨X + 1, 7, none⟩) hY1a).trans y7_1
  clear hb2
  go_wp2_with fail
  have D2 := hide (HCB.out w2 HB2.out)
  refine D2.out.mono ?_
  rintro e3 w3 ⟨rfl, hb3⟩
  have HB3 := hide (HB2.out.trans (hb3.mono HB2.out.size))
  have hX1aaa := Nat.lt_of_lt_of_le hX1aa hb3.size
  have hY1aaa := Nat.lt_of_lt_of_le hY1aa hb3.size
  have x7_3 := (hb3.cell (p := ⟨X, 7, none⟩) hX1aa).trans x7_2
  have y7_3 := (hb3.cell (p := ⟨X + 1, 7, none⟩) hY1aa).trans y7_2
  clear hb3
  go_wp2_with fail
  have D3 := hide (HCI.out w3 HB3.out)
  refine D3.out.mono ?_
  rintro e4 w4 ⟨rfl, hb4⟩
  have HB4 := hide (HB3.out.trans (hb4.mono HB3.out.size))
  have hX1aaaa := Nat.lt_of_lt_of_le hX1aaa hb4.size
  have hY1aaaa := Nat.lt_of_lt_of_le hY1aaa hb4.size
  clear hb4
  go_wp2_with fail
  go_ret
  exact ⟨rfl, HB4.out⟩
/-- are two nodes alike, field by field? -/
theorem nd_eq {x y : Nd} : x = y ↔ x.kind = y.kind ∧ x.name = y.name ∧ x.str = y.str ∧ (x.nk = y.nk ∧ x.nn = y.nn) ∧ (x.neg = y.neg ∧ x.mag = y.mag) ∧ x.kids = y.kids := by
  constructor
  · rintro rfl; exact ⟨rfl, rfl, rfl, ⟨rfl, rfl⟩, ⟨rfl, rfl⟩, rfl⟩
  · rintro ⟨h1, h2, h3, ⟨h4, h5⟩, ⟨h6, h7⟩, h8⟩
    obtain ⟨a1, a2, a3, a4, a5, a6, a7, a8⟩ := x
    obtain ⟨b1, b2, b3, b4, b5, b6, b7, b8⟩ := y
    simp only at h1 h2 h3 h4 h5 h6 h7 h8
    subst h1 h2 h3 h4 h5 h6 h7 h8
    rfl
theorem bytes_list (l : List UInt8) : (⟨l.toArray⟩ : ByteArray).toList = l := by rw [ByteArray.toList_eq]
theorem rnode_any {x y : Nd} {s r : NdSl} {B : Nat} {w : World} (hB : B ≤ w.heap.size) (hx : NdR w B x s) (hy : NdR w B y r) (h1 : x.str.length ≤ 1000000) (h2 : y.str.length ≤ 1000000) (h3 : x.mag.length ≤ 1000000) (h4 : y.mag.length ≤ 1000000) (h5 : x.kids.length ≤ 1000000) (h6 : y.kids.length ≤ 1000000) :
    Calls Tryd.prog 38 #[.agg (ndV x s).toArray, .agg (ndV y r).toArray] w fun e w' => e = .returned (.bool (decide (x = y))) ∧ Below w.heap.size w w' := by
  have CU := fun W (hb : Below w.heap.size w W) => runits_any (c := s.cs) (d := r.cs) (Nat.le_trans hB hb.size) (hx.str.below (hb.mono hB)) (hy.str.below (hb.mono hB)) (by omega) (by omega)
  have CN := fun W => rnum_any x.nk x.nn y.nk y.nn W
  have CB := fun W (hb : Below w.heap.size w W) => rbig_any (c := s.cm) (c2 := r.cm) x.neg y.neg rfl rfl (Nat.le_trans hB hb.size) (hx.mag.below (hb.mono hB)) (hy.mag.below (hb.mono hB)) h3 h4
  have CI := fun W (hb : Below w.heap.size w W) => rints_any (c := s.ck) (d := r.ck) (Nat.le_trans hB hb.size) (hx.kids.below (hb.mono hB)) (hy.kids.below (hb.mono hB)) (by omega) (by omega)
  have hb1 := bytes_list x.name
  have hb2 := bytes_list y.name
  by_cases e1 : x.kind = y.kind
  · by_cases e2 : x.name = y.name
    · by_cases e3 : x.str = y.str
      · by_cases e4 : x.nk = y.nk ∧ x.nn = y.nn
        · by_cases e5 : x.neg = y.neg ∧ x.mag = y.mag
          · by_cases e6 : x.kids = y.kids
            · rw [decide_eq_true (nd_eq.2 ⟨e1, e2, e3, e4, e5, e6⟩)]
              exact rnode_6 (by simpa using e1) (by rw [hb1, hb2]; simpa using e2) (fun W hb => by have := CU W hb; rw [decide_eq_true e3] at this; exact this) (fun W => by have := CN W; rw [decide_eq_true e4] at this; exact this) (fun W hb => by have := CB W hb; rw [decide_eq_true e5] at this; exact this) (fun W hb => by have := CI W hb; rw [decide_eq_true e6] at this; exact this)
            · rw [decide_eq_false (fun h => e6 (nd_eq.1 h).2.2.2.2.2)]
              exact rnode_5 (by simpa using e1) (by rw [hb1, hb2]; simpa using e2) (fun W hb => by have := CU W hb; rw [decide_eq_true e3] at this; exact this) (fun W => by have := CN W; rw [decide_eq_true e4] at this; exact this) (fun W hb => by have := CB W hb; rw [decide_eq_true e5] at this; exact this) (fun W hb => by have := CI W hb; rw [decide_eq_false e6] at this; exact this)
          · rw [decide_eq_false (fun h => e5 (nd_eq.1 h).2.2.2.2.1)]
            exact rnode_4 (by simpa using e1) (by rw [hb1, hb2]; simpa using e2) (fun W hb => by have := CU W hb; rw [decide_eq_true e3] at this; exact this) (fun W => by have := CN W; rw [decide_eq_true e4] at this; exact this) (fun W hb => by have := CB W hb; rw [decide_eq_false e5] at this; exact this)
        · rw [decide_eq_false (fun h => e4 (nd_eq.1 h).2.2.2.1)]
          exact rnode_3 (by simpa using e1) (by rw [hb1, hb2]; simpa using e2) (fun W hb => by have := CU W hb; rw [decide_eq_true e3] at this; exact this) (fun W => by have := CN W; rw [decide_eq_false e4] at this; exact this)
      · rw [decide_eq_false (fun h => e3 (nd_eq.1 h).2.2.1)]
        exact rnode_2 (by simpa using e1) (by rw [hb1, hb2]; simpa using e2) (fun W hb => by have := CU W hb; rw [decide_eq_false e3] at this; exact this)
    · rw [decide_eq_false (fun h => e2 (nd_eq.1 h).2.1)]
      exact rnode_1 (by simpa using e1) (by rw [hb1, hb2]; simpa using e2)
  · rw [decide_eq_false (fun h => e1 (nd_eq.1 h).1)]
    exact rnode_0 (by simpa using e1)
end Go.Proofs.YtelcjdblnagdgaaDoor

namespace Go.Proofs.YtelcjdblnagdgaaDoor
open Go.ChangeShapes Go.WideShapes Go.ChangeAt Go.RowKit Go.Lib

theorem own : ownKnob Tryd.prog.godebug = none := by kernel_rfl
theorem gPowType : (Tryd.prog.globals[0]?).map (·.type) = some 107 := by kernel_rfl
theorem datPow : (Rows.laid_internal_strconv_uint64pow10 : DataW Unit) = Lib.tabData .u64 Lib.pow10Tab := by kernel_rfl
/-- What each row of the seat lists gives: the table. -/
theorem tab_laid {w : World} (h : laidMetH Tryd.prog [("math/bits.deBruijn32tab", Rows.laid_math_bits_deBruijn32tab), ("math/bits.deBruijn64tab", Rows.laid_math_bits_deBruijn64tab), ("internal/strconv.uint64pow10", Rows.laid_internal_strconv_uint64pow10)] w) : Tab w := by
  have h' : laidMet Tryd.prog [("math/bits.deBruijn32tab", Rows.laid_math_bits_deBruijn32tab), ("math/bits.deBruijn64tab", Rows.laid_math_bits_deBruijn64tab), ("internal/strconv.uint64pow10", Rows.laid_internal_strconv_uint64pow10)] w := h
  rw [datPow] at h'
  obtain ⟨_, ⟨_, _, _, _, _, _, _, _, _, _, ⟨_, _, _, _, _, _, _, _, _, _, ⟨g', t', cs, fuel, p, q, hg', ht', hvar, hd, _, _⟩, _⟩, _⟩, _⟩ := h'
  obtain rfl := Option.some.inj (gPow.symm.trans hg')
  obtain rfl := Option.some.inj (gPowType.symm.trans ht')
  unfold Tab Lib.TabIs
  rw [hvar, ← Lib.cells_of_tab Tryd.underlying107 Tryd.underlying94 (by kernel_rfl) (by kernel_rfl) hd]
section
variable {H : Type} {enc : TypeId × Value → H} {W : World} {base : Nat}
theorem Tryd.laidOut : laidOutB Tryd.prog = true := by kernel_rfl
/-- The arguments read behind the call as they read before. -/
theorem trodAll_stays {W' : World} {sp' : Nat → Bool} : ∀ {ts : List TypeId} {vs : List Value} {ds : List (DataW H)} {ps : List MemPlace}, (∀ t ∈ ts, Tryd.prog.readableRec t = true ∧ t < Tryd.prog.types.size) →
    DataW.TrodAll enc Tryd.prog W 0 (fun _ => true) true ts vs ds ps → Below W.heap.size W W' → (∀ x ∈ ps, x.block < W.heap.size) → (∀ p ∈ ps, sp' p.block = true) → DataW.TrodAll enc Tryd.prog W' 0 sp' true ts vs ds ps := by
  intro ts
  induction ts with
  | nil =>
    intro vs ds ps _ h _ _ _
    obtain ⟨rfl, rfl, rfl⟩ := trodAll_nil h
    exact trodAll_mk0
  | cons t ts ih =>
    intro vs ds ps hr h hb hlt hs
    obtain ⟨v, vs', d, ds', p, q, rfl, rfl, rfl, h0, r0⟩ := trodAll_cons h
    have ht := hr t (by simp)
    exact trodAll_cons_mk (WideElems.Trod_stays Tryd.laidOut ht.1 ht.2 h0 (fun x hx => hb.same (hlt x (by simp [hx]))) (fun x hx => hs x (by simp [hx])))
      (ih (fun t' h' => hr t' (by simp [h'])) r0 hb (fun x hx => hlt x (by simp [hx])) (fun x hx => hs x (by simp [hx])))

theorem post_of_below {P : Program} {f : Func} {s : ChangeSpec} {apart fresh handsOn again : Bool} {W W' : World} {args : Array Value} {v : Value} {ds gs : List (DataW H)} {before pa pv : List MemPlace}
    (hW : DataW.Whole enc P f.params.toList s.vars apart W args.toList ds gs before)
    (hres : ∀ (b : Nat) (sp : Nat → Bool) (hd : Bool), DataW.TrodAll enc P W' b sp hd f.resultTypes.toList (v.resultList f.resultTypes.size) (s.fn H (ds ++ gs)).results [])
    (hargs : ∀ sp : Nat → Bool, (∀ p ∈ before, sp p.block = true) → DataW.TrodAll enc P W' 0 sp true f.params.toList args.toList (s.fn H (ds ++ gs)).args pa)
    (hvars : ∀ sp : Nat → Bool, (∀ p ∈ before, sp p.block = true) → DataW.TrodVars enc P W' sp s.vars (s.fn H (ds ++ gs)).vars pv)
    (hps : before = pa ++ pv) (hb : Below W.heap.size W W')
    (hok : ∀ (j : Nat) (t : TypeId) (r : Value), f.resultTypes[j]? = some t → (v.resultList f.resultTypes.size)[j]? = some r → Value.okWide P W' .any 0 t r) :
    s.post enc P f apart fresh handsOn again W args v W' := by
  have hlt : ∀ p ∈ before, p.block < W.heap.size := fun p hp => hW.lt p hp
  have hold : ∀ p ∈ before, (fun b => decide (b < W.heap.size)) p.block = true := fun p hp => by simpa using hlt p hp
  refine ⟨ds, gs, before, [], pa, pv, hW, hres _ _ _, hargs _ hold, hvars _ hold, World.keptBut_mono (fun p hp => ⟨hp, ?_⟩) (hb.frame (· ∈ before)), fun _ => ?_⟩
  · rw [hps, List.mem_append] at hp
    exact Or.inr hp
  · obtain ⟨_, _, _, _, _, hz, hn⟩ := hW
    refine ⟨hok, _, _, ([] ++ pa) ++ pv, ⟨[] ++ pa, pv, trodAll_append (hargs _ (fun _ _ => rfl)) (hres _ _ _), hvars _ (fun _ _ => rfl), rfl, ?_, ?_⟩, ?_⟩
    · intro b off hp
      have hin : MemPlace.cell b off ∈ before := by rw [hps]; simpa using hp
      rw [hb.frozen (hlt _ hin)]
      exact hz b off hin
    · intro ha
      have := hn ha
      rw [hps] at this
      simpa using this
    · intro p hp _
      rw [hps]
      simpa using hp
end


/-- the numbers of a table as a row lists it -/
def numsOf : DataW Unit → List Int
  | .agg l => l.map fun d => match d with | .lit (.int _ z) => z | _ => 0
  | _ => []
/-- A heap with the three tables as their initialisers lay them. -/
def laidHeap (h : Array Obj) : Array Obj :=
  ((h.modify 0 fun
      | .cells _ t frozen => .cells (Lib.pow10Tab.map fun z => Value.int .u64 z).toArray t frozen
      | o => o).modify 1 fun
      | .cells _ t frozen => .cells ((numsOf Rows.laid_math_bits_deBruijn32tab).map fun z => Value.int .u8 z).toArray t frozen
      | o => o).modify 2 fun
      | .cells _ t frozen => .cells ((numsOf Rows.laid_math_bits_deBruijn64tab).map fun z => Value.int .u8 z).toArray t frozen
      | o => o
/-- A world for the witnesses: the settled one, with these tables. -/
noncomputable def laidWorld (os : Os) : World :=
  let w := World.holding Tryd.prog os ⟨#[], #[], []⟩
  { w with heap := laidHeap w.heap }

end Go.Proofs.YtelcjdblnagdgaaDoor
