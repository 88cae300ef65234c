/- Joined for a claim: LexRemark, LexPass, LexToksW, LT14, LexRead, LexFirst, RTok, RTok2, PQuotes. -/
import Derived.Test.YtbljbmeifmpfoaaK08
import Derived.Deep.LoopGhost
import Derived.Test.YtbljbmeifmpfoaaK18
import Derived.Test.YtbljbmeifmpfoaaK11
import Derived.Test.YtbljbmeifmpfoaaK15
import Derived.Test.YtbljbmeifmpfoaaK14
import Derived.Deep.RegionHeld3
namespace Go.Proofs.Ytbljbmeifmpfoaa
open Go.RowKit

theorem ret_bi {a b : Bool} {m n : Nat} (h : a = b) (h2 : m = n) : Ending.returned (.tuple #[.bool a, .int .i64 (m : Int)]) = .returned (.tuple #[.bool b, .int .i64 (n : Int)]) := by rw [h, h2]
/-- how far the loop is: i units have been passed -/
def AtRem (long : Bool) (u : List UInt16) (k p : Nat) (b d : Bool) : Prop := ∃ i, p = k + 2 + i ∧ remGo long (u.drop (k + 2)) false false = plus i (remGo long (u.drop p) b d)
theorem AtRem.step {long : Bool} {u : List UInt16} {k p : Nat} {b d : Bool} (h : AtRem long u k p b d) (hp : p < u.length) (h1 : (long && starts [42, 47] (u.drop p)) = false) (h2 : (!long && isLine u[p]) = false) :
    AtRem long u k (p + 1) (b || isLine u[p]) (d || isFar u[p]) := by
  obtain ⟨i, hi, he⟩ := h
  refine ⟨i + 1, by omega, ?_⟩
  have hd : u.drop p = u[p] :: u.drop (p + 1) := List.drop_eq_getElem_cons hp
  rw [he, hd, remGo, if_neg (by rw [← hd, h1]; simp), if_neg (by rw [h2]; simp)]
  simp only [plus]
  congr 1
  omega
theorem AtRem.close {u : List UInt16} {k p : Nat} {b d : Bool} (h : AtRem true u k p b d) (hp : p < u.length) (h1 : starts [42, 47] (u.drop p) = true) :
    remGo true (u.drop (k + 2)) false false = (p - (k + 2) + 2, b, leftF d) ∧ k + 2 ≤ p := by
  obtain ⟨i, hi, he⟩ := h
  have hd : u.drop p = u[p] :: u.drop (p + 1) := List.drop_eq_getElem_cons hp
  refine ⟨?_, by omega⟩
  rw [he, hd, remGo, if_pos (by rw [← hd, h1]; rfl)]
  simp only [plus]
  congr 1
  omega
theorem AtRem.line {u : List UInt16} {k p : Nat} {b d : Bool} (h : AtRem false u k p b d) (hp : p < u.length) (h1 : isLine u[p] = true) :
    remGo false (u.drop (k + 2)) false false = (p - (k + 2), false, leftF d) ∧ k + 2 ≤ p := by
  obtain ⟨i, hi, he⟩ := h
  have hd : u.drop p = u[p] :: u.drop (p + 1) := List.drop_eq_getElem_cons hp
  refine ⟨?_, by omega⟩
  rw [he, hd, remGo, if_neg (by simp), if_pos (by rw [h1]; rfl)]
  simp only [plus]
  congr 1
  omega
theorem AtRem.stop {long : Bool} {u : List UInt16} {k : Nat} {b d : Bool} (h : AtRem long u k u.length b d) :
    remGo long (u.drop (k + 2)) false false = (u.length - (k + 2), false, if long = true then 5 else leftF d) ∧ k + 2 ≤ u.length := by
  obtain ⟨i, hi, he⟩ := h
  refine ⟨?_, by omega⟩
  rw [he, List.drop_length, remGo]
  simp only [plus]
  congr 1
  omega
theorem rem_of {u : List UInt16} {k m e : Nat} {nl : Bool} {long : Bool} (hlong : starts [47, 42] (u.drop k) = long) (hq : remarkF (u.drop k) = (m, nl, e)) : ∀ (i : Nat) (b : Bool) (e' : Nat), remGo long (u.drop (k + 2)) false false = (i, b, e') → 2 + i = m ∧ b = nl ∧ e' = e := by
  intro i b e' h
  unfold remarkF at hq
  rw [hlong, List.drop_drop, h] at hq
  simpa [plus] using hq

set_option maxHeartbeats 4000000 in
set_option maxRecDepth 100000 in
theorem lremark_any {A : Option Addr} {c g B k n : Nat} {u : List UInt16} {w : World} (hr : Rd w g A n c k) (hn : u.length = n) (ha : Reads w B 1 A n (u16s u)) (hB : B ≤ g) (hk : k + 2 ≤ n) (hl : n ≤ 4096) {m e : Nat} {nl : Bool} (hq : remarkF (u.drop k) = (m, nl, e)) :
    Calls Try.prog 21 #[.pointer (some ⟨g, 0, none⟩)] w fun ev w' => ev = .returned (.tuple #[.bool nl, .int .i64 (e : Int)]) ∧ Mv w w' g A n c (k + m) := by
  subst hn
  obtain ⟨long, hlong⟩ : ∃ q, starts [47, 42] (u.drop k) = q := ⟨_, rfl⟩
  have HQ := hide (rem_of hlong hq)
  have HL := hide hlong
  have HA := hide ha
  have HR := hide hr
  have hg := hr.lt
  clear hq hlong ha hr
  go_enter Try.func21, Try.ntmps21
  go_wp2_with fail
  refine (lhas_any ⟨#[47, 42]⟩ HR.out rfl HA.out (by omega) hl (by decide) HL.out).mono ?_
  rintro e1 w1 ⟨rfl, m1, hw1⟩
  subst hw1
  have hc0 := HR.out.c0
  have hc1 := HR.out.c1
  have hf1 := HR.out.f1
  go_wp2
  have hM0 := hide (Mv.step ((Mv.refl HR.out).drewN m1) (z := (k : Int) + 2) (k' := k + 2) (by omega))
  clear hc0 hc1 hf1
  go_loopg [5, 6] (u.length - (k + 2)) (fun r a st wr => ∃ p b d, p + r = u.length ∧ a = .bool b ∧ st = .bool d ∧ Hid (Mv w wr g A u.length c p) ∧ Hid (AtRem long u k p b d))
  case atStart => exact ⟨k + 2, false, false, by omega, rfl, rfl, hM0, 0, by omega, by simp [plus]⟩
  case round =>
    obtain ⟨p, b, d, hpr, rfl, rfl, hM, hat⟩ := hrel
    have hc0 := hM.out.rd.c0
    have hc1 := hM.out.rd.c1
    have hf1 := hM.out.rd.f1
    have har := hide (HA.out.grown hM.out.grown hB (Nat.le_of_lt hg))
    by_cases hlt : p < u.length
    · have hlt2 : (p : Int) < (u.length : Int) := by omega
      obtain ⟨blk, off, rfl, _, hcell⟩ := har.out.spotL (by omega)
      have hca := hcell p hlt
      have hStep := hide (fun h1 h2 => hat.out.step hlt h1 h2)
      have hClose := hide (fun (e : long = true) h1 => (by subst e; exact hat.out.close hlt h1 : remGo long (u.drop (k + 2)) false false = (p - (k + 2) + 2, b, leftF d) ∧ k + 2 ≤ p))
      have hLine := hide (fun (e : long = false) h1 => (by subst e; exact hat.out.line hlt h1 : remGo long (u.drop (k + 2)) false false = (p - (k + 2), false, leftF d) ∧ k + 2 ≤ p))
      obtain ⟨x, hx⟩ : ∃ x, u[p] = x := ⟨_, rfl⟩
      rw [hx] at hca hStep hLine
      obtain ⟨st, hst⟩ : ∃ q, starts [42, 47] (u.drop p) = q := ⟨_, rfl⟩
      have HST := hide hst
      rw [hst] at hStep hClose
      clear hcell hx hst
      cases long with
      | true =>
        cases st with
        | true =>
          have hcl := hide (hClose.out rfl rfl)
          go_wp2_with fail
          go_quiet (fail)
          go_wp2_with fail
          go_quiet (fail)
          go_wp2_with (first | (go_at_call 20; refine (lhas_any ⟨#[42, 47]⟩ (hM.out.rd.drewN _) rfl (har.out.drewN _) (by omega) hl (by decide) HST.out).mono ?_; rintro e2 w2 ⟨rfl, m2, hw2⟩; subst hw2) | (go_at_call 38; refine (lleft_any _ _).mono ?_; rintro e2 w2 ⟨rfl, rfl⟩))
          go_ret2
          obtain ⟨q1, q2⟩ := hcl.out
          obtain ⟨z1, z2, z3⟩ := HQ.out _ _ _ q1
          exact ⟨ret_bi z2 z3, by rw [show k + m = p + 2 by omega]; exact Mv.step ((hM.out.drewN _)) (by omega)⟩
        | false =>
          have hsp := hide (hStep.out rfl rfl)
          cases b
          all_goals cases d
          all_goals
            go_wp2_with fail
            go_quiet (fail)
            go_wp2_with fail
            go_quiet (fail)
            go_wp2_with (first | (go_at_call 20; refine (lhas_any ⟨#[42, 47]⟩ (hM.out.rd.drewN _) rfl (har.out.drewN _) (by omega) hl (by decide) HST.out).mono ?_; rintro e2 w2 ⟨rfl, m2, hw2⟩; subst hw2) | (go_at_call 19; refine (lline_any _ _).mono ?_; rintro e2 w2 ⟨rfl, rfl⟩) | (go_at_call 39; refine (lparts_any _ _).mono ?_; rintro e2 w2 ⟨rfl, rfl⟩))
            go_roundg (gk - 1)
            case measure => omega
            case rel => exact ⟨p + 1, _, _, by omega, rfl, rfl, Mv.step (hM.out.drewN _) (by omega), hsp.out⟩
      | false =>
        cases hln : isLine x with
        | true =>
          have hcl := hide (hLine.out rfl hln)
          go_wp2_with fail
          go_quiet (fail)
          go_wp2_with fail
          go_quiet (fail)
          go_wp2_with (first | (go_at_call 19; refine (lline_any _ _).mono ?_; rintro e2 w2 ⟨rfl, rfl⟩) | (go_at_call 38; refine (lleft_any _ _).mono ?_; rintro e2 w2 ⟨rfl, rfl⟩))
          go_ret2
          obtain ⟨q1, q2⟩ := hcl.out
          obtain ⟨z1, z2, z3⟩ := HQ.out _ _ _ q1
          exact ⟨ret_bi z2 z3, by rw [show k + m = p by omega]; exact hM.out.drewN _⟩
        | false =>
          have hsp := hide (hStep.out (by rfl) (by rw [hln]; rfl))
          have HLN := hide hln
          cases b
          all_goals cases d
          all_goals
            go_wp2_with fail
            go_quiet (fail)
            go_wp2_with fail
            go_quiet (fail)
            go_wp2_with (first | (go_at_call 19; refine (lline_any _ _).mono ?_; rintro e2 w2 ⟨rfl, rfl⟩) | (go_at_call 39; refine (lparts_any _ _).mono ?_; rintro e2 w2 ⟨rfl, rfl⟩))
            go_roundg (gk - 1)
            case measure => omega
            case rel => exact ⟨p + 1, _, _, by omega, rfl, rfl, Mv.step (hM.out.drewN _) (by omega), by first | exact hsp.out | (have z := hsp.out; rw [HLN.out] at z; exact z)⟩
    · obtain rfl : p = u.length := by have := hM.out; omega
      have hst := hide hat.out.stop
      cases long with
      | true =>
        go_wp2_with fail
        go_quiet (fail)
        go_wp2
        go_ret2
        obtain ⟨q1, q2⟩ := hst.out
        obtain ⟨z1, z2, z3⟩ := HQ.out _ _ _ q1
        exact ⟨ret_bi (n := e) (m := 5) z2 z3, by rw [show k + m = u.length by omega]; exact hM.out.drewN _⟩
      | false =>
        go_wp2_with fail
        go_quiet (fail)
        go_wp2_with (go_at_call 38; refine (lleft_any _ _).mono ?_; rintro e2 w2 ⟨rfl, rfl⟩)
        go_ret2
        obtain ⟨q1, q2⟩ := hst.out
        obtain ⟨z1, z2, z3⟩ := HQ.out _ _ _ q1
        exact ⟨ret_bi z2 z3, by rw [show k + m = u.length by omega]; exact hM.out.drewN _⟩
end Go.Proofs.Ytbljbmeifmpfoaa

namespace Go.Proofs.Ytbljbmeifmpfoaa
open Go.RowKit

theorem or_false_both {a b : Bool} (h : (a || b) = false) : a = false ∧ b = false := by cases a <;> simp_all
theorem or_left {b : Bool} (h : (false || b) = true) : b = true := h
theorem ret_bii {a b : Bool} {m n p q : Nat} (h : a = b) (h2 : m = n) (h3 : p = q) : Ending.returned (.tuple #[.bool a, .int .i64 (m : Int), .int .i64 (p : Int)]) = .returned (.tuple #[.bool b, .int .i64 (n : Int), .int .i64 (q : Int)]) := by rw [h, h2, h3]
/-- how far the loop is -/
def AtPass (u : List UInt16) (k p : Nat) (b : Bool) : Prop := ∃ i, p = k + i ∧ passL (u.drop k) false = plus i (passL (u.drop p) b)
theorem AtPass.blank {u : List UInt16} {k p : Nat} {b : Bool} (h : AtPass u k p b) (hp : p < u.length) (h1 : (isBl u[p] || isLine u[p]) = true) : AtPass u k (p + 1) (b || isLine u[p]) := by
  obtain ⟨i, hi, he⟩ := h
  refine ⟨i + 1, by omega, ?_⟩
  rw [he, List.drop_eq_getElem_cons hp, passL_blank h1]
  simp only [plus]
  congr 1
  omega
theorem AtPass.remark {u : List UInt16} {k p m : Nat} {b nl : Bool} (h : AtPass u k p b) (hp : p < u.length) (h1 : (isBl u[p] || isLine u[p]) = false) (h2 : (starts [47, 47] (u.drop p) || starts [47, 42] (u.drop p)) = true)
    (hq : remarkF (u.drop p) = (m, nl, 0)) : AtPass u k (p + m) (b || nl) := by
  obtain ⟨i, hi, he⟩ := h
  refine ⟨i + m, by omega, ?_⟩
  have hd : u.drop p = u[p] :: u.drop (p + 1) := List.drop_eq_getElem_cons hp
  rw [hd] at hq h2
  rw [he, hd, passL_remark h1 h2, hq, if_neg (by simp), ← hd, List.drop_drop]
  simp only [plus]
  congr 1
  omega
theorem AtPass.bad {u : List UInt16} {k p m e : Nat} {b nl : Bool} (h : AtPass u k p b) (hp : p < u.length) (h1 : (isBl u[p] || isLine u[p]) = false) (h2 : (starts [47, 47] (u.drop p) || starts [47, 42] (u.drop p)) = true)
    (hq : remarkF (u.drop p) = (m, nl, e)) (he0 : e ≠ 0) : passL (u.drop k) false = (p - k, false, e) ∧ k ≤ p := by
  obtain ⟨i, hi, he⟩ := h
  refine ⟨?_, by omega⟩
  have hd : u.drop p = u[p] :: u.drop (p + 1) := List.drop_eq_getElem_cons hp
  rw [hd] at hq h2
  rw [he, hd, passL_remark h1 h2, hq, if_pos he0]
  simp only [plus]
  congr 1
  omega
theorem AtPass.halt {u : List UInt16} {k p : Nat} {b : Bool} (h : AtPass u k p b) (hp : p < u.length) (h1 : (isBl u[p] || isLine u[p]) = false) (h2 : (starts [47, 47] (u.drop p) || starts [47, 42] (u.drop p)) = false) :
    passL (u.drop k) false = (p - k, b, 0) ∧ k ≤ p := by
  obtain ⟨i, hi, he⟩ := h
  refine ⟨?_, by omega⟩
  have hd : u.drop p = u[p] :: u.drop (p + 1) := List.drop_eq_getElem_cons hp
  rw [hd] at h2
  rw [he, hd, passL_stop h1 h2]
  simp only [plus]
  congr 1
  omega
theorem AtPass.stop {u : List UInt16} {k : Nat} {b : Bool} (h : AtPass u k u.length b) : passL (u.drop k) false = (u.length - k, b, 0) ∧ k ≤ u.length := by
  obtain ⟨i, hi, he⟩ := h
  refine ⟨?_, by omega⟩
  rw [he, List.drop_length, passL_nil]
  simp only [plus]
  congr 1
  omega
theorem pass_of {u : List UInt16} {k m e : Nat} {nl : Bool} (hq : passF (u.drop k) = (m, nl, e)) : ∀ (i : Nat) (b : Bool) (e' : Nat), passL (u.drop k) false = (i, b, e') → i = m ∧ b = nl ∧ e' = e := by
  intro i b e' h
  have : passF (u.drop k) = passL (u.drop k) false := rfl
  rw [this, h] at hq
  simpa using hq

set_option maxHeartbeats 8000000 in
set_option maxRecDepth 100000 in
theorem lpass_any {A : Option Addr} {c g B k n : Nat} {u : List UInt16} {w : World} (hr : Rd w g A n c k) (hn : u.length = n) (ha : Reads w B 1 A n (u16s u)) (hB : B ≤ g) (hk : k ≤ n) (hl : n ≤ 4096) {m e : Nat} {nl : Bool} (hq : passF (u.drop k) = (m, nl, e)) :
    Calls Try.prog 12 #[.pointer (some ⟨g, 0, none⟩)] w fun ev w' => (ev = .returned (.tuple #[.bool nl, .int .i64 ((if e = 0 then 0 else k + m : Nat) : Int), .int .i64 (e : Int)])) ∧ (e = 0 → Mv w w' g A n c (k + m)) ∧ w.grownBy w' (some g) := by
  subst hn
  have HQ := hide (pass_of hq)
  have HA := hide ha
  have HR := hide hr
  have hg := hr.lt
  have hM0 := hide (Mv.refl hr)
  clear hq ha hr
  go_enter Try.func12, Try.ntmps12
  go_wp2
  go_step3
  go_wp2
  go_step3
  go_wp2
  go_loopg [5] (u.length - k) (fun r a wr => ∃ p b, p + r = u.length ∧ a = .bool b ∧ Hid (Mv w wr g A u.length c p) ∧ Hid (AtPass u k p b))
  case atStart => exact ⟨k, false, by omega, rfl, hM0, 0, rfl, by simp [plus]⟩
  case round =>
    obtain ⟨p, b, hpr, rfl, hM, hat⟩ := hrel
    have hc0 := hM.out.rd.c0
    have hc1 := hM.out.rd.c1
    have hf1 := hM.out.rd.f1
    have har := hide (HA.out.grown hM.out.grown hB (Nat.le_of_lt hg))
    by_cases hlt : p < u.length
    · have hlt2 : (p : Int) < (u.length : Int) := by omega
      obtain ⟨blk, off, rfl, _, hcell⟩ := har.out.spotL (by omega)
      have hca := hcell p hlt
      have hBlank := hide (fun h1 => hat.out.blank hlt h1)
      have hRem := hide (fun m nl h1 h2 hq => hat.out.remark (m := m) (nl := nl) hlt h1 h2 hq)
      have hBad := hide (fun m nl e h1 h2 hq he => hat.out.bad (m := m) (nl := nl) (e := e) hlt h1 h2 hq he)
      have hHalt := hide (fun h1 h2 => hat.out.halt hlt h1 h2)
      obtain ⟨x, hx⟩ : ∃ x, u[p] = x := ⟨_, rfl⟩
      rw [hx] at hca hBlank hRem hBad hHalt
      clear hcell hx
      cases hbl : (isBl x || isLine x) with
      | true =>
        have hsp := hide (hBlank.out hbl)
        cases hb1 : isBl x with
        | true =>
          cases b
          all_goals
            go_wp2_with fail
            go_quiet (fail)
            go_wp2_with fail
            go_quiet (fail)
            go_wp2_with (first | (go_at_call 19; refine (lline_any _ _).mono ?_; rintro e2 w2 ⟨rfl, rfl⟩) | (go_at_call 18; refine (lblank_any _ _).mono ?_; rintro e2 w2 ⟨rfl, rfl⟩))
            go_roundg (gk - 1)
            case measure => omega
            case rel => exact ⟨p + 1, _, by omega, rfl, Mv.step (hM.out.drewN _) (by omega), hsp.out⟩
        | false =>
          have hl1 : isLine x = true := by rw [hb1] at hbl; exact hbl
          cases b
          all_goals
            go_wp2_with fail
            go_quiet (fail)
            go_wp2_with fail
            go_quiet (fail)
            go_wp2_with (first | (go_at_call 19; refine (lline_any _ _).mono ?_; rintro e2 w2 ⟨rfl, rfl⟩) | (go_at_call 18; refine (lblank_any _ _).mono ?_; rintro e2 w2 ⟨rfl, rfl⟩))
            go_roundg (gk - 1)
            case measure => omega
            case rel => exact ⟨p + 1, _, by omega, rfl, Mv.step (hM.out.drewN _) (by omega), by first | exact hsp.out | (have z := hsp.out; rw [hl1] at z; exact z)⟩
      | false =>
        have hb1 : isBl x = false := (or_false_both hbl).1
        have hb2 : isLine x = false := (or_false_both hbl).2
        have HBL := hide hbl
        clear hbl
        obtain ⟨s1, hs1⟩ : ∃ q, starts [47, 47] (u.drop p) = q := ⟨_, rfl⟩
        obtain ⟨s2, hs2⟩ : ∃ q, starts [47, 42] (u.drop p) = q := ⟨_, rfl⟩
        have HS1 := hide hs1
        have HS2 := hide hs2
        have HS := hide (show (starts [47, 47] (u.drop p) || starts [47, 42] (u.drop p)) = (s1 || s2) by rw [hs1, hs2])
        clear hs1 hs2
        cases hss : (s1 || s2) with
        | false =>
          have h1 : s1 = false := (or_false_both hss).1
          have h2 : s2 = false := (or_false_both hss).2
          have hcl := hide (hHalt.out HBL.out (by rw [HS.out, hss]))
          subst h1 h2
          clear hss
          go_wp2_with fail
          go_quiet (fail)
          go_wp2_with fail
          go_quiet (fail)
          go_wp2_with (first | (go_at_call 19; refine (lline_any _ _).mono ?_; rintro e2 w2 ⟨rfl, rfl⟩) | (go_at_call 18; refine (lblank_any _ _).mono ?_; rintro e2 w2 ⟨rfl, rfl⟩))
          refine (lhas_any ⟨#[47, 47]⟩ (hM.out.rd.drewN _) rfl (har.out.drewN _) (by omega) hl (by decide) HS1.out).mono ?_
          rintro e2 w2 ⟨rfl, m2, hw2⟩
          subst hw2
          go_wp2_with fail
          refine (lhas_any ⟨#[47, 42]⟩ (hM.out.rd.drewN _) rfl (har.out.drewN _) (by omega) hl (by decide) HS2.out).mono ?_
          rintro e3 w3 ⟨rfl, m3, hw3⟩
          subst hw3
          go_wp2
          (try rw [Exit.noGoto_ret])
          go_ret3
          obtain ⟨q1, q2⟩ := hcl.out
          obtain ⟨z1, z2, z3⟩ := HQ.out _ _ _ q1
          subst z1 z2 z3
          exact ⟨rfl, fun _ => by rw [show k + (p - k) = p by omega]; exact hM.out.drewN _, (hM.out.drewN _).grown⟩
        | true =>
          obtain ⟨⟨rm, rnl, re⟩, hrem⟩ : ∃ z, remarkF (u.drop p) = z := ⟨_, rfl⟩
          have hp2 : p + 2 ≤ u.length := by
            have := rem_starts (l := u.drop p) (by rw [HS.out, hss])
            rw [List.length_drop] at this
            omega
          have hrl := remark_le (l := u.drop p) (by rw [List.length_drop]; omega)
          rw [hrem, List.length_drop] at hrl
          have HREM := hide hrem
          by_cases he0 : re = 0
          · subst he0
            have hsp := hide (hRem.out rm rnl HBL.out (by rw [HS.out, hss]) hrem)
            clear hrem
            cases s1 with
            | true =>
              cases b
              all_goals
                go_wp2_with fail
                go_quiet (fail)
                go_wp2_with fail
                go_quiet (fail)
                go_wp2_with (first | (go_at_call 19; refine (lline_any _ _).mono ?_; rintro e2 w2 ⟨rfl, rfl⟩) | (go_at_call 18; refine (lblank_any _ _).mono ?_; rintro e2 w2 ⟨rfl, rfl⟩))
                refine (lhas_any ⟨#[47, 47]⟩ (hM.out.rd.drewN _) rfl (har.out.drewN _) (by omega) hl (by decide) HS1.out).mono ?_
                rintro e2 w2 ⟨rfl, m2, hw2⟩
                subst hw2
                go_wp2_with fail
                refine (lremark_any (hM.out.rd.drewN _) rfl (har.out.drewN _) hB hp2 hl HREM.out).mono ?_
                rintro e4 w4 ⟨rfl, hM3⟩
                go_wp2
                go_roundg (u.length - (p + rm))
                case measure => omega
                case rel => exact ⟨p + rm, _, by omega, rfl, Mv.then (hM.out.drewN _) hM3, hsp.out⟩
            | false =>
              obtain rfl : s2 = true := or_left hss
              cases b
              all_goals
                go_wp2_with fail
                go_quiet (fail)
                go_wp2_with fail
                go_quiet (fail)
                go_wp2_with (first | (go_at_call 19; refine (lline_any _ _).mono ?_; rintro e2 w2 ⟨rfl, rfl⟩) | (go_at_call 18; refine (lblank_any _ _).mono ?_; rintro e2 w2 ⟨rfl, rfl⟩))
                refine (lhas_any ⟨#[47, 47]⟩ (hM.out.rd.drewN _) rfl (har.out.drewN _) (by omega) hl (by decide) HS1.out).mono ?_
                rintro e2 w2 ⟨rfl, m2, hw2⟩
                subst hw2
                go_wp2_with fail
                refine (lhas_any ⟨#[47, 42]⟩ (hM.out.rd.drewN _) rfl (har.out.drewN _) (by omega) hl (by decide) HS2.out).mono ?_
                rintro e3 w3 ⟨rfl, m3, hw3⟩
                subst hw3
                go_wp2_with fail
                refine (lremark_any (hM.out.rd.drewN _) rfl (har.out.drewN _) hB hp2 hl HREM.out).mono ?_
                rintro e4 w4 ⟨rfl, hM3⟩
                go_wp2
                go_roundg (u.length - (p + rm))
                case measure => omega
                case rel => exact ⟨p + rm, _, by omega, rfl, Mv.then (hM.out.drewN _) hM3, hsp.out⟩
          · have he1 : ((re : Int) != 0) = true := by rw [bne_iff_ne]; omega
            have hcl := hide (hBad.out rm rnl re HBL.out (by rw [HS.out, hss]) hrem he0)
            clear hrem
            cases s1 with
            | true =>
              go_wp2_with fail
              go_quiet (fail)
              go_wp2_with fail
              go_quiet (fail)
              go_wp2_with (first | (go_at_call 19; refine (lline_any _ _).mono ?_; rintro e2 w2 ⟨rfl, rfl⟩) | (go_at_call 18; refine (lblank_any _ _).mono ?_; rintro e2 w2 ⟨rfl, rfl⟩))
              refine (lhas_any ⟨#[47, 47]⟩ (hM.out.rd.drewN _) rfl (har.out.drewN _) (by omega) hl (by decide) HS1.out).mono ?_
              rintro e2 w2 ⟨rfl, m2, hw2⟩
              subst hw2
              go_wp2_with fail
              refine (lremark_any (hM.out.rd.drewN _) rfl (har.out.drewN _) hB hp2 hl HREM.out).mono ?_
              rintro e4 w4 ⟨rfl, hM3⟩
              go_wp2
              (try rw [Exit.noGoto_ret])
              go_ret3
              obtain ⟨q1, q2⟩ := hcl.out
              obtain ⟨z1, z2, z3⟩ := HQ.out _ _ _ q1
              subst z1 z2 z3
              exact ⟨ret_bii rfl (by rw [if_neg he0]; omega) rfl, fun h => absurd h he0, (Mv.then (hM.out.drewN _) hM3).grown⟩
            | false =>
              obtain rfl : s2 = true := or_left hss
              go_wp2_with fail
              go_quiet (fail)
              go_wp2_with fail
              go_quiet (fail)
              go_wp2_with (first | (go_at_call 19; refine (lline_any _ _).mono ?_; rintro e2 w2 ⟨rfl, rfl⟩) | (go_at_call 18; refine (lblank_any _ _).mono ?_; rintro e2 w2 ⟨rfl, rfl⟩))
              refine (lhas_any ⟨#[47, 47]⟩ (hM.out.rd.drewN _) rfl (har.out.drewN _) (by omega) hl (by decide) HS1.out).mono ?_
              rintro e2 w2 ⟨rfl, m2, hw2⟩
              subst hw2
              go_wp2_with fail
              refine (lhas_any ⟨#[47, 42]⟩ (hM.out.rd.drewN _) rfl (har.out.drewN _) (by omega) hl (by decide) HS2.out).mono ?_
              rintro e3 w3 ⟨rfl, m3, hw3⟩
              subst hw3
              go_wp2_with fail
              refine (lremark_any (hM.out.rd.drewN _) rfl (har.out.drewN _) hB hp2 hl HREM.out).mono ?_
              rintro e4 w4 ⟨rfl, hM3⟩
              go_wp2
              (try rw [Exit.noGoto_ret])
              go_ret3
              obtain ⟨q1, q2⟩ := hcl.out
              obtain ⟨z1, z2, z3⟩ := HQ.out _ _ _ q1
              subst z1 z2 z3
              exact ⟨ret_bii rfl (by rw [if_neg he0]; omega) rfl, fun h => absurd h he0, (Mv.then (hM.out.drewN _) hM3).grown⟩
    · obtain rfl : p = u.length := by omega
      have hst := hide hat.out.stop
      go_wp2_with fail
      go_quiet (fail)
      go_wp2
      (try rw [Exit.noGoto_ret])
      go_ret3
      obtain ⟨q1, q2⟩ := hst.out
      obtain ⟨z1, z2, z3⟩ := HQ.out _ _ _ q1
      subst z1 z2 z3
      exact ⟨rfl, fun _ => by rw [show k + (u.length - k) = u.length by omega]; exact hM.out.drewN _, (hM.out.drewN _).grown⟩
end Go.Proofs.Ytbljbmeifmpfoaa

namespace Go.Proofs.Ytbljbmeifmpfoaa
open Go.RowKit

def LexPost (q : List Tok × Nat × Nat) (w : World) (ev : Ending) (w' : World) : Prop :=
  ∃ v, ev = .returned (.tuple #[v, .int .i64 (q.2.1 : Int), .int .i64 (q.2.2 : Int)]) ∧ TokL w' w.heap.size q.1 v ∧ Below w.heap.size w w'
theorem LexPost.mk {q : List Tok × Nat × Nat} {w w' : World} {v : Value} {ts : List Tok} {a e : Nat} (hq : q = (ts, a, e)) (h : TokL w' w.heap.size ts v) (hb : Below w.heap.size w w') : LexPost q w (.returned (.tuple #[v, .int .i64 (a : Int), .int .i64 (e : Int)])) w' := by
  subst hq
  exact ⟨v, rfl, h, hb⟩
set_option maxHeartbeats 8000000 in
set_option maxRecDepth 100000 in
theorem ltokens_any {A : Option Addr} {c B n : Nat} {u : List UInt16} {w : World} (hB : B ≤ w.heap.size) (hn : u.length = n) (ha : Reads w B 1 A n (u16s u)) (hc : n ≤ c) (_hc2 : c ≤ maxLen) :
    Calls Try.prog 6 #[.slice A n c] w (LexPost (lexF u) w) := by
  subst hn
  by_cases hlong : 4096 < u.length
  · have HQ := hide (show lexF u = ([], 0, 3) by unfold lexF; rw [if_pos hlong])
    have hlong2 : (4096 : Int) < (u.length : Int) := by omega
    go_enter Try.func6, Try.ntmps6
    go_wp2_with fail
    go_ret3
    exact LexPost.mk HQ.out (TokL.nil _ _) (Below.refl _ _)
  · obtain ⟨i0, hi0, hz0, hz1, hz2⟩ := info_parts Try.info_tok
    have hl : u.length ≤ 4096 := by omega
    have HF := hide (lexF_short hlong)
    have HA := hide ha
    have HS0 := hide (show LxS w (w.alloc (.cells #[.slice A u.length c, .int .i64 0] 44)) A u.length c 0 (.slice none 0 0) [] from
      ⟨⟨by go_simp, by go_simp, by go_simp⟩, (Below.refl _ _).alloc (Nat.le_refl _) _, TokL.nil _ _⟩)
    clear ha hlong
    go_enter Try.func6, Try.ntmps6
    go_wp2_with fail
    go_loopg [6] (u.length + 1) (fun r v wr => ∃ (p : Nat) (acc : List Tok), p + r = u.length + 1 ∧ Hid (LxS w wr A u.length c p v acc) ∧ Hid (AtLex u p acc))
    case atStart => exact ⟨0, [], by omega, HS0.out, AtLex.start u⟩
    case round =>
      obtain ⟨p, acc, hpr, hS, hat⟩ := hrel
      have hpl := hat.out.2.1
      have hacl := hat.out.1
      obtain ⟨⟨m, nl, e⟩, hpq⟩ : ∃ q, passF (u.drop p) = q := ⟨_, rfl⟩
      have hple := pass_le (u.drop p)
      rw [hpq, List.length_drop] at hple
      simp only at hple
      have HPQ := hide hpq
      clear hpq
      have har := hide (HA.out.below (hS.out.below.mono hB))
      go_wp2_with fail
      refine (lpass_any hS.out.rd rfl har.out hB hpl hl HPQ.out).mono ?_
      rintro e1 w1 ⟨rfl, hM1, hG1⟩
      have HM1 := hide hM1
      have hb1 := hide (below_grown hS.out.below hG1)
      clear hM1 hG1
      by_cases he : e = 0
      · subst he
        have hS1 := hide (hS.out.mov (HM1.out rfl))
        clear hS HM1 har hb1
        have hc1 := hS1.out.rd.c1
        rw [if_pos rfl]
        obtain ⟨k, hk⟩ : ∃ k, p + m = k := ⟨_, rfl⟩
        rw [hk] at hS1 hc1
        have HK := hide hk
        have hkl : k ≤ u.length := by omega
        have hpk : p ≤ k := by omega
        obtain ⟨cs, ho, htc⟩ := hS1.out.toks
        obtain ⟨Av, cv, hv, _, _⟩ := own_shape ho
        subst hv
        have HO := hide ho
        have HTC := hide htc
        have hbase : w.heap.size + 1 ≤ w1.heap.size := hS1.out.rd.lt
        clear ho htc
        by_cases hend : k = u.length
        · have e1 : ((k : Int) == (u.length : Int)) = true := by rw [hend]; simp
          have hlast := hide (hat.out.last HPQ.out (by rw [HK.out]; exact hend))
          have HEND := hide hend
          clear hend hk
          go_wp2_with (at_builtin; refine wpList_litH rfl _ _ 25 rfl 40 i0 _ 9 112 Try.underlying25 hi0 hz0 hz1 hz2 rfl (by decide) (w.heap.size + 1) hbase (.slice Av acc.length cv) cs acc.length rfl HO.out (tokV9 (setAt noTok k nl) (.slice none 0 0) (.slice none 0 0)) 1 1 w1.heap.size rfl rfl rfl rfl (by omega) (by omega) ?_; intro v' w' ho' hgr)
          go_ret3
          have htl := TokL.snoc HO.out HTC.out (World.ownsRow_nil _ _ _ _) (World.ownsRow_nil _ _ _ _) ho' hgr
          have hS2 := hS1.out.app hgr htl
          rw [HEND.out] at hS2
          exact LexPost.mk (HF.out.trans hlast.out) (hS2.toks.base (by omega)) hS2.below
        · have e1 : ((k : Int) == (u.length : Int)) = false := beq_eq_false_iff_ne.2 (by omega)
          have hkl2 : k < u.length := by omega
          clear hend hk
          obtain ⟨⟨e2, t, tk⟩, htq⟩ : ∃ q, tokenT (k == 0) (u.drop k) = q := ⟨_, rfl⟩
          have HTQ := hide htq
          clear htq
          have har := hide (HA.out.below (hS1.out.below.mono hB))
          go_wp2_with fail
          refine (ltoken_any (m := tk) (e := e2) (t := t) hS1.out.rd rfl har.out hB hkl2 hl hc HTQ.out).mono ?_
          rintro e3 w3 ⟨v, rfl, hbad, hgood, hG3⟩
          have HBAD := hide hbad
          have HGOOD := hide hgood
          have HG3 := hide hG3
          clear hbad hgood hG3
          by_cases he2 : e2 = 0
          · subst he2
            obtain ⟨⟨vs, vm, hv, ho1, ho2⟩, hM4⟩ := HGOOD.out rfl
            subst hv
            obtain ⟨As, c1, rfl, _, _⟩ := own_shape ho1
            obtain ⟨Am, cm, rfl, _, _⟩ := own_shape ho2
            have hmore := hide (hat.out.more HPQ.out (by rw [HK.out]; exact hkl2) (by rw [HK.out]; exact HTQ.out))
            rw [HK.out] at hmore
            have hS3 := hide (hS1.out.mov hM4)
            obtain ⟨cs3, ho3, htc3⟩ := hS3.out.toks
            have HO3 := hide ho3
            have HTC3 := hide htc3
            have HO1 := hide (own_base ho1 hbase)
            have HO2 := hide (own_base ho2 hbase)
            have hbase3 : w.heap.size + 1 ≤ w3.heap.size := hS3.out.rd.lt
            clear ho1 ho2 ho3 htc3 hM4 HGOOD HBAD HO HTC
            go_wp2_with (at_builtin; refine wpList_litH rfl _ _ 25 rfl 40 i0 _ 9 112 Try.underlying25 hi0 hz0 hz1 hz2 rfl (by decide) (w.heap.size + 1) (by simp; omega) (.slice Av acc.length cv) cs3 acc.length rfl (HO3.out.alloc _) (tokV9 (setAt t k nl) (.slice As t.str.length c1) (.slice Am t.mag.length cm)) 1 1 (w3.heap.size + 1) (by simp) rfl rfl rfl (by omega) (by omega) ?_; intro v' w' ho' hgr)
            have h1k := hmore.out.2
            go_roundg (u.length + 1 - (k + tk))
            case measure => omega
            case rel =>
              refine ⟨k + tk, acc ++ [setAt t k nl], ?_, (hS3.out.new (grown_alloc w3 _ none)).app hgr (TokL.snoc (HO3.out.alloc _) (HTC3.out.map fun _ _ _ _ _ h => h.alloc _) (HO1.out.alloc _) (HO2.out.alloc _) ho' hgr), hmore.out.1⟩
              have := hmore.out.1.2.1
              omega
          · obtain rfl := HBAD.out he2
            have e2' : ((e2 : Int) != 0) = true := by rw [bne_iff_ne]; omega
            have hbq := hide (hat.out.bad HPQ.out (by rw [HK.out]; exact hkl2) (by rw [HK.out]; exact HTQ.out) he2)
            clear he2
            unfold noV
            go_wp2_with fail
            go_ret3
            rw [HK.out] at hbq
            exact LexPost.mk (HF.out.trans hbq.out) (TokL.nil _ _) ((below_grown hS1.out.below HG3.out).alloc (Nat.le_trans hS1.out.below.size HG3.out.size) _)
      · have hpp := hide (hat.out.pass HPQ.out he)
        have e1 : ((e : Int) != 0) = true := by rw [bne_iff_ne]; omega
        rw [if_neg he]
        clear he
        go_wp2_with fail
        go_ret3
        exact LexPost.mk (HF.out.trans hpp.out) (TokL.nil _ _) hb1.out
end Go.Proofs.Ytbljbmeifmpfoaa

namespace Go.Proofs.Ytbljbmeifmpfoaa
open Go.RowKit

/-- how far the document's loop is: tokens up to p, passed up to i -/
def AtTk (u : List UInt16) (i : Nat) (nl : Bool) (acc : List Tok) : Prop := ∃ p, AtLex u p acc ∧ AtPass u p i nl ∧ p ≤ i ∧ i ≤ u.length
theorem AtTk.start (u : List UInt16) : AtTk u 0 false [] := ⟨0, AtLex.start u, ⟨0, rfl, by unfold plus; simp⟩, Nat.le_refl _, Nat.zero_le _⟩
theorem AtTk.len {u : List UInt16} {i : Nat} {nl : Bool} {acc : List Tok} (h : AtTk u i nl acc) : acc.length ≤ i ∧ i ≤ u.length := by
  obtain ⟨p, h1, _, h3, h4⟩ := h
  exact ⟨Nat.le_trans h1.1 h3, h4⟩
theorem AtTk.blank {u : List UInt16} {i : Nat} {nl : Bool} {acc : List Tok} (h : AtTk u i nl acc) (hi : i < u.length) (h1 : (isBl u[i] || isLine u[i]) = true) : AtTk u (i + 1) (nl || isLine u[i]) acc := by
  obtain ⟨p, h2, h3, h4, h5⟩ := h
  exact ⟨p, h2, h3.blank hi h1, by omega, hi⟩
theorem AtTk.remark {u : List UInt16} {i m : Nat} {nl has : Bool} {acc : List Tok} (h : AtTk u i nl acc) (hi : i < u.length) (h1 : (isBl u[i] || isLine u[i]) = false) (h2 : (starts [47, 47] (u.drop i) || starts [47, 42] (u.drop i)) = true) (hq : remarkF (u.drop i) = (m, has, 0)) : AtTk u (i + m) (nl || has) acc ∧ 2 ≤ m := by
  obtain ⟨p, h3, h4, h5, h6⟩ := h
  have hm := remark_le (rem_starts h2)
  rw [hq, List.length_drop] at hm
  simp only at hm
  exact ⟨⟨p, h3, h4.remark hi h1 h2 hq, by omega, by omega⟩, hm.1⟩
theorem AtTk.badremark {u : List UInt16} {i m e : Nat} {nl has : Bool} {acc : List Tok} (h : AtTk u i nl acc) (hi : i < u.length) (h1 : (isBl u[i] || isLine u[i]) = false) (h2 : (starts [47, 47] (u.drop i) || starts [47, 42] (u.drop i)) = true) (hq : remarkF (u.drop i) = (m, has, e)) (he : e ≠ 0) : lexL 0 u = ([], i, e) := by
  obtain ⟨p, h3, h4, h5, h6⟩ := h
  have h7 := (h4.bad hi h1 h2 hq he).1
  have := h3.pass (nl := false) (show passF (u.drop p) = (i - p, false, e) from h7) he
  rwa [show p + (i - p) = i by omega] at this
theorem AtTk.badtok {u : List UInt16} {i k e : Nat} {nl : Bool} {t : Tok} {acc : List Tok} (h : AtTk u i nl acc) (hi : i < u.length) (h1 : (isBl u[i] || isLine u[i]) = false) (h2 : (starts [47, 47] (u.drop i) || starts [47, 42] (u.drop i)) = false) (ht : tokenT (i == 0) (u.drop i) = (e, t, k)) (he : e ≠ 0) : lexL 0 u = ([], i, e) := by
  obtain ⟨p, h3, h4, h5, h6⟩ := h
  have h7 := (h4.halt hi h1 h2).1
  have e1 : p + (i - p) = i := by omega
  have := h3.bad (nl := nl) (m := i - p) (e := e) (t := t) (k := k) (show passF (u.drop p) = (i - p, nl, 0) from h7) (by omega) (by rw [e1]; exact ht) he
  rwa [e1] at this
theorem AtTk.tok {u : List UInt16} {i k : Nat} {nl : Bool} {t : Tok} {acc : List Tok} (h : AtTk u i nl acc) (hi : i < u.length) (h1 : (isBl u[i] || isLine u[i]) = false) (h2 : (starts [47, 47] (u.drop i) || starts [47, 42] (u.drop i)) = false) (ht : tokenT (i == 0) (u.drop i) = (0, t, k)) : AtTk u (i + k) false (acc ++ [setAt t i nl]) ∧ 1 ≤ k := by
  obtain ⟨p, h3, h4, h5, h6⟩ := h
  have h7 := (h4.halt hi h1 h2).1
  have e1 : p + (i - p) = i := by omega
  have := h3.more (nl := nl) (m := i - p) (t := t) (k := k) (show passF (u.drop p) = (i - p, nl, 0) from h7) (by omega) (by rw [e1]; exact ht)
  rw [e1] at this
  exact ⟨⟨i + k, this.1, ⟨0, rfl, by unfold plus; simp⟩, Nat.le_refl _, this.1.2.1⟩, this.2⟩
theorem AtTk.last {u : List UInt16} {nl : Bool} {acc : List Tok} (h : AtTk u u.length nl acc) : lexL 0 u = (acc ++ [setAt noTok u.length nl], 0, 0) := by
  obtain ⟨p, h3, h4, h5, h6⟩ := h
  have h7 := h4.stop.1
  exact h3.last (nl := nl) (m := u.length - p) (show passF (u.drop p) = (u.length - p, nl, 0) from h7) (by omega)
/-- the list, behind a call's begin -/
structure TkS (w wr : World) (acc : List Tok) (v : Value) : Prop where
  below : Below w.heap.size w wr
  toks : TokL wr w.heap.size acc v
theorem TkS.go {w wr w2 : World} {acc : List Tok} {v : Value} (h : TkS w wr acc v) (hb : Below wr.heap.size wr w2) : TkS w w2 acc v := ⟨h.below.trans (hb.mono h.below.size), h.toks.below hb⟩
theorem TkS.app {w wr w' : World} {v v' : Value} {acc acc' : List Tok} (h : TkS w wr acc v) (hg : wr.grownBy w' v.ownBlock) (ht : TokL w' w.heap.size acc' v') : TkS w w' acc' v' := by
  obtain ⟨cs, ho, _⟩ := h.toks
  exact ⟨h.below.grown hg h.below.size (fun k hk => (ho.lt k hk).1), ht⟩
def nine (x : UInt16) : Prop := x.toNat = 9 ∨ x.toNat = 11 ∨ x.toNat = 12 ∨ x.toNat = 32
theorem bl_of {x : UInt16} (h : nine x) : isBl x = true ∧ isLine x = false := by
  unfold isBl isLine
  rcases h with h | h | h | h <;> (rw [h]; decide)
theorem bl_not {x : UInt16} (h : ¬ nine x) : isBl x = false := by
  unfold isBl
  rw [show (x.toNat == 9) = false from beq_eq_false_iff_ne.2 (fun e => h (.inl e)), show (x.toNat == 11) = false from beq_eq_false_iff_ne.2 (fun e => h (.inr (.inl e))), show (x.toNat == 12) = false from beq_eq_false_iff_ne.2 (fun e => h (.inr (.inr (.inl e)))), show (x.toNat == 32) = false from beq_eq_false_iff_ne.2 (fun e => h (.inr (.inr (.inr e))))]
  rfl
set_option maxHeartbeats 16000000 in
set_option maxRecDepth 1000000 in
theorem rtokens5_any {A : Option Addr} {c B n : Nat} {u : List UInt16} {w : World} (hB : B ≤ w.heap.size) (hn : u.length = n) (ha : Reads w B 1 A n (u16s u)) (hc : n ≤ c) :
    Calls Try.prog 7 #[.slice A n c] w (LexPost (lexF u) w) := by
  subst hn
  by_cases hlong : 4096 < u.length
  · have HQ := hide (show lexF u = ([], 0, 3) by unfold lexF; rw [if_pos hlong])
    have hlong2 : (4096 : Int) < (u.length : Int) := by omega
    go_enter Try.func7, Try.ntmps7
    go_wp2_with fail
    go_ret3
    exact LexPost.mk HQ.out (TokL.nil _ _) (Below.refl _ _)
  · obtain ⟨i0, hi0, hz0, hz1, hz2⟩ := info_parts Try.info_tok
    have hl : u.length ≤ 4096 := by omega
    have HF := hide (lexF_short hlong)
    have HST := hide (AtTk.start u)
    have HA := hide ha
    have hlong2 : ¬ (4096 : Int) < (u.length : Int) := by omega
    obtain ⟨N, hN⟩ : ∃ N, u.length = N := ⟨_, rfl⟩
    have HN := hide hN
    rw [hN] at HA hl hc hlong2 ⊢
    clear ha hlong hN
    go_enter Try.func7, Try.ntmps7
    go_wp2_with fail
    go_loopw [5, 6, 7] (fun vo vn vi wr => ∃ (i : Nat) (nl : Bool) (acc : List Tok), vi = .int .i64 (i : Int) ∧ vn = .bool nl ∧ Hid (AtTk u i nl acc) ∧ Hid (TkS w wr acc vo)) (fun _ _ v _ => N - (intOf v).toNat)
    case atStart => exact ⟨0, false, [], rfl, rfl, HST.out, Below.refl _ _, TokL.nil _ _⟩
    case round =>
      clear HST
      obtain ⟨i, nl, acc, rfl, rfl, hat, hS⟩ := hrel
      have hiN : i ≤ N := by rw [← HN.out]; exact hat.out.len.2
      have hacl : acc.length ≤ i := hat.out.len.1
      obtain ⟨cs, ho, htc⟩ := hS.out.toks
      obtain ⟨Av, cv, hv, _, _⟩ := own_shape ho
      subst hv
      have hwr : w.heap.size ≤ wr.heap.size := hS.out.below.size
      by_cases hlt : i < N
      · have l1 : (i : Int) < (N : Int) := by omega
        have l2 : decide ((i : Int) < (N : Int)) = true := decide_eq_true l1
        have hiu : i < u.length := by rw [HN.out]; exact hlt
        have har := hide (HA.out.below (hS.out.below.mono hB))
        obtain ⟨b, o, hA, _, hcell⟩ := (show Reads wr B 1 A u.length (u16s u) by rw [HN.out]; exact har.out).spotL (by omega)
        subst hA
        have hci := hcell i hiu
        have CY := hide (rat_any (c := c) (i := i + 1) (w := wr) HN.out har.out)
        obtain ⟨y, hy⟩ : ∃ y, atU u (i + 1) = y := ⟨_, rfl⟩
        rw [hy] at CY
        have hs2 : ∀ a : UInt8, a.toNat ≠ 0 → starts [47, a] (u.drop i) = (((atU u i).toNat == 47) && (y.toNat == a.toNat)) := fun a ha => by
          have := starts_two (a := 47) (b := a) ha hiu
          rw [hy] at this
          exact this
        have HY1 := hide hy
        have HBLK := hide (fun h => hat.out.blank hiu h)
        have HREM := hide (fun (m : Nat) (has : Bool) h1 h2 hq => hat.out.remark hiu (m := m) (has := has) h1 h2 hq)
        have HBRM := hide (fun (m e : Nat) (has : Bool) h1 h2 hq he => HF.out.trans (hat.out.badremark hiu (m := m) (e := e) (has := has) h1 h2 hq he))
        have HBTK := hide (fun (k e : Nat) (t : Tok) h1 h2 ht he => HF.out.trans (hat.out.badtok hiu (k := k) (e := e) (t := t) h1 h2 ht he))
        have HTOK := hide (fun (k : Nat) (t : Tok) h1 h2 ht => hat.out.tok hiu (k := k) (t := t) h1 h2 ht)
        have hxa : atU u i = u[i] := atU_in hiu
        obtain ⟨x, hx⟩ : ∃ x, u[i] = x := ⟨_, rfl⟩
        rw [hx] at hci HBLK HREM HBRM HBTK HTOK hxa
        have HS47 := hide (show starts [47, 47] (u.drop i) = ((x.toNat == 47) && (y.toNat == 47)) by rw [hs2 47 (by decide), hxa]; rfl)
        have HS42 := hide (show starts [47, 42] (u.drop i) = ((x.toNat == 47) && (y.toNat == 42)) by rw [hs2 42 (by decide), hxa]; rfl)
        obtain ⟨X, hX⟩ : ∃ X : Int, (x.toNat : Int) = X := ⟨_, rfl⟩
        obtain ⟨Y, hY⟩ : ∃ Y : Int, (y.toNat : Int) = Y := ⟨_, rfl⟩
        rw [hX] at hci
        rw [hY] at CY
        have HX := hide hX
        have HY := hide hY
        have HO := hide ho
        have HTC := hide htc
        clear hat hcell hy hs2 hxa hx hX hY ho htc
        by_cases hb9 : X = 9 ∨ X = 11 ∨ X = 12 ∨ X = 32
        · obtain ⟨q1, q2⟩ := bl_of (x := x) (by unfold nine; have := HX.out; omega)
          have HNX := hide (HBLK.out (by rw [q1]; rfl))
          rw [q2, Bool.or_false] at HNX
          clear HBLK HREM HBRM HBTK HTOK HS47 HS42 CY q1 q2 HX HY HO HTC
          rcases hb9 with rfl | rfl | rfl | rfl <;> cases nl
          all_goals
            go_wp2_with fail
            refine ⟨⟨i + 1, _, acc, by go_num, rfl, HNX.out, hS.out⟩, by simp [intOf]; omega⟩
        have HB9 := hide (bl_not (x := x) (by unfold nine; have := HX.out; omega))
        have e9 : (X == 9) = false := beq_eq_false_iff_ne.2 (fun h => hb9 (.inl h))
        have e11 : (X == 11) = false := beq_eq_false_iff_ne.2 (fun h => hb9 (.inr (.inl h)))
        have e12 : (X == 12) = false := beq_eq_false_iff_ne.2 (fun h => hb9 (.inr (.inr (.inl h))))
        have e32 : (X == 32) = false := beq_eq_false_iff_ne.2 (fun h => hb9 (.inr (.inr (.inr h))))
        clear hb9
        by_cases hln : X = 10 ∨ X = 13
        · obtain ⟨q1, _⟩ := line_of (x := x) (by have := HX.out; omega)
          have HNX := hide (HBLK.out (by rw [q1, Bool.or_true]))
          rw [q1, Bool.or_true] at HNX
          clear HBLK HREM HBRM HBTK HTOK HS47 HS42 CY q1 HX HY HO HTC HB9 e9 e11 e12 e32
          rcases hln with rfl | rfl <;> cases nl
          all_goals
            go_wp2_with fail
            refine ⟨⟨i + 1, _, acc, by go_num, rfl, HNX.out, hS.out⟩, by simp [intOf]; omega⟩
        have HNB := hide (show (isBl x || isLine x) = false by
          rw [HB9.out, line_not (x := x) (fun h => hln (.inl (by have := HX.out; omega))) (fun h => hln (.inr (by have := HX.out; omega)))]
          rfl)
        have e10 : (X == 10) = false := beq_eq_false_iff_ne.2 (fun h => hln (.inl h))
        have e13 : (X == 13) = false := beq_eq_false_iff_ne.2 (fun h => hln (.inr h))
        clear hln HBLK HB9
        by_cases hrem : X = 47 ∧ (Y = 47 ∨ Y = 42)
        · obtain ⟨rfl, hY2⟩ := hrem
          obtain ⟨long, hlong⟩ : ∃ long : Bool, decide (Y = 42) = long := ⟨_, rfl⟩
          have hst : (starts [47, 47] (u.drop i) || starts [47, 42] (u.drop i)) = true := by
            rw [HS47.out, HS42.out, show x.toNat = 47 by have := HX.out; omega]
            rcases hY2 with h | h
            · rw [show y.toNat = 47 by have := HY.out; omega]; rfl
            · rw [show y.toNat = 42 by have := HY.out; omega]; rfl
          have hs42 : starts [47, 42] (u.drop i) = long := by
            rw [HS42.out, show x.toNat = 47 by have := HX.out; omega, ← hlong]
            rcases hY2 with h | h
            · rw [show y.toNat = 47 by have := HY.out; omega, h]; rfl
            · rw [show y.toNat = 42 by have := HY.out; omega, h]; rfl
          have hyl : (atU u (i + 1)).toNat = if long = true then 42 else 47 := by
            rw [HY1.out, ← hlong]
            rcases hY2 with h | h
            · rw [h]; show y.toNat = 47; have := HY.out; omega
            · rw [h]; show y.toNat = 42; have := HY.out; omega
          have hi2 : i + 2 ≤ N := by
            have := rem_starts hst
            rw [List.length_drop, HN.out] at this
            omega
          obtain ⟨⟨m, has, e⟩, hrq⟩ : ∃ q, remarkF (u.drop i) = q := ⟨_, rfl⟩
          have CR := hide (rremark_any (c := c) (i := i) (w := wr) long HN.out (Nat.le_trans hB hwr) har.out hi2 (by omega) hyl hs42 (r := (i + m, has, e)) (by rw [hrq]; rfl))
          have HR1 := hide (fun (h : e = 0) => HREM.out m has HNB.out hst (by rw [hrq, h]))
          have HR2 := hide (fun (h : e ≠ 0) => HBRM.out m e has HNB.out hst hrq h)
          clear HREM HBRM HBTK HTOK hst hs42 hyl hrq hlong HX HY HY1 HS47 HS42 HO HTC har
          rcases hY2 with rfl | rfl
          all_goals
            go_wp2_with (first | (go_at_call 14; refine CY.out.mono ?_; rintro e3 w3 ⟨rfl, rfl⟩))
            refine CR.out.mono ?_
            rintro e1 w1 ⟨⟨kk, bb, rfl, hgood⟩, hb1⟩
            have HS1 := hide (hS.out.go hb1)
            clear hb1
            by_cases he : e = 0
            · obtain ⟨g1, g2⟩ := hgood he
              obtain ⟨HN1, hm2⟩ := HR1.out he
              have HN2 := hide HN1
              have HM2 := hide hm2
              subst g1 g2
              have hkk := HN1.len.2
              rw [HN.out] at hkk
              clear HN1 hm2 HR1 HR2 hgood
              subst he
              cases nl
              all_goals
                go_wp2_with fail
                refine ⟨⟨i + m, _, acc, rfl, by first | rfl | (exact congrArg Value.bool (Bool.false_or _).symm) | (exact congrArg Value.bool (Bool.true_or _).symm), HN2.out, HS1.out⟩, by have := HM2.out; simp [intOf]; omega⟩
            · have heI : ((e : Int) == 0) = false := beq_eq_false_iff_ne.2 (by omega)
              have HE := hide (HR2.out he)
              clear HR1 HR2 hgood he
              go_wp2_with fail
              go_ret3
              exact LexPost.mk HE.out (TokL.nil _ _) HS1.out.below
        have HNS := hide (show (starts [47, 47] (u.drop i) || starts [47, 42] (u.drop i)) = false by
          rw [HS47.out, HS42.out]
          by_cases h47 : X = 47
          · rw [show (y.toNat == 47) = false from beq_eq_false_iff_ne.2 (fun h => hrem ⟨h47, .inl (by have := HY.out; omega)⟩), show (y.toNat == 42) = false from beq_eq_false_iff_ne.2 (fun h => hrem ⟨h47, .inr (by have := HY.out; omega)⟩), Bool.and_false]
            rfl
          · rw [show (x.toNat == 47) = false from beq_eq_false_iff_ne.2 (by have := HX.out; omega)]
            rfl)
        obtain ⟨⟨e, t, k⟩, htq⟩ : ∃ q, tokenT (i == 0) (u.drop i) = q := ⟨_, rfl⟩
        have CT := hide (rtoken_any (c := c) (i := i) (w := wr) HN.out (Nat.le_trans hB hwr) har.out hlt hc hl htq)
        have HT1 := hide (fun (h : e = 0) => HTOK.out k t HNB.out HNS.out (by rw [htq, h]))
        have HT2 := hide (fun (h : e ≠ 0) => HBTK.out k e t HNB.out HNS.out htq h)
        have hdis : (X == 47) = true → (Y == 47) = false ∧ (Y == 42) = false := fun h => ⟨beq_eq_false_iff_ne.2 (fun h2 => hrem ⟨beq_iff_eq.1 h, .inl h2⟩), beq_eq_false_iff_ne.2 (fun h2 => hrem ⟨beq_iff_eq.1 h, .inr h2⟩)⟩
        clear HREM HBRM HBTK HTOK HNB HNS htq HX HY HY1 HS47 HS42 har hrem
        cases h47 : (X == 47)
        all_goals
          first | (replace hdis := hdis h47; obtain ⟨d1, d2⟩ := hdis) | clear hdis
          go_wp2_with (first | (go_at_call 14; refine CY.out.mono ?_; rintro e3 w3 ⟨rfl, rfl⟩))
          refine CT.out.mono ?_
          rintro e1 w1 ⟨v, kk, rfl, hbad, hgood, hb1⟩
          have HS1 := hide (hS.out.go hb1)
          have hw1 : wr.heap.size ≤ w1.heap.size := hb1.size
          by_cases he : e = 0
          · have hgg := hgood he
            simp only at hgg
            obtain ⟨⟨vs, vm, hv, ho1, ho2⟩, hk⟩ := hgg
            obtain ⟨As, c1, rfl, _, _⟩ := own_shape ho1
            obtain ⟨Am, cm, rfl, _, _⟩ := own_shape ho2
            subst hv hk he
            obtain ⟨HN1, hk1⟩ := HT1.out rfl
            have HN2 := hide HN1
            have HK1 := hide hk1
            have hkk := HN1.len.2
            rw [HN.out] at hkk
            obtain ⟨cs3, ho3, htc3⟩ := HS1.out.toks
            have HO3 := hide ho3
            have HTC3 := hide htc3
            have HO1 := hide (own_base ho1 hwr)
            have HO2 := hide (own_base ho2 hwr)
            have hbase3 : w.heap.size ≤ w1.heap.size := Nat.le_trans hwr hw1
            clear hbad hgood ho1 ho2 ho3 htc3 HN1 hk1 HT1 HT2 hb1 HO HTC hS CT
            go_wp2_with (at_builtin; refine wpList_litH rfl _ _ 25 rfl 40 i0 _ 9 112 Try.underlying25 hi0 hz0 hz1 hz2 rfl (by decide) w.heap.size (by simp; omega) (.slice Av acc.length cv) cs3 acc.length rfl (HO3.out.alloc _) (tokV9 (setAt t i nl) (.slice As t.str.length c1) (.slice Am t.mag.length cm)) 1 1 (w1.heap.size + 1) (by simp) rfl rfl rfl (by omega) (by omega) ?_; intro v' w' ho' hgr)
            refine ⟨⟨i + k, false, acc ++ [setAt t i nl], rfl, rfl, HN2.out, ?_⟩, by have := HK1.out; simp [intOf]; omega⟩
            exact (HS1.out.go ((Below.refl _ _).alloc (Nat.le_refl _) _)).app hgr (TokL.snoc (HO3.out.alloc _) (HTC3.out.map fun _ _ _ _ _ h => h.alloc _) (HO1.out.alloc _) (HO2.out.alloc _) ho' hgr)
          · obtain rfl := hbad he
            have heI : ((e : Int) == 0) = false := beq_eq_false_iff_ne.2 (by omega)
            have HE := hide (HT2.out he)
            have HB1 := hide HS1.out.below
            clear HT1 HT2 hgood hbad he hb1 CT
            unfold noV
            go_wp2_with fail
            go_ret3
            exact LexPost.mk HE.out (TokL.nil _ _) (HB1.out.alloc HB1.out.size _)
      · have l1 : ¬ (i : Int) < (N : Int) := by omega
        have l2 : decide ((i : Int) < (N : Int)) = false := decide_eq_false l1
        obtain rfl : i = N := by omega
        have HLAST := hide (show lexF u = (acc ++ [setAt noTok i nl], 0, 0) by
          have h1 := hat.out
          rw [← HN.out] at h1
          have := HF.out.trans h1.last
          rwa [HN.out] at this)
        have HO := hide ho
        have HTC := hide htc
        clear hat ho htc hlt
        go_wp2_with (at_builtin; refine wpList_litH rfl _ _ 25 rfl 40 i0 _ 9 112 Try.underlying25 hi0 hz0 hz1 hz2 rfl (by decide) w.heap.size hwr (.slice Av acc.length cv) cs acc.length rfl HO.out (tokV9 (setAt noTok i nl) (.slice none 0 0) (.slice none 0 0)) 1 1 wr.heap.size rfl rfl rfl rfl (by omega) (by omega) ?_; intro v' w' ho' hgr)
        go_ret3
        have htl := TokL.snoc HO.out HTC.out (World.ownsRow_nil _ _ _ _) (World.ownsRow_nil _ _ _ _) ho' hgr
        have hS2 := hS.out.app hgr htl
        exact LexPost.mk HLAST.out hS2.toks hS2.below
end Go.Proofs.Ytbljbmeifmpfoaa

namespace Go.Proofs.Ytbljbmeifmpfoaa
open Go.RowKit

theorem TokC.get {w : World} {base : Nat} : ∀ {ts : List Tok} {cs : List Value} (_ : TokC w base ts cs) (i : Nat) (hi : i < ts.length), ∃ vs vm, (∀ j, j < 9 → cs[i * 9 + j]? = (tokV9 ts[i] vs vm)[j]?) ∧ w.ownsRow base 41 1 vs ts[i].str.length (u16s ts[i].str) ∧ w.ownsRow base 98 1 vm ts[i].mag.length (u32s ts[i].mag) := by
  intro ts
  induction ts with
  | nil => intro cs h i hi; simp at hi
  | cons t r ih =>
    intro cs h i hi
    obtain ⟨vs, vm, rest, rfl, h1, h2, h3⟩ := h
    cases i with
    | zero =>
      refine ⟨vs, vm, fun j hj => ?_, h1, h2⟩
      rw [Nat.zero_mul, Nat.zero_add, List.getElem?_append_left (by simp [tokV9]; omega)]
      rfl
    | succ i =>
      obtain ⟨vs', vm', g1, g2, g3⟩ := ih h3 i (by simpa using hi)
      refine ⟨vs', vm', fun j hj => ?_, g2, g3⟩
      rw [List.getElem?_append_right (by simp [tokV9]; omega), show (i + 1) * 9 + j - (tokV9 t vs vm).length = i * 9 + j by simp [tokV9]; omega]
      exact g1 j hj
/-- the cells of token i of a list at block g -/
structure TokAt (w : World) (base g i : Nat) (t : Tok) (As Am : Option Addr) (cs cm : Nat) : Prop where
  k0 : w.cell? ⟨g, i * 9, none⟩ = some (.int .i64 (t.kind : Int))
  k1 : w.cell? ⟨g, i * 9 + 1, none⟩ = some (.string ⟨t.text.toArray⟩)
  k2 : w.cell? ⟨g, i * 9 + 2, none⟩ = some (.slice As t.str.length cs)
  k3 : w.cell? ⟨g, i * 9 + 3, none⟩ = some (.int .i64 t.nk)
  k4 : w.cell? ⟨g, i * 9 + 4, none⟩ = some (.int .i64 t.nn)
  k5 : w.cell? ⟨g, i * 9 + 5, none⟩ = some (.bool false)
  k6 : w.cell? ⟨g, i * 9 + 6, none⟩ = some (.slice Am t.mag.length cm)
  k7 : w.cell? ⟨g, i * 9 + 7, none⟩ = some (.int .i64 (t.pos : Int))
  k8 : w.cell? ⟨g, i * 9 + 8, none⟩ = some (.bool t.nl)
  str : w.ownsRow base 41 1 (.slice As t.str.length cs) t.str.length (u16s t.str)
  mag : w.ownsRow base 98 1 (.slice Am t.mag.length cm) t.mag.length (u32s t.mag)
theorem TokL.shape {w : World} {base : Nat} {ts : List Tok} {v : Value} (h : TokL w base ts v) : ∃ A c, v = .slice A ts.length c ∧ ts.length ≤ c ∧ c ≤ maxLen := by
  obtain ⟨cs, ho, _⟩ := h
  exact own_shape ho
theorem TokL.at_ {w : World} {base n c : Nat} {ts : List Tok} {A : Option Addr} (h : TokL w base ts (.slice A n c)) (h0 : 0 < ts.length) : ∃ g, A = some ⟨g, 0, none⟩ ∧ base ≤ g ∧ g < w.heap.size ∧ ∀ i (hi : i < ts.length), ∃ As Am c1 c2, TokAt w base g i ts[i] As Am c1 c2 := by
  obtain ⟨cs, ho, htc⟩ := h
  obtain ⟨g, cap, hv, hgb, hgl⟩ := ho.form h0
  injection hv with hA hn hc
  subst hA hn hc
  refine ⟨g, rfl, hgb, hgl, fun i hi => ?_⟩
  obtain ⟨vs, vm, hc, h1, h2⟩ := htc.get i hi
  obtain ⟨As, c1, rfl, _, _⟩ := own_shape h1
  obtain ⟨Am, c2, rfl, _, _⟩ := own_shape h2
  have hcell : ∀ j (hj : j < 9), w.cell? ⟨g, i * 9 + j, none⟩ = (tokV9 ts[i] (.slice As ts[i].str.length c1) (.slice Am ts[i].mag.length c2))[j]? := by
    intro j hj
    rw [ho.cellAt (i * 9 + j) (by omega), hc j hj]
  exact ⟨As, Am, c1, c2, ⟨hcell 0 (by omega), hcell 1 (by omega), hcell 2 (by omega), hcell 3 (by omega), hcell 4 (by omega), hcell 5 (by omega), hcell 6 (by omega), hcell 7 (by omega), hcell 8 (by omega), h1, h2⟩⟩

/-- the texts one behind the other -/
def textsF : List Tok → List UInt8
  | [] => []
  | t :: r => t.text ++ 32 :: textsF r
theorem textsF_snoc (l : List Tok) (t : Tok) : textsF (l ++ [t]) = textsF l ++ (t.text ++ [32]) := by
  induction l with
  | nil => simp [textsF]
  | cons s r ih => simp [textsF, ih]
theorem textsF_app (l r : List Tok) : textsF (l ++ r) = textsF l ++ textsF r := by
  induction l with
  | nil => rfl
  | cons s l ih => simp [textsF, ih]
theorem textsF_le (l : List Tok) (k : Nat) : (textsF (l.take k)).length ≤ (textsF l).length := by
  conv => rhs; rw [← List.take_append_drop k l, textsF_app, List.length_append]
  omega
theorem str_app (a b c : List UInt8) : Value.string (⟨a.toArray⟩ ++ (⟨b.toArray⟩ ++ ⟨c.toArray⟩)) = .string ⟨(a ++ (b ++ c)).toArray⟩ := by
  congr 1
set_option maxHeartbeats 2000000 in
set_option maxRecDepth 100000 in
theorem texts_any {A : Option Addr} {base n c : Nat} {ts : List Tok} {w : World} (hn : ts.length = n) (h : TokL w base ts (.slice A n c)) (hl : n ≤ 8192) (hl2 : (textsF ts).length ≤ 70368744177664) :
    Calls Try.prog 11 #[.slice A n c] w fun e w' => e = .returned (.string ⟨(textsF ts).toArray⟩) ∧ w = w' := by
  have HN := hide hn
  have H := hide h
  clear hn h
  go_enter Try.func11, Try.ntmps11
  go_wp2_with fail
  go_loop [3, 4] (fun s i => ∃ k : Nat, k ≤ n ∧ i = .int .i64 k ∧ s = .string ⟨(textsF (ts.take k)).toArray⟩) (fun _ i => n - (intOf i).toNat)
  case atStart => exact ⟨0, Nat.zero_le _, rfl, rfl⟩
  case round =>
    obtain ⟨k, hk, rfl, rfl⟩ := hrel
    by_cases hlt : k < n
    · have hlt2 : k < ts.length := by rw [HN.out]; exact hlt
      obtain ⟨g, rfl, _, _, hat⟩ := H.out.at_ (by omega)
      obtain ⟨As, Am, c1, c2, hT⟩ := hat k hlt2
      have hk1 := hT.k1
      have HS := hide (show textsF (ts.take (k + 1)) = textsF (ts.take k) ++ (ts[k].text ++ [32]) by rw [List.take_succ_eq_append_getElem hlt2, textsF_snoc])
      obtain ⟨tx, htx⟩ : ∃ tx, ts[k].text = tx := ⟨_, rfl⟩
      rw [htx] at hk1 HS
      have hb1 := textsF_le ts (k + 1)
      rw [HS.out, List.length_append, List.length_append] at hb1
      have hb2 : tx.length ≤ 70368744177664 := by omega
      have hb3 : (textsF (ts.take k)).length + tx.length ≤ 70368744177664 := by omega
      clear hb1
      clear htx hT hat hlt2
      go_wp2_with fail
      go_round
      case rel => exact ⟨k + 1, by omega, by go_num, by rw [HS.out]; exact str_app _ _ _⟩
      case measure => simp [intOf]; omega
    · have hkk := hide (show ts.take k = ts from List.take_of_length_le (by rw [HN.out]; omega))
      go_wp2_with fail
      go_ret
      rw [hkk.out]
      exact ⟨rfl, rfl⟩
end Go.Proofs.Ytbljbmeifmpfoaa

namespace Go.Proofs.Ytbljbmeifmpfoaa
open Go.RowKit

theorem ltok_is {A : Option Addr} {c B n N a e : Nat} {u : List UInt16} {ts : List Tok} {w : World} (hB : B ≤ w.heap.size) (hn : u.length = n) (ha : Reads w B 1 A n (u16s u)) (hc : n ≤ c) (hc2 : c ≤ maxLen) (hq : lexF u = (ts, a, e)) (hN : ts.length = N) :
    Calls Try.prog 6 #[.slice A n c] w fun ev w' => ∃ A' c', ev = .returned (.tuple #[.slice A' N c', .int .i64 (a : Int), .int .i64 (e : Int)]) ∧ TokL w' w.heap.size ts (.slice A' N c') ∧ N ≤ c' ∧ c' ≤ maxLen ∧ Below w.heap.size w w' := by
  subst hN
  refine (ltokens_any hB hn ha hc hc2).mono ?_
  rintro ev w' ⟨v, rfl, ht, hb⟩
  rw [hq] at ht ⊢
  obtain ⟨A', c', rfl, h1, h2⟩ := ht.shape
  exact ⟨A', c', rfl, ht, h1, h2, hb⟩
theorem lasc_lit (s : ByteArray) (l : List UInt16) (n : Nat) (hs : ascii s.data.toList = l) (hn : l.length = n) (hl : s.size ≤ 4096) (w : World) :
    Calls Try.prog 10 #[.string s] w fun e w' => ∃ A c, e = .returned (.slice A n c) ∧ Reads w' w'.heap.size 1 A n (u16s l) ∧ n ≤ c ∧ c ≤ maxLen ∧ Below w.heap.size w w' := by
  subst hn
  refine (ascii_any s w (by omega)).mono ?_
  rintro e w' ⟨v, rfl, hm⟩
  rw [hs] at hm
  obtain ⟨A, c, rfl, h1, h2, hr⟩ := hm.u16
  exact ⟨A, c, rfl, hr, h1, h2, hm.below⟩
theorem texts_is {A : Option Addr} {base n c : Nat} {ts : List Tok} {w : World} {s : ByteArray} (hn : ts.length = n) (h : TokL w base ts (.slice A n c)) (hl : n ≤ 8192) (hl2 : (textsF ts).length ≤ 70368744177664) (hs : ⟨(textsF ts).toArray⟩ = s) :
    Calls Try.prog 11 #[.slice A n c] w fun e w' => e = .returned (.string s) ∧ w = w' := by
  subst hs
  exact texts_any hn h hl hl2
theorem lunits_eq {A A' : Option Addr} {c d B n m : Nat} {xs ys : List UInt16} {w : World} (hB : B ≤ w.heap.size) (hn : xs.length = n) (hm : ys.length = m) (ha : Reads w B 1 A n (u16s xs)) (hb : Reads w B 1 A' m (u16s ys)) (hl : n ≤ 70368744177664) (hl2 : m ≤ 70368744177664) {r : Bool} (hr : decide (xs = ys) = r) :
    Calls Try.prog 9 #[.slice A n c, .slice A' m d] w fun e w' => e = .returned (.bool r) ∧ Below w.heap.size w w' := by
  subst hn hm hr
  exact runits_any hB ha hb hl hl2
theorem reads_lit (w : World) (e : TypeId) (cs : List Value) (n : Nat) (hn : cs.length = n) (h : n ≤ maxLen) : Reads (w.alloc (.cells cs.toArray e)) (w.heap.size + 1) 1 (some ⟨w.heap.size, 0, none⟩) n cs := by
  subst hn
  have := Reads.of_own (Made.lit w e cs h).own
  rwa [show (w.alloc (.cells cs.toArray e)).heap.size = w.heap.size + 1 by simp] at this
def tks1 : List Tok := [{ noTok with kind := 1, text := [97] }, { noTok with kind := 5, text := [43, 43], pos := 1 }, { noTok with kind := 5, text := [43], pos := 3 }, { noTok with kind := 1, text := [98], pos := 4 }, { noTok with pos := 5 }]
def tks4 : List Tok := [{ noTok with kind := 1, text := [97] }, { noTok with kind := 1, text := [98], pos := 10, nl := true }, { noTok with pos := 11 }]
def tks5 : List Tok := [{ noTok with kind := 4, str := [233] }, { noTok with pos := 8 }]
theorem fv1 : lexF [97, 43, 43, 43, 98] = (tks1, 0, 0) := by decide +kernel
theorem fv2 : lexF [49, 110, 32, 48, 48, 55] = ([], 3, 5) := by decide +kernel
theorem fv3 : lexF [49, 46, 53] = ([], 0, 6) := by decide +kernel
theorem fv4 : lexF [97, 32, 47, 42, 32, 10, 32, 42, 47, 32, 98] = (tks4, 0, 0) := by decide +kernel
theorem fv5 : lexF [34, 92, 117, 48, 48, 101, 57, 34] = (tks5, 0, 0) := by decide +kernel
theorem bstep {a b c : World} (h : Below a.heap.size a b) (k : Below b.heap.size b c) : Below a.heap.size a c := h.trans (k.mono h.size)

set_option maxHeartbeats 4000000 in
set_option maxRecDepth 100000 in
theorem lfirst_any (w : World) : Calls Try.prog 4 #[] w fun e w' => e = .returned (.bool true) ∧ Below w.heap.size w w' := by
  go_enter Try.func4, Try.ntmps4
  go_wp2_with fail
  refine (lasc_lit _ [97, 43, 43, 43, 98] 5 rfl rfl (by decide) _).mono ?_
  rintro e w1 ⟨A1, c1, rfl, hr1, hl1, hm1, hb1⟩
  go_wp2_with fail
  refine (ltok_is (N := 5) (Nat.le_refl _) rfl hr1 hl1 hm1 fv1 rfl).mono ?_
  rintro e w2 ⟨B1, d1, rfl, ht1, _, _, hb2⟩
  have HT1 := hide ht1
  have HB := hide (bstep hb1 hb2)
  clear ht1 hr1 hl1 hm1 hb1 hb2
  go_wp2_with fail
  refine (lasc_lit _ [49, 110, 32, 48, 48, 55] 6 rfl rfl (by decide) _).mono ?_
  rintro e w3 ⟨A2, c2, rfl, hr2, hl2, hm2, hb3⟩
  go_wp2_with fail
  refine (ltok_is (N := 0) (Nat.le_refl _) rfl hr2 hl2 hm2 fv2 rfl).mono ?_
  rintro e w4 ⟨B2, d2, rfl, _, _, _, hb4⟩
  have HB4 := hide (bstep HB.out (bstep hb3 hb4))
  have HT4 := hide (HT1.out.below (bstep hb3 hb4))
  clear hr2 hl2 hm2 hb3 hb4 HB HT1
  go_wp2_with fail
  refine (lasc_lit _ [49, 46, 53] 3 rfl rfl (by decide) _).mono ?_
  rintro e w5 ⟨A3, c3, rfl, hr3, hl3, hm3, hb5⟩
  go_wp2_with fail
  refine (ltok_is (N := 0) (Nat.le_refl _) rfl hr3 hl3 hm3 fv3 rfl).mono ?_
  rintro e w6 ⟨B3, d3, rfl, _, _, _, hb6⟩
  have HB6 := hide (bstep HB4.out (bstep hb5 hb6))
  have HT6 := hide (HT4.out.below (bstep hb5 hb6))
  clear hr3 hl3 hm3 hb5 hb6 HB4 HT4
  go_wp2_with fail
  refine (lasc_lit _ [97, 32, 47, 42, 32, 10, 32, 42, 47, 32, 98] 11 rfl rfl (by decide) _).mono ?_
  rintro e w7 ⟨A4, c4, rfl, hr4, hl4, hm4, hb7⟩
  go_wp2_with fail
  refine (ltok_is (N := 3) (Nat.le_refl _) rfl hr4 hl4 hm4 fv4 rfl).mono ?_
  rintro e w8 ⟨B4, d4, rfl, ht4, hc4, _, hb8⟩
  have HU8 := hide ht4
  have HB8 := hide (bstep HB6.out (bstep hb7 hb8))
  have HT8 := hide (HT6.out.below (bstep hb7 hb8))
  clear hr4 hl4 hm4 hb7 hb8 HB6 HT6 ht4
  go_wp2_with fail
  refine (lasc_lit _ [34, 92, 117, 48, 48, 101, 57, 34] 8 rfl rfl (by decide) _).mono ?_
  rintro e w9 ⟨A5, c5, rfl, hr5, hl5, hm5, hb9⟩
  go_wp2_with fail
  refine (ltok_is (N := 2) (Nat.le_refl _) rfl hr5 hl5 hm5 fv5 rfl).mono ?_
  rintro e w10 ⟨B5, d5, rfl, ht5, hc5, _, hb10⟩
  have HB10 := hide (bstep HB8.out (bstep hb9 hb10))
  have HT10 := hide (HT8.out.below (bstep hb9 hb10))
  have HU10 := hide (HU8.out.below (bstep hb9 hb10))
  have HV10 := hide ht5
  clear hr5 hl5 hm5 hb9 hb10 HB8 HT8 HU8 ht5
  obtain ⟨g4, rfl, _, hg4, hat4⟩ := HU10.out.at_ (by decide)
  obtain ⟨_, _, _, _, hm0⟩ := hat4 0 (by decide)
  obtain ⟨_, _, _, _, hm1⟩ := hat4 1 (by decide)
  have hx0 : w10.cell? ⟨g4, 8, none⟩ = some (.bool false) := hm0.k8
  have hx1 : w10.cell? ⟨g4, 17, none⟩ = some (.bool true) := hm1.k8
  obtain ⟨g5, rfl, _, hg5, hat5⟩ := HV10.out.at_ (by decide)
  obtain ⟨As, _, cs, _, hs0⟩ := hat5 0 (by decide)
  have hx2 : w10.cell? ⟨g5, 2, none⟩ = some (.slice As 1 cs) := hs0.k2
  have HSTR := hide (show Reads w10 w10.heap.size 1 As 1 (u16s [233]) from Reads.of_own hs0.str)
  clear hat4 hm0 hm1 hat5 hs0
  go_wp2_with fail
  refine (texts_is (n := 5) rfl HT10.out (by omega) (by decide) (s := ⟨#[97, 32, 43, 43, 32, 43, 32, 98, 32, 32]⟩) rfl).mono ?_
  rintro e w11 ⟨rfl, rfl⟩
  go_wp2_with fail
  refine (lunits_eq (w := w10.alloc (.cells #[.int .u16 233] 41)) (B := w10.heap.size + 1) (by simp) rfl rfl (xs := [233]) (ys := [233]) ((HSTR.out.alloc (Nat.le_refl _) _).more (by simp)) (reads_lit w10 41 [.int .u16 233] 1 rfl (by decide)) (by decide) (by decide) (r := true) rfl).mono ?_
  rintro e w12 ⟨rfl, hb12⟩
  go_wp2_with fail
  go_ret
  exact ⟨rfl, bstep HB10.out (bstep ((Below.refl _ _).alloc (Nat.le_refl _) _) hb12)⟩
end Go.Proofs.Ytbljbmeifmpfoaa

namespace Go.Proofs.Ytbljbmeifmpfoaa
open Go.RowKit

set_option maxHeartbeats 1000000 in
set_option maxRecDepth 100000 in
theorem rlimbs_same {A A' : Option Addr} {c d B n : Nat} {xs : List Nat} {w : World} (hB : B ≤ w.heap.size) (hn : xs.length = n) (ha : Reads w B 1 A n (u32s xs)) (hb : Reads w B 1 A' n (u32s xs)) (hl : n ≤ 70368744177664) :
    Calls Try.prog 57 #[.slice A n c, .slice A' n d] w fun e w' => e = .returned (.bool true) ∧ Below w.heap.size w w' := by
  have HN := hide hn
  have HA := hide ha
  have HB := hide hb
  clear hn ha hb
  have e1 : ((n : Int) != (n : Int)) = false := by simp
  go_enter Try.func57, Try.ntmps57
  go_wp2
  go_loopw [5] (fun i wr => ∃ k : Nat, k ≤ n ∧ i = .int .i64 k ∧ Below w.heap.size w wr) (fun i _ => n - (intOf i).toNat)
  case atStart => exact ⟨0, Nat.zero_le _, rfl, Below.refl _ _⟩
  case round =>
    obtain ⟨k, hk, rfl, hnx⟩ := hrel
    by_cases hlt : k < n
    · have hx : k < xs.length := by rw [HN.out]; exact hlt
      obtain ⟨b1, o1, rfl, _, hc1⟩ := (HA.out.below (hnx.mono hB)).spotV (by omega)
      obtain ⟨b2, o2, rfl, _, hc2⟩ := (HB.out.below (hnx.mono hB)).spotV (by omega)
      have hca := hc1 k _ (u32s_get hx)
      have hcb := hc2 k _ (u32s_get hx)
      obtain ⟨x, hxx⟩ : ∃ x, xs[k] = x := ⟨_, rfl⟩
      rw [hxx] at hca hcb
      clear hc1 hc2 hxx hx
      have e2 : ((x : Int) != (x : Int)) = false := by simp
      go_wp2
      go_quiet (fail)
      go_wp2
      go_roundw
      case rel => exact ⟨k + 1, by omega, by go_num, below_drewN hnx _⟩
      case measure => simp [intOf]; omega
    · go_wp2
      go_ret
      exact ⟨rfl, hnx⟩
set_option maxHeartbeats 1000000 in
set_option maxRecDepth 100000 in
theorem rbig_same {A A' : Option Addr} {c d B n : Nat} {xs : List Nat} {w : World} (hB : B ≤ w.heap.size) (hn : xs.length = n) (ha : Reads w B 1 A n (u32s xs)) (hb : Reads w B 1 A' n (u32s xs)) (hl : n ≤ 70368744177664) (ng : Bool) :
    Calls Try.prog 37 #[.agg #[.bool ng, .slice A n c], .agg #[.bool ng, .slice A' n d]] w fun e w' => e = .returned (.bool true) ∧ Below w.heap.size w w' := by
  have HA := hide ((ha.alloc hB (.cells #[.bool ng, .slice A n c] 38)).alloc (by simp; omega) (.cells #[.bool ng, .slice A' n d] 38))
  have HB := hide ((hb.alloc hB (.cells #[.bool ng, .slice A n c] 38)).alloc (by simp; omega) (.cells #[.bool ng, .slice A' n d] 38))
  have HN := hide hn
  clear hn ha hb
  go_enter Try.func37, Try.ntmps37
  go_wp2_with fail
  refine (rlimbs_same (by simp; omega) HN.out HA.out HB.out hl).mono ?_
  rintro e w1 ⟨rfl, hb1⟩
  go_wp2_with fail
  go_ret
  exact ⟨rfl, bstep (((Below.refl _ _).alloc (Nat.le_refl _) _).alloc (by simp) _) hb1⟩
/-- a token's value as a call takes it -/
structure TokR (w : World) (B : Nat) (t : Tok) (As Am : Option Addr) : Prop where
  str : Reads w B 1 As t.str.length (u16s t.str)
  mag : Reads w B 1 Am t.mag.length (u32s t.mag)
  strl : t.str.length ≤ 70368744177664
  magl : t.mag.length ≤ 70368744177664
theorem TokR.below {w w' : World} {B : Nat} {t : Tok} {As Am : Option Addr} (h : TokR w B t As Am) (hb : Below B w w') : TokR w' B t As Am :=
  ⟨h.str.below hb, h.mag.below hb, h.strl, h.magl⟩
theorem TokR.more {w : World} {B B' : Nat} {t : Tok} {As Am : Option Addr} (h : TokR w B t As Am) (hb : B ≤ B') : TokR w B' t As Am :=
  ⟨h.str.more hb, h.mag.more hb, h.strl, h.magl⟩
set_option maxHeartbeats 4000000 in
set_option maxRecDepth 100000 in
theorem rtoken_same {t : Tok} {As Am As' Am' : Option Addr} {cs cm cs' cm' B : Nat} {w : World} (hB : B ≤ w.heap.size) (h1 : TokR w B t As Am) (h2 : TokR w B t As' Am') :
    Calls Try.prog 17 #[.agg #[.int .i64 (t.kind : Int), .string ⟨t.text.toArray⟩, .slice As t.str.length cs, .int .i64 t.nk, .int .i64 t.nn, .bool false, .slice Am t.mag.length cm, .int .i64 (t.pos : Int), .bool t.nl],
      .agg #[.int .i64 (t.kind : Int), .string ⟨t.text.toArray⟩, .slice As' t.str.length cs', .int .i64 t.nk, .int .i64 t.nn, .bool false, .slice Am' t.mag.length cm', .int .i64 (t.pos : Int), .bool t.nl]] w fun e w' => e = .returned (.bool true) ∧ Below w.heap.size w w' := by
  obtain ⟨W, hW⟩ : ∃ W, (w.alloc (.cells (tokV9 t (.slice As t.str.length cs) (.slice Am t.mag.length cm)).toArray 40)).alloc (.cells (tokV9 t (.slice As' t.str.length cs') (.slice Am' t.mag.length cm')).toArray 40) = W := ⟨_, rfl⟩
  have hbW := hide (show Below w.heap.size w W by rw [← hW]; exact ((Below.refl _ _).alloc (Nat.le_refl _) _).alloc (by simp) _)
  have hsW : W.heap.size = w.heap.size + 2 := by rw [← hW]; simp
  have hx := hide (show Blk W w.heap.size (tokV9 t (.slice As t.str.length cs) (.slice Am t.mag.length cm)) by
    rw [← hW]
    exact (Blk.new w _ 40).below ((Below.refl _ _).alloc (Nat.le_refl _) _) (by simp))
  have hy := hide (show Blk W (w.heap.size + 1) (tokV9 t (.slice As' t.str.length cs') (.slice Am' t.mag.length cm')) by
    rw [← hW]
    have := Blk.new (w.alloc (.cells (tokV9 t (.slice As t.str.length cs) (.slice Am t.mag.length cm)).toArray 40)) (tokV9 t (.slice As' t.str.length cs') (.slice Am' t.mag.length cm')) 40
    rwa [show (w.alloc (.cells (tokV9 t (.slice As t.str.length cs) (.slice Am t.mag.length cm)).toArray 40)).heap.size = w.heap.size + 1 by simp] at this)
  have H1 := hide (h1.below (hbW.out.mono hB))
  have H2 := hide (h2.below (hbW.out.mono hB))
  have HW := hide (show (w.alloc (.cells #[.int .i64 (t.kind : Int), .string ⟨t.text.toArray⟩, .slice As t.str.length cs, .int .i64 t.nk, .int .i64 t.nn, .bool false, .slice Am t.mag.length cm, .int .i64 (t.pos : Int), .bool t.nl] 40)).alloc (.cells #[.int .i64 (t.kind : Int), .string ⟨t.text.toArray⟩, .slice As' t.str.length cs', .int .i64 t.nk, .int .i64 t.nn, .bool false, .slice Am' t.mag.length cm', .int .i64 (t.pos : Int), .bool t.nl] 40) = W from hW)
  have hls := h1.strl
  have hlm := h1.magl
  have HS := hide hsW
  clear hW h1 h2 hsW
  go_enter Try.func17, Try.ntmps17
  go_wp2_with fail
  rw [HW.out]
  refine (lunits_eq (B := B) (by rw [HS.out]; omega) rfl rfl H1.out.str H2.out.str hls hls (r := true) (decide_eq_true rfl)).mono ?_
  rintro e w1 ⟨rfl, hb1⟩
  have hx1 := hide (hx.out.below hb1 (by rw [HS.out]; omega))
  have hy1 := hide (hy.out.below hb1 (by rw [HS.out]; omega))
  have HB1 := hide (hbW.out.trans (hb1.mono hbW.out.size))
  have H11 := hide (H1.out.below (hb1.mono (Nat.le_trans hB hbW.out.size)))
  have H21 := hide (H2.out.below (hb1.mono (Nat.le_trans hB hbW.out.size)))
  have hs1 : W.heap.size ≤ w1.heap.size := hb1.size
  clear hb1
  obtain ⟨x3, fx3⟩ := hx1.out.2 3 (by simp [tokV9])
  obtain ⟨x4, fx4⟩ := hx1.out.2 4 (by simp [tokV9])
  obtain ⟨y3, fy3⟩ := hy1.out.2 3 (by simp [tokV9])
  obtain ⟨y4, fy4⟩ := hy1.out.2 4 (by simp [tokV9])
  go_wp2_with fail
  refine (rnum_any t.nk t.nn t.nk t.nn w1).mono ?_
  rintro e w2 ⟨rfl, hb2⟩
  rw [show decide (t.nk = t.nk ∧ t.nn = t.nn) = true from decide_eq_true ⟨rfl, rfl⟩]
  have hx2 := hide (hx1.out.below hb2 hx1.out.1)
  have hy2 := hide (hy1.out.below hb2 hy1.out.1)
  have HB2 := hide (HB1.out.trans (hb2.mono HB1.out.size))
  have H12 := hide (H11.out.below (hb2.mono (Nat.le_trans hB HB1.out.size)))
  have H22 := hide (H21.out.below (hb2.mono (Nat.le_trans hB HB1.out.size)))
  have hs2 : w1.heap.size ≤ w2.heap.size := hb2.size
  clear hb2 x3 x4 y3 y4 fx3 fx4 fy3 fy4
  obtain ⟨x5, fx5⟩ := hx2.out.2 5 (by simp [tokV9])
  obtain ⟨x6, fx6⟩ := hx2.out.2 6 (by simp [tokV9])
  obtain ⟨y5, fy5⟩ := hy2.out.2 5 (by simp [tokV9])
  obtain ⟨y6, fy6⟩ := hy2.out.2 6 (by simp [tokV9])
  go_wp2_with fail
  refine (rbig_same (B := B) (Nat.le_trans hB HB2.out.size) rfl H12.out.mag H22.out.mag hlm false).mono ?_
  rintro e w3 ⟨rfl, hb3⟩
  have hx3 := hide (hx2.out.below hb3 hx2.out.1)
  have hy3 := hide (hy2.out.below hb3 hy2.out.1)
  have HB3 := hide (HB2.out.trans (hb3.mono HB2.out.size))
  clear hb3 x5 x6 y5 y6 fx5 fx6 fy5 fy6
  obtain ⟨x7, fx7⟩ := hx3.out.2 7 (by simp [tokV9])
  obtain ⟨x8, fx8⟩ := hx3.out.2 8 (by simp [tokV9])
  obtain ⟨y7, fy7⟩ := hy3.out.2 7 (by simp [tokV9])
  obtain ⟨y8, fy8⟩ := hy3.out.2 8 (by simp [tokV9])
  simp only [tokV9, List.getElem_cons_succ, List.getElem_cons_zero] at x7 y7 x8 y8
  obtain ⟨nl, hnl⟩ : ∃ b, t.nl = b := ⟨_, rfl⟩
  rw [hnl] at x8 y8
  clear hnl
  cases nl
  all_goals
    go_wp2_with fail
    go_ret
    exact ⟨rfl, HB3.out⟩
/-- the same, its place as a number of its own -/
theorem rtoken_is {t : Tok} {p : Int} {As Am As' Am' : Option Addr} {cs cm cs' cm' B : Nat} {w : World} (hp : (t.pos : Int) = p) (hB : B ≤ w.heap.size) (h1 : TokR w B t As Am) (h2 : TokR w B t As' Am') :
    Calls Try.prog 17 #[.agg #[.int .i64 (t.kind : Int), .string ⟨t.text.toArray⟩, .slice As t.str.length cs, .int .i64 t.nk, .int .i64 t.nn, .bool false, .slice Am t.mag.length cm, .int .i64 p, .bool t.nl],
      .agg #[.int .i64 (t.kind : Int), .string ⟨t.text.toArray⟩, .slice As' t.str.length cs', .int .i64 t.nk, .int .i64 t.nn, .bool false, .slice Am' t.mag.length cm', .int .i64 p, .bool t.nl]] w fun e w' => e = .returned (.bool true) ∧ Below w.heap.size w w' := by
  subst hp
  exact rtoken_same hB h1 h2
theorem rtoken_nl {t : Tok} {p : Int} {nl : Bool} {As Am As' Am' : Option Addr} {cs cm cs' cm' B : Nat} {w : World} (hp : (t.pos : Int) = p) (hnl : t.nl = nl) (hB : B ≤ w.heap.size) (h1 : TokR w B t As Am) (h2 : TokR w B t As' Am') :
    Calls Try.prog 17 #[.agg #[.int .i64 (t.kind : Int), .string ⟨t.text.toArray⟩, .slice As t.str.length cs, .int .i64 t.nk, .int .i64 t.nn, .bool false, .slice Am t.mag.length cm, .int .i64 p, .bool nl],
      .agg #[.int .i64 (t.kind : Int), .string ⟨t.text.toArray⟩, .slice As' t.str.length cs', .int .i64 t.nk, .int .i64 t.nn, .bool false, .slice Am' t.mag.length cm', .int .i64 p, .bool nl]] w fun e w' => e = .returned (.bool true) ∧ Below w.heap.size w w' := by
  subst hp hnl
  exact rtoken_same hB h1 h2
theorem rtoken_c (kd : Nat) (tx : List UInt8) (str : List UInt16) (nk nn : Int) (mag : List Nat) (pos : Nat) (p : Int) (nl : Bool) (As Am As' Am' : Option Addr) (cs cm cs' cm' B : Nat) (w : World) (hp : (pos : Int) = p) (hB : B ≤ w.heap.size)
    (a1 : Reads w B 1 As str.length (u16s str)) (a2 : Reads w B 1 Am mag.length (u32s mag)) (b1 : Reads w B 1 As' str.length (u16s str)) (b2 : Reads w B 1 Am' mag.length (u32s mag)) (l1 : str.length ≤ 70368744177664) (l2 : mag.length ≤ 70368744177664) :
    Calls Try.prog 17 #[.agg #[.int .i64 (kd : Int), .string ⟨tx.toArray⟩, .slice As str.length cs, .int .i64 nk, .int .i64 nn, .bool false, .slice Am mag.length cm, .int .i64 p, .bool nl],
      .agg #[.int .i64 (kd : Int), .string ⟨tx.toArray⟩, .slice As' str.length cs', .int .i64 nk, .int .i64 nn, .bool false, .slice Am' mag.length cm', .int .i64 p, .bool nl]] w fun e w' => e = .returned (.bool true) ∧ Below w.heap.size w w' :=
  rtoken_nl (t := ⟨kd, tx, str, nk, nn, mag, pos, nl⟩) hp rfl hB ⟨a1, a2, l1, l2⟩ ⟨b1, b2, l1, l2⟩
end Go.Proofs.Ytbljbmeifmpfoaa

namespace Go.Proofs.Ytbljbmeifmpfoaa
open Go.RowKit

theorem cast_one (n : Nat) : ((n + 1 : Nat) : Int) = (n : Int) + 1 := by omega
theorem below_drew' {W w : World} (h : Below W.drew.heap.size W.drew w) : Below W.heap.size W w := ⟨h.os, h.tape, h.output, h.size, h.block⟩
/-- nine cells -/
def T9 (w : World) (b o : Nat) (v0 v1 v2 v3 v4 v5 v6 v7 v8 : Value) : Prop :=
  w.cell? ⟨b, o, none⟩ = some v0 ∧ w.cell? ⟨b, o + 1, none⟩ = some v1 ∧ w.cell? ⟨b, o + 2, none⟩ = some v2 ∧ w.cell? ⟨b, o + 3, none⟩ = some v3 ∧ w.cell? ⟨b, o + 4, none⟩ = some v4 ∧ w.cell? ⟨b, o + 5, none⟩ = some v5 ∧ w.cell? ⟨b, o + 6, none⟩ = some v6 ∧ w.cell? ⟨b, o + 7, none⟩ = some v7 ∧ w.cell? ⟨b, o + 8, none⟩ = some v8
theorem T9.below {w w' : World} {b o D : Nat} {v0 v1 v2 v3 v4 v5 v6 v7 v8 : Value} (h : T9 w b o v0 v1 v2 v3 v4 v5 v6 v7 v8) (hb : Below D w w') (hd : b < D) : T9 w' b o v0 v1 v2 v3 v4 v5 v6 v7 v8 := by
  have hc : ∀ j, w'.cell? ⟨b, j, none⟩ = w.cell? ⟨b, j, none⟩ := fun j => hb.cell (p := ⟨b, j, none⟩) hd
  unfold T9
  rw [hc, hc, hc, hc, hc, hc, hc, hc, hc]
  exact h
theorem T9.of_blk {w : World} {b : Nat} {v0 v1 v2 v3 v4 v5 v6 v7 v8 : Value} (h : Blk w b [v0, v1, v2, v3, v4, v5, v6, v7, v8]) : T9 w b 0 v0 v1 v2 v3 v4 v5 v6 v7 v8 :=
  ⟨(h.2 0 (by simp)).1, (h.2 1 (by simp)).1, (h.2 2 (by simp)).1, (h.2 3 (by simp)).1, (h.2 4 (by simp)).1, (h.2 5 (by simp)).1, (h.2 6 (by simp)).1, (h.2 7 (by simp)).1, (h.2 8 (by simp)).1⟩
theorem TokAt.t9 {w : World} {base g i cs cm : Nat} {t : Tok} {As Am : Option Addr} {p : Int} {nl : Bool} (h : TokAt w base g i t As Am cs cm) (hp : (t.pos : Int) = p) (hnl : t.nl = nl) : T9 w g (i * 9) (.int .i64 (t.kind : Int)) (.string ⟨t.text.toArray⟩) (.slice As t.str.length cs) (.int .i64 t.nk) (.int .i64 t.nn) (.bool false) (.slice Am t.mag.length cm) (.int .i64 p) (.bool nl) := by
  subst hp hnl
  exact ⟨h.k0, h.k1, h.k2, h.k3, h.k4, h.k5, h.k6, h.k7, h.k8⟩
theorem TokAt.tokR {w w' : World} {base g i B : Nat} {t : Tok} {As Am : Option Addr} {cs cm : Nat} (h : TokAt w base g i t As Am cs cm) (hs : t.str.length ≤ 70368744177664) (hm : t.mag.length ≤ 70368744177664) (hb : Below w.heap.size w w') (hB : w.heap.size ≤ B) : TokR w' B t As Am :=
  ⟨((Reads.of_own h.str).below hb).more hB, ((Reads.of_own h.mag).below hb).more hB, hs, hm⟩
/-- tokens that lie in memory from A on, below block B -/
def TokRd (w : World) (B : Nat) (A : Option Addr) (ts : List Tok) : Prop :=
  0 < ts.length → ∃ g, A = some ⟨g, 0, none⟩ ∧ g < B ∧ ∀ i (hi : i < ts.length), ∃ As Am c1 c2, T9 w g (i * 9) (.int .i64 (ts[i].kind : Int)) (.string ⟨ts[i].text.toArray⟩) (.slice As ts[i].str.length c1) (.int .i64 ts[i].nk) (.int .i64 ts[i].nn) (.bool false) (.slice Am ts[i].mag.length c2) (.int .i64 (ts[i].pos : Int)) (.bool ts[i].nl) ∧ TokR w B ts[i] As Am
theorem TokRd.below {w w' : World} {B : Nat} {A : Option Addr} {ts : List Tok} (h : TokRd w B A ts) (hb : Below B w w') : TokRd w' B A ts := by
  intro h0
  obtain ⟨g, hA, hg, hat⟩ := h h0
  refine ⟨g, hA, hg, fun i hi => ?_⟩
  obtain ⟨As, Am, c1, c2, h1, h2⟩ := hat i hi
  exact ⟨As, Am, c1, c2, h1.below hb hg, h2.below hb⟩
theorem TokL.rd {w : World} {base n c : Nat} {A : Option Addr} {ts rest : List Tok} (h : TokL w base (ts ++ rest) (.slice A n c)) (hs : ∀ t ∈ ts, t.str.length ≤ 70368744177664 ∧ t.mag.length ≤ 70368744177664) : TokRd w w.heap.size A ts := by
  intro h0
  obtain ⟨g, hA, _, hg, hat⟩ := h.at_ (by rw [List.length_append]; omega)
  refine ⟨g, hA, hg, fun i hi => ?_⟩
  obtain ⟨As, Am, c1, c2, h1⟩ := hat i (by rw [List.length_append]; omega)
  rw [List.getElem_append_left hi] at h1
  obtain ⟨s1, s2⟩ := hs ts[i] (List.getElem_mem hi)
  exact ⟨As, Am, c1, c2, h1.t9 rfl rfl, h1.tokR s1 s2 (Below.refl _ _) (Nat.le_refl _)⟩
set_option maxHeartbeats 8000000 in
set_option maxRecDepth 100000 in
theorem rtokens_same {A1 A2 : Option Addr} {c1 c2 n B : Nat} {ts : List Tok} {w : World} (hB : B ≤ w.heap.size) (hn : ts.length = n) (h1 : TokRd w B A1 ts) (h2 : TokRd w B A2 ts) (hl : n ≤ 8192) :
    Calls Try.prog 8 #[.slice A1 n c1, .slice A2 n c2] w fun e w' => e = .returned (.bool true) ∧ Below w.heap.size w w' := by
  have HN := hide hn
  have H1 := hide h1
  have H2 := hide h2
  clear hn h1 h2
  have e1 : ((n : Int) != (n : Int)) = false := by simp
  go_enter Try.func8, Try.ntmps8
  go_wp2
  go_loopw [5] (fun i wr => ∃ k : Nat, k ≤ n ∧ i = .int .i64 k ∧ Below w.heap.size w wr) (fun i _ => n - (intOf i).toNat)
  case atStart => exact ⟨0, Nat.zero_le _, rfl, Below.refl _ _⟩
  case round =>
    obtain ⟨k, hk, rfl, hbr⟩ := hrel
    by_cases hlt : k < n
    · have hx : k < ts.length := by rw [HN.out]; exact hlt
      obtain ⟨g1, rfl, hg1, hat1⟩ := H1.out (by omega)
      obtain ⟨g2, rfl, hg2, hat2⟩ := H2.out (by omega)
      obtain ⟨As1, Am1, cs1, cm1, t1, r1⟩ := hat1 k hx
      obtain ⟨As2, Am2, cs2, cm2, t2, r2⟩ := hat2 k hx
      obtain ⟨t, htt⟩ : ∃ t, ts[k] = t := ⟨_, rfl⟩
      rw [htt] at t1 t2 r1 r2
      have hbw : w.heap.size ≤ wr.heap.size := hbr.size
      have HT1 := hide (t1.below (hbr.mono hB) hg1)
      have HT2 := hide (t2.below (hbr.mono hB) hg2)
      have R1 := hide (r1.below (hbr.mono hB))
      have R2 := hide (r2.below (hbr.mono hB))
      have hd1 : g1 < wr.heap.size := by omega
      have hd2 : g2 < wr.heap.size := by omega
      have HBR := hide hbr
      obtain ⟨nl, hnl⟩ : ∃ b, t.nl = b := ⟨_, rfl⟩
      rw [hnl] at HT1 HT2
      clear hat1 hat2 htt hx t1 t2 r1 r2 hnl
      have hBB : B ≤ wr.drew.heap.size := Nat.le_trans hB hbw
      have C1 := hide (rtoken_c t.kind t.text t.str t.nk t.nn t.mag t.pos (t.pos : Int) nl As1 Am1 As2 Am2 cs1 cm1 cs2 cm2 B wr.drew rfl hBB R1.out.str.drew R1.out.mag.drew R2.out.str.drew R2.out.mag.drew R2.out.strl R2.out.magl)
      clear hbr
      go_wp2
      go_region_held3 (fun w' => (w'.cell? ⟨g1, k * 9, none⟩ = some (.int .i64 (t.kind : Int)) ∧ w'.cell? ⟨g1, k * 9 + 1, none⟩ = some (.string ⟨t.text.toArray⟩) ∧ w'.cell? ⟨g1, k * 9 + 2, none⟩ = some (.slice As1 t.str.length cs1) ∧ w'.cell? ⟨g1, k * 9 + 3, none⟩ = some (.int .i64 t.nk) ∧ w'.cell? ⟨g1, k * 9 + 4, none⟩ = some (.int .i64 t.nn) ∧ w'.cell? ⟨g1, k * 9 + 5, none⟩ = some (.bool false) ∧ w'.cell? ⟨g1, k * 9 + 6, none⟩ = some (.slice Am1 t.mag.length cm1) ∧ w'.cell? ⟨g1, k * 9 + 7, none⟩ = some (.int .i64 (t.pos : Int)) ∧ w'.cell? ⟨g1, k * 9 + 8, none⟩ = some (.bool nl)) ∧ (w'.cell? ⟨g2, k * 9, none⟩ = some (.int .i64 (t.kind : Int)) ∧ w'.cell? ⟨g2, k * 9 + 1, none⟩ = some (.string ⟨t.text.toArray⟩) ∧ w'.cell? ⟨g2, k * 9 + 2, none⟩ = some (.slice As2 t.str.length cs2) ∧ w'.cell? ⟨g2, k * 9 + 3, none⟩ = some (.int .i64 t.nk) ∧ w'.cell? ⟨g2, k * 9 + 4, none⟩ = some (.int .i64 t.nn) ∧ w'.cell? ⟨g2, k * 9 + 5, none⟩ = some (.bool false) ∧ w'.cell? ⟨g2, k * 9 + 6, none⟩ = some (.slice Am2 t.mag.length cm2) ∧ w'.cell? ⟨g2, k * 9 + 7, none⟩ = some (.int .i64 (t.pos : Int)) ∧ w'.cell? ⟨g2, k * 9 + 8, none⟩ = some (.bool nl)))
        (first | (exact ⟨HT1.out, HT2.out⟩) | (exact ⟨HT1.out.below (below_drew' hb8) hd1, HT2.out.below (below_drew' hb8) hd2⟩) | go_keep)
        (first | (go_at_call 17; go_split_ands; (with_reducible refine C1.out.mono ?_); rintro e8 w8 ⟨rfl, hb8⟩))
      all_goals go_wp2
      all_goals go_roundw
      case rel => exact ⟨k + 1, by omega, by go_num, HBR.out.trans ((below_drew' hb8).mono hbw)⟩
      case measure => simp [intOf]; omega
    · go_wp2
      go_ret
      exact ⟨rfl, hbr⟩
end Go.Proofs.Ytbljbmeifmpfoaa

namespace Go.Proofs.Ytbljbmeifmpfoaa

def okQ (q x : UInt16) : Bool := !(x == q) && !(x.toNat == 10) && !(x.toNat == 13) && !(x.toNat == 92)
theorem okQ_line {q x : UInt16} (h : okQ q x = true) : isLine x = false ∧ x ≠ q ∧ x.toNat ≠ 92 := by
  simp only [okQ, Bool.and_eq_true, Bool.not_eq_true', beq_eq_false_iff_ne] at h
  refine ⟨?_, h.1.1.1, h.2⟩
  unfold isLine
  rw [Bool.or_eq_false_iff]
  exact ⟨beq_eq_false_iff_ne.2 h.1.1.2, beq_eq_false_iff_ne.2 h.1.2⟩
theorem quoL_whole {q : UInt16} (hq : isLine q = false) : ∀ (u acc : List UInt16), u.all (okQ q) = true → quoL q (u ++ [q]) acc = (0, acc ++ u, u.length + 1) := by
  intro u
  induction u with
  | nil => intro acc _; rw [List.nil_append, quoL_end hq]; simp
  | cons x r ih =>
    intro acc h
    rw [List.all_cons, Bool.and_eq_true] at h
    obtain ⟨h1, h2, h3⟩ := okQ_line h.1
    rw [List.cons_append, quoL_plain h1 h2 h3, ih _ h.2]
    simp [plusQ]
    omega
theorem quoL_open {q : UInt16} : ∀ (u acc : List UInt16), u.all (okQ q) = true → (quoL q u acc).1 = 5 := by
  intro u
  induction u with
  | nil => intro acc _; rfl
  | cons x r ih =>
    intro acc h
    rw [List.all_cons, Bool.and_eq_true] at h
    obtain ⟨h1, h2, h3⟩ := okQ_line h.1
    rw [quoL_plain h1 h2 h3]
    exact ih _ h.2
theorem starts_cons_ne {a : UInt8} {s : List UInt8} {x : UInt16} {r : List UInt16} (h : x ≠ a.toUInt16) : starts (a :: s) (x :: r) = false := by
  unfold starts
  rw [List.map_cons, List.isPrefixOf]
  rw [show (a.toUInt16 == x) = false from beq_eq_false_iff_ne.2 (fun e => h e.symm), Bool.false_and]
theorem pass_stop {x : UInt16} {r : List UInt16} (h : (isBl x || isLine x) = false) (h2 : x ≠ 47) : passF (x :: r) = (0, false, 0) := by
  show passL (x :: r) false = _
  rw [passL_stop h (by rw [starts_cons_ne h2, starts_cons_ne h2]; rfl)]
theorem pass_nil : passF [] = (0, false, 0) := rfl
/-- A token that is the whole source. -/
theorem lex_one {l : List UInt16} {t : Tok} (h0 : l.length ≤ 4096) (hp : passF l = (0, false, 0)) (hne : l ≠ []) (ht : tokenT true l = (0, t, l.length)) : lexF l = ([setAt t 0 false, setAt noTok l.length false], 0, 0) := by
  rw [lexF_short (by omega)]
  have htok : tokAt 0 l = (0, t, l.length) := by unfold tokAt; rw [hp]; exact ht
  rw [lexL_more (by rw [hp]) (by rw [hp]; exact hne) (by rw [htok]), hp, htok]
  simp only [Nat.zero_add]
  rw [List.drop_length, lexL_end (by rw [pass_nil]) (by rw [pass_nil]; rfl), pass_nil]
  rfl
theorem lex_none {l : List UInt16} {t : Tok} {e n : Nat} (h0 : l.length ≤ 4096) (hp : passF l = (0, false, 0)) (hne : l ≠ []) (ht : tokenT true l = (e, t, n)) (he : e ≠ 0) : lexF l = ([], 0, e) := by
  rw [lexF_short (by omega)]
  have htok : tokAt 0 l = (e, t, n) := by unfold tokAt; rw [hp]; exact ht
  rw [lexL_bad (by rw [hp]) (by rw [hp]; exact hne) (by rw [htok]; exact he), hp, htok]
  rfl
theorem quote_first {q : UInt16} (hq : q = 39 ∨ q = 34) (r : List UInt16) : passF (q :: r) = (0, false, 0) ∧ tokenT true (q :: r) = quotedT q r ∧ isLine q = false := by
  rcases hq with rfl | rfl
  · exact ⟨pass_stop (by decide) (by decide), by rw [tokenT_cons, if_neg (by decide), if_neg (by decide), if_pos (by decide)], by decide⟩
  · exact ⟨pass_stop (by decide) (by decide), by rw [tokenT_cons, if_neg (by decide), if_neg (by decide), if_pos (by decide)], by decide⟩
theorem lex_quotes {q : UInt16} (hq : q = 39 ∨ q = 34) {u : List UInt16} (h : u.all (okQ q) = true) (hl : u.length ≤ 4000) :
    lexF (([q] ++ u) ++ [q]) = ([{ noTok with kind := 4, str := u }, setAt noTok (u.length + 2) false], 0, 0) := by
  obtain ⟨h1, h2, h3⟩ := quote_first hq (u ++ [q])
  have hw := quoL_whole h3 u [] h
  have ht : tokenT true (q :: (u ++ [q])) = (0, { noTok with kind := 4, str := u }, (q :: (u ++ [q])).length) := by
    rw [h2]
    unfold quotedT
    rw [show quoF q (u ++ [q]) = quoL q (u ++ [q]) [] from rfl, hw, if_neg (by simp)]
    simp
    omega
  have := lex_one (by simp; omega) h1 (by simp) ht
  simp only [List.cons_append, List.nil_append] at this ⊢
  rw [this]
  simp [setAt, noTok]
theorem lex_open {q : UInt16} (hq : q = 39 ∨ q = 34) {u : List UInt16} (h : u.all (okQ q) = true) (hl : u.length ≤ 4000) : lexF ([q] ++ u) = ([], 0, 5) := by
  obtain ⟨h1, h2, h3⟩ := quote_first hq u
  have hw := quoL_open u [] h
  have ht : tokenT true (q :: u) = (5, noTok, 0) := by
    rw [h2]
    unfold quotedT
    rw [show quoF q u = quoL q u [] from rfl, hw, if_pos (by simp)]
    rfl
  exact lex_none (by simp; omega) h1 (by simp) ht (by simp)
end Go.Proofs.Ytbljbmeifmpfoaa
