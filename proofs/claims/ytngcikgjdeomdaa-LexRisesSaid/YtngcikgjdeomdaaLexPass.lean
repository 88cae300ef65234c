/- The reader's pass, walked: what stands between tokens. -/
import Derived.Test.YtngcikgjdeomdaaLexRemark
namespace Go.Proofs.Ytngcikgjdeomdaa
open Go.RowKit

theorem or_false_both {a b : Bool} (h : (a || b) = false) : a = false ∧ b = false := by cases a <;> simp_all
theorem or_left {b : Bool} (h : (false || b) = true) : b = true := h
theorem ret_bii {a b : Bool} {m n p q : Nat} (h : a = b) (h2 : m = n) (h3 : p = q) : Ending.returned (.tuple #[.bool a, .int .i64 (m : Int), .int .i64 (p : Int)]) = .returned (.tuple #[.bool b, .int .i64 (n : Int), .int .i64 (q : Int)]) := by rw [h, h2, h3]
/-- how far the loop is -/
def AtPass (u : List UInt16) (k p : Nat) (b : Bool) : Prop := ∃ i, p = k + i ∧ passL (u.drop k) false = plus i (passL (u.drop p) b)
theorem AtPass.blank {u : List UInt16} {k p : Nat} {b : Bool} (h : AtPass u k p b) (hp : p < u.length) (h1 : (isBl u[p] || isLine u[p]) = true) : AtPass u k (p + 1) (b || isLine u[p]) := by
  obtain ⟨i, hi, he⟩ := h
  refine ⟨i + 1, by omega, ?_⟩
  rw [he, List.drop_eq_getElem_cons hp, passL_blank h1]
  simp only [plus]
  congr 1
  omega
theorem AtPass.remark {u : List UInt16} {k p m : Nat} {b nl : Bool} (h : AtPass u k p b) (hp : p < u.length) (h1 : (isBl u[p] || isLine u[p]) = false) (h2 : (starts [47, 47] (u.drop p) || starts [47, 42] (u.drop p)) = true)
    (hq : remarkF (u.drop p) = (m, nl, 0)) : AtPass u k (p + m) (b || nl) := by
  obtain ⟨i, hi, he⟩ := h
  refine ⟨i + m, by omega, ?_⟩
  have hd : u.drop p = u[p] :: u.drop (p + 1) := List.drop_eq_getElem_cons hp
  rw [hd] at hq h2
  rw [he, hd, passL_remark h1 h2, hq, if_neg (by simp), ← hd, List.drop_drop]
  simp only [plus]
  congr 1
  omega
theorem AtPass.bad {u : List UInt16} {k p m e : Nat} {b nl : Bool} (h : AtPass u k p b) (hp : p < u.length) (h1 : (isBl u[p] || isLine u[p]) = false) (h2 : (starts [47, 47] (u.drop p) || starts [47, 42] (u.drop p)) = true)
    (hq : remarkF (u.drop p) = (m, nl, e)) (he0 : e ≠ 0) : passL (u.drop k) false = (p - k, false, e) ∧ k ≤ p := by
  obtain ⟨i, hi, he⟩ := h
  refine ⟨?_, by omega⟩
  have hd : u.drop p = u[p] :: u.drop (p + 1) := List.drop_eq_getElem_cons hp
  rw [hd] at hq h2
  rw [he, hd, passL_remark h1 h2, hq, if_pos he0]
  simp only [plus]
  congr 1
  omega
theorem AtPass.halt {u : List UInt16} {k p : Nat} {b : Bool} (h : AtPass u k p b) (hp : p < u.length) (h1 : (isBl u[p] || isLine u[p]) = false) (h2 : (starts [47, 47] (u.drop p) || starts [47, 42] (u.drop p)) = false) :
    passL (u.drop k) false = (p - k, b, 0) ∧ k ≤ p := by
  obtain ⟨i, hi, he⟩ := h
  refine ⟨?_, by omega⟩
  have hd : u.drop p = u[p] :: u.drop (p + 1) := List.drop_eq_getElem_cons hp
  rw [hd] at h2
  rw [he, hd, passL_stop h1 h2]
  simp only [plus]
  congr 1
  omega
theorem AtPass.stop {u : List UInt16} {k : Nat} {b : Bool} (h : AtPass u k u.length b) : passL (u.drop k) false = (u.length - k, b, 0) ∧ k ≤ u.length := by
  obtain ⟨i, hi, he⟩ := h
  refine ⟨?_, by omega⟩
  rw [he, List.drop_length, passL_nil]
  simp only [plus]
  congr 1
  omega
theorem pass_of {u : List UInt16} {k m e : Nat} {nl : Bool} (hq : passF (u.drop k) = (m, nl, e)) : ∀ (i : Nat) (b : Bool) (e' : Nat), passL (u.drop k) false = (i, b, e') → i = m ∧ b = nl ∧ e' = e := by
  intro i b e' h
  have : passF (u.drop k) = passL (u.drop k) false := rfl
  rw [this, h] at hq
  simpa using hq

set_option maxHeartbeats 8000000 in
set_option maxRecDepth 100000 in
theorem lpass_any {A : Option Addr} {c g B k n : Nat} {u : List UInt16} {w : World} (hr : Rd w g A n c k) (hn : u.length = n) (ha : Reads w B 1 A n (u16s u)) (hB : B ≤ g) (hk : k ≤ n) (hl : n ≤ 4096) {m e : Nat} {nl : Bool} (hq : passF (u.drop k) = (m, nl, e)) :
    Calls Try.prog 28 #[.pointer (some ⟨g, 0, none⟩)] w fun ev w' => (ev = .returned (.tuple #[.bool nl, .int .i64 ((if e = 0 then 0 else k + m : Nat) : Int), .int .i64 (e : Int)])) ∧ (e = 0 → Mv w w' g A n c (k + m)) ∧ w.grownBy w' (some g) := by
  subst hn
  have HQ := hide (pass_of hq)
  have HA := hide ha
  have HR := hide hr
  have hg := hr.lt
  have hM0 := hide (Mv.refl hr)
  clear hq ha hr
  go_enter Try.func28, Try.ntmps28
  go_wp2
  go_step3
  go_wp2
  go_step3
  go_wp2
  go_loopg [5] (u.length - k) (fun r a wr => ∃ p b, p + r = u.length ∧ a = .bool b ∧ Hid (Mv w wr g A u.length c p) ∧ Hid (AtPass u k p b))
  case atStart => exact ⟨k, false, by omega, rfl, hM0, 0, rfl, by simp [plus]⟩
  case round =>
    obtain ⟨p, b, hpr, rfl, hM, hat⟩ := hrel
    have hc0 := hM.out.rd.c0
    have hc1 := hM.out.rd.c1
    have hf1 := hM.out.rd.f1
    have har := hide (HA.out.grown hM.out.grown hB (Nat.le_of_lt hg))
    by_cases hlt : p < u.length
    · have hlt2 : (p : Int) < (u.length : Int) := by omega
      obtain ⟨blk, off, rfl, _, hcell⟩ := har.out.spotL (by omega)
      have hca := hcell p hlt
      have hBlank := hide (fun h1 => hat.out.blank hlt h1)
      have hRem := hide (fun m nl h1 h2 hq => hat.out.remark (m := m) (nl := nl) hlt h1 h2 hq)
      have hBad := hide (fun m nl e h1 h2 hq he => hat.out.bad (m := m) (nl := nl) (e := e) hlt h1 h2 hq he)
      have hHalt := hide (fun h1 h2 => hat.out.halt hlt h1 h2)
      obtain ⟨x, hx⟩ : ∃ x, u[p] = x := ⟨_, rfl⟩
      rw [hx] at hca hBlank hRem hBad hHalt
      clear hcell hx
      cases hbl : (isBl x || isLine x) with
      | true =>
        have hsp := hide (hBlank.out hbl)
        cases hb1 : isBl x with
        | true =>
          cases b
          all_goals
            go_wp2_with fail
            go_quiet (fail)
            go_wp2_with fail
            go_quiet (fail)
            go_wp2_with (first | (go_at_call 40; refine (lline_any _ _).mono ?_; rintro e2 w2 ⟨rfl, rfl⟩) | (go_at_call 39; refine (lblank_any _ _).mono ?_; rintro e2 w2 ⟨rfl, rfl⟩))
            go_roundg (gk - 1)
            case measure => omega
            case rel => exact ⟨p + 1, _, by omega, rfl, Mv.step (hM.out.drewN _) (by omega), hsp.out⟩
        | false =>
          have hl1 : isLine x = true := by rw [hb1] at hbl; exact hbl
          cases b
          all_goals
            go_wp2_with fail
            go_quiet (fail)
            go_wp2_with fail
            go_quiet (fail)
            go_wp2_with (first | (go_at_call 40; refine (lline_any _ _).mono ?_; rintro e2 w2 ⟨rfl, rfl⟩) | (go_at_call 39; refine (lblank_any _ _).mono ?_; rintro e2 w2 ⟨rfl, rfl⟩))
            go_roundg (gk - 1)
            case measure => omega
            case rel => exact ⟨p + 1, _, by omega, rfl, Mv.step (hM.out.drewN _) (by omega), by first | exact hsp.out | (have z := hsp.out; rw [hl1] at z; exact z)⟩
      | false =>
        have hb1 : isBl x = false := (or_false_both hbl).1
        have hb2 : isLine x = false := (or_false_both hbl).2
        have HBL := hide hbl
        clear hbl
        obtain ⟨s1, hs1⟩ : ∃ q, starts [47, 47] (u.drop p) = q := ⟨_, rfl⟩
        obtain ⟨s2, hs2⟩ : ∃ q, starts [47, 42] (u.drop p) = q := ⟨_, rfl⟩
        have HS1 := hide hs1
        have HS2 := hide hs2
        have HS := hide (show (starts [47, 47] (u.drop p) || starts [47, 42] (u.drop p)) = (s1 || s2) by rw [hs1, hs2])
        clear hs1 hs2
        cases hss : (s1 || s2) with
        | false =>
          have h1 : s1 = false := (or_false_both hss).1
          have h2 : s2 = false := (or_false_both hss).2
          have hcl := hide (hHalt.out HBL.out (by rw [HS.out, hss]))
          subst h1 h2
          clear hss
          go_wp2_with fail
          go_quiet (fail)
          go_wp2_with fail
          go_quiet (fail)
          go_wp2_with (first | (go_at_call 40; refine (lline_any _ _).mono ?_; rintro e2 w2 ⟨rfl, rfl⟩) | (go_at_call 39; refine (lblank_any _ _).mono ?_; rintro e2 w2 ⟨rfl, rfl⟩))
          refine (lhas_any ⟨#[47, 47]⟩ (hM.out.rd.drewN _) rfl (har.out.drewN _) (by omega) hl (by decide) HS1.out).mono ?_
          rintro e2 w2 ⟨rfl, m2, hw2⟩
          subst hw2
          go_wp2_with fail
          refine (lhas_any ⟨#[47, 42]⟩ (hM.out.rd.drewN _) rfl (har.out.drewN _) (by omega) hl (by decide) HS2.out).mono ?_
          rintro e3 w3 ⟨rfl, m3, hw3⟩
          subst hw3
          go_wp2
          (try rw [Exit.noGoto_ret])
          go_ret3
          obtain ⟨q1, q2⟩ := hcl.out
          obtain ⟨z1, z2, z3⟩ := HQ.out _ _ _ q1
          subst z1 z2 z3
          exact ⟨rfl, fun _ => by rw [show k + (p - k) = p by omega]; exact hM.out.drewN _, (hM.out.drewN _).grown⟩
        | true =>
          obtain ⟨⟨rm, rnl, re⟩, hrem⟩ : ∃ z, remarkF (u.drop p) = z := ⟨_, rfl⟩
          have hp2 : p + 2 ≤ u.length := by
            have := rem_starts (l := u.drop p) (by rw [HS.out, hss])
            rw [List.length_drop] at this
            omega
          have hrl := remark_le (l := u.drop p) (by rw [List.length_drop]; omega)
          rw [hrem, List.length_drop] at hrl
          have HREM := hide hrem
          by_cases he0 : re = 0
          · subst he0
            have hsp := hide (hRem.out rm rnl HBL.out (by rw [HS.out, hss]) hrem)
            clear hrem
            cases s1 with
            | true =>
              cases b
              all_goals
                go_wp2_with fail
                go_quiet (fail)
                go_wp2_with fail
                go_quiet (fail)
                go_wp2_with (first | (go_at_call 40; refine (lline_any _ _).mono ?_; rintro e2 w2 ⟨rfl, rfl⟩) | (go_at_call 39; refine (lblank_any _ _).mono ?_; rintro e2 w2 ⟨rfl, rfl⟩))
                refine (lhas_any ⟨#[47, 47]⟩ (hM.out.rd.drewN _) rfl (har.out.drewN _) (by omega) hl (by decide) HS1.out).mono ?_
                rintro e2 w2 ⟨rfl, m2, hw2⟩
                subst hw2
                go_wp2_with fail
                refine (lremark_any (hM.out.rd.drewN _) rfl (har.out.drewN _) hB hp2 hl HREM.out).mono ?_
                rintro e4 w4 ⟨rfl, hM3⟩
                go_wp2
                go_roundg (u.length - (p + rm))
                case measure => omega
                case rel => exact ⟨p + rm, _, by omega, rfl, Mv.then (hM.out.drewN _) hM3, hsp.out⟩
            | false =>
              obtain rfl : s2 = true := or_left hss
              cases b
              all_goals
                go_wp2_with fail
                go_quiet (fail)
                go_wp2_with fail
                go_quiet (fail)
                go_wp2_with (first | (go_at_call 40; refine (lline_any _ _).mono ?_; rintro e2 w2 ⟨rfl, rfl⟩) | (go_at_call 39; refine (lblank_any _ _).mono ?_; rintro e2 w2 ⟨rfl, rfl⟩))
                refine (lhas_any ⟨#[47, 47]⟩ (hM.out.rd.drewN _) rfl (har.out.drewN _) (by omega) hl (by decide) HS1.out).mono ?_
                rintro e2 w2 ⟨rfl, m2, hw2⟩
                subst hw2
                go_wp2_with fail
                refine (lhas_any ⟨#[47, 42]⟩ (hM.out.rd.drewN _) rfl (har.out.drewN _) (by omega) hl (by decide) HS2.out).mono ?_
                rintro e3 w3 ⟨rfl, m3, hw3⟩
                subst hw3
                go_wp2_with fail
                refine (lremark_any (hM.out.rd.drewN _) rfl (har.out.drewN _) hB hp2 hl HREM.out).mono ?_
                rintro e4 w4 ⟨rfl, hM3⟩
                go_wp2
                go_roundg (u.length - (p + rm))
                case measure => omega
                case rel => exact ⟨p + rm, _, by omega, rfl, Mv.then (hM.out.drewN _) hM3, hsp.out⟩
          · have he1 : ((re : Int) != 0) = true := by rw [bne_iff_ne]; omega
            have hcl := hide (hBad.out rm rnl re HBL.out (by rw [HS.out, hss]) hrem he0)
            clear hrem
            cases s1 with
            | true =>
              go_wp2_with fail
              go_quiet (fail)
              go_wp2_with fail
              go_quiet (fail)
              go_wp2_with (first | (go_at_call 40; refine (lline_any _ _).mono ?_; rintro e2 w2 ⟨rfl, rfl⟩) | (go_at_call 39; refine (lblank_any _ _).mono ?_; rintro e2 w2 ⟨rfl, rfl⟩))
              refine (lhas_any ⟨#[47, 47]⟩ (hM.out.rd.drewN _) rfl (har.out.drewN _) (by omega) hl (by decide) HS1.out).mono ?_
              rintro e2 w2 ⟨rfl, m2, hw2⟩
              subst hw2
              go_wp2_with fail
              refine (lremark_any (hM.out.rd.drewN _) rfl (har.out.drewN _) hB hp2 hl HREM.out).mono ?_
              rintro e4 w4 ⟨rfl, hM3⟩
              go_wp2
              (try rw [Exit.noGoto_ret])
              go_ret3
              obtain ⟨q1, q2⟩ := hcl.out
              obtain ⟨z1, z2, z3⟩ := HQ.out _ _ _ q1
              subst z1 z2 z3
              exact ⟨ret_bii rfl (by rw [if_neg he0]; omega) rfl, fun h => absurd h he0, (Mv.then (hM.out.drewN _) hM3).grown⟩
            | false =>
              obtain rfl : s2 = true := or_left hss
              go_wp2_with fail
              go_quiet (fail)
              go_wp2_with fail
              go_quiet (fail)
              go_wp2_with (first | (go_at_call 40; refine (lline_any _ _).mono ?_; rintro e2 w2 ⟨rfl, rfl⟩) | (go_at_call 39; refine (lblank_any _ _).mono ?_; rintro e2 w2 ⟨rfl, rfl⟩))
              refine (lhas_any ⟨#[47, 47]⟩ (hM.out.rd.drewN _) rfl (har.out.drewN _) (by omega) hl (by decide) HS1.out).mono ?_
              rintro e2 w2 ⟨rfl, m2, hw2⟩
              subst hw2
              go_wp2_with fail
              refine (lhas_any ⟨#[47, 42]⟩ (hM.out.rd.drewN _) rfl (har.out.drewN _) (by omega) hl (by decide) HS2.out).mono ?_
              rintro e3 w3 ⟨rfl, m3, hw3⟩
              subst hw3
              go_wp2_with fail
              refine (lremark_any (hM.out.rd.drewN _) rfl (har.out.drewN _) hB hp2 hl HREM.out).mono ?_
              rintro e4 w4 ⟨rfl, hM3⟩
              go_wp2
              (try rw [Exit.noGoto_ret])
              go_ret3
              obtain ⟨q1, q2⟩ := hcl.out
              obtain ⟨z1, z2, z3⟩ := HQ.out _ _ _ q1
              subst z1 z2 z3
              exact ⟨ret_bii rfl (by rw [if_neg he0]; omega) rfl, fun h => absurd h he0, (Mv.then (hM.out.drewN _) hM3).grown⟩
    · obtain rfl : p = u.length := by omega
      have hst := hide hat.out.stop
      go_wp2_with fail
      go_quiet (fail)
      go_wp2
      (try rw [Exit.noGoto_ret])
      go_ret3
      obtain ⟨q1, q2⟩ := hst.out
      obtain ⟨z1, z2, z3⟩ := HQ.out _ _ _ q1
      subst z1 z2 z3
      exact ⟨rfl, fun _ => by rw [show k + (u.length - k) = u.length by omega]; exact hM.out.drewN _, (hM.out.drewN _).grown⟩
end Go.Proofs.Ytngcikgjdeomdaa
