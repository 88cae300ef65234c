/- The reader's remark, walked: one is passed. -/
import Derived.Test.YtngcikgjdeomdaaLexHas
import Derived.Deep.LoopGhost
namespace Go.Proofs.Ytngcikgjdeomdaa
open Go.RowKit

theorem ret_bi {a b : Bool} {m n : Nat} (h : a = b) (h2 : m = n) : Ending.returned (.tuple #[.bool a, .int .i64 (m : Int)]) = .returned (.tuple #[.bool b, .int .i64 (n : Int)]) := by rw [h, h2]
/-- how far the loop is: i units have been passed -/
def AtRem (long : Bool) (u : List UInt16) (k p : Nat) (b d : Bool) : Prop := ∃ i, p = k + 2 + i ∧ remGo long (u.drop (k + 2)) false false = plus i (remGo long (u.drop p) b d)
theorem AtRem.step {long : Bool} {u : List UInt16} {k p : Nat} {b d : Bool} (h : AtRem long u k p b d) (hp : p < u.length) (h1 : (long && starts [42, 47] (u.drop p)) = false) (h2 : (!long && isLine u[p]) = false) :
    AtRem long u k (p + 1) (b || isLine u[p]) (d || isFar u[p]) := by
  obtain ⟨i, hi, he⟩ := h
  refine ⟨i + 1, by omega, ?_⟩
  have hd : u.drop p = u[p] :: u.drop (p + 1) := List.drop_eq_getElem_cons hp
  rw [he, hd, remGo, if_neg (by rw [← hd, h1]; simp), if_neg (by rw [h2]; simp)]
  simp only [plus]
  congr 1
  omega
theorem AtRem.close {u : List UInt16} {k p : Nat} {b d : Bool} (h : AtRem true u k p b d) (hp : p < u.length) (h1 : starts [42, 47] (u.drop p) = true) :
    remGo true (u.drop (k + 2)) false false = (p - (k + 2) + 2, b, leftF d) ∧ k + 2 ≤ p := by
  obtain ⟨i, hi, he⟩ := h
  have hd : u.drop p = u[p] :: u.drop (p + 1) := List.drop_eq_getElem_cons hp
  refine ⟨?_, by omega⟩
  rw [he, hd, remGo, if_pos (by rw [← hd, h1]; rfl)]
  simp only [plus]
  congr 1
  omega
theorem AtRem.line {u : List UInt16} {k p : Nat} {b d : Bool} (h : AtRem false u k p b d) (hp : p < u.length) (h1 : isLine u[p] = true) :
    remGo false (u.drop (k + 2)) false false = (p - (k + 2), false, leftF d) ∧ k + 2 ≤ p := by
  obtain ⟨i, hi, he⟩ := h
  have hd : u.drop p = u[p] :: u.drop (p + 1) := List.drop_eq_getElem_cons hp
  refine ⟨?_, by omega⟩
  rw [he, hd, remGo, if_neg (by simp), if_pos (by rw [h1]; rfl)]
  simp only [plus]
  congr 1
  omega
theorem AtRem.stop {long : Bool} {u : List UInt16} {k : Nat} {b d : Bool} (h : AtRem long u k u.length b d) :
    remGo long (u.drop (k + 2)) false false = (u.length - (k + 2), false, if long = true then 5 else leftF d) ∧ k + 2 ≤ u.length := by
  obtain ⟨i, hi, he⟩ := h
  refine ⟨?_, by omega⟩
  rw [he, List.drop_length, remGo]
  simp only [plus]
  congr 1
  omega
theorem rem_of {u : List UInt16} {k m e : Nat} {nl : Bool} {long : Bool} (hlong : starts [47, 42] (u.drop k) = long) (hq : remarkF (u.drop k) = (m, nl, e)) : ∀ (i : Nat) (b : Bool) (e' : Nat), remGo long (u.drop (k + 2)) false false = (i, b, e') → 2 + i = m ∧ b = nl ∧ e' = e := by
  intro i b e' h
  unfold remarkF at hq
  rw [hlong, List.drop_drop, h] at hq
  simpa [plus] using hq

set_option maxHeartbeats 4000000 in
set_option maxRecDepth 100000 in
theorem lremark_any {A : Option Addr} {c g B k n : Nat} {u : List UInt16} {w : World} (hr : Rd w g A n c k) (hn : u.length = n) (ha : Reads w B 1 A n (u16s u)) (hB : B ≤ g) (hk : k + 2 ≤ n) (hl : n ≤ 4096) {m e : Nat} {nl : Bool} (hq : remarkF (u.drop k) = (m, nl, e)) :
    Calls Try.prog 42 #[.pointer (some ⟨g, 0, none⟩)] w fun ev w' => ev = .returned (.tuple #[.bool nl, .int .i64 (e : Int)]) ∧ Mv w w' g A n c (k + m) := by
  subst hn
  obtain ⟨long, hlong⟩ : ∃ q, starts [47, 42] (u.drop k) = q := ⟨_, rfl⟩
  have HQ := hide (rem_of hlong hq)
  have HL := hide hlong
  have HA := hide ha
  have HR := hide hr
  have hg := hr.lt
  clear hq hlong ha hr
  go_enter Try.func42, Try.ntmps42
  go_wp2_with fail
  refine (lhas_any ⟨#[47, 42]⟩ HR.out rfl HA.out (by omega) hl (by decide) HL.out).mono ?_
  rintro e1 w1 ⟨rfl, m1, hw1⟩
  subst hw1
  have hc0 := HR.out.c0
  have hc1 := HR.out.c1
  have hf1 := HR.out.f1
  go_wp2
  have hM0 := hide (Mv.step ((Mv.refl HR.out).drewN m1) (z := (k : Int) + 2) (k' := k + 2) (by omega))
  clear hc0 hc1 hf1
  go_loopg [5, 6] (u.length - (k + 2)) (fun r a st wr => ∃ p b d, p + r = u.length ∧ a = .bool b ∧ st = .bool d ∧ Hid (Mv w wr g A u.length c p) ∧ Hid (AtRem long u k p b d))
  case atStart => exact ⟨k + 2, false, false, by omega, rfl, rfl, hM0, 0, by omega, by simp [plus]⟩
  case round =>
    obtain ⟨p, b, d, hpr, rfl, rfl, hM, hat⟩ := hrel
    have hc0 := hM.out.rd.c0
    have hc1 := hM.out.rd.c1
    have hf1 := hM.out.rd.f1
    have har := hide (HA.out.grown hM.out.grown hB (Nat.le_of_lt hg))
    by_cases hlt : p < u.length
    · have hlt2 : (p : Int) < (u.length : Int) := by omega
      obtain ⟨blk, off, rfl, _, hcell⟩ := har.out.spotL (by omega)
      have hca := hcell p hlt
      have hStep := hide (fun h1 h2 => hat.out.step hlt h1 h2)
      have hClose := hide (fun (e : long = true) h1 => (by subst e; exact hat.out.close hlt h1 : remGo long (u.drop (k + 2)) false false = (p - (k + 2) + 2, b, leftF d) ∧ k + 2 ≤ p))
      have hLine := hide (fun (e : long = false) h1 => (by subst e; exact hat.out.line hlt h1 : remGo long (u.drop (k + 2)) false false = (p - (k + 2), false, leftF d) ∧ k + 2 ≤ p))
      obtain ⟨x, hx⟩ : ∃ x, u[p] = x := ⟨_, rfl⟩
      rw [hx] at hca hStep hLine
      obtain ⟨st, hst⟩ : ∃ q, starts [42, 47] (u.drop p) = q := ⟨_, rfl⟩
      have HST := hide hst
      rw [hst] at hStep hClose
      clear hcell hx hst
      cases long with
      | true =>
        cases st with
        | true =>
          have hcl := hide (hClose.out rfl rfl)
          go_wp2_with fail
          go_quiet (fail)
          go_wp2_with fail
          go_quiet (fail)
          go_wp2_with (first | (go_at_call 41; refine (lhas_any ⟨#[42, 47]⟩ (hM.out.rd.drewN _) rfl (har.out.drewN _) (by omega) hl (by decide) HST.out).mono ?_; rintro e2 w2 ⟨rfl, m2, hw2⟩; subst hw2) | (go_at_call 58; refine (lleft_any _ _).mono ?_; rintro e2 w2 ⟨rfl, rfl⟩))
          go_ret2
          obtain ⟨q1, q2⟩ := hcl.out
          obtain ⟨z1, z2, z3⟩ := HQ.out _ _ _ q1
          exact ⟨ret_bi z2 z3, by rw [show k + m = p + 2 by omega]; exact Mv.step ((hM.out.drewN _)) (by omega)⟩
        | false =>
          have hsp := hide (hStep.out rfl rfl)
          cases b
          all_goals cases d
          all_goals
            go_wp2_with fail
            go_quiet (fail)
            go_wp2_with fail
            go_quiet (fail)
            go_wp2_with (first | (go_at_call 41; refine (lhas_any ⟨#[42, 47]⟩ (hM.out.rd.drewN _) rfl (har.out.drewN _) (by omega) hl (by decide) HST.out).mono ?_; rintro e2 w2 ⟨rfl, m2, hw2⟩; subst hw2) | (go_at_call 40; refine (lline_any _ _).mono ?_; rintro e2 w2 ⟨rfl, rfl⟩) | (go_at_call 59; refine (lparts_any _ _).mono ?_; rintro e2 w2 ⟨rfl, rfl⟩))
            go_roundg (gk - 1)
            case measure => omega
            case rel => exact ⟨p + 1, _, _, by omega, rfl, rfl, Mv.step (hM.out.drewN _) (by omega), hsp.out⟩
      | false =>
        cases hln : isLine x with
        | true =>
          have hcl := hide (hLine.out rfl hln)
          go_wp2_with fail
          go_quiet (fail)
          go_wp2_with fail
          go_quiet (fail)
          go_wp2_with (first | (go_at_call 40; refine (lline_any _ _).mono ?_; rintro e2 w2 ⟨rfl, rfl⟩) | (go_at_call 58; refine (lleft_any _ _).mono ?_; rintro e2 w2 ⟨rfl, rfl⟩))
          go_ret2
          obtain ⟨q1, q2⟩ := hcl.out
          obtain ⟨z1, z2, z3⟩ := HQ.out _ _ _ q1
          exact ⟨ret_bi z2 z3, by rw [show k + m = p by omega]; exact hM.out.drewN _⟩
        | false =>
          have hsp := hide (hStep.out (by rfl) (by rw [hln]; rfl))
          have HLN := hide hln
          cases b
          all_goals cases d
          all_goals
            go_wp2_with fail
            go_quiet (fail)
            go_wp2_with fail
            go_quiet (fail)
            go_wp2_with (first | (go_at_call 40; refine (lline_any _ _).mono ?_; rintro e2 w2 ⟨rfl, rfl⟩) | (go_at_call 59; refine (lparts_any _ _).mono ?_; rintro e2 w2 ⟨rfl, rfl⟩))
            go_roundg (gk - 1)
            case measure => omega
            case rel => exact ⟨p + 1, _, _, by omega, rfl, rfl, Mv.step (hM.out.drewN _) (by omega), by first | exact hsp.out | (have z := hsp.out; rw [HLN.out] at z; exact z)⟩
    · obtain rfl : p = u.length := by have := hM.out; omega
      have hst := hide hat.out.stop
      cases long with
      | true =>
        go_wp2_with fail
        go_quiet (fail)
        go_wp2
        go_ret2
        obtain ⟨q1, q2⟩ := hst.out
        obtain ⟨z1, z2, z3⟩ := HQ.out _ _ _ q1
        exact ⟨ret_bi (n := e) (m := 5) z2 z3, by rw [show k + m = u.length by omega]; exact hM.out.drewN _⟩
      | false =>
        go_wp2_with fail
        go_quiet (fail)
        go_wp2_with (go_at_call 58; refine (lleft_any _ _).mono ?_; rintro e2 w2 ⟨rfl, rfl⟩)
        go_ret2
        obtain ⟨q1, q2⟩ := hst.out
        obtain ⟨z1, z2, z3⟩ := HQ.out _ _ _ q1
        exact ⟨ret_bi z2 z3, by rw [show k + m = u.length by omega]; exact hM.out.drewN _⟩
end Go.Proofs.Ytngcikgjdeomdaa
