/- The reader's escape, walked: its ways. -/
import Derived.Test.YtngcikgjdeomdaaLexEsc
import Derived.Deep.CutBlock
import Derived.Deep.DeepCutAuto
namespace Go.Proofs.Ytngcikgjdeomdaa
open Go.RowKit

theorem ret_ui {a b : UInt16} {m n : Nat} (h : a = b) (h2 : m = n) : Ending.returned (.tuple #[.int .u16 (a.toNat : Int), .int .i64 (m : Int)]) = .returned (.tuple #[.int .u16 (b.toNat : Int), .int .i64 (n : Int)]) := by rw [h, h2]
theorem more_ok {e n m k : Nat} {y z : UInt16} (h : more 1 (e, z, n) = (e, y, m)) (he : e = 0) : z = y ∧ k + 1 + n = k + m := by
  subst he
  unfold more at h
  rw [if_pos rfl] at h
  simp only [Prod.mk.injEq] at h
  exact ⟨h.2.1, by omega⟩
theorem more_pair (p : Nat × UInt16 × Nat) : (more 1 p).1 = p.1 ∧ (more 1 p).2.1 = p.2.1 ∧ (p.1 = 0 → (more 1 p).2.2 = 1 + p.2.2) := by
  unfold more
  split
  · rename_i h; exact ⟨h.symm, rfl, fun _ => rfl⟩
  · rename_i h; exact ⟨rfl, rfl, fun h2 => absurd h2 h⟩

theorem triple {a b c : Nat} {x y : UInt16} {d : Nat} (h : (a, x, b) = (c, y, d)) : a = c ∧ x = y ∧ b = d := by
  simp only [Prod.mk.injEq] at h
  exact h
theorem code_end {w wc w3 : World} {g n c k e e1 m m1 : Nat} {A : Option Addr} {y y1 : UInt16} (h : more 1 (e1, y1, m1) = (e, y, m)) (hM : e1 = 0 → Mv wc w3 g A n c (k + 1 + m1)) (hG : wc.grownBy w3 (some g)) (hw : w.grownBy wc (some g)) :
    Ending.returned (.tuple #[.int .u16 (y1.toNat : Int), .int .i64 (e1 : Int)]) = .returned (.tuple #[.int .u16 (y.toNat : Int), .int .i64 (e : Int)]) ∧ (e = 0 → Mv w w3 g A n c (k + m)) ∧ w.grownBy w3 (some g) := by
  obtain ⟨q1, q2, q3⟩ := more_pair (e1, y1, m1)
  rw [h] at q1 q2 q3
  simp only at q1 q2 q3
  subst q1 q2
  refine ⟨rfl, fun he => ?_, grown_trans hw hG⟩
  have := q3 he
  have hm := hM he
  rw [show k + m = k + 1 + m1 by omega]
  exact ⟨hm.rd, grown_trans hw hm.grown⟩

set_option maxHeartbeats 8000000 in
set_option maxRecDepth 100000 in
theorem lescape_any {A : Option Addr} {c g B k n : Nat} {u : List UInt16} {w : World} (hr : Rd w g A n c k) (hn : u.length = n) (ha : Reads w B 1 A n (u16s u)) (hB : B ≤ g) (hk : k ≤ n) (hl : n ≤ 4096) {m e : Nat} {y : UInt16} (hq : escF (u.drop k) = (e, y, m)) :
    Calls Try.prog 65 #[.pointer (some ⟨g, 0, none⟩)] w fun ev w' => ev = .returned (.tuple #[.int .u16 (y.toNat : Int), .int .i64 (e : Int)]) ∧ (e = 0 → Mv w w' g A n c (k + m)) ∧ w.grownBy w' (some g) := by
  subst hn
  have hg := hr.lt
  have hc0 := hr.c0
  have hc1 := hr.c1
  have hf1 := hr.f1
  by_cases hlt : k < u.length
  · rw [escF_at hlt] at hq
    have hM0 := hide (Mv.refl hr)
    have HA := hide ha
    obtain ⟨blk, off, rfl, _, hcell⟩ := ha.spotL (by omega)
    have hca := hcell k hlt
    have hx := u[k].toNat_lt
    obtain ⟨x, hxx⟩ : ∃ x, u[k] = x := ⟨_, rfl⟩
    rw [hxx] at hca hq hx
    have hlt2 : (k : Int) < (u.length : Int) := by omega
    have hne : ((k : Int) == (u.length : Int)) = false := beq_eq_false_iff_ne.2 (by omega)
    have HQ := hide hq
    clear hcell hxx hq ha hr
    cases hs : simpleF x with
    | some z =>
      have hq := HQ.out
      rw [hs] at hq
      simp only [Option.isSome_some, if_true, Option.getD_some, Prod.mk.injEq] at hq
      obtain ⟨q1, q2, q3⟩ := hq
      have HE := hide q1
      have HY := hide q2
      have HM := hide q3
      clear q1 q2 q3 HQ
      rcases simple_cases hs with ⟨rfl, rfl⟩ | ⟨rfl, rfl⟩ | ⟨rfl, rfl⟩ | ⟨rfl, rfl⟩ | ⟨rfl, rfl⟩ | ⟨rfl, rfl⟩
      all_goals clear hs
      all_goals
        go_enter Try.func65, Try.ntmps65
        go_wp2_with fail
        go_quiet (fail)
        go_wp2_with fail
        go_quiet (fail)
        go_wp2_with (go_at_call 83; refine (sIndexByte_any _ _ _ (by rfl)).mono ?_; rintro e1 w1 ⟨rfl, rfl⟩)
        go_ret2
        obtain rfl := HY.out
        obtain rfl := HE.out
        exact ⟨rfl, fun _ => by rw [← HM.out]; exact (Mv.step (hM0.out.drewN _) (by omega)).below ((Below.refl _ _).alloc (Nat.le_refl _) _), ((Mv.step (hM0.out.drewN _) (k' := k + 1) (by omega)).below ((Below.refl _ _).alloc (Nat.le_refl _) _)).grown⟩
    | none =>
      have HR := hide (show escR x (u.drop (k + 1)) = (e, y, m) by have h := HQ.out; rw [hs] at h; simpa using h)
      obtain ⟨i, hi⟩ : ∃ i, Lib.indexByte (⟨#[110, 116, 114, 98, 118, 102]⟩ : ByteArray).data.toList (IntKind.u8.wrap (x.toNat : Int)).toNat.toUInt8 = i := ⟨_, rfl⟩
      have HI := hide hi
      have hi1 : x.toNat < 128 → i = -1 := fun h => by rw [← hi]; exact escIdx_no h hs
      have HI1 := hide hi1
      clear hi hi1 hs HQ
      go_enter Try.func65, Try.ntmps65
      go_wp2_with fail
      go_quiet (fail)
      go_wp2_with fail
      go_quiet (fail)
      go_upto_region 6 with (go_at_call 83; refine (sIndexByte_any _ _ _ HI.out).mono ?_; rintro e1 w1 ⟨rfl, rfl⟩)
      go_cut [41] (fun v wx => v = .bool false ∧ Hid (Mv w wx g (some ⟨blk, off, none⟩) u.length c (k + 1)))
      case first =>
        by_cases hx8 : x.toNat < 128
        · obtain rfl := HI1.out hx8
          go_wp2_with fail
          go_meet
          exact ⟨rfl, Mv.step (hM0.out.drewN _) (by omega)⟩
        · have hx9 : ¬ (x.toNat : Int) < 128 := by omega
          go_wp2_with fail
          go_meet
          exact ⟨rfl, Mv.step (hM0.out.drewN _) (by omega)⟩
      case rest =>
        obtain ⟨hv, hM⟩ := hcut
        subst hv
        clear hc0 hc1 hf1 hca hne HI HI1 hM0
        have har := hide (HA.out.grown hM.out.grown hB (Nat.le_of_lt hg))
        have hk1 : k + 1 ≤ u.length := hlt
        have hR := HR.out
        unfold escR at hR
        obtain ⟨d, hd⟩ : ∃ d, isAt 0 isDigit (u.drop (k + 1)) = d := ⟨_, rfl⟩
        obtain ⟨b, hb⟩ : ∃ d, starts [123] (u.drop (k + 1)) = d := ⟨_, rfl⟩
        rw [hd, hb] at hR
        have HD := hide hd
        have HB := hide hb
        clear hd hb HR
        by_cases h48 : x.toNat = 48
        · have e48 : ((x.toNat : Int) == 48) = true := by rw [h48]; rfl
          have hdg : isDigit x = true := isDigit_iff.2 (by omega)
          rw [h48] at hR
          cases d with
          | false =>
            have HZ := hide (show (0, (0 : UInt16), 1) = (e, y, m) by simpa using hR)
            clear hR h48
            go_wp2_with (first | (go_at_call 48; refine (lis_digit (j := 0) hM.out.rd rfl har.out hk1 hl (by omega) HD.out).mono ?_; rintro e2 w2 ⟨rfl, m2, hw2⟩; subst hw2) | (go_at_call 45; refine (ldigit_any _ _).mono ?_; rintro e2 w2 ⟨rfl, rfl⟩) | (go_at_call 40; refine (lline_any _ _).mono ?_; rintro e2 w2 ⟨rfl, rfl⟩) | (go_at_call 59; refine (lparts_any _ _).mono ?_; rintro e2 w2 ⟨rfl, rfl⟩))
            go_ret2
            obtain ⟨z1, z2, z3⟩ := triple HZ.out
            subst z1 z2 z3
            exact ⟨rfl, fun _ => hM.out.drewN _, (hM.out.drewN _).grown⟩
          | true =>
            have HZ := hide (show (5, (0 : UInt16), 0) = (e, y, m) by rw [hdg] at hR; simpa using hR)
            clear hR h48
            go_wp2_with (first | (go_at_call 48; refine (lis_digit (j := 0) hM.out.rd rfl har.out hk1 hl (by omega) HD.out).mono ?_; rintro e2 w2 ⟨rfl, m2, hw2⟩; subst hw2) | (go_at_call 45; refine (ldigit_any _ _).mono ?_; rintro e2 w2 ⟨rfl, rfl⟩) | (go_at_call 40; refine (lline_any _ _).mono ?_; rintro e2 w2 ⟨rfl, rfl⟩) | (go_at_call 59; refine (lparts_any _ _).mono ?_; rintro e2 w2 ⟨rfl, rfl⟩))
            go_ret2
            obtain ⟨z1, z2, z3⟩ := triple HZ.out
            subst z1 z2 z3
            exact ⟨rfl, fun h => absurd h (by decide), (hM.out.drewN _).grown⟩
        have e48 : ((x.toNat : Int) == 48) = false := beq_eq_false_iff_ne.2 (by omega)
        rw [show (x.toNat == 48) = false from beq_eq_false_iff_ne.2 h48] at hR
        simp only [Bool.false_and, Bool.false_eq_true, if_false] at hR
        clear h48
        cases hdg : isDigit x with
        | true =>
          rw [hdg, if_pos rfl] at hR
          have HZ := hide hR
          clear hR
          go_wp2_with (first | (go_at_call 48; refine (lis_digit (j := 0) hM.out.rd rfl har.out hk1 hl (by omega) HD.out).mono ?_; rintro e2 w2 ⟨rfl, m2, hw2⟩; subst hw2) | (go_at_call 45; refine (ldigit_any _ _).mono ?_; rintro e2 w2 ⟨rfl, rfl⟩) | (go_at_call 40; refine (lline_any _ _).mono ?_; rintro e2 w2 ⟨rfl, rfl⟩) | (go_at_call 59; refine (lparts_any _ _).mono ?_; rintro e2 w2 ⟨rfl, rfl⟩))
          go_ret2
          obtain ⟨z1, z2, z3⟩ := triple HZ.out
          subst z1 z2 z3
          exact ⟨rfl, fun h => absurd h (by decide), hM.out.grown⟩
        | false =>
          rw [hdg] at hR
          simp only [Bool.false_eq_true, if_false] at hR
          cases hln : isLine x with
          | true =>
            rw [hln] at hR
            have HZ := hide (show (6, (0 : UInt16), 0) = (e, y, m) by simpa using hR)
            clear hR
            go_wp2_with (first | (go_at_call 48; refine (lis_digit (j := 0) hM.out.rd rfl har.out hk1 hl (by omega) HD.out).mono ?_; rintro e2 w2 ⟨rfl, m2, hw2⟩; subst hw2) | (go_at_call 45; refine (ldigit_any _ _).mono ?_; rintro e2 w2 ⟨rfl, rfl⟩) | (go_at_call 40; refine (lline_any _ _).mono ?_; rintro e2 w2 ⟨rfl, rfl⟩) | (go_at_call 59; refine (lparts_any _ _).mono ?_; rintro e2 w2 ⟨rfl, rfl⟩))
            go_ret2
            obtain ⟨z1, z2, z3⟩ := triple HZ.out
            subst z1 z2 z3
            exact ⟨rfl, fun h => absurd h (by decide), hM.out.grown⟩
          | false =>
            rw [hln] at hR
            cases hfr : isFar x with
            | true =>
              rw [hfr] at hR
              have HZ := hide (show (6, (0 : UInt16), 0) = (e, y, m) by simpa using hR)
              clear hR
              go_wp2_with (first | (go_at_call 48; refine (lis_digit (j := 0) hM.out.rd rfl har.out hk1 hl (by omega) HD.out).mono ?_; rintro e2 w2 ⟨rfl, m2, hw2⟩; subst hw2) | (go_at_call 45; refine (ldigit_any _ _).mono ?_; rintro e2 w2 ⟨rfl, rfl⟩) | (go_at_call 40; refine (lline_any _ _).mono ?_; rintro e2 w2 ⟨rfl, rfl⟩) | (go_at_call 59; refine (lparts_any _ _).mono ?_; rintro e2 w2 ⟨rfl, rfl⟩))
              go_ret2
              obtain ⟨z1, z2, z3⟩ := triple HZ.out
              subst z1 z2 z3
              exact ⟨rfl, fun h => absurd h (by decide), hM.out.grown⟩
            | false =>
              rw [hfr] at hR
              by_cases h117 : x.toNat = 117
              · have e117 : ((x.toNat : Int) == 117) = true := by rw [h117]; rfl
                have e120 : ((x.toNat : Int) == 120) = false := by rw [h117]; rfl
                rw [h117] at hR
                clear h117
                cases b with
                | true =>
                  have HZ := hide (show (6, (0 : UInt16), 0) = (e, y, m) by simpa using hR)
                  clear hR
                  go_wp2_with (first | (go_at_call 48; refine (lis_digit (j := 0) hM.out.rd rfl har.out hk1 hl (by omega) HD.out).mono ?_; rintro e2 w2 ⟨rfl, m2, hw2⟩; subst hw2) | (go_at_call 45; refine (ldigit_any _ _).mono ?_; rintro e2 w2 ⟨rfl, rfl⟩) | (go_at_call 40; refine (lline_any _ _).mono ?_; rintro e2 w2 ⟨rfl, rfl⟩) | (go_at_call 59; refine (lparts_any _ _).mono ?_; rintro e2 w2 ⟨rfl, rfl⟩) | (go_at_call 41; refine (lhas_any ⟨#[123]⟩ hM.out.rd rfl har.out hk1 hl (by decide) HB.out).mono ?_; rintro e2 w2 ⟨rfl, m2, hw2⟩; subst hw2))
                  go_ret2
                  obtain ⟨z1, z2, z3⟩ := triple HZ.out
                  subst z1 z2 z3
                  exact ⟨rfl, fun h => absurd h (by decide), (hM.out.drewN _).grown⟩
                | false =>
                  have hR2 : more 1 (codeF 4 (u.drop (k + 1))) = (e, y, m) := by simpa using hR
                  obtain ⟨⟨e1, y1, m1⟩, hcq⟩ : ∃ z, codeF 4 (u.drop (k + 1)) = z := ⟨_, rfl⟩
                  rw [hcq] at hR2
                  have HZ := hide hR2
                  have HCQ := hide hcq
                  clear hR hR2 hcq
                  go_wp2_with (first | (go_at_call 48; refine (lis_digit (j := 0) hM.out.rd rfl har.out hk1 hl (by omega) HD.out).mono ?_; rintro e2 w2 ⟨rfl, m2, hw2⟩; subst hw2) | (go_at_call 45; refine (ldigit_any _ _).mono ?_; rintro e2 w2 ⟨rfl, rfl⟩) | (go_at_call 40; refine (lline_any _ _).mono ?_; rintro e2 w2 ⟨rfl, rfl⟩) | (go_at_call 59; refine (lparts_any _ _).mono ?_; rintro e2 w2 ⟨rfl, rfl⟩) | (go_at_call 41; refine (lhas_any ⟨#[123]⟩ hM.out.rd rfl har.out hk1 hl (by decide) HB.out).mono ?_; rintro e2 w2 ⟨rfl, m2, hw2⟩; subst hw2) | (go_at_call 84; refine (lcode_any (cnt := 4) (hM.out.rd.drewN _) rfl (har.out.drewN _) hB hk1 hl (by omega) HCQ.out).mono ?_; rintro e3 w3 ⟨rfl, hM3, hG3⟩))
                  go_ret2
                  exact code_end HZ.out hM3 hG3 (hM.out.drewN _).grown
              · have e117 : ((x.toNat : Int) == 117) = false := beq_eq_false_iff_ne.2 (by omega)
                rw [show (x.toNat == 117) = false from beq_eq_false_iff_ne.2 h117] at hR
                simp only [Bool.or_self, Bool.false_and, Bool.false_eq_true, if_false] at hR
                by_cases h120 : x.toNat = 120
                · have e120 : ((x.toNat : Int) == 120) = true := by rw [h120]; rfl
                  rw [if_pos h120] at hR
                  obtain ⟨⟨e1, y1, m1⟩, hcq⟩ : ∃ z, codeF 2 (u.drop (k + 1)) = z := ⟨_, rfl⟩
                  rw [hcq] at hR
                  have HZ := hide hR
                  have HCQ := hide hcq
                  clear hR hcq h117 h120
                  go_wp2_with (first | (go_at_call 48; refine (lis_digit (j := 0) hM.out.rd rfl har.out hk1 hl (by omega) HD.out).mono ?_; rintro e2 w2 ⟨rfl, m2, hw2⟩; subst hw2) | (go_at_call 45; refine (ldigit_any _ _).mono ?_; rintro e2 w2 ⟨rfl, rfl⟩) | (go_at_call 40; refine (lline_any _ _).mono ?_; rintro e2 w2 ⟨rfl, rfl⟩) | (go_at_call 59; refine (lparts_any _ _).mono ?_; rintro e2 w2 ⟨rfl, rfl⟩) | (go_at_call 41; refine (lhas_any ⟨#[123]⟩ hM.out.rd rfl har.out hk1 hl (by decide) HB.out).mono ?_; rintro e2 w2 ⟨rfl, m2, hw2⟩; subst hw2) | (go_at_call 84; refine (lcode_any (cnt := 2) hM.out.rd rfl har.out hB hk1 hl (by omega) HCQ.out).mono ?_; rintro e3 w3 ⟨rfl, hM3, hG3⟩))
                  go_ret2
                  exact code_end HZ.out hM3 hG3 hM.out.grown
                · have e120 : ((x.toNat : Int) == 120) = false := beq_eq_false_iff_ne.2 (by omega)
                  rw [if_neg h120, if_neg h117] at hR
                  have HZ := hide hR
                  clear hR h117 h120
                  go_wp2_with (first | (go_at_call 48; refine (lis_digit (j := 0) hM.out.rd rfl har.out hk1 hl (by omega) HD.out).mono ?_; rintro e2 w2 ⟨rfl, m2, hw2⟩; subst hw2) | (go_at_call 45; refine (ldigit_any _ _).mono ?_; rintro e2 w2 ⟨rfl, rfl⟩) | (go_at_call 40; refine (lline_any _ _).mono ?_; rintro e2 w2 ⟨rfl, rfl⟩) | (go_at_call 59; refine (lparts_any _ _).mono ?_; rintro e2 w2 ⟨rfl, rfl⟩) | (go_at_call 41; refine (lhas_any ⟨#[123]⟩ hM.out.rd rfl har.out hk1 hl (by decide) HB.out).mono ?_; rintro e2 w2 ⟨rfl, m2, hw2⟩; subst hw2))
                  go_ret2
                  obtain ⟨z1, z2, z3⟩ := triple HZ.out
                  subst z1 z2 z3
                  exact ⟨rfl, fun _ => hM.out, hM.out.grown⟩
  · obtain rfl : k = u.length := by omega
    rw [List.drop_length] at hq
    have HQ := hide hq
    have hM0 := hide (Mv.refl hr)
    clear hq hr ha
    go_enter Try.func65, Try.ntmps65
    go_wp2_with fail
    go_quiet (fail)
    go_wp2
    go_ret2
    have hq := HQ.out
    simp only [escF, Prod.mk.injEq] at hq
    obtain ⟨q1, q2, q3⟩ := hq
    subst q1 q2 q3
    exact ⟨rfl, fun h => absurd h (by decide), (hM0.out.drewN _).grown⟩
end Go.Proofs.Ytngcikgjdeomdaa
