/- The reader's token, walked. -/
import Derived.Test.YtngcikgjdeomdaaLexNum
namespace Go.Proofs.Ytngcikgjdeomdaa
open Go.RowKit

set_option maxHeartbeats 8000000 in
set_option maxRecDepth 100000 in
theorem ltoken_any {A : Option Addr} {c g B k n : Nat} {u : List UInt16} {w : World} (hr : Rd w g A n c k) (hn : u.length = n) (ha : Reads w B 1 A n (u16s u)) (hB : B ≤ g) (hk : k < u.length) (hl : n ≤ 4096) (hc : n ≤ c) {m e : Nat} {t : Tok} (hq : tokenT (k == 0) (u.drop k) = (e, t, m)) :
    Calls Try.prog 29 #[.pointer (some ⟨g, 0, none⟩)] w fun ev w' => ∃ v, ev = .returned (.tuple #[v, .int .i64 (e : Int)]) ∧ (e ≠ 0 → v = noV) ∧ (e = 0 → TokV w' w.heap.size t v ∧ Mv w w' g A n c (k + m)) ∧ w.grownBy w' (some g) := by
  subst hn
  have hg := hr.lt
  obtain ⟨x, hx⟩ : ∃ x, u[k] = x := ⟨_, rfl⟩
  have hdr := List.drop_eq_getElem_cons hk
  rw [hx] at hdr
  rw [hdr, tokenT_cons] at hq
  obtain ⟨blk, off, rfl, hblk, hcell⟩ := ha.spotL (by omega)
  have hca := hcell k hk
  rw [hx] at hca
  have hca' := World.cell?_alloc_lt w (.cells zero9.toArray 39) ⟨blk, off + k, none⟩ (by show blk < _; omega)
  rw [hca] at hca'
  have HX := hide hx
  have HDR := hide hdr
  have HQ := hide hq
  have HA := hide ha
  have hS0 := hide (show SgS w (w.alloc (.cells zero9.toArray 39)) g (some ⟨blk, off, none⟩) u.length c k from ⟨⟨hr.alloc _, grown_alloc w _ _⟩, Blk.new w zero9 39⟩)
  have hc0 := hr.c0
  have hc1 := hr.c1
  have hx16 := x.toNat_lt
  have hbw : blk < w.heap.size := by omega
  clear hcell hx hdr hq ha hr hca'
  go_enter Try.func29, Try.ntmps29
  go_wp2_with fail
  go_quiet (fail)
  have hM1 := hide (hS0.out.drewN hg nq).mv
  have hz1 := hide (hS0.out.drewN hg nq).zero
  obtain ⟨w1, hw1⟩ : ∃ w1, (w.alloc (.cells zero9.toArray 39)).drewN nq = w1 := ⟨_, rfl⟩
  have hsz1 : w.heap.size < w1.heap.size := by rw [← hw1]; simp
  have HW1 := hide hw1
  rw [hw1] at hM1 hz1
  have HW1' := hide (show (w.alloc (.cells #[.int .i64 0, .string ⟨#[]⟩, .slice none 0 0, .int .i64 0, .int .i64 0, .bool false, .slice none 0 0, .int .i64 0, .bool false] 39)).drewN nq = w1 from hw1)
  rw [HW1'.out]
  have hA1 := hide (HA.out.grown hM1.out.grown hB (Nat.le_of_lt hg))
  clear hw1 hS0 hc0 hc1 hca HW1 HW1'
  cases hlet : isLet x with
  | true =>
    have HQ2 := hide (show wordT (u.drop k) = (e, t, m) by
      have := HQ.out
      rw [if_pos hlet] at this
      rw [HDR.out]; exact this)
    have HT := hide hlet
    go_wp2_with (go_at_call 43; refine (lletter_any _ _).mono ?_; rintro e2 w2 ⟨rfl, rfl⟩)
    refine (lwordT_any (m := m) (e := e) (t := t) hM1.out.rd rfl hA1.out hB (Nat.le_of_lt hk) hl HQ2.out).mono ?_
    rintro e4 w4 ⟨v, rfl, hbad, hgood, hG4⟩
    have hz4 := hide (hz1.out.grown hG4 (by omega))
    have HBAD := hide hbad
    have HGOOD := hide hgood
    have HG4 := hide (grown_trans hM1.out.grown hG4)
    clear hbad hgood hG4
    obtain ⟨b0', fb0⟩ := hz4.out.2 0 (by decide)
    obtain ⟨b1', fb1⟩ := hz4.out.2 1 (by decide)
    obtain ⟨b2', fb2⟩ := hz4.out.2 2 (by decide)
    obtain ⟨b3', fb3⟩ := hz4.out.2 3 (by decide)
    obtain ⟨b4', fb4⟩ := hz4.out.2 4 (by decide)
    obtain ⟨b5', fb5⟩ := hz4.out.2 5 (by decide)
    obtain ⟨b6', fb6⟩ := hz4.out.2 6 (by decide)
    obtain ⟨b7', fb7⟩ := hz4.out.2 7 (by decide)
    obtain ⟨b8', fb8⟩ := hz4.out.2 8 (by decide)
    by_cases he : e = 0
    · obtain ⟨⟨vs, vm, hv, ho1, ho2⟩, hM4⟩ := HGOOD.out he
      subst hv
      obtain ⟨As, cs, rfl, _, _⟩ := own_shape ho1
      obtain ⟨Am, cm, rfl, _, _⟩ := own_shape ho2
      have HO1 := hide ho1
      have HO2 := hide ho2
      have HM4 := hide (Mv.then hM1.out hM4)
      have HE := hide he
      obtain ⟨ls, hls⟩ : ∃ l, t.str.length = l := ⟨_, rfl⟩
      obtain ⟨lm, hlm⟩ : ∃ l, t.mag.length = l := ⟨_, rfl⟩
      rw [hls, hlm]
      rw [hls] at HO1
      rw [hlm] at HO2
      have HLS := hide hls
      have HLM := hide hlm
      clear ho1 ho2 hM4 he hls hlm
      go_wp2_with fail
      obtain ⟨q0, q1, q2, q3, q4, q5, q6, q7, q8⟩ := set9_cells (v0 := .int .i64 (t.kind : Int)) (v1 := .string ⟨t.text.toArray⟩) (v2 := .slice As ls cs) (v3 := .int .i64 t.nk) (v4 := .int .i64 t.nn) (v5 := .bool false) (v6 := .slice Am lm cm) (v7 := .int .i64 (t.pos : Int)) (v8 := .bool t.nl) hz4.out rfl
      refine bodyPost_ret (v := .tuple #[.agg #[.int .i64 (t.kind : Int), .string ⟨t.text.toArray⟩, .slice As ls cs, .int .i64 t.nk, .int .i64 t.nn, .bool false, .slice Am lm cm, .int .i64 (t.pos : Int), .bool t.nl], .int .i64 (e : Int)]) (by simp [results, Try.results29, go_sem, q0, q1, q2, q3, q4, q5, q6, q7, q8]) rfl ?_
      refine ⟨_, rfl, fun h => absurd HE.out h, fun _ => ⟨⟨_, _, rfl, ?_, ?_⟩, ?_⟩, set9_grownM HG4.out (Nat.le_refl _)⟩
      · rw [HLS.out]; exact own_base (set9_own HO1.out hsz1) (by omega)
      · rw [HLM.out]; exact own_base (set9_own HO2.out hsz1) (by omega)
      · exact set9_mv HM4.out (Nat.le_refl _) hg
    · obtain rfl := HBAD.out he
      unfold noV
      go_wp2_with fail
      obtain ⟨q0, q1, q2, q3, q4, q5, q6, q7, q8⟩ := set9_cells (v0 := .int .i64 0) (v1 := .string ⟨#[]⟩) (v2 := .slice none 0 0) (v3 := .int .i64 0) (v4 := .int .i64 0) (v5 := .bool false) (v6 := .slice none 0 0) (v7 := .int .i64 0) (v8 := .bool false) hz4.out rfl
      refine bodyPost_ret (v := .tuple #[.agg #[.int .i64 0, .string ⟨#[]⟩, .slice none 0 0, .int .i64 0, .int .i64 0, .bool false, .slice none 0 0, .int .i64 0, .bool false], .int .i64 (e : Int)]) (by simp [results, Try.results29, go_sem, q0, q1, q2, q3, q4, q5, q6, q7, q8]) rfl ?_
      exact ⟨_, rfl, fun _ => rfl, fun h => absurd h he, set9_grownM HG4.out (Nat.le_refl _)⟩
  | false =>
    cases hdig : isDigit x with
    | true =>
      have HQ2 := hide (show numberT (u.drop k) = (e, t, m) by
        have := HQ.out
        rw [if_neg (by rw [hlet]; simp), if_pos hdig] at this
        rw [HDR.out]; exact this)
      go_wp2_with (first | (go_at_call 43; refine (lletter_any _ _).mono ?_; rintro e2 w2 ⟨rfl, rfl⟩) | (go_at_call 45; refine (ldigit_any _ _).mono ?_; rintro e2 w2 ⟨rfl, rfl⟩))
      refine (lnumber_any (m := m) (e := e) (t := t) hM1.out.rd rfl hA1.out hB hk (by rw [HX.out]; exact hdig) hl HQ2.out).mono ?_
      rintro e4 w4 ⟨v, rfl, hbad, hgood, hG4⟩
      have hz4 := hide (hz1.out.grown hG4 (by omega))
      have HBAD := hide hbad
      have HGOOD := hide hgood
      have HG4 := hide (grown_trans hM1.out.grown hG4)
      clear hbad hgood hG4
      obtain ⟨b0', fb0⟩ := hz4.out.2 0 (by decide)
      obtain ⟨b1', fb1⟩ := hz4.out.2 1 (by decide)
      obtain ⟨b2', fb2⟩ := hz4.out.2 2 (by decide)
      obtain ⟨b3', fb3⟩ := hz4.out.2 3 (by decide)
      obtain ⟨b4', fb4⟩ := hz4.out.2 4 (by decide)
      obtain ⟨b5', fb5⟩ := hz4.out.2 5 (by decide)
      obtain ⟨b6', fb6⟩ := hz4.out.2 6 (by decide)
      obtain ⟨b7', fb7⟩ := hz4.out.2 7 (by decide)
      obtain ⟨b8', fb8⟩ := hz4.out.2 8 (by decide)
      by_cases he : e = 0
      · obtain ⟨⟨vs, vm, hv, ho1, ho2⟩, hM4⟩ := HGOOD.out he
        subst hv
        obtain ⟨As, cs, rfl, _, _⟩ := own_shape ho1
        obtain ⟨Am, cm, rfl, _, _⟩ := own_shape ho2
        have HO1 := hide ho1
        have HO2 := hide ho2
        have HM4 := hide (Mv.then hM1.out hM4)
        have HE := hide he
        obtain ⟨ls, hls⟩ : ∃ l, t.str.length = l := ⟨_, rfl⟩
        obtain ⟨lm, hlm⟩ : ∃ l, t.mag.length = l := ⟨_, rfl⟩
        rw [hls, hlm]
        rw [hls] at HO1
        rw [hlm] at HO2
        have HLS := hide hls
        have HLM := hide hlm
        clear ho1 ho2 hM4 he hls hlm
        go_wp2_with fail
        obtain ⟨q0, q1, q2, q3, q4, q5, q6, q7, q8⟩ := set9_cells (v0 := .int .i64 (t.kind : Int)) (v1 := .string ⟨t.text.toArray⟩) (v2 := .slice As ls cs) (v3 := .int .i64 t.nk) (v4 := .int .i64 t.nn) (v5 := .bool false) (v6 := .slice Am lm cm) (v7 := .int .i64 (t.pos : Int)) (v8 := .bool t.nl) hz4.out rfl
        refine bodyPost_ret (v := .tuple #[.agg #[.int .i64 (t.kind : Int), .string ⟨t.text.toArray⟩, .slice As ls cs, .int .i64 t.nk, .int .i64 t.nn, .bool false, .slice Am lm cm, .int .i64 (t.pos : Int), .bool t.nl], .int .i64 (e : Int)]) (by simp [results, Try.results29, go_sem, q0, q1, q2, q3, q4, q5, q6, q7, q8]) rfl ?_
        refine ⟨_, rfl, fun h => absurd HE.out h, fun _ => ⟨⟨_, _, rfl, ?_, ?_⟩, ?_⟩, set9_grownM HG4.out (Nat.le_refl _)⟩
        · rw [HLS.out]; exact own_base (set9_own HO1.out hsz1) (by omega)
        · rw [HLM.out]; exact own_base (set9_own HO2.out hsz1) (by omega)
        · exact set9_mv HM4.out (Nat.le_refl _) hg
      · obtain rfl := HBAD.out he
        unfold noV
        go_wp2_with fail
        obtain ⟨q0, q1, q2, q3, q4, q5, q6, q7, q8⟩ := set9_cells (v0 := .int .i64 0) (v1 := .string ⟨#[]⟩) (v2 := .slice none 0 0) (v3 := .int .i64 0) (v4 := .int .i64 0) (v5 := .bool false) (v6 := .slice none 0 0) (v7 := .int .i64 0) (v8 := .bool false) hz4.out rfl
        refine bodyPost_ret (v := .tuple #[.agg #[.int .i64 0, .string ⟨#[]⟩, .slice none 0 0, .int .i64 0, .int .i64 0, .bool false, .slice none 0 0, .int .i64 0, .bool false], .int .i64 (e : Int)]) (by simp [results, Try.results29, go_sem, q0, q1, q2, q3, q4, q5, q6, q7, q8]) rfl ?_
        exact ⟨_, rfl, fun _ => rfl, fun h => absurd h he, set9_grownM HG4.out (Nat.le_refl _)⟩
    | false =>
      by_cases h39 : x.toNat = 39
      · have e39 : ((x.toNat : Int) == 39) = true := by rw [h39]; rfl
        have HQU := hide (show (x.toNat == 39 || x.toNat == 34) = true by rw [h39]; rfl)
        clear h39
        have HQ2 := hide (show quotedT u[k] (u.drop (k + 1)) = (e, t, m) by
          have := HQ.out
          rw [if_neg (by rw [hlet]; simp), if_neg (by rw [hdig]; simp), if_pos HQU.out] at this
          rw [HX.out]; exact this)
        go_wp2_with (first | (go_at_call 43; refine (lletter_any _ _).mono ?_; rintro e2 w2 ⟨rfl, rfl⟩) | (go_at_call 45; refine (ldigit_any _ _).mono ?_; rintro e2 w2 ⟨rfl, rfl⟩))
        refine (lquoted_any (m := m) (e := e) (t := t) hM1.out.rd rfl hA1.out hB hk hl HQ2.out).mono ?_
        rintro e4 w4 ⟨v, rfl, hbad, hgood, hG4⟩
        have hz4 := hide (hz1.out.grown hG4 (by omega))
        have HBAD := hide hbad
        have HGOOD := hide hgood
        have HG4 := hide (grown_trans hM1.out.grown hG4)
        clear hbad hgood hG4
        obtain ⟨b0', fb0⟩ := hz4.out.2 0 (by decide)
        obtain ⟨b1', fb1⟩ := hz4.out.2 1 (by decide)
        obtain ⟨b2', fb2⟩ := hz4.out.2 2 (by decide)
        obtain ⟨b3', fb3⟩ := hz4.out.2 3 (by decide)
        obtain ⟨b4', fb4⟩ := hz4.out.2 4 (by decide)
        obtain ⟨b5', fb5⟩ := hz4.out.2 5 (by decide)
        obtain ⟨b6', fb6⟩ := hz4.out.2 6 (by decide)
        obtain ⟨b7', fb7⟩ := hz4.out.2 7 (by decide)
        obtain ⟨b8', fb8⟩ := hz4.out.2 8 (by decide)
        by_cases he : e = 0
        · obtain ⟨⟨vs, vm, hv, ho1, ho2⟩, hM4⟩ := HGOOD.out he
          subst hv
          obtain ⟨As, cs, rfl, _, _⟩ := own_shape ho1
          obtain ⟨Am, cm, rfl, _, _⟩ := own_shape ho2
          have HO1 := hide ho1
          have HO2 := hide ho2
          have HM4 := hide (Mv.then hM1.out hM4)
          have HE := hide he
          obtain ⟨ls, hls⟩ : ∃ l, t.str.length = l := ⟨_, rfl⟩
          obtain ⟨lm, hlm⟩ : ∃ l, t.mag.length = l := ⟨_, rfl⟩
          rw [hls, hlm]
          rw [hls] at HO1
          rw [hlm] at HO2
          have HLS := hide hls
          have HLM := hide hlm
          clear ho1 ho2 hM4 he hls hlm
          go_wp2_with fail
          obtain ⟨q0, q1, q2, q3, q4, q5, q6, q7, q8⟩ := set9_cells (v0 := .int .i64 (t.kind : Int)) (v1 := .string ⟨t.text.toArray⟩) (v2 := .slice As ls cs) (v3 := .int .i64 t.nk) (v4 := .int .i64 t.nn) (v5 := .bool false) (v6 := .slice Am lm cm) (v7 := .int .i64 (t.pos : Int)) (v8 := .bool t.nl) hz4.out rfl
          refine bodyPost_ret (v := .tuple #[.agg #[.int .i64 (t.kind : Int), .string ⟨t.text.toArray⟩, .slice As ls cs, .int .i64 t.nk, .int .i64 t.nn, .bool false, .slice Am lm cm, .int .i64 (t.pos : Int), .bool t.nl], .int .i64 (e : Int)]) (by simp [results, Try.results29, go_sem, q0, q1, q2, q3, q4, q5, q6, q7, q8]) rfl ?_
          refine ⟨_, rfl, fun h => absurd HE.out h, fun _ => ⟨⟨_, _, rfl, ?_, ?_⟩, ?_⟩, set9_grownM HG4.out (Nat.le_refl _)⟩
          · rw [HLS.out]; exact own_base (set9_own HO1.out hsz1) (by omega)
          · rw [HLM.out]; exact own_base (set9_own HO2.out hsz1) (by omega)
          · exact set9_mv HM4.out (Nat.le_refl _) hg
        · obtain rfl := HBAD.out he
          unfold noV
          go_wp2_with fail
          obtain ⟨q0, q1, q2, q3, q4, q5, q6, q7, q8⟩ := set9_cells (v0 := .int .i64 0) (v1 := .string ⟨#[]⟩) (v2 := .slice none 0 0) (v3 := .int .i64 0) (v4 := .int .i64 0) (v5 := .bool false) (v6 := .slice none 0 0) (v7 := .int .i64 0) (v8 := .bool false) hz4.out rfl
          refine bodyPost_ret (v := .tuple #[.agg #[.int .i64 0, .string ⟨#[]⟩, .slice none 0 0, .int .i64 0, .int .i64 0, .bool false, .slice none 0 0, .int .i64 0, .bool false], .int .i64 (e : Int)]) (by simp [results, Try.results29, go_sem, q0, q1, q2, q3, q4, q5, q6, q7, q8]) rfl ?_
          exact ⟨_, rfl, fun _ => rfl, fun h => absurd h he, set9_grownM HG4.out (Nat.le_refl _)⟩
      · have e39 : ((x.toNat : Int) == 39) = false := beq_eq_false_iff_ne.2 (by omega)
        by_cases h34 : x.toNat = 34
        · have e34 : ((x.toNat : Int) == 34) = true := by rw [h34]; rfl
          have HQU := hide (show (x.toNat == 39 || x.toNat == 34) = true by rw [h34]; rfl)
          clear h34 h39
          have HQ2 := hide (show quotedT u[k] (u.drop (k + 1)) = (e, t, m) by
            have := HQ.out
            rw [if_neg (by rw [hlet]; simp), if_neg (by rw [hdig]; simp), if_pos HQU.out] at this
            rw [HX.out]; exact this)
          go_wp2_with (first | (go_at_call 43; refine (lletter_any _ _).mono ?_; rintro e2 w2 ⟨rfl, rfl⟩) | (go_at_call 45; refine (ldigit_any _ _).mono ?_; rintro e2 w2 ⟨rfl, rfl⟩))
          refine (lquoted_any (m := m) (e := e) (t := t) hM1.out.rd rfl hA1.out hB hk hl HQ2.out).mono ?_
          rintro e4 w4 ⟨v, rfl, hbad, hgood, hG4⟩
          have hz4 := hide (hz1.out.grown hG4 (by omega))
          have HBAD := hide hbad
          have HGOOD := hide hgood
          have HG4 := hide (grown_trans hM1.out.grown hG4)
          clear hbad hgood hG4
          obtain ⟨b0', fb0⟩ := hz4.out.2 0 (by decide)
          obtain ⟨b1', fb1⟩ := hz4.out.2 1 (by decide)
          obtain ⟨b2', fb2⟩ := hz4.out.2 2 (by decide)
          obtain ⟨b3', fb3⟩ := hz4.out.2 3 (by decide)
          obtain ⟨b4', fb4⟩ := hz4.out.2 4 (by decide)
          obtain ⟨b5', fb5⟩ := hz4.out.2 5 (by decide)
          obtain ⟨b6', fb6⟩ := hz4.out.2 6 (by decide)
          obtain ⟨b7', fb7⟩ := hz4.out.2 7 (by decide)
          obtain ⟨b8', fb8⟩ := hz4.out.2 8 (by decide)
          by_cases he : e = 0
          · obtain ⟨⟨vs, vm, hv, ho1, ho2⟩, hM4⟩ := HGOOD.out he
            subst hv
            obtain ⟨As, cs, rfl, _, _⟩ := own_shape ho1
            obtain ⟨Am, cm, rfl, _, _⟩ := own_shape ho2
            have HO1 := hide ho1
            have HO2 := hide ho2
            have HM4 := hide (Mv.then hM1.out hM4)
            have HE := hide he
            obtain ⟨ls, hls⟩ : ∃ l, t.str.length = l := ⟨_, rfl⟩
            obtain ⟨lm, hlm⟩ : ∃ l, t.mag.length = l := ⟨_, rfl⟩
            rw [hls, hlm]
            rw [hls] at HO1
            rw [hlm] at HO2
            have HLS := hide hls
            have HLM := hide hlm
            clear ho1 ho2 hM4 he hls hlm
            go_wp2_with fail
            obtain ⟨q0, q1, q2, q3, q4, q5, q6, q7, q8⟩ := set9_cells (v0 := .int .i64 (t.kind : Int)) (v1 := .string ⟨t.text.toArray⟩) (v2 := .slice As ls cs) (v3 := .int .i64 t.nk) (v4 := .int .i64 t.nn) (v5 := .bool false) (v6 := .slice Am lm cm) (v7 := .int .i64 (t.pos : Int)) (v8 := .bool t.nl) hz4.out rfl
            refine bodyPost_ret (v := .tuple #[.agg #[.int .i64 (t.kind : Int), .string ⟨t.text.toArray⟩, .slice As ls cs, .int .i64 t.nk, .int .i64 t.nn, .bool false, .slice Am lm cm, .int .i64 (t.pos : Int), .bool t.nl], .int .i64 (e : Int)]) (by simp [results, Try.results29, go_sem, q0, q1, q2, q3, q4, q5, q6, q7, q8]) rfl ?_
            refine ⟨_, rfl, fun h => absurd HE.out h, fun _ => ⟨⟨_, _, rfl, ?_, ?_⟩, ?_⟩, set9_grownM HG4.out (Nat.le_refl _)⟩
            · rw [HLS.out]; exact own_base (set9_own HO1.out hsz1) (by omega)
            · rw [HLM.out]; exact own_base (set9_own HO2.out hsz1) (by omega)
            · exact set9_mv HM4.out (Nat.le_refl _) hg
          · obtain rfl := HBAD.out he
            unfold noV
            go_wp2_with fail
            obtain ⟨q0, q1, q2, q3, q4, q5, q6, q7, q8⟩ := set9_cells (v0 := .int .i64 0) (v1 := .string ⟨#[]⟩) (v2 := .slice none 0 0) (v3 := .int .i64 0) (v4 := .int .i64 0) (v5 := .bool false) (v6 := .slice none 0 0) (v7 := .int .i64 0) (v8 := .bool false) hz4.out rfl
            refine bodyPost_ret (v := .tuple #[.agg #[.int .i64 0, .string ⟨#[]⟩, .slice none 0 0, .int .i64 0, .int .i64 0, .bool false, .slice none 0 0, .int .i64 0, .bool false], .int .i64 (e : Int)]) (by simp [results, Try.results29, go_sem, q0, q1, q2, q3, q4, q5, q6, q7, q8]) rfl ?_
            exact ⟨_, rfl, fun _ => rfl, fun h => absurd h he, set9_grownM HG4.out (Nat.le_refl _)⟩
        · have e34 : ((x.toNat : Int) == 34) = false := beq_eq_false_iff_ne.2 (by omega)
          have HQU := hide (show (x.toNat == 39 || x.toNat == 34) = false by
            rw [Bool.or_eq_false_iff]
            exact ⟨beq_eq_false_iff_ne.2 h39, beq_eq_false_iff_ne.2 h34⟩)
          clear h39 h34
          obtain ⟨b, hb⟩ : ∃ b, isAt 1 isDigit (u.drop k) = b := ⟨_, rfl⟩
          have HB0 := hide (show isAt 0 isDigit (u.drop (k + 1)) = b by
            rw [← hb, HDR.out]
            unfold isAt
            rfl)
          have HB := hide hb
          clear hb
          by_cases h46 : x.toNat = 46
          · have e46 : ((x.toNat : Int) == 46) = true := by rw [h46]; rfl
            have H46 := hide (show (x.toNat == 46) = true by rw [h46]; rfl)
            clear h46
            go_wp2_with (first | (go_at_call 43; refine (lletter_any _ _).mono ?_; rintro e2 w2 ⟨rfl, rfl⟩) | (go_at_call 45; refine (ldigit_any _ _).mono ?_; rintro e2 w2 ⟨rfl, rfl⟩))
            refine (lis_digit (j := 1) hM1.out.rd rfl hA1.out (Nat.le_of_lt hk) hl (by omega) HB.out).mono ?_
            rintro e3 w3 ⟨rfl, m3, hw3⟩
            have hM3 := hide (show Mv w w3 g (some ⟨blk, off, none⟩) u.length c k by rw [hw3]; exact hM1.out.drewN m3)
            have hz3 := hide (show Blk w3 w.heap.size zero9 by rw [hw3]; exact hz1.out.grown (grown_drewN _ (some g) _) (by omega))
            have hsz3 : w.heap.size < w3.heap.size := by rw [hw3]; simpa using hsz1
            have hA3 := hide (HA.out.grown hM3.out.grown hB (Nat.le_of_lt hg))
            clear hw3 m3 hM1 hz1 hA1 hsz1
            cases b with
            | true =>
              obtain ⟨b0', fb0⟩ := hz3.out.2 0 (by decide)
              obtain ⟨b1', fb1⟩ := hz3.out.2 1 (by decide)
              obtain ⟨b2', fb2⟩ := hz3.out.2 2 (by decide)
              obtain ⟨b3', fb3⟩ := hz3.out.2 3 (by decide)
              obtain ⟨b4', fb4⟩ := hz3.out.2 4 (by decide)
              obtain ⟨b5', fb5⟩ := hz3.out.2 5 (by decide)
              obtain ⟨b6', fb6⟩ := hz3.out.2 6 (by decide)
              obtain ⟨b7', fb7⟩ := hz3.out.2 7 (by decide)
              obtain ⟨b8', fb8⟩ := hz3.out.2 8 (by decide)
              go_wp2_with fail
              obtain ⟨q0, q1, q2, q3, q4, q5, q6, q7, q8⟩ := set9_cells (v0 := .int .i64 0) (v1 := .string ⟨#[]⟩) (v2 := .slice none 0 0) (v3 := .int .i64 0) (v4 := .int .i64 0) (v5 := .bool false) (v6 := .slice none 0 0) (v7 := .int .i64 0) (v8 := .bool false) hz3.out rfl
              refine bodyPost_ret (v := .tuple #[.agg #[.int .i64 0, .string ⟨#[]⟩, .slice none 0 0, .int .i64 0, .int .i64 0, .bool false, .slice none 0 0, .int .i64 0, .bool false], .int .i64 6]) (by simp [results, Try.results29, go_sem, q0, q1, q2, q3, q4, q5, q6, q7, q8]) rfl ?_
              have hq := HQ.out
              rw [if_neg (by rw [hlet]; simp), if_neg (by rw [hdig]; simp), if_neg (by rw [HQU.out]; simp), if_pos (by rw [H46.out, HB0.out]; rfl)] at hq
              obtain ⟨z1, z2, z3⟩ := ans_bad hq
              subst z1
              exact ⟨_, rfl, fun _ => rfl, fun h => absurd h (by decide), (set9_mv hM3.out (Nat.le_refl _) hg).grown⟩
            | false =>
              have HQ2 := hide (show signT (k == 0) (u.drop k) = (e, t, m) by
                have := HQ.out
                rw [if_neg (by rw [hlet]; simp), if_neg (by rw [hdig]; simp), if_neg (by rw [HQU.out]; simp), if_neg (by rw [HB0.out]; simp)] at this
                rw [HDR.out]; exact this)
              go_wp2_with fail
              refine (lsignT_any (m := m) (e := e) (t := t) hM3.out.rd rfl hA3.out hB hk hl hc HQ2.out).mono ?_
              rintro e4 w4 ⟨v, rfl, hbad, hgood, hG4⟩
              have hz4 := hide (hz3.out.grown hG4 (by omega))
              have HBAD := hide hbad
              have HGOOD := hide hgood
              have HG4 := hide (grown_trans hM3.out.grown hG4)
              clear hbad hgood hG4
              obtain ⟨b0', fb0⟩ := hz4.out.2 0 (by decide)
              obtain ⟨b1', fb1⟩ := hz4.out.2 1 (by decide)
              obtain ⟨b2', fb2⟩ := hz4.out.2 2 (by decide)
              obtain ⟨b3', fb3⟩ := hz4.out.2 3 (by decide)
              obtain ⟨b4', fb4⟩ := hz4.out.2 4 (by decide)
              obtain ⟨b5', fb5⟩ := hz4.out.2 5 (by decide)
              obtain ⟨b6', fb6⟩ := hz4.out.2 6 (by decide)
              obtain ⟨b7', fb7⟩ := hz4.out.2 7 (by decide)
              obtain ⟨b8', fb8⟩ := hz4.out.2 8 (by decide)
              by_cases he : e = 0
              · obtain ⟨⟨vs, vm, hv, ho1, ho2⟩, hM4⟩ := HGOOD.out he
                subst hv
                obtain ⟨As, cs, rfl, _, _⟩ := own_shape ho1
                obtain ⟨Am, cm, rfl, _, _⟩ := own_shape ho2
                have HO1 := hide ho1
                have HO2 := hide ho2
                have HM4 := hide (Mv.then hM3.out hM4)
                have HE := hide he
                obtain ⟨ls, hls⟩ : ∃ l, t.str.length = l := ⟨_, rfl⟩
                obtain ⟨lm, hlm⟩ : ∃ l, t.mag.length = l := ⟨_, rfl⟩
                rw [hls, hlm]
                rw [hls] at HO1
                rw [hlm] at HO2
                have HLS := hide hls
                have HLM := hide hlm
                clear ho1 ho2 hM4 he hls hlm
                go_wp2_with fail
                obtain ⟨q0, q1, q2, q3, q4, q5, q6, q7, q8⟩ := set9_cells (v0 := .int .i64 (t.kind : Int)) (v1 := .string ⟨t.text.toArray⟩) (v2 := .slice As ls cs) (v3 := .int .i64 t.nk) (v4 := .int .i64 t.nn) (v5 := .bool false) (v6 := .slice Am lm cm) (v7 := .int .i64 (t.pos : Int)) (v8 := .bool t.nl) hz4.out rfl
                refine bodyPost_ret (v := .tuple #[.agg #[.int .i64 (t.kind : Int), .string ⟨t.text.toArray⟩, .slice As ls cs, .int .i64 t.nk, .int .i64 t.nn, .bool false, .slice Am lm cm, .int .i64 (t.pos : Int), .bool t.nl], .int .i64 (e : Int)]) (by simp [results, Try.results29, go_sem, q0, q1, q2, q3, q4, q5, q6, q7, q8]) rfl ?_
                refine ⟨_, rfl, fun h => absurd HE.out h, fun _ => ⟨⟨_, _, rfl, ?_, ?_⟩, ?_⟩, set9_grownM HG4.out (Nat.le_refl _)⟩
                · rw [HLS.out]; exact own_base (set9_own HO1.out hsz3) (by omega)
                · rw [HLM.out]; exact own_base (set9_own HO2.out hsz3) (by omega)
                · exact set9_mv HM4.out (Nat.le_refl _) hg
              · obtain rfl := HBAD.out he
                unfold noV
                go_wp2_with fail
                obtain ⟨q0, q1, q2, q3, q4, q5, q6, q7, q8⟩ := set9_cells (v0 := .int .i64 0) (v1 := .string ⟨#[]⟩) (v2 := .slice none 0 0) (v3 := .int .i64 0) (v4 := .int .i64 0) (v5 := .bool false) (v6 := .slice none 0 0) (v7 := .int .i64 0) (v8 := .bool false) hz4.out rfl
                refine bodyPost_ret (v := .tuple #[.agg #[.int .i64 0, .string ⟨#[]⟩, .slice none 0 0, .int .i64 0, .int .i64 0, .bool false, .slice none 0 0, .int .i64 0, .bool false], .int .i64 (e : Int)]) (by simp [results, Try.results29, go_sem, q0, q1, q2, q3, q4, q5, q6, q7, q8]) rfl ?_
                exact ⟨_, rfl, fun _ => rfl, fun h => absurd h he, set9_grownM HG4.out (Nat.le_refl _)⟩
          · have e46 : ((x.toNat : Int) == 46) = false := beq_eq_false_iff_ne.2 (by omega)
            have H46 := hide (show (x.toNat == 46) = false from beq_eq_false_iff_ne.2 h46)
            clear h46
            have HQ2 := hide (show signT (k == 0) (u.drop k) = (e, t, m) by
              have := HQ.out
              rw [if_neg (by rw [hlet]; simp), if_neg (by rw [hdig]; simp), if_neg (by rw [HQU.out]; simp), if_neg (by rw [H46.out]; simp)] at this
              rw [HDR.out]; exact this)
            go_wp2_with (first | (go_at_call 43; refine (lletter_any _ _).mono ?_; rintro e2 w2 ⟨rfl, rfl⟩) | (go_at_call 45; refine (ldigit_any _ _).mono ?_; rintro e2 w2 ⟨rfl, rfl⟩))
            refine (lsignT_any (m := m) (e := e) (t := t) hM1.out.rd rfl hA1.out hB hk hl hc HQ2.out).mono ?_
            rintro e4 w4 ⟨v, rfl, hbad, hgood, hG4⟩
            have hz4 := hide (hz1.out.grown hG4 (by omega))
            have HBAD := hide hbad
            have HGOOD := hide hgood
            have HG4 := hide (grown_trans hM1.out.grown hG4)
            clear hbad hgood hG4
            obtain ⟨b0', fb0⟩ := hz4.out.2 0 (by decide)
            obtain ⟨b1', fb1⟩ := hz4.out.2 1 (by decide)
            obtain ⟨b2', fb2⟩ := hz4.out.2 2 (by decide)
            obtain ⟨b3', fb3⟩ := hz4.out.2 3 (by decide)
            obtain ⟨b4', fb4⟩ := hz4.out.2 4 (by decide)
            obtain ⟨b5', fb5⟩ := hz4.out.2 5 (by decide)
            obtain ⟨b6', fb6⟩ := hz4.out.2 6 (by decide)
            obtain ⟨b7', fb7⟩ := hz4.out.2 7 (by decide)
            obtain ⟨b8', fb8⟩ := hz4.out.2 8 (by decide)
            by_cases he : e = 0
            · obtain ⟨⟨vs, vm, hv, ho1, ho2⟩, hM4⟩ := HGOOD.out he
              subst hv
              obtain ⟨As, cs, rfl, _, _⟩ := own_shape ho1
              obtain ⟨Am, cm, rfl, _, _⟩ := own_shape ho2
              have HO1 := hide ho1
              have HO2 := hide ho2
              have HM4 := hide (Mv.then hM1.out hM4)
              have HE := hide he
              obtain ⟨ls, hls⟩ : ∃ l, t.str.length = l := ⟨_, rfl⟩
              obtain ⟨lm, hlm⟩ : ∃ l, t.mag.length = l := ⟨_, rfl⟩
              rw [hls, hlm]
              rw [hls] at HO1
              rw [hlm] at HO2
              have HLS := hide hls
              have HLM := hide hlm
              clear ho1 ho2 hM4 he hls hlm
              go_wp2_with fail
              obtain ⟨q0, q1, q2, q3, q4, q5, q6, q7, q8⟩ := set9_cells (v0 := .int .i64 (t.kind : Int)) (v1 := .string ⟨t.text.toArray⟩) (v2 := .slice As ls cs) (v3 := .int .i64 t.nk) (v4 := .int .i64 t.nn) (v5 := .bool false) (v6 := .slice Am lm cm) (v7 := .int .i64 (t.pos : Int)) (v8 := .bool t.nl) hz4.out rfl
              refine bodyPost_ret (v := .tuple #[.agg #[.int .i64 (t.kind : Int), .string ⟨t.text.toArray⟩, .slice As ls cs, .int .i64 t.nk, .int .i64 t.nn, .bool false, .slice Am lm cm, .int .i64 (t.pos : Int), .bool t.nl], .int .i64 (e : Int)]) (by simp [results, Try.results29, go_sem, q0, q1, q2, q3, q4, q5, q6, q7, q8]) rfl ?_
              refine ⟨_, rfl, fun h => absurd HE.out h, fun _ => ⟨⟨_, _, rfl, ?_, ?_⟩, ?_⟩, set9_grownM HG4.out (Nat.le_refl _)⟩
              · rw [HLS.out]; exact own_base (set9_own HO1.out hsz1) (by omega)
              · rw [HLM.out]; exact own_base (set9_own HO2.out hsz1) (by omega)
              · exact set9_mv HM4.out (Nat.le_refl _) hg
            · obtain rfl := HBAD.out he
              unfold noV
              go_wp2_with fail
              obtain ⟨q0, q1, q2, q3, q4, q5, q6, q7, q8⟩ := set9_cells (v0 := .int .i64 0) (v1 := .string ⟨#[]⟩) (v2 := .slice none 0 0) (v3 := .int .i64 0) (v4 := .int .i64 0) (v5 := .bool false) (v6 := .slice none 0 0) (v7 := .int .i64 0) (v8 := .bool false) hz4.out rfl
              refine bodyPost_ret (v := .tuple #[.agg #[.int .i64 0, .string ⟨#[]⟩, .slice none 0 0, .int .i64 0, .int .i64 0, .bool false, .slice none 0 0, .int .i64 0, .bool false], .int .i64 (e : Int)]) (by simp [results, Try.results29, go_sem, q0, q1, q2, q3, q4, q5, q6, q7, q8]) rfl ?_
              exact ⟨_, rfl, fun _ => rfl, fun h => absurd h he, set9_grownM HG4.out (Nat.le_refl _)⟩
end Go.Proofs.Ytngcikgjdeomdaa
