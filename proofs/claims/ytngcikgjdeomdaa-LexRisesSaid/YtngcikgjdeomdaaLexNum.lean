/- The reader's number, walked. -/
import Derived.Test.YtngcikgjdeomdaaLexBig
import Derived.Test.YtngcikgjdeomdaaLexSignW
import Derived.Test.YtngcikgjdeomdaaLexStrange
import Derived.Test.YtngcikgjdeomdaaNumber
import Derived.Test.YtngcikgjdeomdaaDecLaw
namespace Go.Proofs.Ytngcikgjdeomdaa
open Go.RowKit

theorem num_digits_big {u : List UInt16} (h0 : 0 < u.length) (hd : ∀ x ∈ u, isDigit x = true) (hf : ¬ decVal u ≤ 9007199254740991) : numF u = (⟨2, 0⟩, false) := by
  have hx := isDigit_iff.1 (hd _ (List.getElem_mem h0))
  have hne : u ≠ [] := List.ne_nil_of_length_pos h0
  obtain ⟨x, r, rfl⟩ := List.exists_cons_of_ne_nil hne
  simp only [List.getElem_cons_zero] at hx
  have hs : signOf (x :: r) = false := by
    simp only [signOf, List.headD_cons, beq_eq_false_iff_ne]
    rintro rfl
    simp at hx
  have hr : restOf (x :: r) = x :: r := by
    unfold restOf
    rw [if_neg]
    simp only [List.headD_cons]
    rintro (rfl | rfl) <;> simp at hx
  have hi : x :: r ≠ infinity := by
    intro h
    have h73 : x = 73 := by injection h
    rw [h73] at hx
    simp at hx
  unfold numF
  rw [trimF_none (fun x hx => not_blank_digit (hd x hx))]
  unfold numT
  rw [if_neg hne, hs]
  unfold baseT
  have hall := List.all_eq_true.2 hd
  simp only [hr, hi, hf, hall, ne_eq, hne, not_false_eq_true, and_self, if_true, if_false, Bool.false_eq_true]
theorem lnum_is {A : Option Addr} {c B m : Nat} {xs : List UInt16} {w : World} (hB : B ≤ w.heap.size) (hm : xs.length = m) (ha : Reads w B 1 A m (u16s xs)) (hc : m ≤ c) (hc2 : c ≤ maxLen) (hl : m ≤ 70368744177664) {k n : Int} {ok : Bool} (h : numF xs = (⟨k, n⟩, ok)) :
    Calls Try.prog 64 #[.slice A m c] w fun e w' => e = .returned (.tuple #[.agg #[.int .i64 k, .int .i64 n], .bool ok]) ∧ Below w.heap.size w w' := by
  subst hm
  have := number_any hB ha hc hc2 hl
  rw [h] at this
  exact this
theorem lrun_digit_is {A : Option Addr} {c g B k n : Nat} {u : List UInt16} {w : World} {sv : ByteArray} (hr : Rd w g A n c k) (hn : u.length = n) (ha : Reads w B 1 A n (u16s u)) (hB : B ≤ g) (hk : k ≤ n) (hl : n ≤ 4096) {l : List UInt16} (hq : (u.drop k).takeWhile isDigit = l) (hs : sv = ⟨(asc l).toArray⟩) :
    Calls Try.prog 60 #[.pointer (some ⟨g, 0, none⟩), .func (.func 45) #[] #[]] w fun e w' => e = .returned (.string sv) ∧ Mv w w' g A n c (k + l.length) := by
  subst hs
  exact lrun_digit hr hn ha hB hk hl hq
theorem ascii_asc {d : List UInt16} (hd : ∀ x ∈ d, isDigit x = true) : ascii (asc d) = d := by
  unfold ascii asc
  rw [List.map_map]
  conv => rhs; rw [← List.map_id d]
  refine List.map_congr_left fun x hx => ?_
  have h := isDigit_iff.1 (hd x hx)
  refine UInt16.toNat_inj.1 ?_
  show x.toNat % 256 = x.toNat
  omega
/-- text.Ascii at digits -/
theorem lascii_is {s : ByteArray} {d : List UInt16} (hs : s.data.toList = asc d) (hd : ∀ x ∈ d, isDigit x = true) (hl : d.length ≤ 4096) (w : World) :
    Calls Try.prog 20 #[.string s] w fun e w' => ∃ A c, e = .returned (.slice A d.length c) ∧ Reads w' w'.heap.size 1 A d.length (u16s d) ∧ d.length ≤ c ∧ c ≤ maxLen ∧ Below w.heap.size w w' := by
  have hsz : s.size = d.length := by
    have := congrArg List.length hs
    simpa [asc] using this
  refine (ascii_any s w (by omega)).mono ?_
  rintro e w' ⟨v, rfl, hm⟩
  have hb := hm.below
  rw [hs, ascii_asc hd] at hm
  obtain ⟨A, c, rfl, h1, h2, h3⟩ := hm.u16
  exact ⟨A, c, rfl, h3, h1, h2, hb⟩
theorem numT_lead {d r : List UInt16} {e m : Nat} {t : Tok} (h : (isAt 0 (fun x => x.toNat == 48) d && !decide (d = [48])) = true) (hq : numT' d r = (e, t, m)) : 5 = e ∧ noTok = t ∧ 0 = m := by
  unfold numT' at hq
  rw [if_pos h] at hq
  exact ans_bad hq
theorem numT_n {d r : List UInt16} {e m : Nat} {t : Tok} (h : (isAt 0 (fun x => x.toNat == 48) d && !decide (d = [48])) = false) (h2 : starts [110] r = true) (hq : numT' d r = (e, t, m)) : bigT (decVal d) d.length (r.drop 1) = (e, t, m) := by
  unfold numT' at hq
  rw [if_neg (by rw [h]; simp), if_pos h2] at hq
  exact hq
theorem numT_odd {d r : List UInt16} {e m : Nat} {t : Tok} (h : (isAt 0 (fun x => x.toNat == 48) d && !decide (d = [48])) = false) (h2 : starts [110] r = false) (h3 : isAt 0 (oddAfter (decide (d = [48]))) r = true) (hq : numT' d r = (e, t, m)) : 6 = e ∧ noTok = t ∧ 0 = m := by
  unfold numT' at hq
  rw [if_neg (by rw [h]; simp), if_neg (by rw [h2]; simp), if_pos h3] at hq
  exact ans_bad hq
theorem numT_let {d r : List UInt16} {e m : Nat} {t : Tok} (h : (isAt 0 (fun x => x.toNat == 48) d && !decide (d = [48])) = false) (h2 : starts [110] r = false) (h3 : isAt 0 (oddAfter (decide (d = [48]))) r = false) (h4 : isAt 0 isLet r = true) (hq : numT' d r = (e, t, m)) : 5 = e ∧ noTok = t ∧ 0 = m := by
  unfold numT' at hq
  rw [if_neg (by rw [h]; simp), if_neg (by rw [h2]; simp), if_neg (by rw [h3]; simp), if_pos h4] at hq
  exact ans_bad hq
theorem numT_over {d r : List UInt16} {e m : Nat} {t : Tok} (h : (isAt 0 (fun x => x.toNat == 48) d && !decide (d = [48])) = false) (h2 : starts [110] r = false) (h3 : isAt 0 (oddAfter (decide (d = [48]))) r = false) (h4 : isAt 0 isLet r = false) (h5 : ¬ decVal d ≤ 9007199254740991) (hq : numT' d r = (e, t, m)) : 6 = e ∧ noTok = t ∧ 0 = m := by
  unfold numT' at hq
  rw [if_neg (by rw [h]; simp), if_neg (by rw [h2]; simp), if_neg (by rw [h3]; simp), if_neg (by rw [h4]; simp), if_pos (by omega)] at hq
  exact ans_bad hq
theorem numT_good {d r : List UInt16} {e m : Nat} {t : Tok} (h : (isAt 0 (fun x => x.toNat == 48) d && !decide (d = [48])) = false) (h2 : starts [110] r = false) (h3 : isAt 0 (oddAfter (decide (d = [48]))) r = false) (h4 : isAt 0 isLet r = false) (h5 : decVal d ≤ 9007199254740991) (hq : numT' d r = (e, t, m)) : 0 = e ∧ { noTok with kind := 2, nn := decVal d } = t ∧ d.length = m := by
  unfold numT' at hq
  rw [if_neg (by rw [h]; simp), if_neg (by rw [h2]; simp), if_neg (by rw [h3]; simp), if_neg (by rw [h4]; simp), if_neg (by omega)] at hq
  exact ans_of hq

set_option maxHeartbeats 8000000 in
set_option maxRecDepth 100000 in
theorem lnumber_any {A : Option Addr} {c g B k n : Nat} {u : List UInt16} {w : World} (hr : Rd w g A n c k) (hn : u.length = n) (ha : Reads w B 1 A n (u16s u)) (hB : B ≤ g) (hk : k < u.length) (hdk : isDigit u[k] = true) (hl : n ≤ 4096) {m e : Nat} {t : Tok} (hq : numberT (u.drop k) = (e, t, m)) :
    Calls Try.prog 46 #[.pointer (some ⟨g, 0, none⟩)] w fun ev w' => ∃ v, ev = .returned (.tuple #[v, .int .i64 (e : Int)]) ∧ (e ≠ 0 → v = noV) ∧ (e = 0 → TokV w' w.heap.size t v ∧ Mv w w' g A n c (k + m)) ∧ w.grownBy w' (some g) := by
  subst hn
  have hg := hr.lt
  obtain ⟨d, hdd⟩ : ∃ d, (u.drop k).takeWhile isDigit = d := ⟨_, rfl⟩
  have hd : ∀ x ∈ d, isDigit x = true := by
    rw [← hdd]
    exact List.all_eq_true.1 List.all_takeWhile
  have hd0 : d = u[k] :: (u.drop (k + 1)).takeWhile isDigit := by rw [← hdd, List.drop_eq_getElem_cons hk, List.takeWhile_cons_of_pos hdk]
  have h0 : 0 < d.length := by rw [hd0]; simp
  have hle : k + d.length ≤ u.length := by
    have h1 := takeWhile_le isDigit (u.drop k)
    rw [hdd, List.length_drop] at h1
    omega
  unfold numberT at hq
  rw [hdd, List.drop_drop] at hq
  obtain ⟨sv, hsv⟩ : ∃ sv : ByteArray, sv = ⟨(asc d).toArray⟩ := ⟨_, rfl⟩
  have hsd : sv.data.toList = asc d := by rw [hsv]
  obtain ⟨hsz, hget⟩ := asc_at hsd hd
  have hs0 : 0 < sv.size := by omega
  obtain ⟨q, hqq⟩ : ∃ q, ((sv[0].toNat : Int) == 48) = q := ⟨_, rfl⟩
  obtain ⟨z, hzz⟩ : ∃ z, decide (d = [48]) = z := ⟨_, rfl⟩
  have hlead : (isAt 0 (fun x => x.toNat == 48) d && !decide (d = [48])) = (q && !z) := by
    rw [hzz]
    congr 1
    have h1 := (hget 0 hs0 h0).1
    have h2 : isAt 0 (fun x => x.toNat == 48) d = (d[0].toNat == 48) := by
      unfold isAt
      rw [List.getElem?_eq_getElem h0]; rfl
    rw [h2, ← h1, ← hqq, Bool.eq_iff_iff, beq_iff_eq, beq_iff_eq]
    omega
  have hst : (sv.toList == [48]) = z := by
    rw [txt_eq, hsd, ← hzz, Bool.eq_iff_iff, decide_eq_true_eq, decide_eq_true_eq]
    constructor
    · intro h
      rw [← ascii_asc hd, h]; rfl
    · intro h
      rw [h]; rfl
  have hnl : (q && !z) = false → d[0] ≠ 48 ∨ d = [48] := by
    intro h
    cases hzc : z with
    | true => right; exact of_decide_eq_true (by rw [hzz, hzc])
    | false =>
      left
      intro h3
      rw [hzc] at h
      have h4 : q = false := by simpa using h
      rw [h4, beq_eq_false_iff_ne] at hqq
      have h1 := (hget 0 hs0 h0).1
      rw [h3] at h1
      exact hqq (by rw [h1]; rfl)
  obtain ⟨b, hb⟩ : ∃ b, starts [110] (u.drop (k + d.length)) = b := ⟨_, rfl⟩
  obtain ⟨bo, hbo⟩ : ∃ b, isAt 0 (oddAfter z) (u.drop (k + d.length)) = b := ⟨_, rfl⟩
  obtain ⟨bl, hbl⟩ : ∃ b, isAt 0 isLet (u.drop (k + d.length)) = b := ⟨_, rfl⟩
  have HL := hide hdd
  have HD := hide hd
  have HSV := hide hsv
  have HSD := hide hsd
  have HQ := hide hq
  have HLEAD := hide hlead
  have HNL := hide hnl
  have HB := hide hb
  have HBO := hide hbo
  have HBL := hide hbl
  have HZ := hide hzz
  have HA := hide ha
  have hR := hide (hr.alloc (.cells zero9.toArray 39))
  have hAl := hide (ha.alloc (Nat.le_trans hB (Nat.le_of_lt hg)) (.cells zero9.toArray 39))
  have HZ0 := hide (Blk.new w zero9 39)
  have hG0 := hide (grown_alloc w (.cells zero9.toArray 39) (some g))
  have hdl : d.length ≤ 4096 := by omega
  clear hdd hd hd0 hsv hsd hq hlead hnl hb hbo hbl hzz ha hr hget hsz
  go_enter Try.func46, Try.ntmps46
  go_wp2_with fail
  refine (lrun_digit_is hR.out rfl hAl.out hB (Nat.le_of_lt hk) hl HL.out HSV.out).mono ?_
  rintro e1 w1 ⟨rfl, hM1⟩
  have hS1 := hide (show SgS w w1 g A u.length c (k + d.length) from ⟨⟨hM1.rd, grown_trans hG0.out hM1.grown⟩, HZ0.out.grown hM1.grown (by omega)⟩)
  clear hM1 hR hAl HZ0 hG0
  go_upto_region 3 with (fail)
  go_cut [12] (fun v wx => v = .bool (q && !z) ∧ wx = w1)
  case first =>
    cases q <;> cases z
    all_goals
      go_wp2_with fail
      go_meet
      exact ⟨rfl, rfl⟩
  case rest =>
    obtain ⟨hv, hwx⟩ := hcut
    subst hv hwx
    obtain ⟨ld, hld⟩ : ∃ b, (q && !z) = b := ⟨_, rfl⟩
    rw [hld] at HLEAD HNL ⊢
    clear hld hqq hst
    cases ld with
    | true =>
      obtain ⟨b0', fb0⟩ := hS1.out.zero.2 0 (by decide)
      obtain ⟨b1', fb1⟩ := hS1.out.zero.2 1 (by decide)
      obtain ⟨b2', fb2⟩ := hS1.out.zero.2 2 (by decide)
      obtain ⟨b3', fb3⟩ := hS1.out.zero.2 3 (by decide)
      obtain ⟨b4', fb4⟩ := hS1.out.zero.2 4 (by decide)
      obtain ⟨b5', fb5⟩ := hS1.out.zero.2 5 (by decide)
      obtain ⟨b6', fb6⟩ := hS1.out.zero.2 6 (by decide)
      obtain ⟨b7', fb7⟩ := hS1.out.zero.2 7 (by decide)
      obtain ⟨b8', fb8⟩ := hS1.out.zero.2 8 (by decide)
      go_wp2_with fail
      obtain ⟨q0, q1, q2, q3, q4, q5, q6, q7, q8⟩ := set9_cells (v0 := .int .i64 0) (v1 := .string ⟨#[]⟩) (v2 := .slice none 0 0) (v3 := .int .i64 0) (v4 := .int .i64 0) (v5 := .bool false) (v6 := .slice none 0 0) (v7 := .int .i64 0) (v8 := .bool false) hS1.out.zero rfl
      refine bodyPost_ret (v := .tuple #[.agg #[.int .i64 0, .string ⟨#[]⟩, .slice none 0 0, .int .i64 0, .int .i64 0, .bool false, .slice none 0 0, .int .i64 0, .bool false], .int .i64 5]) (by simp [results, Try.results46, go_sem, q0, q1, q2, q3, q4, q5, q6, q7, q8]) rfl ?_
      obtain ⟨z1, z2, z3⟩ := numT_lead HLEAD.out HQ.out
      subst z1
      exact ⟨_, rfl, fun _ => rfl, fun h => absurd h (by decide), (set9_mv hS1.out.mv (Nat.le_refl _) hg).grown⟩
    | false =>
      have HNZ := hide (HNL.out rfl)
      clear HNL
      go_wp2_with fail
      refine (lhas_any ⟨#[110]⟩ hS1.out.mv.rd rfl (HA.out.grown hS1.out.mv.grown hB (Nat.le_of_lt hg)) hle hl (by decide) HB.out).mono ?_
      rintro e2 w2 ⟨rfl, m2, hw2⟩
      have hS2 := hide (show SgS w w2 g A u.length c (k + d.length) by rw [hw2]; exact hS1.out.drewN hg m2)
      clear hw2 m2 hS1
      cases b with
      | true =>
        have hkd : k + d.length + 1 ≤ u.length := by
          have := starts_len HB.out
          rw [List.length_drop] at this
          simp at this
          omega
        have HQB := hide (numT_n HLEAD.out HB.out HQ.out)
        rw [List.drop_drop] at HQB
        have hc1 := hS2.out.mv.rd.c1
        have hf1 := hS2.out.mv.rd.f1
        have hM3 := hide (Mv.step hS2.out.mv (k' := k + d.length + 1) (z := (((k + d.length : Nat) : Int) + 1)) (by omega))
        have hz3 := hide (hS2.out.zero.setOther (S := g) (i := 1) (by omega) (.int .i64 (((k + d.length : Nat) : Int) + 1)))
        obtain ⟨p, hp⟩ : ∃ p, k + d.length = p := ⟨_, rfl⟩
        rw [hp] at hc1 hM3 hz3
        go_wp2_with fail
        refine (lbigint_any (m := m) (e := e) (t := t) HSD.out HD.out h0 HNZ.out hdl (by exact hM3.out.rd) rfl (HA.out.grown hM3.out.grown hB (Nat.le_of_lt hg)) hB (by omega) hl (by rw [← hp]; exact HQB.out)).mono ?_
        rintro e4 w4 ⟨v, rfl, hbad, hgood, hG4⟩
        have hz4 := hide (hz3.out.grown hG4 (by omega))
        have HBAD := hide hbad
        have HGOOD := hide hgood
        have HG4 := hide (grown_trans hM3.out.grown hG4)
        have hsz4 : w.heap.size < w2.heap.size := hS2.out.zero.1
        have hszs : (w2.setCell ⟨g, 1, none⟩ (.int .i64 ((p : Int) + 1))).heap.size = w2.heap.size := by simp
        have HSZ := hide hszs
        clear hbad hgood hG4 hszs hc1 hf1
        obtain ⟨b0', fb0⟩ := hz4.out.2 0 (by decide)
        obtain ⟨b1', fb1⟩ := hz4.out.2 1 (by decide)
        obtain ⟨b2', fb2⟩ := hz4.out.2 2 (by decide)
        obtain ⟨b3', fb3⟩ := hz4.out.2 3 (by decide)
        obtain ⟨b4', fb4⟩ := hz4.out.2 4 (by decide)
        obtain ⟨b5', fb5⟩ := hz4.out.2 5 (by decide)
        obtain ⟨b6', fb6⟩ := hz4.out.2 6 (by decide)
        obtain ⟨b7', fb7⟩ := hz4.out.2 7 (by decide)
        obtain ⟨b8', fb8⟩ := hz4.out.2 8 (by decide)
        by_cases he : e = 0
        · obtain ⟨⟨vs, vm, hv, ho1, ho2⟩, hM4, hm4⟩ := HGOOD.out he
          subst hv
          obtain ⟨As, cs, rfl, _, _⟩ := own_shape ho1
          obtain ⟨Am, cm, rfl, _, _⟩ := own_shape ho2
          rw [HSZ.out] at ho1 ho2
          have HO1 := hide ho1
          have HO2 := hide ho2
          have HM4 := hide (Mv.then hM3.out hM4)
          have HE := hide he
          have Hm4 := hide hm4
          obtain ⟨ls, hls⟩ : ∃ l, t.str.length = l := ⟨_, rfl⟩
          obtain ⟨lm, hlm⟩ : ∃ l, t.mag.length = l := ⟨_, rfl⟩
          rw [hls, hlm]
          rw [hls] at HO1
          rw [hlm] at HO2
          have HLS := hide hls
          have HLM := hide hlm
          clear ho1 ho2 hM4 hm4 he hls hlm
          go_wp2_with fail
          obtain ⟨q0, q1, q2, q3, q4, q5, q6, q7, q8⟩ := set9_cells (v0 := .int .i64 (t.kind : Int)) (v1 := .string ⟨t.text.toArray⟩) (v2 := .slice As ls cs) (v3 := .int .i64 t.nk) (v4 := .int .i64 t.nn) (v5 := .bool false) (v6 := .slice Am lm cm) (v7 := .int .i64 (t.pos : Int)) (v8 := .bool t.nl) hz4.out rfl
          refine bodyPost_ret (v := .tuple #[.agg #[.int .i64 (t.kind : Int), .string ⟨t.text.toArray⟩, .slice As ls cs, .int .i64 t.nk, .int .i64 t.nn, .bool false, .slice Am lm cm, .int .i64 (t.pos : Int), .bool t.nl], .int .i64 (e : Int)]) (by simp [results, Try.results46, go_sem, q0, q1, q2, q3, q4, q5, q6, q7, q8]) rfl ?_
          refine ⟨_, rfl, fun h => absurd HE.out h, fun _ => ⟨⟨_, _, rfl, ?_, ?_⟩, ?_⟩, set9_grownM HG4.out (Nat.le_refl _)⟩
          · rw [HLS.out]; exact own_base (set9_own HO1.out hsz4) (by omega)
          · rw [HLM.out]; exact own_base (set9_own HO2.out hsz4) (by omega)
          · rw [Hm4.out, show k + (d.length + 1) = p + 1 by omega]
            exact set9_mv HM4.out (Nat.le_refl _) hg
        · obtain rfl := HBAD.out he
          unfold noV
          go_wp2_with fail
          obtain ⟨q0, q1, q2, q3, q4, q5, q6, q7, q8⟩ := set9_cells (v0 := .int .i64 0) (v1 := .string ⟨#[]⟩) (v2 := .slice none 0 0) (v3 := .int .i64 0) (v4 := .int .i64 0) (v5 := .bool false) (v6 := .slice none 0 0) (v7 := .int .i64 0) (v8 := .bool false) hz4.out rfl
          refine bodyPost_ret (v := .tuple #[.agg #[.int .i64 0, .string ⟨#[]⟩, .slice none 0 0, .int .i64 0, .int .i64 0, .bool false, .slice none 0 0, .int .i64 0, .bool false], .int .i64 (e : Int)]) (by simp [results, Try.results46, go_sem, q0, q1, q2, q3, q4, q5, q6, q7, q8]) rfl ?_
          exact ⟨_, rfl, fun _ => rfl, fun h => absurd h he, set9_grownM HG4.out (Nat.le_refl _)⟩
      | false =>
        go_wp2_with fail
        refine (lstrange_any hS2.out.mv.rd rfl (HA.out.grown hS2.out.mv.grown hB (Nat.le_of_lt hg)) hB hle hl HBO.out).mono ?_
        rintro e3 w3 ⟨rfl, hb3⟩
        have hS3 := hide (hS2.out.below hg hb3)
        clear hb3 hS2
        cases bo with
        | true =>
          obtain ⟨b0', fb0⟩ := hS3.out.zero.2 0 (by decide)
          obtain ⟨b1', fb1⟩ := hS3.out.zero.2 1 (by decide)
          obtain ⟨b2', fb2⟩ := hS3.out.zero.2 2 (by decide)
          obtain ⟨b3', fb3⟩ := hS3.out.zero.2 3 (by decide)
          obtain ⟨b4', fb4⟩ := hS3.out.zero.2 4 (by decide)
          obtain ⟨b5', fb5⟩ := hS3.out.zero.2 5 (by decide)
          obtain ⟨b6', fb6⟩ := hS3.out.zero.2 6 (by decide)
          obtain ⟨b7', fb7⟩ := hS3.out.zero.2 7 (by decide)
          obtain ⟨b8', fb8⟩ := hS3.out.zero.2 8 (by decide)
          go_wp2_with fail
          obtain ⟨q0, q1, q2, q3, q4, q5, q6, q7, q8⟩ := set9_cells (v0 := .int .i64 0) (v1 := .string ⟨#[]⟩) (v2 := .slice none 0 0) (v3 := .int .i64 0) (v4 := .int .i64 0) (v5 := .bool false) (v6 := .slice none 0 0) (v7 := .int .i64 0) (v8 := .bool false) hS3.out.zero rfl
          refine bodyPost_ret (v := .tuple #[.agg #[.int .i64 0, .string ⟨#[]⟩, .slice none 0 0, .int .i64 0, .int .i64 0, .bool false, .slice none 0 0, .int .i64 0, .bool false], .int .i64 6]) (by simp [results, Try.results46, go_sem, q0, q1, q2, q3, q4, q5, q6, q7, q8]) rfl ?_
          obtain ⟨z1, z2, z3⟩ := numT_odd HLEAD.out HB.out (by rw [HZ.out]; exact HBO.out) HQ.out
          subst z1
          exact ⟨_, rfl, fun _ => rfl, fun h => absurd h (by decide), (set9_mv hS3.out.mv (Nat.le_refl _) hg).grown⟩
        | false =>
          go_wp2_with fail
          refine (lis_letter (j := 0) hS3.out.mv.rd rfl (HA.out.grown hS3.out.mv.grown hB (Nat.le_of_lt hg)) hle hl (by omega) HBL.out).mono ?_
          rintro e4 w4 ⟨rfl, m4, hw4⟩
          have hS4 := hide (show SgS w w4 g A u.length c (k + d.length) by rw [hw4]; exact hS3.out.drewN hg m4)
          clear hw4 m4 hS3
          cases bl with
          | true =>
            obtain ⟨b0', fb0⟩ := hS4.out.zero.2 0 (by decide)
            obtain ⟨b1', fb1⟩ := hS4.out.zero.2 1 (by decide)
            obtain ⟨b2', fb2⟩ := hS4.out.zero.2 2 (by decide)
            obtain ⟨b3', fb3⟩ := hS4.out.zero.2 3 (by decide)
            obtain ⟨b4', fb4⟩ := hS4.out.zero.2 4 (by decide)
            obtain ⟨b5', fb5⟩ := hS4.out.zero.2 5 (by decide)
            obtain ⟨b6', fb6⟩ := hS4.out.zero.2 6 (by decide)
            obtain ⟨b7', fb7⟩ := hS4.out.zero.2 7 (by decide)
            obtain ⟨b8', fb8⟩ := hS4.out.zero.2 8 (by decide)
            go_wp2_with fail
            obtain ⟨q0, q1, q2, q3, q4, q5, q6, q7, q8⟩ := set9_cells (v0 := .int .i64 0) (v1 := .string ⟨#[]⟩) (v2 := .slice none 0 0) (v3 := .int .i64 0) (v4 := .int .i64 0) (v5 := .bool false) (v6 := .slice none 0 0) (v7 := .int .i64 0) (v8 := .bool false) hS4.out.zero rfl
            refine bodyPost_ret (v := .tuple #[.agg #[.int .i64 0, .string ⟨#[]⟩, .slice none 0 0, .int .i64 0, .int .i64 0, .bool false, .slice none 0 0, .int .i64 0, .bool false], .int .i64 5]) (by simp [results, Try.results46, go_sem, q0, q1, q2, q3, q4, q5, q6, q7, q8]) rfl ?_
            obtain ⟨z1, z2, z3⟩ := numT_let HLEAD.out HB.out (by rw [HZ.out]; exact HBO.out) HBL.out HQ.out
            subst z1
            exact ⟨_, rfl, fun _ => rfl, fun h => absurd h (by decide), (set9_mv hS4.out.mv (Nat.le_refl _) hg).grown⟩
          | false =>
            go_wp2_with fail
            refine (lascii_is HSD.out HD.out hdl _).mono ?_
            rintro e5 w5 ⟨Aa, ca, rfl, hra, hca1, hca2, hb5⟩
            have hS5 := hide (hS4.out.below hg hb5)
            have HRA := hide hra
            clear hb5 hS4 hra
            by_cases hbig : decVal d ≤ 9007199254740991
            · have HN := hide (num_digits h0 HD.out hbig)
              have HBIG := hide hbig
              clear hbig
              go_wp2_with fail
              refine (lnum_is (Nat.le_refl _) rfl HRA.out hca1 hca2 (by omega) HN.out).mono ?_
              rintro e6 w6 ⟨rfl, hb6⟩
              have hS6 := hide (show SgS w (w6.alloc (.cells #[.int .i64 0, .int .i64 (decVal d : Int)] 34)) g A u.length c (k + d.length) from ((hS5.out.below hg hb6).below hg ((Below.refl _ _).alloc (Nat.le_refl _) _)))
              obtain ⟨dv, hdv⟩ : ∃ dv, decVal d = dv := ⟨_, rfl⟩
              rw [hdv] at hS6 ⊢
              have HDV := hide hdv
              clear hb6 hS5 hdv
              obtain ⟨b0', fb0⟩ := hS6.out.zero.2 0 (by decide)
              obtain ⟨b1', fb1⟩ := hS6.out.zero.2 1 (by decide)
              obtain ⟨b2', fb2⟩ := hS6.out.zero.2 2 (by decide)
              obtain ⟨b3', fb3⟩ := hS6.out.zero.2 3 (by decide)
              obtain ⟨b4', fb4⟩ := hS6.out.zero.2 4 (by decide)
              obtain ⟨b5', fb5⟩ := hS6.out.zero.2 5 (by decide)
              obtain ⟨b6', fb6⟩ := hS6.out.zero.2 6 (by decide)
              obtain ⟨b7', fb7⟩ := hS6.out.zero.2 7 (by decide)
              obtain ⟨b8', fb8⟩ := hS6.out.zero.2 8 (by decide)
              go_wp2_with fail
              obtain ⟨q0, q1, q2, q3, q4, q5, q6, q7, q8⟩ := set9_cells (v0 := .int .i64 2) (v1 := .string ⟨#[]⟩) (v2 := .slice none 0 0) (v3 := .int .i64 0) (v4 := .int .i64 (dv : Int)) (v5 := .bool false) (v6 := .slice none 0 0) (v7 := .int .i64 0) (v8 := .bool false) hS6.out.zero rfl
              refine bodyPost_ret (v := .tuple #[.agg #[.int .i64 2, .string ⟨#[]⟩, .slice none 0 0, .int .i64 0, .int .i64 (dv : Int), .bool false, .slice none 0 0, .int .i64 0, .bool false], .int .i64 0]) (by simp [results, Try.results46, go_sem, q0, q1, q2, q3, q4, q5, q6, q7, q8]) rfl ?_
              obtain ⟨z1, z2, z3⟩ := numT_good HLEAD.out HB.out (by rw [HZ.out]; exact HBO.out) HBL.out HBIG.out HQ.out
              subst z1 z2 z3
              exact ⟨_, rfl, fun h => absurd rfl h, fun _ => ⟨⟨_, _, by rw [HDV.out]; rfl, World.ownsRow_nil _ _ _ _, World.ownsRow_nil _ _ _ _⟩, set9_mv hS6.out.mv (Nat.le_refl _) hg⟩, (set9_mv hS6.out.mv (Nat.le_refl _) hg).grown⟩
            · have HN := hide (num_digits_big h0 HD.out hbig)
              have HBIG := hide hbig
              clear hbig
              go_wp2_with fail
              refine (lnum_is (Nat.le_refl _) rfl HRA.out hca1 hca2 (by omega) HN.out).mono ?_
              rintro e6 w6 ⟨rfl, hb6⟩
              have hS6 := hide (show SgS w (w6.alloc (.cells #[.int .i64 2, .int .i64 0] 34)) g A u.length c (k + d.length) from ((hS5.out.below hg hb6).below hg ((Below.refl _ _).alloc (Nat.le_refl _) _)))
              clear hb6 hS5
              obtain ⟨b0', fb0⟩ := hS6.out.zero.2 0 (by decide)
              obtain ⟨b1', fb1⟩ := hS6.out.zero.2 1 (by decide)
              obtain ⟨b2', fb2⟩ := hS6.out.zero.2 2 (by decide)
              obtain ⟨b3', fb3⟩ := hS6.out.zero.2 3 (by decide)
              obtain ⟨b4', fb4⟩ := hS6.out.zero.2 4 (by decide)
              obtain ⟨b5', fb5⟩ := hS6.out.zero.2 5 (by decide)
              obtain ⟨b6', fb6⟩ := hS6.out.zero.2 6 (by decide)
              obtain ⟨b7', fb7⟩ := hS6.out.zero.2 7 (by decide)
              obtain ⟨b8', fb8⟩ := hS6.out.zero.2 8 (by decide)
              go_wp2_with fail
              obtain ⟨q0, q1, q2, q3, q4, q5, q6, q7, q8⟩ := set9_cells (v0 := .int .i64 0) (v1 := .string ⟨#[]⟩) (v2 := .slice none 0 0) (v3 := .int .i64 0) (v4 := .int .i64 0) (v5 := .bool false) (v6 := .slice none 0 0) (v7 := .int .i64 0) (v8 := .bool false) hS6.out.zero rfl
              refine bodyPost_ret (v := .tuple #[.agg #[.int .i64 0, .string ⟨#[]⟩, .slice none 0 0, .int .i64 0, .int .i64 0, .bool false, .slice none 0 0, .int .i64 0, .bool false], .int .i64 6]) (by simp [results, Try.results46, go_sem, q0, q1, q2, q3, q4, q5, q6, q7, q8]) rfl ?_
              obtain ⟨z1, z2, z3⟩ := numT_over HLEAD.out HB.out (by rw [HZ.out]; exact HBO.out) HBL.out HBIG.out HQ.out
              subst z1
              exact ⟨_, rfl, fun _ => rfl, fun h => absurd h (by decide), (set9_mv hS6.out.mv (Nat.le_refl _) hg).grown⟩
end Go.Proofs.Ytngcikgjdeomdaa
