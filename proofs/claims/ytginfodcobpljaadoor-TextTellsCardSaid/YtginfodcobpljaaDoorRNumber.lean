/- renref3.Number, walked. No condition but the lengths. -/
import Derived.Test.YtginfodcobpljaaDoorRTell3
namespace Go.Proofs.YtginfodcobpljaaDoor
open Go.RowKit

theorem balloc' {a b : World} (h : Below a.heap.size a b) (o : Obj) : Below a.heap.size a (b.alloc o) := h.alloc h.size o
theorem digitsF_is {xs : List UInt16} (h : digitsF xs = true) : (∀ x ∈ xs, isDigit x = true) ∧ 0 < xs.length := by simpa [digitsF] using h
theorem digitsF_no {xs : List UInt16} (h : digitsF xs = false) : ¬ (xs ≠ [] ∧ xs.all isDigit = true) := by
  rintro ⟨h1, h2⟩
  rw [digitsF, h2, decide_eq_true (List.length_pos_iff.2 h1)] at h
  cases h
theorem numT_odd {ts : List UInt16} (h0 : 0 < ts.length) (h : ¬ restOf ts = infinity) (hd : ¬ (restOf ts ≠ [] ∧ (restOf ts).all isDigit = true)) : numT ts = (⟨2, 0⟩, !strangeF ts) := by
  rw [numT_eq h0, baseT, if_neg h, if_neg hd]
  by_cases hs : signOf ts = true
  · rw [if_pos hs]; rfl
  · rw [if_neg hs]
theorem r3numeric_odd {A : Option Addr} {c B : Nat} {xs : List UInt16} {w : World} (ha : Reads w B 1 A xs.length (u16s xs)) (hl : xs.length ≤ 70368744177664) :
    Calls Tryd.prog 51 #[.slice A xs.length c, .string ⟨#[120, 88, 111, 79, 46, 43, 45, 95]⟩] w fun e w' => e = .returned (.bool (strangeF xs)) ∧ w = w' := by
  have h := r3numeric_any (c := c) ⟨#[120, 88, 111, 79, 46, 43, 45, 95]⟩ ha hl (by decide)
  rw [show numericF (⟨#[120, 88, 111, 79, 46, 43, 45, 95]⟩ : ByteArray).data.toList xs = strangeF xs from numericF_odd xs] at h
  exact h

set_option maxHeartbeats 8000000 in
set_option maxRecDepth 100000 in
theorem r3number_any {A : Option Addr} {c B : Nat} {xs : List UInt16} {w : World} (hB : B ≤ w.heap.size) (ha : Reads w B 1 A xs.length (u16s xs)) (hc : xs.length ≤ c) (hc2 : c ≤ maxLen) (hl : xs.length ≤ 70368744177664) :
    Calls Tryd.prog 32 #[.slice A xs.length c] w fun e w' => e = .returned (.tuple #[.agg #[.int .i64 (numF xs).1.kind, .int .i64 (numF xs).1.n], .bool (numF xs).2]) ∧ Below w.heap.size w w' := by
  go_enter Tryd.func32, Tryd.ntmps32
  go_wp2_with fail
  refine (r3trim_any (ha.alloc hB _) hc hc2 hl).mono ?_
  rintro e w' ⟨v, rfl, ⟨A1, c1, rfl, hc1, hc3, hr⟩, hle, hw⟩
  subst hw
  have hN := hide (show numF xs = numT (trimF xs) from rfl)
  generalize trimF xs = ts at *
  by_cases h0 : ts.length = 0
  · have h1 : ts = [] := List.eq_nil_of_length_eq_zero h0
    have hN2 := hide (show numF xs = (⟨0, 0⟩, true) by rw [hN.out, h1]; rfl)
    clear hN
    subst h1
    go_wp2
    go_returns
    rw [hN2.out]
    exact ⟨rfl, by go_grown⟩
  have e0 : ((ts.length : Int) == 0) = false := beq_eq_false_iff_ne.2 (by omega)
  have hpos : 0 < ts.length := by omega
  clear h0
  have hz : (0 : Int) < (ts.length : Int) := by omega
  have hW1b : Below w.heap.size w (w.alloc (.cells #[.int .i64 0, .int .i64 0] 33)) := by go_grown
  have hW1n : NumAt (w.alloc (.cells #[.int .i64 0, .int .i64 0] 33)) w.heap.size 0 0 := NumAt.new _ _ _ _
  have hW1s : (w.alloc (.cells #[.int .i64 0, .int .i64 0] 33)).heap.size = w.heap.size + 1 := by simp
  generalize (w.alloc (.cells #[.int .i64 0, .int .i64 0] 33)) = W at *
  have HWS := hide hW1s
  have HWB := hide hW1b
  have HWN := hide hW1n
  have hr0 := hide hr
  clear hW1s hW1b hW1n ha
  obtain ⟨ad, hA, _, hca⟩ := hr.u16_0 hpos
  subst hA
  obtain ⟨sg, hsg⟩ : ∃ sg, ((ts[0].toNat : Int) == 45) = sg := ⟨_, rfl⟩
  have HSG := hide (show sg = signOf ts by rw [signOf_at hpos, hsg])
  clear hr
  go_upto_region 6 with (fail)
  go_cut [26] (fun s wx => (∃ si, s = .bool si ∧ Hid (si = isSigned ts)) ∧ wx = W)
  case first =>
    have HI := hide (isSigned_at hpos)
    cases sg
    · go_wp2_with fail
      go_meet
      exact ⟨⟨_, rfl, by rw [HI.out, ← HSG.out]; rfl⟩, rfl⟩
    · go_wp2_with fail
      go_meet
      exact ⟨⟨_, rfl, by rw [HI.out, ← HSG.out]; rfl⟩, rfl⟩
  case rest =>
    obtain ⟨⟨si, hs, hsi⟩, hw⟩ := hcut
    subst hs hw
    go_upto_if 26 with (fail)
    go_cut [6] (fun d wx => Sl wc B d (restOf ts) ∧ wx = wc)
    case first =>
      have HR := hide (restOf_eq ts)
      cases si
      · go_wp2_with fail
        go_meet
        exact ⟨by rw [HR.out, if_neg (by rw [← hsi.out]; simp)]; exact ⟨_, c1, rfl, hc1, hc3, hr0.out⟩, rfl⟩
      · have HC := hide (Sl.cut1 hr0.out hpos hc1 hc3)
        by_cases hcc : c1 = 1
        · subst hcc
          go_wp2_with fail
          go_meet
          have hz2 : ts.length - 1 = 0 := by omega
          exact ⟨by rw [HR.out, if_pos hsi.out.symm]; have h := HC.out; rw [hz2] at h; exact h, rfl⟩
        · rw [if_neg hcc] at HC
          go_wp2_with fail
          go_meet
          exact ⟨by rw [HR.out, if_pos hsi.out.symm]; exact HC.out, rfl⟩
    case rest =>
      obtain ⟨⟨A2, c2, hd, hd1, hd3, hd4⟩, hw⟩ := hcut
      subst hd hw
      clear hsi
      go_upto_region 8 with (fail)
      go_wp2_with fail
      refine (nan_any _).mono ?_
      rintro e w2 ⟨rfl, hb2⟩
      have hs2 := hb2.size
      have hrlen : (restOf ts).length ≤ 70368744177664 := by
        have h : (restOf ts).length ≤ ts.length := by
          rw [restOf_eq]; split
          · rw [List.length_drop]; omega
          · exact Nat.le_refl _
        omega
      have hg0 : w.heap.size < w2.heap.size := by have := HWS.out; omega
      go_upto_block 0 with (fail)
      have hN2' : NumAt (w2.alloc (.cells #[.int .i64 2, .int .i64 0] 33)) w2.heap.size 2 0 := NumAt.new _ _ _ _
      have hb02 : Below wc.heap.size wc (w2.alloc (.cells #[.int .i64 2, .int .i64 0] 33)) := balloc' hb2 _
      have hs02 : (w2.alloc (.cells #[.int .i64 2, .int .i64 0] 33)).heap.size = w2.heap.size + 1 := by simp
      generalize (w2.alloc (.cells #[.int .i64 2, .int .i64 0] 33)) = W3 at *
      have hN2 := hide hN2'
      have hN0 := hide (HWN.out.below hb02 (by have := HWS.out; omega))
      have hbel := hide (HWB.out.trans (hb02.mono (by have := HWS.out; omega)))
      have hrd := hide (hd4.below (hb02.mono (by have := HWS.out; omega)))
      have hrt := hide (hr0.out.below (hb02.mono (by have := HWS.out; omega)))
      have hgl : w2.heap.size < W3.heap.size := by omega
      have hgB : B ≤ W3.heap.size := by have := HWS.out; omega
      have HS02 := hide hs02
      clear hN2' hb02 hs02 hd4 hb2 hs2
      go_cut [8] (fun _ wx => ∃ k n, NumAt wx w2.heap.size k n ∧ NumAt wx w.heap.size 0 0 ∧ Below w.heap.size w wx ∧ w2.heap.size < wx.heap.size ∧ BaseOk ts k n true)
      case first =>
        by_cases hinf : restOf ts = infinity
        · have HB := hide (show BaseOk ts 3 0 true by have h := BaseOk.inf hinf; rwa [strange_inf hinf] at h)
          have HI := hide hinf
          clear hinf
          go_wp2_with (first | (go_at_call 18; refine (rascii_inf _).mono ?_; rintro e w3 ⟨A3, c3, rfl, hr3, hb3⟩; have hs3 := hb3.size) | (go_at_call 15; refine (runits_any (Nat.le_refl _) ((hrd.out.below (hb3.mono hgB)).more (by omega)) hr3 hrlen (by decide)).mono ?_; rintro e w4 ⟨rfl, hb4⟩; rw [decide_eq_true HI.out]; have hb34 := (hb3.trans (hb4.mono hb3.size)); obtain ⟨q0, q1, q2, q3⟩ := hN2.out.below hb34 hgl; obtain ⟨p0, p1, p2, p3⟩ := hN0.out.below hb34 (by omega); have hbg := hb34.mono (Nat.le_of_lt hgl)))
          go_meet
          exact ⟨3, 0, fin_set hN0.out hbel.out hbg hg0 (Nat.le_refl _) q0 q1 q2 q3 3 0 HB.out⟩
        · have HI := hide hinf
          clear hinf
          cases hdg : digitsF (restOf ts) with
          | true =>
            obtain ⟨hall, hl0⟩ := digitsF_is hdg
            have HDD := hide (show restOf ts ≠ [] ∧ (restOf ts).all isDigit = true from ⟨List.ne_nil_of_length_pos hl0, List.all_eq_true.2 hall⟩)
            have HA := hide hall
            have HDG := hide hdg
            clear hall hl0 hdg
            by_cases hfit : decVal (restOf ts) ≤ 9007199254740991
            · have HF := hide hfit
              have HW := hide (show wholeF (restOf ts) = (decVal (restOf ts) : Int) by unfold wholeF; rw [if_pos hfit])
              go_wp2_with (first | (go_at_call 18; refine (rascii_inf _).mono ?_; rintro e w3 ⟨A3, c3, rfl, hr3, hb3⟩; have hs3 := hb3.size) | (go_at_call 15; refine (runits_any (Nat.le_refl _) ((hrd.out.below (hb3.mono hgB)).more (by omega)) hr3 hrlen (by decide)).mono ?_; rintro e w4 ⟨rfl, hb4⟩; rw [decide_eq_false HI.out]; have hb34 := (hb3.trans (hb4.mono hb3.size)); obtain ⟨q0, q1, q2, q3⟩ := hN2.out.below hb34 hgl; obtain ⟨p0, p1, p2, p3⟩ := hN0.out.below hb34 (by omega); have hbg := hb34.mono (Nat.le_of_lt hgl)) | (go_at_call 49; refine (r3digits_any (hrd.out.below (hb34.mono hgB)) hrlen).mono ?_; rw [HDG.out]; rintro e w5 ⟨rfl, rfl⟩) | (go_at_call 50; refine (r3whole_any (hrd.out.below (hb34.mono hgB)) hrlen HA.out).mono ?_; rw [HW.out]; rintro e w5 ⟨rfl, rfl⟩))
              go_meet
              exact ⟨0, _, fin_set hN0.out hbel.out hbg hg0 (Nat.le_refl _) q0 q1 q2 q3 0 _ (BaseOk.dig HI.out HDD.out HF.out)⟩
            · have HF := hide hfit
              have HN2 := hide (hN.out.trans (numT_big hpos HI.out HDD.out HF.out))
              have HW := hide (show wholeF (restOf ts) = -1 by unfold wholeF; rw [if_neg hfit])
              clear hfit
              go_wp2_with (first | (go_at_call 18; refine (rascii_inf _).mono ?_; rintro e w3 ⟨A3, c3, rfl, hr3, hb3⟩; have hs3 := hb3.size) | (go_at_call 15; refine (runits_any (Nat.le_refl _) ((hrd.out.below (hb3.mono hgB)).more (by omega)) hr3 hrlen (by decide)).mono ?_; rintro e w4 ⟨rfl, hb4⟩; rw [decide_eq_false HI.out]; have hb34 := (hb3.trans (hb4.mono hb3.size)); obtain ⟨q0, q1, q2, q3⟩ := hN2.out.below hb34 hgl; obtain ⟨p0, p1, p2, p3⟩ := hN0.out.below hb34 (by omega); have hbg := hb34.mono (Nat.le_of_lt hgl)) | (go_at_call 49; refine (r3digits_any (hrd.out.below (hb34.mono hgB)) hrlen).mono ?_; rw [HDG.out]; rintro e w5 ⟨rfl, rfl⟩) | (go_at_call 50; refine (r3whole_any (hrd.out.below (hb34.mono hgB)) hrlen HA.out).mono ?_; rw [HW.out]; rintro e w5 ⟨rfl, rfl⟩))
              obtain ⟨f0, f1, _, _⟩ := NumAt.set p0 p1 p2 p3 2 0
              refine bodyPost_ret (v := .tuple #[.agg #[.int .i64 2, .int .i64 0], .bool false]) (by simp [results, Tryd.results32, go_sem, f0, f1]) rfl ?_
              rw [HN2.out]
              exact ⟨rfl, below_setg (Nat.le_refl _) (hbel.out.trans (hb34.mono (by omega))) _ _⟩
          | false =>
            have HDG := hide hdg
            have HDD := hide (show ¬ (restOf ts ≠ [] ∧ (restOf ts).all isDigit = true) from digitsF_no hdg)
            have HN2 := hide (show numF xs = (⟨2, 0⟩, !strangeF ts) from hN.out.trans (numT_odd hpos HI.out HDD.out))
            clear hdg
            go_wp2_with (first | (go_at_call 18; refine (rascii_inf _).mono ?_; rintro e w3 ⟨A3, c3, rfl, hr3, hb3⟩; have hs3 := hb3.size) | (go_at_call 15; refine (runits_any (Nat.le_refl _) ((hrd.out.below (hb3.mono hgB)).more (by omega)) hr3 hrlen (by decide)).mono ?_; rintro e w4 ⟨rfl, hb4⟩; rw [decide_eq_false HI.out]; have hb34 := (hb3.trans (hb4.mono hb3.size)); obtain ⟨q0, q1, q2, q3⟩ := hN2.out.below hb34 hgl; obtain ⟨p0, p1, p2, p3⟩ := hN0.out.below hb34 (by omega); have hbg := hb34.mono (Nat.le_of_lt hgl)) | (go_at_call 49; refine (r3digits_any (hrd.out.below (hb34.mono hgB)) hrlen).mono ?_; rw [HDG.out]; rintro e w5 ⟨rfl, rfl⟩))
            have hrt4 := hrt.out.below (hb34.mono hgB)
            go_region_with (go_at_call 51; refine (r3numeric_odd (by exact hrt4) (by omega)).mono ?_; rintro e w9 ⟨rfl, hw9⟩; subst hw9)
            all_goals go_wp2
            all_goals obtain ⟨f0, f1, _, _⟩ := NumAt.set p0 p1 p2 p3 2 0
            all_goals refine bodyPost_ret (v := .tuple #[.agg #[.int .i64 2, .int .i64 0], .bool (!strangeF ts)]) (by simp [results, Tryd.results32, go_sem, f0, f1]) rfl ?_
            all_goals rw [HN2.out]
            all_goals first | exact ⟨rfl, (below_setg (Nat.le_refl _) (hbel.out.trans (hb34.mono (by omega))) _ _).drew⟩ | exact ⟨rfl, below_setg (Nat.le_refl _) (hbel.out.trans (hb34.mono (by omega))).drew _ _⟩
      case rest =>
        obtain ⟨k, nn, hg, hz0, hbf, hgl2, hbase⟩ := hcut
        have HBS := hide hbase
        clear hbase
        have HG := hide hg
        have HZ := hide hz0
        obtain ⟨q0, q1, q2, q3⟩ := hg
        obtain ⟨p0, p1, p2, p3⟩ := hz0
        cases sg with
        | false =>
          have HN2 := hide (hN.out.trans (numT_pos hpos HSG.out HBS.out))
          go_wp2
          obtain ⟨f0, f1, _, _⟩ := NumAt.set p0 p1 p2 p3 k nn
          refine bodyPost_ret (v := .tuple #[.agg #[.int .i64 k, .int .i64 nn], .bool true]) (by simp [results, Tryd.results32, go_sem, f0, f1]) rfl ?_
          rw [HN2.out]
          exact ⟨rfl, below_setg (Nat.le_refl _) hbf _ _⟩
        | true =>
          have HN2 := hide (hN.out.trans (numT_neg hpos HSG.out HBS.out))
          go_wp2_with (go_at_call 52; refine (r3neg_base HBS.out _).mono ?_; rintro e w6 ⟨rfl, hb6⟩; obtain ⟨t0, t1, t2, t3⟩ := HG.out.below hb6 hgl2; obtain ⟨s0, s1, s2, s3⟩ := HZ.out.below hb6 (by omega); have hs6 := hb6.size)
          have hbz := below_setg (D := w.heap.size + 1) (g := w2.heap.size) (by omega) (Below.refl _ w6) (.int .i64 (negNm ⟨k, nn⟩).kind) (.int .i64 (negNm ⟨k, nn⟩).n)
          obtain ⟨z0, z1, z2, z3⟩ := (HZ.out.below hb6 (by omega)).below hbz (by omega)
          obtain ⟨f0, f1, _, _⟩ := NumAt.set z0 z1 z2 z3 (negNm ⟨k, nn⟩).kind (negNm ⟨k, nn⟩).n
          refine bodyPost_ret (v := .tuple #[.agg #[.int .i64 (negNm ⟨k, nn⟩).kind, .int .i64 (negNm ⟨k, nn⟩).n], .bool true]) (by simp [results, Tryd.results32, go_sem, f0, f1]) rfl ?_
          rw [HN2.out]
          exact ⟨rfl, below_setg (Nat.le_refl _) ((hbf.trans (hb6.mono (by omega))).trans (hbz.mono (by omega))) _ _⟩
end Go.Proofs.YtginfodcobpljaaDoor
