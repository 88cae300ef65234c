/- The law LexJoins, walked. -/
import Derived.Test.YtngcikgjdeomdaaRTok2
import Derived.Test.YtngcikgjdeomdaaPJoin
namespace Go.Proofs.Ytngcikgjdeomdaa
open Go.RowKit

theorem cast_sum (a b : Nat) : ((a + (b + 1) : Nat) : Int) = (a : Int) + ((b : Int) + 1) := by omega
/-- what the two sources with a line end between are -/
structure JoinQ (u : List UInt16) (ts ts2 ts3 : List Tok) (a2 e2 a3 e3 N N2 N3 : Nat) : Prop where
  bad : e2 ≠ 0 → e3 = e2 ∧ a3 = a2 + (u.length + 1)
  good : e2 = 0 → e3 = 0 ∧ ∃ init l, ts = init ++ [l] ∧ ts3 = init ++ (nl0 (ts2.map (shiftT (u.length + 1)), 0, 0)).1 ∧ N = init.length + 1 ∧ N3 = init.length + N2
theorem joinQ {u v : List UInt16} {ts ts2 ts3 : List Tok} {a2 e2 a3 e3 : Nat} (h : ∀ x r, v = x :: r → x.toNat ≠ 35) (hu : u.length ≤ 2000) (hv : v.length ≤ 2000) (hq : lexF u = (ts, 0, 0)) (hq2 : lexF v = (ts2, a2, e2)) (hq3 : lexF ((u ++ [10]) ++ v) = (ts3, a3, e3)) :
    JoinQ u ts ts2 ts3 a2 e2 a3 e3 ts.length ts2.length ts3.length := by
  obtain ⟨init, b, h1, h2⟩ := joins_law h hu hv hq
  rw [hq3, hq2] at h2
  refine ⟨fun he => ?_, fun he => ?_⟩
  · unfold prep addQ nl0 at h2
    simp only [he, ne_eq, not_false_eq_true, if_true, Prod.mk.injEq] at h2
    exact ⟨h2.2.2, h2.2.1⟩
  · subst he
    have h3 : ts3 = init ++ (nl0 (ts2.map (shiftT (u.length + 1)), 0, 0)).1 ∧ e3 = 0 := by
      unfold prep addQ nl0 at h2
      simp only [ne_eq, not_true_eq_false, if_false, Prod.mk.injEq] at h2
      exact ⟨h2.1, h2.2.2⟩
    refine ⟨h3.2, init, _, h1, h3.1, by rw [h1]; simp, by rw [h3.1, List.length_append, nl0_len, List.length_map]⟩
set_option maxHeartbeats 16000000 in
set_option maxRecDepth 100000 in
theorem lexJoins_law (A : Option Addr) (c : Nat) (u : List UInt16) (hc : u.length ≤ c) (hm : c ≤ maxLen) (A' : Option Addr) (c' : Nat) (v : List UInt16) (hc' : v.length ≤ c') (hm' : c' ≤ maxLen) (w : World) (hr : Reads w w.heap.size 1 A u.length (u16s u)) (hr' : Reads w w.heap.size 1 A' v.length (u16s v)) :
    Calls Try.prog 5 #[.slice A u.length c, .slice A' v.length c'] w fun e w' => e = .returned (.bool true) ∧ Below w.heap.size w w' := by
  obtain ⟨i0, hi0, hz0, hz1, hz2⟩ := info_parts Try.info_u16
  by_cases hlong : 2000 < u.length
  · have h2 : (2000 : Int) < (u.length : Int) := by omega
    go_enter Try.func5, Try.ntmps5
    go_wp2_with fail
    refine (lfirst_any w).mono ?_
    rintro e w1 ⟨rfl, hb1⟩
    go_wp2_with fail
    refine (lfirst_any w1).mono ?_
    rintro e w2 ⟨rfl, hb2⟩
    go_wp2_with fail
    go_ret
    exact ⟨rfl, bstep hb1 hb2⟩
  have hl : u.length ≤ 2000 := by omega
  by_cases hlong2 : 2000 < v.length
  · have h2 : (2000 : Int) < (v.length : Int) := by omega
    have h3 : decide ((2000 : Int) < (u.length : Int)) = false := decide_eq_false (by omega)
    go_enter Try.func5, Try.ntmps5
    go_wp2_with fail
    refine (lfirst_any w).mono ?_
    rintro e w1 ⟨rfl, hb1⟩
    go_wp2_with fail
    refine (lfirst_any w1).mono ?_
    rintro e w2 ⟨rfl, hb2⟩
    go_wp2_with fail
    go_ret
    exact ⟨rfl, bstep hb1 hb2⟩
  have hl2 : v.length ≤ 2000 := by omega
  have h3u : decide ((2000 : Int) < (u.length : Int)) = false := decide_eq_false (by omega)
  have h3v : decide ((2000 : Int) < (v.length : Int)) = false := decide_eq_false (by omega)
  by_cases hash : ∃ x r, v = x :: r ∧ x.toNat = 35
  · obtain ⟨x, r, rfl, hx⟩ := hash
    obtain ⟨blk, off, rfl, hblk, hcell⟩ := hr'.spotL (by simp)
    have hca := hcell 0 (by simp)
    simp only [List.getElem_cons_zero, Nat.add_zero] at hca
    have e35 : ((x.toNat : Int) == 35) = true := by rw [hx]; rfl
    have hlen : 0 < (x :: r).length := by simp
    obtain ⟨n, hn⟩ : ∃ n, (x :: r).length = n := ⟨_, rfl⟩
    rw [hn] at hl2 hlen h3v ⊢
    clear hr hr' hcell hx hlong hlong2 hc' hn
    go_enter Try.func5, Try.ntmps5
    go_wp2_with fail
    refine (lfirst_any w).mono ?_
    rintro e w1 ⟨rfl, hb1⟩
    have hcb : w1.cell? ⟨blk, off, none⟩ = some (.int .u16 (x.toNat : Int)) := (hb1.cell (p := ⟨blk, off, none⟩) hblk).trans hca
    clear hca
    go_wp2_with fail
    refine (lfirst_any w1).mono ?_
    rintro e w2 ⟨rfl, hb2⟩
    go_wp2_with fail
    go_ret
    exact ⟨rfl, bstep hb1 hb2⟩
  have hno : ∀ x r, v = x :: r → x.toNat ≠ 35 := fun x r h h2 => hash ⟨x, r, h, h2⟩
  obtain ⟨⟨ts, at0, er⟩, hq⟩ : ∃ q, lexF u = q := ⟨_, rfl⟩
  obtain ⟨⟨ts2, a2, e2⟩, hq2⟩ : ∃ q, lexF v = q := ⟨_, rfl⟩
  obtain ⟨⟨ts3, a3, e3⟩, hq3⟩ : ∃ q, lexF ((u ++ [10]) ++ v) = q := ⟨_, rfl⟩
  have hq0 := lexF_at (u := u) (by omega)
  have hq1 := lexF_ok (u := u) (by omega)
  have hq2l := lexF_at (u := v) (by omega)
  have hsm := lex_small (u := u) (by omega)
  have hsm2 := lex_small (u := v) (by omega)
  have hmany := lexF_many (u := u) (by omega)
  have hmany2 := lexF_many (u := v) (by omega)
  have hal : ((u ++ [10]) ++ v).length = u.length + 1 + v.length := by simp; omega
  rw [hq] at hq0 hq1 hsm hmany
  rw [hq2] at hq2l hsm2 hmany2
  simp only at hq0 hq1 hsm hq2l hsm2 hmany hmany2
  have HJ := hide (fun h : er = 0 => joinQ hno hl hl2 (by rw [hq, hq1 h, h]) hq2 hq3)
  have HQ := hide hq
  have HQ2 := hide hq2
  have HQ3 := hide hq3
  have HQ0 := hide hq0
  have HQ2L := hide hq2l
  have HSM := hide hsm
  have HSM2 := hide hsm2
  have HAL := hide hal
  have HR := hide hr
  have HR' := hide hr'
  have hx0 : ∀ (h : 0 < v.length), ((v[0].toNat : Int) == 35) = false := fun h => beq_eq_false_iff_ne.2 (by
    have := hno v[0] (v.drop 1) (by rw [← List.drop_eq_getElem_cons h]; rfl)
    omega)
  have HX0 := hide hx0
  obtain ⟨N, hN⟩ : ∃ N, ts.length = N := ⟨_, rfl⟩
  obtain ⟨N2, hN2⟩ : ∃ N, ts2.length = N := ⟨_, rfl⟩
  obtain ⟨N3, hN3⟩ : ∃ N, ts3.length = N := ⟨_, rfl⟩
  rw [hN] at hmany HJ
  rw [hN2] at hmany2 HJ
  rw [hN3] at HJ
  have HN := hide hN
  have HN2 := hide hN2
  have HN3 := hide hN3
  clear hlong hlong2 hash hno hq hq2 hq3 hq0 hq1 hq2l hsm hsm2 hal hr hr' hx0 hN hN2 hN3
  go_enter Try.func5, Try.ntmps5
  go_wp2_with fail
  refine (lfirst_any w).mono ?_
  rintro e w1 ⟨rfl, hb1⟩
  have HB1 := hide hb1
  have HR1 := hide (HR.out.below hb1)
  have HR1' := hide (HR'.out.below hb1)
  have hs1 : w.heap.size ≤ w1.heap.size := hb1.size
  clear hb1 HR HR'
  go_upto_region 3 with (fail)
  go_cut [36] (fun v wx => v = .bool false ∧ w1 = wx)
  case first =>
    by_cases h0 : 0 < v.length
    · obtain ⟨blk, off, rfl, _, hcell⟩ := HR1'.out.spotL h0
      have hca := hcell 0 h0
      simp only [Nat.add_zero] at hca
      have e35 := HX0.out h0
      obtain ⟨x, hx⟩ : ∃ x, v[0] = x := ⟨_, rfl⟩
      rw [hx] at hca e35
      clear hcell hx
      go_wp2_with fail
      go_meet
      exact ⟨by first | rfl | (simp only [h3u, h3v]; rfl), rfl⟩
    · have hz : v.length = 0 := by omega
      have HZ := hide hz
      clear hz
      go_wp2_with fail
      go_meet
      exact ⟨by first | rfl | (simp only [h3u, h3v]; rfl), rfl⟩
  case rest =>
    obtain ⟨hv, hwx⟩ := hcut
    subst hv hwx
    go_wp2_with fail
    refine (ltok_is (w := w1) (B := w.heap.size) hs1 rfl HR1.out hc hm HQ.out HN.out).mono ?_
    rintro e w2 ⟨A2, c2, rfl, ht2, hc2, _, hb2⟩
    have HT2 := hide ht2
    have hs2 : w1.heap.size ≤ w2.heap.size := hb2.size
    have HB2 := hide (bstep HB1.out hb2)
    have HR2 := hide (HR1.out.below (hb2.mono hs1))
    have HR2' := hide (HR1'.out.below (hb2.mono hs1))
    clear hb2 ht2 HR1 HR1' HB1
    go_wp2_with fail
    refine (ltok_is (w := w2) (B := w.heap.size) (by omega) rfl HR2'.out hc' hm' HQ2.out HN2.out).mono ?_
    rintro e w3 ⟨A3, c3, rfl, ht3, hc3, _, hb3⟩
    have HT3 := hide ht3
    have hs3 : w2.heap.size ≤ w3.heap.size := hb3.size
    have HT23 := hide (HT2.out.below hb3)
    have HB3 := hide (bstep HB2.out hb3)
    have HR3 := hide (HR2.out.below (hb3.mono (by omega)))
    have HR3' := hide (HR2'.out.below (hb3.mono (by omega)))
    clear hb3 ht3 HR2 HR2' HB2 HT2
    go_wp2_with fail
    refine (copyUnits_any (w := w3) (B := w.heap.size) (by omega) HR3.out (by omega)).mono ?_
    rintro e w4 ⟨v4, rfl, hm4⟩
    have HM4 := hide hm4
    clear hm4
    go_wp2_with (first | (at_builtin; refine wpList_lit rfl _ _ 22 rfl 32 i0 _ 2 Try.underlying22 hi0 hz0 hz1 hz2 rfl v4 (u16s u) rfl HM4.out [.int .u16 10] 1 1 rfl rfl rfl (by rw [u16s_len]; omega) (by omega) ?_; intro v5 w5 hm5; have H5 := hide hm5; clear hm5; have HR5 := hide (HR3'.out.below (H5.out.below.mono (show w.heap.size ≤ w3.heap.size by omega)))) | (at_builtin; refine wpList_any rfl _ _ 22 rfl 32 i0 _ 2 Try.underlying22 hi0 hz0 hz1 hz2 rfl v5 (u16s u ++ [.int .u16 10]) rfl H5.out w.heap.size A' v.length c' (u16s v) rfl HR5.out (u16s_one _) (by simp [u16s]; omega) (by omega) ?_; intro v6 w6 hm6; have H6 := hide (show Made w3 w6 32 v6 (u16s ((u ++ [10]) ++ v)) from hm6.cells (by simp [u16s, u16v])); clear hm6))
    obtain ⟨A6, c6, rfl, hl6, hx6, hr6⟩ := H6.out.u16
    rw [HAL.out] at hl6 hr6 ⊢
    refine (ltok_is (w := w6) (Nat.le_refl _) HAL.out hr6 hl6 hx6 HQ3.out HN3.out).mono ?_
    rintro e w7 ⟨A7, c7, rfl, ht7, hc7, _, hb7⟩
    have HT7 := hide ht7
    have HB7 := hide (bstep HB3.out (bstep H6.out.below hb7))
    have HT27 := hide (HT23.out.below (bstep H6.out.below hb7))
    have HT37 := hide (HT3.out.below (bstep H6.out.below hb7))
    have hs7 : w3.heap.size ≤ w7.heap.size := (bstep H6.out.below hb7).size
    clear hl6 hx6 hr6 ht7 hb7 HT23 HT3 HB3 HR3 HR3' HM4 H5 HR5 H6 HAL
    by_cases her : er = 0
    · have e1 : ((er : Int) != 0) = false := by rw [her]; rfl
      have HQJ := hide (HJ.out her)
      clear her HJ
      by_cases he2 : e2 = 0
      · obtain ⟨he3, init, l, hts, hts3, hNi, hN3i⟩ := HQJ.out.good he2
        subst he2 he3
        obtain ⟨M, hM⟩ : ∃ M, init.length = M := ⟨_, rfl⟩
        rw [hM] at hNi hN3i
        have HM := hide hM
        have HTS := hide hts
        have HTS3 := hide hts3
        have HNi := hide hNi
        have HN3i := hide hN3i
        have eN0 : ((N : Int) == 0) = false := beq_eq_false_iff_ne.2 (by omega)
        have hwM : IntKind.i64.wrap ((N : Int) - 1) = (M : Int) := by rw [IntKind.wrap_i64]; omega
        have hwQ : IntKind.i64.wrap ((M : Int) + (N2 : Int)) = (N3 : Int) := by rw [IntKind.wrap_i64]; omega
        have eQ : ((N3 : Int) != (N3 : Int)) = false := by simp
        have hM0 : (0 : Int) ≤ (M : Int) := by omega
        have hMc : M ≤ c2 := by omega
        have hMc7 : M ≤ c7 := by omega
        have hMl : M ≤ 2001 := by omega
        have hrd1 := hide (show TokRd w7 w7.heap.size A2 init from (show TokL w7 _ (init ++ [l]) (.slice A2 N c2) by rw [← HTS.out]; exact HT27.out).rd (fun t ht => by have := HSM.out t (by rw [HTS.out]; exact List.mem_append_left _ ht); exact ⟨this.1, this.2.1⟩))
        have hrd7 := hide (show TokRd w7 w7.heap.size A7 init from (show TokL w7 _ (init ++ _) (.slice A7 N3 c7) by rw [← HTS3.out]; exact HT7.out).rd (fun t ht => by have := HSM.out t (by rw [HTS.out]; exact List.mem_append_left _ ht); exact ⟨this.1, this.2.1⟩))
        have CT := hide (rtokens_same (c1 := c7) (c2 := c2) (w := w7.drew) (B := w7.heap.size) (Nat.le_refl _) HM.out (hrd7.out.below ((Below.refl w7.heap.size w7).drew)) (hrd1.out.below ((Below.refl w7.heap.size w7).drew)) (by omega))
        have e20 : ((0 : Int) != (0 : Int)) = false := rfl
        clear hM hts hts3 hNi hN3i hrd1 hrd7
        go_wp2_with fail
        go_region_held3 (fun _ => True) (exact True.intro) (first | (go_at_call 16; go_split_ands; (with_reducible refine CT.out.mono ?_); rintro e9 w9 ⟨rfl, hb9⟩))
        have HB9 := hide (bstep HB7.out (below_drew' hb9))
        have HT39 := hide (HT37.out.below (below_drew' hb9))
        have HT79 := hide (HT7.out.below (below_drew' hb9))
        clear hb9 CT
        go_wp2_with fail
        go_loopw [14] (fun i wr => ∃ k : Nat, k ≤ N2 ∧ i = .int .i64 k ∧ Below w9.heap.size w9 wr) (fun i _ => N2 - (intOf i).toNat)
        case atStart => exact ⟨0, Nat.zero_le _, rfl, Below.refl _ _⟩
        case round =>
          obtain ⟨k, hk, rfl, hbr⟩ := hrel
          by_cases hlt : k < N2
          · have hkt : k < ts2.length := by rw [HN2.out]; exact hlt
            obtain ⟨j, hj⟩ : ∃ j, M + k = j := ⟨_, rfl⟩
            have hjN : j < N3 := by have := HN3i.out; omega
            have hjt : j < ts3.length := by rw [HN3.out]; exact hjN
            obtain ⟨g3, rfl, hg3b, hg3, hat3⟩ := HT39.out.at_ (by omega)
            obtain ⟨g7, rfl, hg7b, hg7, hat7⟩ := HT79.out.at_ (by omega)
            obtain ⟨As2, Am2, cs2, cm2, h2⟩ := hat3 k hkt
            obtain ⟨As4, Am4, cs4, cm4, h4⟩ := hat7 j hjt
            have hget : ts3[j] = { shiftT (u.length + 1) ts2[k] with nl := ts2[k].nl || decide (k = 0) } := by
              have h5 : ts3[j]? = some { shiftT (u.length + 1) ts2[k] with nl := ts2[k].nl || decide (k = 0) } := by
                rw [HTS3.out, List.getElem?_append_right (by rw [HM.out]; omega), HM.out, show j - M = k by omega]
                rw [List.getElem?_eq_getElem (by rw [nl0_len, List.length_map]; exact hkt), nl0_get (by rw [nl0_len, List.length_map]; exact hkt) (by rw [List.length_map]; exact hkt), List.getElem_map]
                rfl
              rw [List.getElem?_eq_getElem hjt] at h5
              exact Option.some.inj h5
            rw [hget] at h4
            obtain ⟨hsm1, hsm2, hsm3⟩ := HSM2.out ts2[k] (List.getElem_mem hkt)
            obtain ⟨t, htt⟩ : ∃ t, ts2[k] = t := ⟨_, rfl⟩
            rw [htt] at h2 h4 hsm1 hsm2 hsm3
            clear hat3 hat7 htt hkt hget hjt
            have hBR := hide hbr
            have hr9 : w9.heap.size ≤ wr.heap.size := hbr.size
            have H4 := hide (h4.tokR (B := w9.heap.size) (by exact hsm1) (by exact hsm2) hbr (Nat.le_refl _))
            have H2 := hide (h2.tokR (B := w9.heap.size) hsm1 hsm2 hbr (Nat.le_refl _))
            have a0 : wr.cell? ⟨g3, k * 9, none⟩ = some (.int .i64 (t.kind : Int)) := (hbr.cell (p := ⟨g3, k * 9, none⟩) hg3).trans h2.k0
            have a1 : wr.cell? ⟨g3, k * 9 + 1, none⟩ = some (.string ⟨t.text.toArray⟩) := (hbr.cell (p := ⟨g3, k * 9 + 1, none⟩) hg3).trans h2.k1
            have a2 : wr.cell? ⟨g3, k * 9 + 2, none⟩ = some (.slice As2 t.str.length cs2) := (hbr.cell (p := ⟨g3, k * 9 + 2, none⟩) hg3).trans h2.k2
            have a3 : wr.cell? ⟨g3, k * 9 + 3, none⟩ = some (.int .i64 t.nk) := (hbr.cell (p := ⟨g3, k * 9 + 3, none⟩) hg3).trans h2.k3
            have a4 : wr.cell? ⟨g3, k * 9 + 4, none⟩ = some (.int .i64 t.nn) := (hbr.cell (p := ⟨g3, k * 9 + 4, none⟩) hg3).trans h2.k4
            have a5 : wr.cell? ⟨g3, k * 9 + 5, none⟩ = some (.bool false) := (hbr.cell (p := ⟨g3, k * 9 + 5, none⟩) hg3).trans h2.k5
            have a6 : wr.cell? ⟨g3, k * 9 + 6, none⟩ = some (.slice Am2 t.mag.length cm2) := (hbr.cell (p := ⟨g3, k * 9 + 6, none⟩) hg3).trans h2.k6
            have a7 : wr.cell? ⟨g3, k * 9 + 7, none⟩ = some (.int .i64 (t.pos : Int)) := (hbr.cell (p := ⟨g3, k * 9 + 7, none⟩) hg3).trans h2.k7
            have a8 : wr.cell? ⟨g3, k * 9 + 8, none⟩ = some (.bool t.nl) := (hbr.cell (p := ⟨g3, k * 9 + 8, none⟩) hg3).trans h2.k8
            have HT4r := hide (show T9 wr g7 (j * 9) (.int .i64 (t.kind : Int)) (.string ⟨t.text.toArray⟩) (.slice As4 t.str.length cs4) (.int .i64 t.nk) (.int .i64 t.nn) (.bool false) (.slice Am4 t.mag.length cm4) (.int .i64 ((t.pos : Int) + ((u.length : Int) + 1))) (.bool (t.nl || decide (k = 0))) from (h4.t9 (p := ((t.pos : Int) + ((u.length : Int) + 1))) (nl := (t.nl || decide (k = 0))) (cast_sum _ _) rfl).below hbr hg7)
            clear h2 h4 hbr
            obtain ⟨nl, hnl⟩ : ∃ b, t.nl = b := ⟨_, rfl⟩
            obtain ⟨k0, hk0⟩ : ∃ b, ((k : Int) == 0) = b := ⟨_, rfl⟩
            have HD := hide (show decide (k = 0) = k0 by rw [← hk0, Bool.eq_iff_iff]; simp)
            rw [hnl] at a8 HT4r
            rw [HD.out] at HT4r
            have hwJ : IntKind.i64.wrap ((M : Int) + (k : Int)) = (j : Int) := by rw [IntKind.wrap_i64]; omega
            have hj0 : (0 : Int) ≤ (j : Int) := by omega
            have hj1 : (j : Int) < (N3 : Int) := by omega
            have hd7 : g7 < wr.heap.size := by omega
            have hd3 : g3 < wr.heap.size := by omega
            clear hnl hj
            cases nl <;> cases k0
            · go_wp2_with fail
              obtain ⟨W, hW⟩ : ∃ W, wr.alloc (.cells #[.int .i64 (t.kind : Int), .string ⟨t.text.toArray⟩, .slice As2 t.str.length cs2, .int .i64 t.nk, .int .i64 t.nn, .bool false, .slice Am2 t.mag.length cm2, .int .i64 ((t.pos : Int) + ((u.length : Int) + 1)), .bool false] 39) = W := ⟨_, rfl⟩
              rw [hW]
              have hbW := hide (show Below wr.heap.size wr W by rw [← hW]; exact (Below.refl _ _).alloc (Nat.le_refl _) _)
              have hsW : wr.heap.size + 1 = W.heap.size := by rw [← hW]; simp
              have HTp := hide (show T9 W wr.heap.size 0 (.int .i64 (t.kind : Int)) (.string ⟨t.text.toArray⟩) (.slice As2 t.str.length cs2) (.int .i64 t.nk) (.int .i64 t.nn) (.bool false) (.slice Am2 t.mag.length cm2) (.int .i64 ((t.pos : Int) + ((u.length : Int) + 1))) (.bool false) from T9.of_blk (by rw [← hW]; exact Blk.new wr _ 39))
              have HTm := hide (show T9 W g7 (j * 9) (.int .i64 (t.kind : Int)) (.string ⟨t.text.toArray⟩) (.slice As4 t.str.length cs4) (.int .i64 t.nk) (.int .i64 t.nn) (.bool false) (.slice Am4 t.mag.length cm4) (.int .i64 ((t.pos : Int) + ((u.length : Int) + 1))) (.bool false) from HT4r.out.below hbW.out hd7)
              have H4W := hide (H4.out.below (hbW.out.mono hr9))
              have H2W := hide (H2.out.below (hbW.out.mono hr9))
              have hWW : w9.heap.size ≤ W.heap.size := by omega
              clear hW a0 a1 a2 a3 a4 a5 a6 a7 a8
              have C1 := hide (rtoken_c t.kind t.text t.str t.nk t.nn t.mag (t.pos + (u.length + 1)) ((t.pos : Int) + ((u.length : Int) + 1)) false As4 Am4 As2 Am2 cs4 cm4 cs2 cm2 w9.heap.size W.drew (cast_sum _ _) (by simpa using hWW) H4W.out.str.drew H4W.out.mag.drew H2W.out.str.drew H2W.out.mag.drew H2W.out.strl H2W.out.magl)
              have hd0 : wr.heap.size < W.heap.size := by omega
              have hd4 : g7 < W.heap.size := by omega
              go_region_held3 (fun w' => (w'.cell? ⟨wr.heap.size, 0, none⟩ = some (.int .i64 (t.kind : Int)) ∧ w'.cell? ⟨wr.heap.size, 1, none⟩ = some (.string ⟨t.text.toArray⟩) ∧ w'.cell? ⟨wr.heap.size, 2, none⟩ = some (.slice As2 t.str.length cs2) ∧ w'.cell? ⟨wr.heap.size, 3, none⟩ = some (.int .i64 t.nk) ∧ w'.cell? ⟨wr.heap.size, 4, none⟩ = some (.int .i64 t.nn) ∧ w'.cell? ⟨wr.heap.size, 5, none⟩ = some (.bool false) ∧ w'.cell? ⟨wr.heap.size, 6, none⟩ = some (.slice Am2 t.mag.length cm2) ∧ w'.cell? ⟨wr.heap.size, 7, none⟩ = some (.int .i64 ((t.pos : Int) + ((u.length : Int) + 1))) ∧ w'.cell? ⟨wr.heap.size, 8, none⟩ = some (.bool false)) ∧ (w'.cell? ⟨g7, j * 9, none⟩ = some (.int .i64 (t.kind : Int)) ∧ w'.cell? ⟨g7, j * 9 + 1, none⟩ = some (.string ⟨t.text.toArray⟩) ∧ w'.cell? ⟨g7, j * 9 + 2, none⟩ = some (.slice As4 t.str.length cs4) ∧ w'.cell? ⟨g7, j * 9 + 3, none⟩ = some (.int .i64 t.nk) ∧ w'.cell? ⟨g7, j * 9 + 4, none⟩ = some (.int .i64 t.nn) ∧ w'.cell? ⟨g7, j * 9 + 5, none⟩ = some (.bool false) ∧ w'.cell? ⟨g7, j * 9 + 6, none⟩ = some (.slice Am4 t.mag.length cm4) ∧ w'.cell? ⟨g7, j * 9 + 7, none⟩ = some (.int .i64 ((t.pos : Int) + ((u.length : Int) + 1))) ∧ w'.cell? ⟨g7, j * 9 + 8, none⟩ = some (.bool false)))
                (first | (exact ⟨HTp.out, HTm.out⟩) | (exact ⟨HTp.out.below (below_drew' hb8) hd0, HTm.out.below (below_drew' hb8) hd4⟩) | go_keep)
                (first | (go_at_call 18; go_split_ands; (with_reducible refine C1.out.mono ?_); rintro e8 w8 ⟨rfl, hb8⟩))
              all_goals go_wp2_with fail
              all_goals go_roundw
              case rel => exact ⟨k + 1, by omega, by go_num, hBR.out.trans ((bstep hbW.out (below_drew' hb8)).mono hr9)⟩
              case measure => simp [intOf]; omega
            · go_wp2_with fail
              obtain ⟨W, hW⟩ : ∃ W, wr.alloc (.cells #[.int .i64 (t.kind : Int), .string ⟨t.text.toArray⟩, .slice As2 t.str.length cs2, .int .i64 t.nk, .int .i64 t.nn, .bool false, .slice Am2 t.mag.length cm2, .int .i64 ((t.pos : Int) + ((u.length : Int) + 1)), .bool true] 39) = W := ⟨_, rfl⟩
              rw [hW]
              have hbW := hide (show Below wr.heap.size wr W by rw [← hW]; exact (Below.refl _ _).alloc (Nat.le_refl _) _)
              have hsW : wr.heap.size + 1 = W.heap.size := by rw [← hW]; simp
              have HTp := hide (show T9 W wr.heap.size 0 (.int .i64 (t.kind : Int)) (.string ⟨t.text.toArray⟩) (.slice As2 t.str.length cs2) (.int .i64 t.nk) (.int .i64 t.nn) (.bool false) (.slice Am2 t.mag.length cm2) (.int .i64 ((t.pos : Int) + ((u.length : Int) + 1))) (.bool true) from T9.of_blk (by rw [← hW]; exact Blk.new wr _ 39))
              have HTm := hide (show T9 W g7 (j * 9) (.int .i64 (t.kind : Int)) (.string ⟨t.text.toArray⟩) (.slice As4 t.str.length cs4) (.int .i64 t.nk) (.int .i64 t.nn) (.bool false) (.slice Am4 t.mag.length cm4) (.int .i64 ((t.pos : Int) + ((u.length : Int) + 1))) (.bool true) from HT4r.out.below hbW.out hd7)
              have H4W := hide (H4.out.below (hbW.out.mono hr9))
              have H2W := hide (H2.out.below (hbW.out.mono hr9))
              have hWW : w9.heap.size ≤ W.heap.size := by omega
              clear hW a0 a1 a2 a3 a4 a5 a6 a7 a8
              have C1 := hide (rtoken_c t.kind t.text t.str t.nk t.nn t.mag (t.pos + (u.length + 1)) ((t.pos : Int) + ((u.length : Int) + 1)) true As4 Am4 As2 Am2 cs4 cm4 cs2 cm2 w9.heap.size W.drew (cast_sum _ _) (by simpa using hWW) H4W.out.str.drew H4W.out.mag.drew H2W.out.str.drew H2W.out.mag.drew H2W.out.strl H2W.out.magl)
              have hd0 : wr.heap.size < W.heap.size := by omega
              have hd4 : g7 < W.heap.size := by omega
              go_region_held3 (fun w' => (w'.cell? ⟨wr.heap.size, 0, none⟩ = some (.int .i64 (t.kind : Int)) ∧ w'.cell? ⟨wr.heap.size, 1, none⟩ = some (.string ⟨t.text.toArray⟩) ∧ w'.cell? ⟨wr.heap.size, 2, none⟩ = some (.slice As2 t.str.length cs2) ∧ w'.cell? ⟨wr.heap.size, 3, none⟩ = some (.int .i64 t.nk) ∧ w'.cell? ⟨wr.heap.size, 4, none⟩ = some (.int .i64 t.nn) ∧ w'.cell? ⟨wr.heap.size, 5, none⟩ = some (.bool false) ∧ w'.cell? ⟨wr.heap.size, 6, none⟩ = some (.slice Am2 t.mag.length cm2) ∧ w'.cell? ⟨wr.heap.size, 7, none⟩ = some (.int .i64 ((t.pos : Int) + ((u.length : Int) + 1))) ∧ w'.cell? ⟨wr.heap.size, 8, none⟩ = some (.bool true)) ∧ (w'.cell? ⟨g7, j * 9, none⟩ = some (.int .i64 (t.kind : Int)) ∧ w'.cell? ⟨g7, j * 9 + 1, none⟩ = some (.string ⟨t.text.toArray⟩) ∧ w'.cell? ⟨g7, j * 9 + 2, none⟩ = some (.slice As4 t.str.length cs4) ∧ w'.cell? ⟨g7, j * 9 + 3, none⟩ = some (.int .i64 t.nk) ∧ w'.cell? ⟨g7, j * 9 + 4, none⟩ = some (.int .i64 t.nn) ∧ w'.cell? ⟨g7, j * 9 + 5, none⟩ = some (.bool false) ∧ w'.cell? ⟨g7, j * 9 + 6, none⟩ = some (.slice Am4 t.mag.length cm4) ∧ w'.cell? ⟨g7, j * 9 + 7, none⟩ = some (.int .i64 ((t.pos : Int) + ((u.length : Int) + 1))) ∧ w'.cell? ⟨g7, j * 9 + 8, none⟩ = some (.bool true)))
                (first | (exact ⟨HTp.out, HTm.out⟩) | (exact ⟨HTp.out.below (below_drew' hb8) hd0, HTm.out.below (below_drew' hb8) hd4⟩) | go_keep)
                (first | (go_at_call 18; go_split_ands; (with_reducible refine C1.out.mono ?_); rintro e8 w8 ⟨rfl, hb8⟩))
              all_goals go_wp2_with fail
              all_goals go_roundw
              case rel => exact ⟨k + 1, by omega, by go_num, hBR.out.trans ((bstep hbW.out (below_drew' hb8)).mono hr9)⟩
              case measure => simp [intOf]; omega
            · go_wp2_with fail
              obtain ⟨W, hW⟩ : ∃ W, wr.alloc (.cells #[.int .i64 (t.kind : Int), .string ⟨t.text.toArray⟩, .slice As2 t.str.length cs2, .int .i64 t.nk, .int .i64 t.nn, .bool false, .slice Am2 t.mag.length cm2, .int .i64 ((t.pos : Int) + ((u.length : Int) + 1)), .bool true] 39) = W := ⟨_, rfl⟩
              rw [hW]
              have hbW := hide (show Below wr.heap.size wr W by rw [← hW]; exact (Below.refl _ _).alloc (Nat.le_refl _) _)
              have hsW : wr.heap.size + 1 = W.heap.size := by rw [← hW]; simp
              have HTp := hide (show T9 W wr.heap.size 0 (.int .i64 (t.kind : Int)) (.string ⟨t.text.toArray⟩) (.slice As2 t.str.length cs2) (.int .i64 t.nk) (.int .i64 t.nn) (.bool false) (.slice Am2 t.mag.length cm2) (.int .i64 ((t.pos : Int) + ((u.length : Int) + 1))) (.bool true) from T9.of_blk (by rw [← hW]; exact Blk.new wr _ 39))
              have HTm := hide (show T9 W g7 (j * 9) (.int .i64 (t.kind : Int)) (.string ⟨t.text.toArray⟩) (.slice As4 t.str.length cs4) (.int .i64 t.nk) (.int .i64 t.nn) (.bool false) (.slice Am4 t.mag.length cm4) (.int .i64 ((t.pos : Int) + ((u.length : Int) + 1))) (.bool true) from HT4r.out.below hbW.out hd7)
              have H4W := hide (H4.out.below (hbW.out.mono hr9))
              have H2W := hide (H2.out.below (hbW.out.mono hr9))
              have hWW : w9.heap.size ≤ W.heap.size := by omega
              clear hW a0 a1 a2 a3 a4 a5 a6 a7 a8
              have C1 := hide (rtoken_c t.kind t.text t.str t.nk t.nn t.mag (t.pos + (u.length + 1)) ((t.pos : Int) + ((u.length : Int) + 1)) true As4 Am4 As2 Am2 cs4 cm4 cs2 cm2 w9.heap.size W.drew (cast_sum _ _) (by simpa using hWW) H4W.out.str.drew H4W.out.mag.drew H2W.out.str.drew H2W.out.mag.drew H2W.out.strl H2W.out.magl)
              have hd0 : wr.heap.size < W.heap.size := by omega
              have hd4 : g7 < W.heap.size := by omega
              go_region_held3 (fun w' => (w'.cell? ⟨wr.heap.size, 0, none⟩ = some (.int .i64 (t.kind : Int)) ∧ w'.cell? ⟨wr.heap.size, 1, none⟩ = some (.string ⟨t.text.toArray⟩) ∧ w'.cell? ⟨wr.heap.size, 2, none⟩ = some (.slice As2 t.str.length cs2) ∧ w'.cell? ⟨wr.heap.size, 3, none⟩ = some (.int .i64 t.nk) ∧ w'.cell? ⟨wr.heap.size, 4, none⟩ = some (.int .i64 t.nn) ∧ w'.cell? ⟨wr.heap.size, 5, none⟩ = some (.bool false) ∧ w'.cell? ⟨wr.heap.size, 6, none⟩ = some (.slice Am2 t.mag.length cm2) ∧ w'.cell? ⟨wr.heap.size, 7, none⟩ = some (.int .i64 ((t.pos : Int) + ((u.length : Int) + 1))) ∧ w'.cell? ⟨wr.heap.size, 8, none⟩ = some (.bool true)) ∧ (w'.cell? ⟨g7, j * 9, none⟩ = some (.int .i64 (t.kind : Int)) ∧ w'.cell? ⟨g7, j * 9 + 1, none⟩ = some (.string ⟨t.text.toArray⟩) ∧ w'.cell? ⟨g7, j * 9 + 2, none⟩ = some (.slice As4 t.str.length cs4) ∧ w'.cell? ⟨g7, j * 9 + 3, none⟩ = some (.int .i64 t.nk) ∧ w'.cell? ⟨g7, j * 9 + 4, none⟩ = some (.int .i64 t.nn) ∧ w'.cell? ⟨g7, j * 9 + 5, none⟩ = some (.bool false) ∧ w'.cell? ⟨g7, j * 9 + 6, none⟩ = some (.slice Am4 t.mag.length cm4) ∧ w'.cell? ⟨g7, j * 9 + 7, none⟩ = some (.int .i64 ((t.pos : Int) + ((u.length : Int) + 1))) ∧ w'.cell? ⟨g7, j * 9 + 8, none⟩ = some (.bool true)))
                (first | (exact ⟨HTp.out, HTm.out⟩) | (exact ⟨HTp.out.below (below_drew' hb8) hd0, HTm.out.below (below_drew' hb8) hd4⟩) | go_keep)
                (first | (go_at_call 18; go_split_ands; (with_reducible refine C1.out.mono ?_); rintro e8 w8 ⟨rfl, hb8⟩))
              all_goals go_wp2_with fail
              all_goals go_roundw
              case rel => exact ⟨k + 1, by omega, by go_num, hBR.out.trans ((bstep hbW.out (below_drew' hb8)).mono hr9)⟩
              case measure => simp [intOf]; omega
            · go_wp2_with fail
              obtain ⟨W, hW⟩ : ∃ W, wr.alloc (.cells #[.int .i64 (t.kind : Int), .string ⟨t.text.toArray⟩, .slice As2 t.str.length cs2, .int .i64 t.nk, .int .i64 t.nn, .bool false, .slice Am2 t.mag.length cm2, .int .i64 ((t.pos : Int) + ((u.length : Int) + 1)), .bool true] 39) = W := ⟨_, rfl⟩
              rw [hW]
              have hbW := hide (show Below wr.heap.size wr W by rw [← hW]; exact (Below.refl _ _).alloc (Nat.le_refl _) _)
              have hsW : wr.heap.size + 1 = W.heap.size := by rw [← hW]; simp
              have HTp := hide (show T9 W wr.heap.size 0 (.int .i64 (t.kind : Int)) (.string ⟨t.text.toArray⟩) (.slice As2 t.str.length cs2) (.int .i64 t.nk) (.int .i64 t.nn) (.bool false) (.slice Am2 t.mag.length cm2) (.int .i64 ((t.pos : Int) + ((u.length : Int) + 1))) (.bool true) from T9.of_blk (by rw [← hW]; exact Blk.new wr _ 39))
              have HTm := hide (show T9 W g7 (j * 9) (.int .i64 (t.kind : Int)) (.string ⟨t.text.toArray⟩) (.slice As4 t.str.length cs4) (.int .i64 t.nk) (.int .i64 t.nn) (.bool false) (.slice Am4 t.mag.length cm4) (.int .i64 ((t.pos : Int) + ((u.length : Int) + 1))) (.bool true) from HT4r.out.below hbW.out hd7)
              have H4W := hide (H4.out.below (hbW.out.mono hr9))
              have H2W := hide (H2.out.below (hbW.out.mono hr9))
              have hWW : w9.heap.size ≤ W.heap.size := by omega
              clear hW a0 a1 a2 a3 a4 a5 a6 a7 a8
              have C1 := hide (rtoken_c t.kind t.text t.str t.nk t.nn t.mag (t.pos + (u.length + 1)) ((t.pos : Int) + ((u.length : Int) + 1)) true As4 Am4 As2 Am2 cs4 cm4 cs2 cm2 w9.heap.size W.drew (cast_sum _ _) (by simpa using hWW) H4W.out.str.drew H4W.out.mag.drew H2W.out.str.drew H2W.out.mag.drew H2W.out.strl H2W.out.magl)
              have hd0 : wr.heap.size < W.heap.size := by omega
              have hd4 : g7 < W.heap.size := by omega
              go_region_held3 (fun w' => (w'.cell? ⟨wr.heap.size, 0, none⟩ = some (.int .i64 (t.kind : Int)) ∧ w'.cell? ⟨wr.heap.size, 1, none⟩ = some (.string ⟨t.text.toArray⟩) ∧ w'.cell? ⟨wr.heap.size, 2, none⟩ = some (.slice As2 t.str.length cs2) ∧ w'.cell? ⟨wr.heap.size, 3, none⟩ = some (.int .i64 t.nk) ∧ w'.cell? ⟨wr.heap.size, 4, none⟩ = some (.int .i64 t.nn) ∧ w'.cell? ⟨wr.heap.size, 5, none⟩ = some (.bool false) ∧ w'.cell? ⟨wr.heap.size, 6, none⟩ = some (.slice Am2 t.mag.length cm2) ∧ w'.cell? ⟨wr.heap.size, 7, none⟩ = some (.int .i64 ((t.pos : Int) + ((u.length : Int) + 1))) ∧ w'.cell? ⟨wr.heap.size, 8, none⟩ = some (.bool true)) ∧ (w'.cell? ⟨g7, j * 9, none⟩ = some (.int .i64 (t.kind : Int)) ∧ w'.cell? ⟨g7, j * 9 + 1, none⟩ = some (.string ⟨t.text.toArray⟩) ∧ w'.cell? ⟨g7, j * 9 + 2, none⟩ = some (.slice As4 t.str.length cs4) ∧ w'.cell? ⟨g7, j * 9 + 3, none⟩ = some (.int .i64 t.nk) ∧ w'.cell? ⟨g7, j * 9 + 4, none⟩ = some (.int .i64 t.nn) ∧ w'.cell? ⟨g7, j * 9 + 5, none⟩ = some (.bool false) ∧ w'.cell? ⟨g7, j * 9 + 6, none⟩ = some (.slice Am4 t.mag.length cm4) ∧ w'.cell? ⟨g7, j * 9 + 7, none⟩ = some (.int .i64 ((t.pos : Int) + ((u.length : Int) + 1))) ∧ w'.cell? ⟨g7, j * 9 + 8, none⟩ = some (.bool true)))
                (first | (exact ⟨HTp.out, HTm.out⟩) | (exact ⟨HTp.out.below (below_drew' hb8) hd0, HTm.out.below (below_drew' hb8) hd4⟩) | go_keep)
                (first | (go_at_call 18; go_split_ands; (with_reducible refine C1.out.mono ?_); rintro e8 w8 ⟨rfl, hb8⟩))
              all_goals go_wp2_with fail
              all_goals go_roundw
              case rel => exact ⟨k + 1, by omega, by go_num, hBR.out.trans ((bstep hbW.out (below_drew' hb8)).mono hr9)⟩
              case measure => simp [intOf]; omega
          · go_wp2_with fail
            refine (lfirst_any wr).mono ?_
            rintro e w10 ⟨rfl, hb10⟩
            go_wp2_with fail
            go_ret
            exact ⟨rfl, HB9.out.trans ((hbr.trans (hb10.mono hbr.size)).mono HB9.out.size)⟩
      · obtain ⟨he3, ha3⟩ := HQJ.out.bad he2
        subst he3
        have ha2 := HQ2L.out he2
        have e20 : ((e3 : Int) != (e3 : Int)) = false := by simp
        have e21 : ((e3 : Int) != 0) = true := by rw [bne_iff_ne]; omega
        have e22 : ((a3 : Int) == (a2 : Int) + (u.length : Int) + 1) = true := by rw [beq_iff_eq]; omega
        clear he2 ha3
        go_wp2_with fail
        refine (lfirst_any w7).mono ?_
        rintro e w8 ⟨rfl, hb8⟩
        go_wp2_with fail
        go_ret
        exact ⟨rfl, bstep HB7.out hb8⟩
    · have e1 : ((er : Int) != 0) = true := by rw [bne_iff_ne]; omega
      have hat := HQ0.out her
      clear her HJ
      go_wp2_with fail
      refine (lfirst_any w7).mono ?_
      rintro e w8 ⟨rfl, hb8⟩
      go_wp2_with fail
      go_ret
      exact ⟨ret_bool (by first | rfl | exact decide_eq_true (by omega)), bstep HB7.out hb8⟩
end Go.Proofs.Ytngcikgjdeomdaa
