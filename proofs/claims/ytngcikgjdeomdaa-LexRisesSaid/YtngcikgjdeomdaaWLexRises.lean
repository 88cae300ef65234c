/- The law LexRises, walked. -/
import Derived.Test.YtngcikgjdeomdaaRTok2
import Derived.Test.YtngcikgjdeomdaaPRise
import Derived.Test.YtngcikgjdeomdaaR5Words
namespace Go.Proofs.Ytngcikgjdeomdaa
open Go.RowKit

theorem lword_isx {x : List UInt8} {n : Nat} (h : wordF x = n) (w : World) : Calls Try.prog 21 #[.string ⟨x.toArray⟩] w fun e w' => e = .returned (.int .i64 (n : Int)) ∧ w = w' := by
  subst h
  exact lword_any ⟨x.toArray⟩ w
theorem lsign_atx {x : List UInt8} {n : Nat} (h : signF x = n) (w : World) : Calls Try.prog 23 #[.string ⟨x.toArray⟩] w fun e w' => e = .returned (.int .i64 (n : Int)) ∧ w = w' := by
  subst h
  exact lsign_any ⟨x.toArray⟩ w
theorem lascii_l (x : List UInt8) (hs : x.length ≤ 8192) (w : World) :
    Calls Try.prog 20 #[.string ⟨x.toArray⟩] w fun e w' => ∃ A c, e = .returned (.slice A x.length c) ∧ Reads w' w'.heap.size 1 A x.length (u16s (ascii x)) ∧ Below w.heap.size w w' := by
  refine (ascii_any ⟨x.toArray⟩ w (by show x.toArray.size ≤ _; simp; omega)).mono ?_
  rintro e w' ⟨v, rfl, hm⟩
  obtain ⟨A, c, rfl, h1, h2, hr⟩ := hm.u16
  have hl : (ascii (⟨x.toArray⟩ : ByteArray).data.toList).length = x.length := by simp [ascii]
  rw [hl] at hr ⊢
  exact ⟨A, c, rfl, hr, hm.below⟩
set_option maxHeartbeats 16000000 in
set_option maxRecDepth 100000 in
theorem lexRises_law (A : Option Addr) (c : Nat) (u : List UInt16) (hc : u.length ≤ c) (hm : c ≤ maxLen) (w : World) (hr : Reads w w.heap.size 1 A u.length (u16s u)) :
    Calls Try.prog 10 #[.slice A u.length c] w fun e w' => e = .returned (.bool true) ∧ Below w.heap.size w w' := by
  by_cases hlong : 5000 < u.length
  · have h2 : (5000 : Int) < (u.length : Int) := by omega
    go_enter Try.func10, Try.ntmps10
    go_wp2_with fail
    refine (lfirst_any w).mono ?_
    rintro e w1 ⟨rfl, hb1⟩
    go_wp2_with fail
    refine (lfirst_any w1).mono ?_
    rintro e w2 ⟨rfl, hb2⟩
    go_wp2_with fail
    go_ret
    exact ⟨rfl, bstep hb1 hb2⟩
  have hl : u.length ≤ 5000 := by omega
  obtain ⟨⟨ts, at0, er⟩, hq⟩ : ∃ q, lexF u = q := ⟨_, rfl⟩
  have hbad : er ≠ 0 → ts = [] ∧ at0 < u.length := by
    intro he
    by_cases h4 : 4096 < u.length
    · unfold lexF at hq
      rw [if_pos h4] at hq
      simp only [Prod.mk.injEq] at hq
      exact ⟨hq.1.symm, by omega⟩
    · have h5 := lexF_bad (u := u) (by omega)
      have h6 := lexF_at (u := u) (by omega)
      rw [hq] at h5 h6
      exact ⟨h5 he, h6 he⟩
  have hgood : er = 0 → u.length ≤ 4096 ∧ at0 = 0 := by
    intro he
    by_cases h4 : 4096 < u.length
    · unfold lexF at hq
      rw [if_pos h4] at hq
      simp only [Prod.mk.injEq] at hq
      omega
    · have h5 := lexF_ok (u := u) (by omega)
      rw [hq] at h5
      exact ⟨by omega, h5 he⟩
  have hsmall : er = 0 → ∀ t ∈ ts, SmallT u.length t := fun he t ht => (lexF_small (u := u) (hgood he).1 t (by rw [hq]; exact ht)).1
  have hmany : er = 0 → ts.length ≤ u.length + 1 := fun he => by have := lexF_many (u := u) (hgood he).1; rw [hq] at this; exact this
  have hchain : er = 0 → Chain u 0 ts := fun he => rises_law (hgood he).1 (by rw [hq, (hgood he).2, he])
  obtain ⟨N, hN⟩ : ∃ N, ts.length = N := ⟨_, rfl⟩
  have HQ := hide hq
  have HN := hide hN
  have HBAD := hide hbad
  have HG := hide hgood
  have HSM := hide hsmall
  have HMY := hide hmany
  have HCH0 := hide hchain
  have HR := hide hr
  clear hlong hq hbad hgood hsmall hmany hchain hN hr
  go_enter Try.func10, Try.ntmps10
  go_wp2_with fail
  refine (lfirst_any w).mono ?_
  rintro e w1 ⟨rfl, hb1⟩
  have HB1 := hide hb1
  have hs1 : w.heap.size ≤ w1.heap.size := hb1.size
  have HR1 := hide (HR.out.below hb1)
  clear hb1 HR
  go_wp2_with fail
  refine (ltok_is (w := w1) (B := w.heap.size) hs1 rfl HR1.out hc hm HQ.out HN.out).mono ?_
  rintro e w2 ⟨A2, c2, rfl, ht2, hc2, _, hb2⟩
  have HT2 := hide ht2
  have HB2 := hide (bstep HB1.out hb2)
  have HR2 := hide ((HR1.out.below (hb2.mono hs1)).more (Nat.le_trans hs1 hb2.size))
  clear hb2 ht2 HR1 HB1
  by_cases her : er = 0
  · have e1 : ((er : Int) != 0) = false := by rw [her]; rfl
    have hl4 := (HG.out her).1
    have HSM2 := hide (HSM.out her)
    have hmy := HMY.out her
    rw [HN.out] at hmy
    have HC0 := hide (HCH0.out her)
    obtain ⟨init, l, hts, hk0, hkp⟩ := chain_last HC0.out
    obtain ⟨M, hM⟩ : ∃ M, init.length = M := ⟨_, rfl⟩
    have hNM : N = M + 1 := by rw [← HN.out, hts]; simp [hM]
    obtain ⟨g, rfl, _, hg, hat⟩ := HT2.out.at_ (by rw [HN.out]; omega)
    have HAT := hide hat
    obtain ⟨_, _, _, _, hlast⟩ := hat M (by rw [HN.out]; omega)
    have hgl : ts[M]'(by rw [HN.out]; omega) = l := by
      have : ts[M]? = some l := by rw [hts, List.getElem?_append_right (by omega), hM, Nat.sub_self]; rfl
      rw [List.getElem?_eq_getElem (by rw [HN.out]; omega)] at this
      exact Option.some.inj this
    have hz0 : w2.cell? ⟨g, M * 9, none⟩ = some (.int .i64 0) := by have := hlast.k0; rw [hgl, hk0] at this; exact this
    have hz7 : w2.cell? ⟨g, M * 9 + 7, none⟩ = some (.int .i64 (u.length : Int)) := by have := hlast.k7; rw [hgl, hkp] at this; exact this
    have HNM := hide hNM
    have hwM : IntKind.i64.wrap ((N : Int) - 1) = (M : Int) := by rw [IntKind.wrap_i64]; omega
    have hwM' : (N : Int) - 1 = (M : Int) := by omega
    have eN : ((N : Int) == 0) = false := beq_eq_false_iff_ne.2 (by omega)
    have eL : ((u.length : Int) != (u.length : Int)) = false := by simp
    have hM0 : (0 : Int) ≤ (M : Int) := by omega
    have hM1 : (M : Int) < (N : Int) := by omega
    clear her hts hk0 hkp hM hat hlast hgl hNM HCH0 HMY HSM HG HBAD
    go_wp2_with fail
    go_loopw [6, 7] (fun en i wr => ∃ (k E C : Nat), k ≤ N ∧ i = .int .i64 k ∧ en = .int .i64 E ∧ E ≤ C ∧ C ≤ 10000 ∧ Hid (k < N → Chain u C (ts.drop k)) ∧ Below w2.heap.size w2 wr) (fun _ i _ => N - (intOf i).toNat)
    case atStart => exact ⟨0, 0, 0, Nat.zero_le _, rfl, rfl, Nat.le_refl _, by omega, fun _ => HC0.out, Below.refl _ _⟩
    case round =>
      clear hz0 hz7
      obtain ⟨k, E, C, hk, rfl, rfl, hEC, hC1, hch, hbr⟩ := hrel
      by_cases hlt : k < N
      · have hkt : k < ts.length := by rw [HN.out]; exact hlt
        have hch2 := hch.out hlt
        rw [List.drop_eq_getElem_cons hkt] at hch2
        obtain ⟨As2, Am2, cs2, cm2, h2⟩ := HAT.out k hkt
        have hst := HSM2.out ts[k] (List.getElem_mem hkt)
        obtain ⟨t, htt⟩ : ∃ t, ts[k] = t := ⟨_, rfl⟩
        rw [htt] at h2 hch2 hst
        have hBR := hide hbr
        have hrw : w2.heap.size ≤ wr.heap.size := hbr.size
        have a0 : wr.cell? ⟨g, k * 9, none⟩ = some (.int .i64 (t.kind : Int)) := (hbr.cell (p := ⟨g, k * 9, none⟩) hg).trans h2.k0
        have a1 : wr.cell? ⟨g, k * 9 + 1, none⟩ = some (.string ⟨t.text.toArray⟩) := (hbr.cell (p := ⟨g, k * 9 + 1, none⟩) hg).trans h2.k1
        have a2 : wr.cell? ⟨g, k * 9 + 2, none⟩ = some (.slice As2 t.str.length cs2) := (hbr.cell (p := ⟨g, k * 9 + 2, none⟩) hg).trans h2.k2
        have a3 : wr.cell? ⟨g, k * 9 + 3, none⟩ = some (.int .i64 t.nk) := (hbr.cell (p := ⟨g, k * 9 + 3, none⟩) hg).trans h2.k3
        have a4 : wr.cell? ⟨g, k * 9 + 4, none⟩ = some (.int .i64 t.nn) := (hbr.cell (p := ⟨g, k * 9 + 4, none⟩) hg).trans h2.k4
        have a5 : wr.cell? ⟨g, k * 9 + 5, none⟩ = some (.bool false) := (hbr.cell (p := ⟨g, k * 9 + 5, none⟩) hg).trans h2.k5
        have a6 : wr.cell? ⟨g, k * 9 + 6, none⟩ = some (.slice Am2 t.mag.length cm2) := (hbr.cell (p := ⟨g, k * 9 + 6, none⟩) hg).trans h2.k6
        have a7 : wr.cell? ⟨g, k * 9 + 7, none⟩ = some (.int .i64 (t.pos : Int)) := (hbr.cell (p := ⟨g, k * 9 + 7, none⟩) hg).trans h2.k7
        have a8 : wr.cell? ⟨g, k * 9 + 8, none⟩ = some (.bool t.nl) := (hbr.cell (p := ⟨g, k * 9 + 8, none⟩) hg).trans h2.k8
        obtain ⟨hCp, hcase⟩ := hch2
        have hxs := hst.text
        obtain ⟨kd, hkd⟩ : ∃ kd, t.kind = kd := ⟨_, rfl⟩
        obtain ⟨pos, hpos⟩ : ∃ p, t.pos = p := ⟨_, rfl⟩
        obtain ⟨x, hxt⟩ : ∃ x, t.text = x := ⟨_, rfl⟩
        rw [hkd] at a0
        rw [hxt] at a1 hxs
        rw [hpos] at a7 hCp
        have HCASE := hide hcase
        have HKD := hide hkd
        have HPOS := hide hpos
        have HXT := hide hxt
        have hEp : (E : Int) ≤ (pos : Int) := by omega
        clear hch h2 hst htt hkt hbr hcase hkd hpos hxt
        by_cases hlastk : kd = 0
        · have hkk : k = M ∧ pos = u.length := by
            rcases HCASE.out with ⟨h1, h3, h4⟩ | ⟨h1, n, _, _, h3, _⟩
            · rw [HPOS.out] at h4
              have := congrArg List.length h1
              rw [List.length_drop, HN.out, List.length_nil] at this
              have := HNM.out
              exact ⟨by omega, h4⟩
            · exact absurd (by rw [HKD.out]; exact hlastk) h3.kind
          subst hlastk
          have eK : ((k : Int) == (M : Int)) = true := by rw [hkk.1]; simp
          have hpl : (pos : Int) ≤ (u.length : Int) := by omega
          have HKK := hide hkk
          clear hkk
          go_wp2_with fail
          go_roundw
          case rel => exact ⟨k + 1, pos + 1, pos + 1, by omega, by go_num, by go_num, Nat.le_refl _, by omega, fun h => absurd h (by have := HKK.out.1; have := HNM.out; omega), hBR.out.trans (((Below.refl _ _).alloc (Nat.le_refl _) _).mono hrw)⟩
          case measure => simp [intOf]; omega
        · obtain ⟨n, hn1, hn2, hok, hch3, hkN⟩ : ∃ n, 1 ≤ n ∧ pos + n ≤ u.length ∧ TokOk (u.drop pos) t n ∧ Chain u (pos + n) (ts.drop (k + 1)) ∧ k + 1 < N := by
            rcases HCASE.out with ⟨h1, h3, h4⟩ | ⟨h1, n, h3, h4, h5, h6⟩
            · exact absurd (by rw [← HKD.out]; exact h3) hlastk
            · rw [HPOS.out] at h4 h5 h6
              refine ⟨n, h3, h4, h5, h6, ?_⟩
              rcases Nat.lt_or_ge (k + 1) N with h7 | h7
              · exact h7
              · exact absurd (List.drop_of_length_le (by rw [HN.out]; exact h7)) h1
          have eK : ((k : Int) == (M : Int)) = false := beq_eq_false_iff_ne.2 (by have := HNM.out; omega)
          have ek0 : ((kd : Int) == 0) = false := beq_eq_false_iff_ne.2 (by omega)
          have hpl : (pos : Int) ≤ (u.length : Int) := by omega
          have HOK := hide hok
          have HCH : Hid (k + 1 < N → Chain u (pos + n) (ts.drop (k + 1))) := fun _ => hch3
          clear hok hch3
          by_cases htx : kd = 1 ∨ kd = 5 ∨ kd = 6
          · obtain ⟨hxl, htk, hi1, hi5, hi6⟩ := HOK.out.txt (by unfold isTxt; rw [HKD.out]; exact htx)
            rw [HXT.out] at hxl htk hi1 hi5 hi6
            rw [HKD.out] at hi1 hi5 hi6
            subst hxl
            obtain ⟨blk, off, rfl, hblk, _⟩ := HR2.out.spotL (by omega)
            have hsl := HR2.out.cut16 (k := pos) (by omega) hc
            rw [if_neg (by omega)] at hsl
            have hsl := hsl.take16 (k := x.length) (by rw [List.length_drop]; omega)
            have hxl2 : ((u.drop pos).take x.length).length = x.length := by rw [List.length_take, List.length_drop]; omega
            rw [hxl2] at hsl
            have hU := hide (show Reads wr w2.heap.size 1 (some ⟨blk, off + pos, none⟩) x.length (u16s ((u.drop pos).take x.length)) from by
              have e : Option.map (fun y : Addr => y.add pos) (some ⟨blk, off, none⟩) = some ⟨blk, off + pos, none⟩ := congrArg some (Addr.add_lit _ _ _)
              rw [← e]
              exact hsl.below hBR.out)
            have HXL := hide hxl2
            have HAL := hide (show (ascii x).length = x.length by simp [ascii])
            have HEQ := hide htk
            have hx8 : x.length ≤ 8192 := by omega
            obtain ⟨hh, hhh⟩ : ∃ h, pos + x.length = h := ⟨_, rfl⟩
            obtain ⟨dd, hdd⟩ : ∃ d, u.length - pos = d := ⟨_, rfl⟩
            have hwh : IntKind.i64.wrap ((pos : Int) + (x.length : Int)) = (hh : Int) := by rw [IntKind.wrap_i64]; omega
            have hwd : IntKind.i64.wrap ((u.length : Int) - (pos : Int)) = (dd : Int) := by rw [IntKind.wrap_i64]; omega
            have g1 : 0 ≤ (hh : Int) := by omega
            have g2 : (hh : Int) ≤ (c : Int) := by omega
            have g3 : pos ≤ hh := by omega
            have g4 : ¬ c = pos := by omega
            have g5 : hh - pos = x.length := by omega
            have g6 : (x.length : Int) ≤ (dd : Int) := by omega
            have eg6 : decide ((dd : Int) < (x.length : Int)) = false := decide_eq_false (by omega)
            have eg7 : decide (dd < x.length) = false := decide_eq_false (by omega)
            have en0 : ((x.length : Int) == 0) = false := beq_eq_false_iff_ne.2 (by omega)
            obtain ⟨wd, hwdx⟩ : ∃ m, wordF x = m := ⟨_, rfl⟩
            obtain ⟨sg, hsgx⟩ : ∃ m, signF x = m := ⟨_, rfl⟩
            rw [hwdx] at hi6
            rw [hsgx] at hi5
            have HWDx := hide hwdx
            have HSGx := hide hsgx
            have HHH := hide hhh
            clear hsl hxl2 htk hhh hdd hwdx hsgx
            by_cases hk1 : kd = 1
            · have ek1 : ((kd : Int) == 1) = true := by rw [beq_iff_eq]; omega
              have ek5 : ((kd : Int) == 5) = false := beq_eq_false_iff_ne.2 (by omega)
              have ek6 : ((kd : Int) == 6) = false := beq_eq_false_iff_ne.2 (by omega)
              have HNMx := hide (show nameF x = true by exact hi1.1 (by omega))
              have es : ((sg : Int) == 1) = false := beq_eq_false_iff_ne.2 (fun h => absurd (hi5.2 (by omega)) (by omega))
              have ew : decide ((0 : Int) < (wd : Int)) = false := decide_eq_false (fun h => absurd (hi6.2 (by omega)) (by omega))
              have ew2 : decide (0 < wd) = false := by rw [← ew]; exact decide_eq_decide.2 (by omega)
              clear hi1 hi5 hi6 htx hlastk hk1
              go_wp2_with fail
              obtain ⟨W, hW⟩ : ∃ W, wr.alloc (.cells #[.int .i64 (kd : Int), .string ⟨x.toArray⟩, .slice As2 t.str.length cs2, .int .i64 t.nk, .int .i64 t.nn, .bool false, .slice Am2 t.mag.length cm2, .int .i64 (pos : Int), .bool t.nl] 39) = W := ⟨_, rfl⟩
              rw [hW]
              have hbW := hide (show Below wr.heap.size wr W by rw [← hW]; exact (Below.refl _ _).alloc (Nat.le_refl _) _)
              have hsW : wr.heap.size + 1 = W.heap.size := by rw [← hW]; simp
              have hBk : Blk W wr.heap.size [.int .i64 (kd : Int), .string ⟨x.toArray⟩, .slice As2 t.str.length cs2, .int .i64 t.nk, .int .i64 t.nn, .bool false, .slice Am2 t.mag.length cm2, .int .i64 (pos : Int), .bool t.nl] := by rw [← hW]; exact Blk.new wr _ 39
              have p0 : W.cell? ⟨wr.heap.size, 0, none⟩ = some (.int .i64 (kd : Int)) := (hBk.2 0 (by simp)).1
              have p1 : W.cell? ⟨wr.heap.size, 1, none⟩ = some (.string ⟨x.toArray⟩) := (hBk.2 1 (by simp)).1
              have p7 : W.cell? ⟨wr.heap.size, 7, none⟩ = some (.int .i64 (pos : Int)) := (hBk.2 7 (by simp)).1
              have hd0 : wr.heap.size < W.heap.size := by omega
              have hUW := hide (hU.out.below (hbW.out.mono (show w2.heap.size ≤ wr.heap.size from hrw)))
              have CA := hide (lascii_l x (by omega) W.drew)
              have CU := hide (fun (wA : World) (AA : Option Addr) (cA : Nat) (hA : Reads wA wA.heap.size 1 AA x.length (u16s (ascii x))) (hb : Below W.heap.size W wA) => lunits_eq (w := wA) (c := c - pos) (d := cA) (Nat.le_refl _) HXL.out HAL.out ((hUW.out.below (hb.mono (show w2.heap.size ≤ W.heap.size by omega))).more (Nat.le_trans (show w2.heap.size ≤ W.heap.size by omega) hb.size)) hA (by omega) (by omega) (r := true) (decide_eq_true HEQ.out))
              have CN := hide (fun w => lname_any ⟨x.toArray⟩ w (show x.toArray.size ≤ 8192 by simpa using hx8) (q := true) HNMx.out)
              have CS := hide (fun w => lsign_atx (x := x) HSGx.out w)
              have CW := hide (fun w => lword_isx (x := x) HWDx.out w)
              clear hW hBk
              go_region_held3 (fun w' => w'.cell? ⟨wr.heap.size, 0, none⟩ = some (.int .i64 (kd : Int)) ∧ w'.cell? ⟨wr.heap.size, 1, none⟩ = some (.string ⟨x.toArray⟩) ∧ w'.cell? ⟨wr.heap.size, 7, none⟩ = some (.int .i64 (pos : Int)))
                (first | (exact ⟨p0, p1, p7⟩) | (exact ⟨((below_drew' hb8).cell (p := ⟨wr.heap.size, 0, none⟩) hd0).trans p0, ((below_drew' hb8).cell (p := ⟨wr.heap.size, 1, none⟩) hd0).trans p1, ((below_drew' hb8).cell (p := ⟨wr.heap.size, 7, none⟩) hd0).trans p7⟩) | (exact ⟨((bstep (below_drew' hb8) hb9).cell (p := ⟨wr.heap.size, 0, none⟩) hd0).trans p0, ((bstep (below_drew' hb8) hb9).cell (p := ⟨wr.heap.size, 1, none⟩) hd0).trans p1, ((bstep (below_drew' hb8) hb9).cell (p := ⟨wr.heap.size, 7, none⟩) hd0).trans p7⟩) | go_keep)
                (first | (go_at_call 20; go_split_ands; (with_reducible refine CA.out.mono ?_); rintro e8 w8 ⟨AA, cA, rfl, hrA, hb8⟩) | (go_at_call 17; go_split_ands; refine (CU.out w8 AA cA hrA (below_drew' hb8)).mono ?_; rintro e9 w9 ⟨rfl, hb9⟩) | (go_at_call 25; go_split_ands; (with_reducible refine (CN.out _).mono ?_); rintro ea wa ⟨rfl, rfl⟩) | (go_at_call 23; go_split_ands; (with_reducible refine (CS.out _).mono ?_); rintro ea wa ⟨rfl, rfl⟩) | (go_at_call 21; go_split_ands; (with_reducible refine (CW.out _).mono ?_); rintro ea wa ⟨rfl, rfl⟩))
              all_goals go_wp2_with fail
              all_goals go_roundw
              case rel => exact ⟨k + 1, hh, hh, by omega, by go_num, rfl, Nat.le_refl _, by omega, by rw [← HHH.out]; exact HCH, hBR.out.trans ((bstep hbW.out (bstep (below_drew' hb8) hb9)).mono hrw)⟩
              case measure => simp [intOf]; omega
            by_cases hk5 : kd = 5
            · have ek1 : ((kd : Int) == 1) = false := beq_eq_false_iff_ne.2 (by omega)
              have ek5 : ((kd : Int) == 5) = true := by rw [beq_iff_eq]; omega
              have ek6 : ((kd : Int) == 6) = false := beq_eq_false_iff_ne.2 (by omega)
              have HNMx := hide (show nameF x = false by cases hh0 : nameF x with | false => rfl | true => exact absurd (hi1.2 hh0) (by omega))
              have es : ((sg : Int) == 1) = true := by have := hi5.1 (by omega); rw [beq_iff_eq]; omega
              have ew : decide ((0 : Int) < (wd : Int)) = false := decide_eq_false (fun h => absurd (hi6.2 (by omega)) (by omega))
              have ew2 : decide (0 < wd) = false := by rw [← ew]; exact decide_eq_decide.2 (by omega)
              clear hi1 hi5 hi6 htx hlastk hk1 hk5
              go_wp2_with fail
              obtain ⟨W, hW⟩ : ∃ W, wr.alloc (.cells #[.int .i64 (kd : Int), .string ⟨x.toArray⟩, .slice As2 t.str.length cs2, .int .i64 t.nk, .int .i64 t.nn, .bool false, .slice Am2 t.mag.length cm2, .int .i64 (pos : Int), .bool t.nl] 39) = W := ⟨_, rfl⟩
              rw [hW]
              have hbW := hide (show Below wr.heap.size wr W by rw [← hW]; exact (Below.refl _ _).alloc (Nat.le_refl _) _)
              have hsW : wr.heap.size + 1 = W.heap.size := by rw [← hW]; simp
              have hBk : Blk W wr.heap.size [.int .i64 (kd : Int), .string ⟨x.toArray⟩, .slice As2 t.str.length cs2, .int .i64 t.nk, .int .i64 t.nn, .bool false, .slice Am2 t.mag.length cm2, .int .i64 (pos : Int), .bool t.nl] := by rw [← hW]; exact Blk.new wr _ 39
              have p0 : W.cell? ⟨wr.heap.size, 0, none⟩ = some (.int .i64 (kd : Int)) := (hBk.2 0 (by simp)).1
              have p1 : W.cell? ⟨wr.heap.size, 1, none⟩ = some (.string ⟨x.toArray⟩) := (hBk.2 1 (by simp)).1
              have p7 : W.cell? ⟨wr.heap.size, 7, none⟩ = some (.int .i64 (pos : Int)) := (hBk.2 7 (by simp)).1
              have hd0 : wr.heap.size < W.heap.size := by omega
              have hUW := hide (hU.out.below (hbW.out.mono (show w2.heap.size ≤ wr.heap.size from hrw)))
              have CA := hide (lascii_l x (by omega) W.drew)
              have CU := hide (fun (wA : World) (AA : Option Addr) (cA : Nat) (hA : Reads wA wA.heap.size 1 AA x.length (u16s (ascii x))) (hb : Below W.heap.size W wA) => lunits_eq (w := wA) (c := c - pos) (d := cA) (Nat.le_refl _) HXL.out HAL.out ((hUW.out.below (hb.mono (show w2.heap.size ≤ W.heap.size by omega))).more (Nat.le_trans (show w2.heap.size ≤ W.heap.size by omega) hb.size)) hA (by omega) (by omega) (r := true) (decide_eq_true HEQ.out))
              have CN := hide (fun w => lname_any ⟨x.toArray⟩ w (show x.toArray.size ≤ 8192 by simpa using hx8) (q := false) HNMx.out)
              have CS := hide (fun w => lsign_atx (x := x) HSGx.out w)
              have CW := hide (fun w => lword_isx (x := x) HWDx.out w)
              clear hW hBk
              go_region_held3 (fun w' => w'.cell? ⟨wr.heap.size, 0, none⟩ = some (.int .i64 (kd : Int)) ∧ w'.cell? ⟨wr.heap.size, 1, none⟩ = some (.string ⟨x.toArray⟩) ∧ w'.cell? ⟨wr.heap.size, 7, none⟩ = some (.int .i64 (pos : Int)))
                (first | (exact ⟨p0, p1, p7⟩) | (exact ⟨((below_drew' hb8).cell (p := ⟨wr.heap.size, 0, none⟩) hd0).trans p0, ((below_drew' hb8).cell (p := ⟨wr.heap.size, 1, none⟩) hd0).trans p1, ((below_drew' hb8).cell (p := ⟨wr.heap.size, 7, none⟩) hd0).trans p7⟩) | (exact ⟨((bstep (below_drew' hb8) hb9).cell (p := ⟨wr.heap.size, 0, none⟩) hd0).trans p0, ((bstep (below_drew' hb8) hb9).cell (p := ⟨wr.heap.size, 1, none⟩) hd0).trans p1, ((bstep (below_drew' hb8) hb9).cell (p := ⟨wr.heap.size, 7, none⟩) hd0).trans p7⟩) | go_keep)
                (first | (go_at_call 20; go_split_ands; (with_reducible refine CA.out.mono ?_); rintro e8 w8 ⟨AA, cA, rfl, hrA, hb8⟩) | (go_at_call 17; go_split_ands; refine (CU.out w8 AA cA hrA (below_drew' hb8)).mono ?_; rintro e9 w9 ⟨rfl, hb9⟩) | (go_at_call 25; go_split_ands; (with_reducible refine (CN.out _).mono ?_); rintro ea wa ⟨rfl, rfl⟩) | (go_at_call 23; go_split_ands; (with_reducible refine (CS.out _).mono ?_); rintro ea wa ⟨rfl, rfl⟩) | (go_at_call 21; go_split_ands; (with_reducible refine (CW.out _).mono ?_); rintro ea wa ⟨rfl, rfl⟩))
              all_goals go_wp2_with fail
              all_goals go_roundw
              case rel => exact ⟨k + 1, hh, hh, by omega, by go_num, rfl, Nat.le_refl _, by omega, by rw [← HHH.out]; exact HCH, hBR.out.trans ((bstep hbW.out (bstep (below_drew' hb8) hb9)).mono hrw)⟩
              case measure => simp [intOf]; omega
            · have hk6 : kd = 6 := by omega
              have ek1 : ((kd : Int) == 1) = false := beq_eq_false_iff_ne.2 (by omega)
              have ek5 : ((kd : Int) == 5) = false := beq_eq_false_iff_ne.2 (by omega)
              have ek6 : ((kd : Int) == 6) = true := by rw [beq_iff_eq]; omega
              have HNMx := hide (show nameF x = false by cases hh0 : nameF x with | false => rfl | true => exact absurd (hi1.2 hh0) (by omega))
              have es : ((sg : Int) == 1) = false := beq_eq_false_iff_ne.2 (fun h => absurd (hi5.2 (by omega)) (by omega))
              have ew : decide ((0 : Int) < (wd : Int)) = true := by have := hi6.1 (by omega); exact decide_eq_true (by omega)
              have ew2 : decide (0 < wd) = true := by rw [← ew]; exact decide_eq_decide.2 (by omega)
              clear hi1 hi5 hi6 htx hlastk hk1 hk5
              clear hk6
              go_wp2_with fail
              obtain ⟨W, hW⟩ : ∃ W, wr.alloc (.cells #[.int .i64 (kd : Int), .string ⟨x.toArray⟩, .slice As2 t.str.length cs2, .int .i64 t.nk, .int .i64 t.nn, .bool false, .slice Am2 t.mag.length cm2, .int .i64 (pos : Int), .bool t.nl] 39) = W := ⟨_, rfl⟩
              rw [hW]
              have hbW := hide (show Below wr.heap.size wr W by rw [← hW]; exact (Below.refl _ _).alloc (Nat.le_refl _) _)
              have hsW : wr.heap.size + 1 = W.heap.size := by rw [← hW]; simp
              have hBk : Blk W wr.heap.size [.int .i64 (kd : Int), .string ⟨x.toArray⟩, .slice As2 t.str.length cs2, .int .i64 t.nk, .int .i64 t.nn, .bool false, .slice Am2 t.mag.length cm2, .int .i64 (pos : Int), .bool t.nl] := by rw [← hW]; exact Blk.new wr _ 39
              have p0 : W.cell? ⟨wr.heap.size, 0, none⟩ = some (.int .i64 (kd : Int)) := (hBk.2 0 (by simp)).1
              have p1 : W.cell? ⟨wr.heap.size, 1, none⟩ = some (.string ⟨x.toArray⟩) := (hBk.2 1 (by simp)).1
              have p7 : W.cell? ⟨wr.heap.size, 7, none⟩ = some (.int .i64 (pos : Int)) := (hBk.2 7 (by simp)).1
              have hd0 : wr.heap.size < W.heap.size := by omega
              have hUW := hide (hU.out.below (hbW.out.mono (show w2.heap.size ≤ wr.heap.size from hrw)))
              have CA := hide (lascii_l x (by omega) W.drew)
              have CU := hide (fun (wA : World) (AA : Option Addr) (cA : Nat) (hA : Reads wA wA.heap.size 1 AA x.length (u16s (ascii x))) (hb : Below W.heap.size W wA) => lunits_eq (w := wA) (c := c - pos) (d := cA) (Nat.le_refl _) HXL.out HAL.out ((hUW.out.below (hb.mono (show w2.heap.size ≤ W.heap.size by omega))).more (Nat.le_trans (show w2.heap.size ≤ W.heap.size by omega) hb.size)) hA (by omega) (by omega) (r := true) (decide_eq_true HEQ.out))
              have CN := hide (fun w => lname_any ⟨x.toArray⟩ w (show x.toArray.size ≤ 8192 by simpa using hx8) (q := false) HNMx.out)
              have CS := hide (fun w => lsign_atx (x := x) HSGx.out w)
              have CW := hide (fun w => lword_isx (x := x) HWDx.out w)
              clear hW hBk
              go_region_held3 (fun w' => w'.cell? ⟨wr.heap.size, 0, none⟩ = some (.int .i64 (kd : Int)) ∧ w'.cell? ⟨wr.heap.size, 1, none⟩ = some (.string ⟨x.toArray⟩) ∧ w'.cell? ⟨wr.heap.size, 7, none⟩ = some (.int .i64 (pos : Int)))
                (first | (exact ⟨p0, p1, p7⟩) | (exact ⟨((below_drew' hb8).cell (p := ⟨wr.heap.size, 0, none⟩) hd0).trans p0, ((below_drew' hb8).cell (p := ⟨wr.heap.size, 1, none⟩) hd0).trans p1, ((below_drew' hb8).cell (p := ⟨wr.heap.size, 7, none⟩) hd0).trans p7⟩) | (exact ⟨((bstep (below_drew' hb8) hb9).cell (p := ⟨wr.heap.size, 0, none⟩) hd0).trans p0, ((bstep (below_drew' hb8) hb9).cell (p := ⟨wr.heap.size, 1, none⟩) hd0).trans p1, ((bstep (below_drew' hb8) hb9).cell (p := ⟨wr.heap.size, 7, none⟩) hd0).trans p7⟩) | go_keep)
                (first | (go_at_call 20; go_split_ands; (with_reducible refine CA.out.mono ?_); rintro e8 w8 ⟨AA, cA, rfl, hrA, hb8⟩) | (go_at_call 17; go_split_ands; refine (CU.out w8 AA cA hrA (below_drew' hb8)).mono ?_; rintro e9 w9 ⟨rfl, hb9⟩) | (go_at_call 25; go_split_ands; (with_reducible refine (CN.out _).mono ?_); rintro ea wa ⟨rfl, rfl⟩) | (go_at_call 23; go_split_ands; (with_reducible refine (CS.out _).mono ?_); rintro ea wa ⟨rfl, rfl⟩) | (go_at_call 21; go_split_ands; (with_reducible refine (CW.out _).mono ?_); rintro ea wa ⟨rfl, rfl⟩))
              all_goals go_wp2_with fail
              all_goals go_roundw
              case rel => exact ⟨k + 1, hh, hh, by omega, by go_num, rfl, Nat.le_refl _, by omega, by rw [← HHH.out]; exact HCH, hBR.out.trans ((bstep hbW.out (bstep (below_drew' hb8) hb9)).mono hrw)⟩
              case measure => simp [intOf]; omega
          · have ek1 : ((kd : Int) == 1) = false := beq_eq_false_iff_ne.2 (by omega)
            have ek5 : ((kd : Int) == 5) = false := beq_eq_false_iff_ne.2 (by omega)
            have ek6 : ((kd : Int) == 6) = false := beq_eq_false_iff_ne.2 (by omega)
            clear htx hlastk
            go_wp2_with fail
            go_roundw
            case rel => exact ⟨k + 1, pos + 1, pos + n, by omega, by go_num, by go_num, by omega, by omega, HCH, hBR.out.trans (((Below.refl _ _).alloc (Nat.le_refl _) _).mono hrw)⟩
            case measure => simp [intOf]; omega
      · go_wp2_with fail
        refine (lfirst_any wr).mono ?_
        rintro e w20 ⟨rfl, hb20⟩
        go_wp2_with fail
        go_ret
        exact ⟨rfl, HB2.out.trans ((hbr.trans (hb20.mono hbr.size)).mono HB2.out.size)⟩
  · have e1 : ((er : Int) != 0) = true := by rw [bne_iff_ne]; omega
    obtain ⟨hts, hat⟩ := HBAD.out her
    have hN0 : N = 0 := by rw [← HN.out, hts]; rfl
    have eN : ((N : Int) == 0) = true := by rw [hN0]; rfl
    have hmx : max (u.length : Int) 1 = (u.length : Int) := by omega
    have hat2 : (at0 : Int) < (u.length : Int) := by omega
    clear her hts hN0
    go_wp2_with fail
    refine (lfirst_any w2).mono ?_
    rintro e w3 ⟨rfl, hb3⟩
    go_wp2_with fail
    go_ret
    exact ⟨ret_bool (by first | rfl | (simp; omega)), bstep HB2.out hb3⟩
end Go.Proofs.Ytngcikgjdeomdaa
