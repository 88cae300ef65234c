/- The law LexBlanks, walked. -/
import Derived.Test.YtngcikgjdeomdaaRTok
import Derived.Test.YtngcikgjdeomdaaPSmall
import Derived.Deep.RegionHeld3
namespace Go.Proofs.Ytngcikgjdeomdaa
open Go.RowKit

theorem made_lit {w : World} (e : TypeId) (cs : List Value) (n : Nat) (hn : cs.length = n) (h : n ≤ maxLen) : Made w (w.alloc (.cells cs.toArray e)) e (.slice (some ⟨w.heap.size, 0, none⟩) n n) cs := by
  subst hn
  exact Made.lit w e cs h
theorem cast_one (n : Nat) : ((n + 1 : Nat) : Int) = (n : Int) + 1 := by omega
theorem below_drew' {W w : World} (h : Below W.drew.heap.size W.drew w) : Below W.heap.size W w := ⟨h.os, h.tape, h.output, h.size, h.block⟩
theorem TokAt.tokR {w w' : World} {base g i B : Nat} {t : Tok} {As Am : Option Addr} {cs cm : Nat} (h : TokAt w base g i t As Am cs cm) (hs : t.str.length ≤ 70368744177664) (hm : t.mag.length ≤ 70368744177664) (hb : Below w.heap.size w w') (hB : w.heap.size ≤ B) : TokR w' B t As Am :=
  ⟨((Reads.of_own h.str).below hb).more hB, ((Reads.of_own h.mag).below hb).more hB, hs, hm⟩
/-- nine cells -/
def T9 (w : World) (b o : Nat) (v0 v1 v2 v3 v4 v5 v6 v7 v8 : Value) : Prop :=
  w.cell? ⟨b, o, none⟩ = some v0 ∧ w.cell? ⟨b, o + 1, none⟩ = some v1 ∧ w.cell? ⟨b, o + 2, none⟩ = some v2 ∧ w.cell? ⟨b, o + 3, none⟩ = some v3 ∧ w.cell? ⟨b, o + 4, none⟩ = some v4 ∧ w.cell? ⟨b, o + 5, none⟩ = some v5 ∧ w.cell? ⟨b, o + 6, none⟩ = some v6 ∧ w.cell? ⟨b, o + 7, none⟩ = some v7 ∧ w.cell? ⟨b, o + 8, none⟩ = some v8
theorem T9.below {w w' : World} {b o D : Nat} {v0 v1 v2 v3 v4 v5 v6 v7 v8 : Value} (h : T9 w b o v0 v1 v2 v3 v4 v5 v6 v7 v8) (hb : Below D w w') (hd : b < D) : T9 w' b o v0 v1 v2 v3 v4 v5 v6 v7 v8 := by
  have hc : ∀ j, w'.cell? ⟨b, j, none⟩ = w.cell? ⟨b, j, none⟩ := fun j => hb.cell (p := ⟨b, j, none⟩) hd
  unfold T9
  rw [hc, hc, hc, hc, hc, hc, hc, hc, hc]
  exact h
theorem T9.drew {w : World} {b o : Nat} {v0 v1 v2 v3 v4 v5 v6 v7 v8 : Value} (h : T9 w b o v0 v1 v2 v3 v4 v5 v6 v7 v8) : T9 w.drew b o v0 v1 v2 v3 v4 v5 v6 v7 v8 := h
theorem T9.of_blk {w : World} {b : Nat} {v0 v1 v2 v3 v4 v5 v6 v7 v8 : Value} (h : Blk w b [v0, v1, v2, v3, v4, v5, v6, v7, v8]) : T9 w b 0 v0 v1 v2 v3 v4 v5 v6 v7 v8 :=
  ⟨(h.2 0 (by simp)).1, (h.2 1 (by simp)).1, (h.2 2 (by simp)).1, (h.2 3 (by simp)).1, (h.2 4 (by simp)).1, (h.2 5 (by simp)).1, (h.2 6 (by simp)).1, (h.2 7 (by simp)).1, (h.2 8 (by simp)).1⟩
theorem TokAt.t9 {w : World} {base g i cs cm : Nat} {t : Tok} {As Am : Option Addr} {p : Int} {nl : Bool} (h : TokAt w base g i t As Am cs cm) (hp : (t.pos : Int) = p) (hnl : t.nl = nl) : T9 w g (i * 9) (.int .i64 (t.kind : Int)) (.string ⟨t.text.toArray⟩) (.slice As t.str.length cs) (.int .i64 t.nk) (.int .i64 t.nn) (.bool false) (.slice Am t.mag.length cm) (.int .i64 p) (.bool nl) := by
  subst hp hnl
  exact ⟨h.k0, h.k1, h.k2, h.k3, h.k4, h.k5, h.k6, h.k7, h.k8⟩
set_option maxHeartbeats 16000000 in
set_option maxRecDepth 100000 in
theorem lexBlanks_law (A : Option Addr) (c : Nat) (u : List UInt16) (hc : u.length ≤ c) (hm : c ≤ maxLen) (w : World) (hr : Reads w w.heap.size 1 A u.length (u16s u)) :
    Calls Try.prog 4 #[.slice A u.length c] w fun e w' => e = .returned (.bool true) ∧ Below w.heap.size w w' := by
  obtain ⟨i0, hi0, hz0, hz1, hz2⟩ := info_parts Try.info_u16
  by_cases hlong : 4000 < u.length
  · have h2 : (4000 : Int) < (u.length : Int) := by omega
    go_enter Try.func4, Try.ntmps4
    go_wp2_with fail
    refine (lfirst_any w).mono ?_
    rintro e w1 ⟨rfl, hb1⟩
    go_wp2_with fail
    refine (lfirst_any w1).mono ?_
    rintro e w2 ⟨rfl, hb2⟩
    go_wp2_with fail
    go_ret
    exact ⟨rfl, bstep hb1 hb2⟩
  · have hl : u.length ≤ 4000 := by omega
    have HR := hide hr
    by_cases hash : ∃ x r, u = x :: r ∧ x.toNat = 35
    · obtain ⟨x, r, rfl, hx⟩ := hash
      obtain ⟨blk, off, rfl, hblk, hcell⟩ := hr.spotL (by simp)
      have hca := hcell 0 (by simp)
      simp only [List.getElem_cons_zero, Nat.add_zero] at hca
      have e35 : ((x.toNat : Int) == 35) = true := by rw [hx]; rfl
      have hlen : 0 < (x :: r).length := by simp
      obtain ⟨n, hn⟩ : ∃ n, (x :: r).length = n := ⟨_, rfl⟩
      rw [hn] at hl hlen ⊢
      clear hr hcell hx HR hlong hc hn
      go_enter Try.func4, Try.ntmps4
      go_wp2_with fail
      refine (lfirst_any w).mono ?_
      rintro e w1 ⟨rfl, hb1⟩
      have hcb : w1.cell? ⟨blk, off, none⟩ = some (.int .u16 (x.toNat : Int)) := (hb1.cell (p := ⟨blk, off, none⟩) hblk).trans hca
      clear hca
      go_wp2_with fail
      refine (lfirst_any w1).mono ?_
      rintro e w2 ⟨rfl, hb2⟩
      go_wp2_with fail
      go_ret
      exact ⟨rfl, bstep hb1 hb2⟩
    · have hno : ∀ x r, u = x :: r → x.toNat ≠ 35 := fun x r h h2 => hash ⟨x, r, h, h2⟩
      obtain ⟨hp1, hp2⟩ := blanks_law hno hl
      obtain ⟨⟨ts, at0, er⟩, hq⟩ : ∃ q, lexF u = q := ⟨_, rfl⟩
      have hq0 := lexF_at (u := u) (by omega)
      have hq1 := lexF_ok (u := u) (by omega)
      have hq2 := lexF_bad (u := u) (by omega)
      have hq3 := lexF_many (u := u) (by omega)
      have hq4 := lex_small (u := u) (by omega)
      rw [hq] at hp1 hp2 hq0 hq1 hq2 hq3 hq4
      simp only at hq0 hq1 hq2 hq3 hq4
      have HQ := hide hq
      have HP1 := hide hp1
      have HP2 := hide hp2
      have HQ0 := hide hq0
      have HQ1 := hide hq1
      have HQ4 := hide hq4
      have hx0 : ∀ (h : 0 < u.length), ((u[0].toNat : Int) == 35) = false := fun h => beq_eq_false_iff_ne.2 (by
        have := hno u[0] (u.drop 1) (by rw [← List.drop_eq_getElem_cons h]; rfl)
        omega)
      have HX0 := hide hx0
      obtain ⟨N, hN⟩ : ∃ N, ts.length = N := ⟨_, rfl⟩
      rw [hN] at hq3
      have HN := hide hN
      have hNl : N ≤ 4001 := by omega
      have HQ2 := hide hq2
      clear hlong hash hno hp1 hp2 hq hq0 hq1 hq2 hq3 hq4 hx0 hN hr
      go_enter Try.func4, Try.ntmps4
      go_wp2_with fail
      refine (lfirst_any w).mono ?_
      rintro e w1 ⟨rfl, hb1⟩
      have HB1 := hide hb1
      have HR1 := hide (HR.out.below hb1)
      have hs1 : w.heap.size ≤ w1.heap.size := hb1.size
      clear hb1
      go_upto_region 3 with (fail)
      go_cut [30] (fun v wx => v = .bool false ∧ w1 = wx)
      case first =>
        by_cases h0 : 0 < u.length
        · obtain ⟨blk, off, rfl, _, hcell⟩ := HR1.out.spotL h0
          have hca := hcell 0 h0
          simp only [Nat.add_zero] at hca
          have e35 := HX0.out h0
          obtain ⟨x, hx⟩ : ∃ x, u[0] = x := ⟨_, rfl⟩
          rw [hx] at hca e35
          clear hcell hx
          go_wp2_with fail
          go_meet
          exact ⟨by first | rfl | exact congrArg Value.bool (decide_eq_false (by omega)), rfl⟩
        · have hz : u.length = 0 := by omega
          have HZ := hide hz
          clear hz
          go_wp2_with fail
          go_meet
          exact ⟨by first | rfl | exact congrArg Value.bool (decide_eq_false (by omega)), rfl⟩
      case rest =>
        obtain ⟨hv, hwx⟩ := hcut
        subst hv hwx
        go_wp2_with fail
        refine (ltok_is (w := w1) (B := w.heap.size) hs1 rfl HR1.out hc hm HQ.out HN.out).mono ?_
        rintro e w2 ⟨A2, c2, rfl, ht2, hc2, _, hb2⟩
        have HT2 := hide ht2
        have HB2 := hide hb2
        have hs2 : w1.heap.size ≤ w2.heap.size := hb2.size
        have HR2 := hide (HR1.out.below (hb2.mono hs1))
        clear hb2 ht2
        have hml := hide (show Made w2 (w2.alloc (.cells #[.int .u16 32] 32)) 32 (.slice (some ⟨w2.heap.size, 0, none⟩) 1 1) (u16s [32]) from made_lit 32 [.int .u16 32] 1 rfl (by decide))
        have hra := hide (HR2.out.alloc (by omega) (.cells #[.int .u16 32] 32))
        go_wp2_with (at_builtin; refine wpList_any rfl _ _ 22 rfl 32 i0 _ 2 Try.underlying22 hi0 hz0 hz1 hz2 rfl (.slice (some ⟨w2.heap.size, 0, none⟩) 1 1) (u16s [32]) rfl hml.out w.heap.size A u.length c (u16s u) rfl hra.out (u16s_one _) (by simp [u16s]; omega) (by omega) ?_; intro v3 w3 hm0; have H3 := hide hm0; clear hm0)
        obtain ⟨A3, c3, rfl, hl3, hx3, hr3⟩ := (show Made w2 w3 32 v3 (u16s ([32] ++ u)) from H3.out.cells (by simp [u16s])).u16
        have hn3 : ([32] ++ u).length = u.length + 1 := by simp
        have HN3 := hide hn3
        rw [hn3] at hl3 hr3 ⊢
        obtain ⟨a1, ha1⟩ : ∃ a, (addQ 1 (ts, at0, er)).2.1 = a := ⟨_, rfl⟩
        have HA1 := hide ha1
        clear hn3 ha1
        refine (ltok_is (N := N) (ts := ts.map (shiftT 1)) (a := a1) (e := er) (Nat.le_refl _) HN3.out hr3 hl3 hx3 (by rw [HP1.out, ← HA1.out]; rfl) (by rw [List.length_map]; exact HN.out)).mono ?_
        rintro e w4 ⟨A4, c4, rfl, ht4, hc4, _, hb4⟩
        have HT4 := hide ht4
        have HB24 := hide (bstep H3.out.below hb4)
        have hs4 : w2.heap.size ≤ w4.heap.size := HB24.out.size
        have HR4 := hide (HR2.out.below (HB24.out.mono (by omega)))
        clear hr3 hl3 hx3 H3 hb4 ht4 hml hra HN3
        have hml := hide (show Made w4 (w4.alloc (.cells #[.int .u16 10] 32)) 32 (.slice (some ⟨w4.heap.size, 0, none⟩) 1 1) (u16s [10]) from made_lit 32 [.int .u16 10] 1 rfl (by decide))
        have hra := hide (HR4.out.alloc (by omega) (.cells #[.int .u16 10] 32))
        go_wp2_with (at_builtin; refine wpList_any rfl _ _ 22 rfl 32 i0 _ 2 Try.underlying22 hi0 hz0 hz1 hz2 rfl (.slice (some ⟨w4.heap.size, 0, none⟩) 1 1) (u16s [10]) rfl hml.out w.heap.size A u.length c (u16s u) rfl hra.out (u16s_one _) (by simp [u16s]; omega) (by omega) ?_; intro v5 w5 hm0; have H5 := hide hm0; clear hm0)
        obtain ⟨A5, c5, rfl, hl5, hx5, hr5⟩ := (show Made w4 w5 32 v5 (u16s ([10] ++ u)) from H5.out.cells (by simp [u16s])).u16
        have hn5 : ([10] ++ u).length = u.length + 1 := by simp
        have HN5 := hide hn5
        rw [hn5] at hl5 hr5 ⊢
        clear hn5
        refine (ltok_is (N := N) (ts := (nl0 (ts.map (shiftT 1), a1, er)).1) (a := a1) (e := er) (Nat.le_refl _) HN5.out hr5 hl5 hx5 (by rw [HP2.out, ← HA1.out]; rfl) (by rw [nl0_len, List.length_map]; exact HN.out)).mono ?_
        rintro e w6 ⟨A6, c6, rfl, ht6, hc6, _, hb6⟩
        have HB46 := hide (bstep H5.out.below hb6)
        have hs6 : w4.heap.size ≤ w6.heap.size := HB46.out.size
        have HT6 := hide ht6
        have HT46 := hide (HT4.out.below HB46.out)
        have HT26 := hide (HT2.out.below (bstep HB24.out HB46.out))
        have HW6 := hide (bstep HB1.out (bstep HB2.out (bstep HB24.out HB46.out)))
        clear hr5 hl5 hx5 H5 hb6 ht6 hml hra HN5 HT4 HT2 HB24 HB46 HR4 HR2 HR1 HR
        have e0 : ((er : Int) != (er : Int)) = false := by simp
        have eN : ((N : Int) != (N : Int)) = false := by simp
        by_cases her : er = 0
        · have e1 : ((er : Int) != 0) = false := by rw [her]; rfl
          clear her
          go_wp2_with fail
          go_loopw [12] (fun i wr => ∃ k : Nat, k ≤ N ∧ i = .int .i64 k ∧ Below w6.heap.size w6 wr) (fun i _ => N - (intOf i).toNat)
          case atStart => exact ⟨0, Nat.zero_le _, rfl, Below.refl _ _⟩
          case round =>
            obtain ⟨k, hk, rfl, hbr⟩ := hrel
            by_cases hlt : k < N
            · have hkt : k < ts.length := by rw [HN.out]; exact hlt
              obtain ⟨g2, rfl, hg2b, hg2, hat2⟩ := HT26.out.at_ (by omega)
              obtain ⟨g4, rfl, hg4b, hg4, hat4⟩ := HT46.out.at_ (by rw [List.length_map]; omega)
              obtain ⟨g6, rfl, hg6b, hg6, hat6⟩ := HT6.out.at_ (by rw [nl0_len, List.length_map]; omega)
              obtain ⟨As2, Am2, cs2, cm2, h2⟩ := hat2 k hkt
              obtain ⟨As4, Am4, cs4, cm4, h4⟩ := hat4 k (by rw [List.length_map]; exact hkt)
              obtain ⟨As6, Am6, cs6, cm6, h6⟩ := hat6 k (by rw [nl0_len, List.length_map]; exact hkt)
              rw [List.getElem_map] at h4
              rw [nl0_get (by rw [nl0_len, List.length_map]; exact hkt) (by rw [List.length_map]; exact hkt), List.getElem_map] at h6
              obtain ⟨hsm1, hsm2, hsm3⟩ := HQ4.out ts[k] (List.getElem_mem hkt)
              obtain ⟨t, htt⟩ : ∃ t, ts[k] = t := ⟨_, rfl⟩
              rw [htt] at h2 h4 h6 hsm1 hsm2 hsm3
              clear hat2 hat4 hat6 htt hkt
              have hBR := hide hbr
              have hr6 : w6.heap.size ≤ wr.heap.size := hbr.size
              have H4 := hide (h4.tokR (B := w6.heap.size) (by exact hsm1) (by exact hsm2) hbr (Nat.le_refl _))
              have H6 := hide (h6.tokR (B := w6.heap.size) (by exact hsm1) (by exact hsm2) hbr (Nat.le_refl _))
              have H2 := hide (h2.tokR (B := w6.heap.size) hsm1 hsm2 hbr (Nat.le_refl _))
              have a0 : wr.cell? ⟨g2, k * 9, none⟩ = some (.int .i64 (t.kind : Int)) := (hbr.cell (p := ⟨g2, k * 9, none⟩) hg2).trans h2.k0
              have a1 : wr.cell? ⟨g2, k * 9 + 1, none⟩ = some (.string ⟨t.text.toArray⟩) := (hbr.cell (p := ⟨g2, k * 9 + 1, none⟩) hg2).trans h2.k1
              have a2 : wr.cell? ⟨g2, k * 9 + 2, none⟩ = some (.slice As2 t.str.length cs2) := (hbr.cell (p := ⟨g2, k * 9 + 2, none⟩) hg2).trans h2.k2
              have a3 : wr.cell? ⟨g2, k * 9 + 3, none⟩ = some (.int .i64 t.nk) := (hbr.cell (p := ⟨g2, k * 9 + 3, none⟩) hg2).trans h2.k3
              have a4 : wr.cell? ⟨g2, k * 9 + 4, none⟩ = some (.int .i64 t.nn) := (hbr.cell (p := ⟨g2, k * 9 + 4, none⟩) hg2).trans h2.k4
              have a5 : wr.cell? ⟨g2, k * 9 + 5, none⟩ = some (.bool false) := (hbr.cell (p := ⟨g2, k * 9 + 5, none⟩) hg2).trans h2.k5
              have a6 : wr.cell? ⟨g2, k * 9 + 6, none⟩ = some (.slice Am2 t.mag.length cm2) := (hbr.cell (p := ⟨g2, k * 9 + 6, none⟩) hg2).trans h2.k6
              have a7 : wr.cell? ⟨g2, k * 9 + 7, none⟩ = some (.int .i64 (t.pos : Int)) := (hbr.cell (p := ⟨g2, k * 9 + 7, none⟩) hg2).trans h2.k7
              have a8 : wr.cell? ⟨g2, k * 9 + 8, none⟩ = some (.bool t.nl) := (hbr.cell (p := ⟨g2, k * 9 + 8, none⟩) hg2).trans h2.k8
              have HT4r := hide (show T9 wr g4 (k * 9) (.int .i64 (t.kind : Int)) (.string ⟨t.text.toArray⟩) (.slice As4 t.str.length cs4) (.int .i64 t.nk) (.int .i64 t.nn) (.bool false) (.slice Am4 t.mag.length cm4) (.int .i64 ((t.pos : Int) + 1)) (.bool t.nl) from (h4.t9 (p := (t.pos : Int) + 1) (nl := t.nl) (cast_one _) rfl).below hbr hg4)
              have HT6r := hide (show T9 wr g6 (k * 9) (.int .i64 (t.kind : Int)) (.string ⟨t.text.toArray⟩) (.slice As6 t.str.length cs6) (.int .i64 t.nk) (.int .i64 t.nn) (.bool false) (.slice Am6 t.mag.length cm6) (.int .i64 ((t.pos : Int) + 1)) (.bool (t.nl || decide (k = 0))) from (h6.t9 (p := (t.pos : Int) + 1) (nl := (t.nl || decide (k = 0))) (cast_one _) rfl).below hbr hg6)
              clear h2 h4 h6 hbr
              obtain ⟨nl, hnl⟩ : ∃ b, t.nl = b := ⟨_, rfl⟩
              obtain ⟨k0, hk0⟩ : ∃ b, ((k : Int) == 0) = b := ⟨_, rfl⟩
              have HD := hide (show decide (k = 0) = k0 by rw [← hk0, Bool.eq_iff_iff]; simp)
              have HNL := hide hnl
              rw [hnl] at a8 HT4r HT6r
              rw [HD.out] at HT6r
              clear hnl
              cases nl <;> cases k0
              · go_wp2_with fail
                obtain ⟨W, hW⟩ : ∃ W, (wr.alloc (.cells #[.int .i64 (t.kind : Int), .string ⟨t.text.toArray⟩, .slice As2 t.str.length cs2, .int .i64 t.nk, .int .i64 t.nn, .bool false, .slice Am2 t.mag.length cm2, .int .i64 ((t.pos : Int) + 1), .bool false] 39)).alloc (.cells #[.int .i64 (t.kind : Int), .string ⟨t.text.toArray⟩, .slice As2 t.str.length cs2, .int .i64 t.nk, .int .i64 t.nn, .bool false, .slice Am2 t.mag.length cm2, .int .i64 ((t.pos : Int) + 1), .bool false] 39) = W := ⟨_, rfl⟩
                rw [hW]
                have hbW := hide (show Below wr.heap.size wr W by rw [← hW]; exact ((Below.refl _ _).alloc (Nat.le_refl _) _).alloc (by simp) _)
                have hsW : wr.heap.size + 2 = W.heap.size := by rw [← hW]; simp
                have hBp : Blk W wr.heap.size [.int .i64 (t.kind : Int), .string ⟨t.text.toArray⟩, .slice As2 t.str.length cs2, .int .i64 t.nk, .int .i64 t.nn, .bool false, .slice Am2 t.mag.length cm2, .int .i64 ((t.pos : Int) + 1), .bool false] := by rw [← hW]; exact (Blk.new wr _ 39).below ((Below.refl _ _).alloc (Nat.le_refl _) _) (by simp)
                have hBq : Blk W (wr.heap.size + 1) [.int .i64 (t.kind : Int), .string ⟨t.text.toArray⟩, .slice As2 t.str.length cs2, .int .i64 t.nk, .int .i64 t.nn, .bool false, .slice Am2 t.mag.length cm2, .int .i64 ((t.pos : Int) + 1), .bool false] := by
                  rw [← hW]
                  have := Blk.new (wr.alloc (.cells #[.int .i64 (t.kind : Int), .string ⟨t.text.toArray⟩, .slice As2 t.str.length cs2, .int .i64 t.nk, .int .i64 t.nn, .bool false, .slice Am2 t.mag.length cm2, .int .i64 ((t.pos : Int) + 1), .bool false] 39)) [.int .i64 (t.kind : Int), .string ⟨t.text.toArray⟩, .slice As2 t.str.length cs2, .int .i64 t.nk, .int .i64 t.nn, .bool false, .slice Am2 t.mag.length cm2, .int .i64 ((t.pos : Int) + 1), .bool false] 39
                  rwa [show (wr.alloc (.cells #[.int .i64 (t.kind : Int), .string ⟨t.text.toArray⟩, .slice As2 t.str.length cs2, .int .i64 t.nk, .int .i64 t.nn, .bool false, .slice Am2 t.mag.length cm2, .int .i64 ((t.pos : Int) + 1), .bool false] 39)).heap.size = wr.heap.size + 1 by simp] at this
                have HTp := hide (show T9 W wr.heap.size 0 (.int .i64 (t.kind : Int)) (.string ⟨t.text.toArray⟩) (.slice As2 t.str.length cs2) (.int .i64 t.nk) (.int .i64 t.nn) (.bool false) (.slice Am2 t.mag.length cm2) (.int .i64 ((t.pos : Int) + 1)) (.bool false) from T9.of_blk hBp)
                have HTq := hide (show T9 W (wr.heap.size + 1) 0 (.int .i64 (t.kind : Int)) (.string ⟨t.text.toArray⟩) (.slice As2 t.str.length cs2) (.int .i64 t.nk) (.int .i64 t.nn) (.bool false) (.slice Am2 t.mag.length cm2) (.int .i64 ((t.pos : Int) + 1)) (.bool false) from T9.of_blk hBq)
                have HTm := hide (show T9 W g4 (k * 9) (.int .i64 (t.kind : Int)) (.string ⟨t.text.toArray⟩) (.slice As4 t.str.length cs4) (.int .i64 t.nk) (.int .i64 t.nn) (.bool false) (.slice Am4 t.mag.length cm4) (.int .i64 ((t.pos : Int) + 1)) (.bool false) from HT4r.out.below hbW.out (by omega))
                have HTn := hide (show T9 W g6 (k * 9) (.int .i64 (t.kind : Int)) (.string ⟨t.text.toArray⟩) (.slice As6 t.str.length cs6) (.int .i64 t.nk) (.int .i64 t.nn) (.bool false) (.slice Am6 t.mag.length cm6) (.int .i64 ((t.pos : Int) + 1)) (.bool false) from HT6r.out.below hbW.out (by omega))
                have H4W := hide (H4.out.below (hbW.out.mono hr6))
                have H6W := hide (H6.out.below (hbW.out.mono hr6))
                have H2W := hide (H2.out.below (hbW.out.mono hr6))
                have HNL2 := hide HNL.out
                have hWW : w6.heap.size ≤ W.heap.size := by omega
                clear hW
                have C1 := hide (rtoken_c t.kind t.text t.str t.nk t.nn t.mag (t.pos + 1) ((t.pos : Int) + 1) false As4 Am4 As2 Am2 cs4 cm4 cs2 cm2 w6.heap.size W.drew (cast_one _) (by simpa using hWW) H4W.out.str.drew H4W.out.mag.drew H2W.out.str.drew H2W.out.mag.drew H2W.out.strl H2W.out.magl)
                have C2 := hide (fun (w8 : World) (hb8 : Below W.drew.heap.size W.drew w8) => rtoken_c t.kind t.text t.str t.nk t.nn t.mag (t.pos + 1) ((t.pos : Int) + 1) false As6 Am6 As2 Am2 cs6 cm6 cs2 cm2 w6.heap.size w8 (cast_one _) (Nat.le_trans hWW (below_drew' hb8).size) (H6W.out.below ((below_drew' hb8).mono hWW)).str (H6W.out.below ((below_drew' hb8).mono hWW)).mag (H2W.out.below ((below_drew' hb8).mono hWW)).str (H2W.out.below ((below_drew' hb8).mono hWW)).mag H2W.out.strl H2W.out.magl)
                have hd0 : wr.heap.size < W.heap.size := by omega
                have hd1 : wr.heap.size + 1 < W.heap.size := by omega
                have hd4 : g4 < W.heap.size := by omega
                have hd6 : g6 < W.heap.size := by omega
                go_region_held3 (fun w' => (w'.cell? ⟨wr.heap.size, 0, none⟩ = some (.int .i64 (t.kind : Int)) ∧ w'.cell? ⟨wr.heap.size, 1, none⟩ = some (.string ⟨t.text.toArray⟩) ∧ w'.cell? ⟨wr.heap.size, 2, none⟩ = some (.slice As2 t.str.length cs2) ∧ w'.cell? ⟨wr.heap.size, 3, none⟩ = some (.int .i64 t.nk) ∧ w'.cell? ⟨wr.heap.size, 4, none⟩ = some (.int .i64 t.nn) ∧ w'.cell? ⟨wr.heap.size, 5, none⟩ = some (.bool false) ∧ w'.cell? ⟨wr.heap.size, 6, none⟩ = some (.slice Am2 t.mag.length cm2) ∧ w'.cell? ⟨wr.heap.size, 7, none⟩ = some (.int .i64 ((t.pos : Int) + 1)) ∧ w'.cell? ⟨wr.heap.size, 8, none⟩ = some (.bool false)) ∧ (w'.cell? ⟨wr.heap.size + 1, 0, none⟩ = some (.int .i64 (t.kind : Int)) ∧ w'.cell? ⟨wr.heap.size + 1, 1, none⟩ = some (.string ⟨t.text.toArray⟩) ∧ w'.cell? ⟨wr.heap.size + 1, 2, none⟩ = some (.slice As2 t.str.length cs2) ∧ w'.cell? ⟨wr.heap.size + 1, 3, none⟩ = some (.int .i64 t.nk) ∧ w'.cell? ⟨wr.heap.size + 1, 4, none⟩ = some (.int .i64 t.nn) ∧ w'.cell? ⟨wr.heap.size + 1, 5, none⟩ = some (.bool false) ∧ w'.cell? ⟨wr.heap.size + 1, 6, none⟩ = some (.slice Am2 t.mag.length cm2) ∧ w'.cell? ⟨wr.heap.size + 1, 7, none⟩ = some (.int .i64 ((t.pos : Int) + 1)) ∧ w'.cell? ⟨wr.heap.size + 1, 8, none⟩ = some (.bool false)) ∧ (w'.cell? ⟨g4, k * 9, none⟩ = some (.int .i64 (t.kind : Int)) ∧ w'.cell? ⟨g4, k * 9 + 1, none⟩ = some (.string ⟨t.text.toArray⟩) ∧ w'.cell? ⟨g4, k * 9 + 2, none⟩ = some (.slice As4 t.str.length cs4) ∧ w'.cell? ⟨g4, k * 9 + 3, none⟩ = some (.int .i64 t.nk) ∧ w'.cell? ⟨g4, k * 9 + 4, none⟩ = some (.int .i64 t.nn) ∧ w'.cell? ⟨g4, k * 9 + 5, none⟩ = some (.bool false) ∧ w'.cell? ⟨g4, k * 9 + 6, none⟩ = some (.slice Am4 t.mag.length cm4) ∧ w'.cell? ⟨g4, k * 9 + 7, none⟩ = some (.int .i64 ((t.pos : Int) + 1)) ∧ w'.cell? ⟨g4, k * 9 + 8, none⟩ = some (.bool false)) ∧ (w'.cell? ⟨g6, k * 9, none⟩ = some (.int .i64 (t.kind : Int)) ∧ w'.cell? ⟨g6, k * 9 + 1, none⟩ = some (.string ⟨t.text.toArray⟩) ∧ w'.cell? ⟨g6, k * 9 + 2, none⟩ = some (.slice As6 t.str.length cs6) ∧ w'.cell? ⟨g6, k * 9 + 3, none⟩ = some (.int .i64 t.nk) ∧ w'.cell? ⟨g6, k * 9 + 4, none⟩ = some (.int .i64 t.nn) ∧ w'.cell? ⟨g6, k * 9 + 5, none⟩ = some (.bool false) ∧ w'.cell? ⟨g6, k * 9 + 6, none⟩ = some (.slice Am6 t.mag.length cm6) ∧ w'.cell? ⟨g6, k * 9 + 7, none⟩ = some (.int .i64 ((t.pos : Int) + 1)) ∧ w'.cell? ⟨g6, k * 9 + 8, none⟩ = some (.bool false)))
                  (first | (exact ⟨HTp.out, HTq.out, HTm.out, HTn.out⟩) | (exact ⟨HTp.out.below (below_drew' hb8) hd0, HTq.out.below (below_drew' hb8) hd1, HTm.out.below (below_drew' hb8) hd4, HTn.out.below (below_drew' hb8) hd6⟩) | (exact ⟨HTp.out.below (bstep (below_drew' hb8) hb9) hd0, HTq.out.below (bstep (below_drew' hb8) hb9) hd1, HTm.out.below (bstep (below_drew' hb8) hb9) hd4, HTn.out.below (bstep (below_drew' hb8) hb9) hd6⟩) | go_keep)
                  (first | (go_at_call 18; go_split_ands; (with_reducible refine C1.out.mono ?_); rintro e8 w8 ⟨rfl, hb8⟩) | (go_at_call 18; go_split_ands; (with_reducible refine (C2.out w8 hb8).mono ?_); rintro e9 w9 ⟨rfl, hb9⟩))
                all_goals go_wp2_with fail
                all_goals go_roundw
                case rel => exact ⟨k + 1, by omega, by go_num, hBR.out.trans ((bstep hbW.out (bstep (below_drew' hb8) hb9)).mono hr6)⟩
                case measure => simp [intOf]; omega
              · go_wp2_with fail
                obtain ⟨W, hW⟩ : ∃ W, (wr.alloc (.cells #[.int .i64 (t.kind : Int), .string ⟨t.text.toArray⟩, .slice As2 t.str.length cs2, .int .i64 t.nk, .int .i64 t.nn, .bool false, .slice Am2 t.mag.length cm2, .int .i64 ((t.pos : Int) + 1), .bool false] 39)).alloc (.cells #[.int .i64 (t.kind : Int), .string ⟨t.text.toArray⟩, .slice As2 t.str.length cs2, .int .i64 t.nk, .int .i64 t.nn, .bool false, .slice Am2 t.mag.length cm2, .int .i64 ((t.pos : Int) + 1), .bool true] 39) = W := ⟨_, rfl⟩
                rw [hW]
                have hbW := hide (show Below wr.heap.size wr W by rw [← hW]; exact ((Below.refl _ _).alloc (Nat.le_refl _) _).alloc (by simp) _)
                have hsW : wr.heap.size + 2 = W.heap.size := by rw [← hW]; simp
                have hBp : Blk W wr.heap.size [.int .i64 (t.kind : Int), .string ⟨t.text.toArray⟩, .slice As2 t.str.length cs2, .int .i64 t.nk, .int .i64 t.nn, .bool false, .slice Am2 t.mag.length cm2, .int .i64 ((t.pos : Int) + 1), .bool false] := by rw [← hW]; exact (Blk.new wr _ 39).below ((Below.refl _ _).alloc (Nat.le_refl _) _) (by simp)
                have hBq : Blk W (wr.heap.size + 1) [.int .i64 (t.kind : Int), .string ⟨t.text.toArray⟩, .slice As2 t.str.length cs2, .int .i64 t.nk, .int .i64 t.nn, .bool false, .slice Am2 t.mag.length cm2, .int .i64 ((t.pos : Int) + 1), .bool true] := by
                  rw [← hW]
                  have := Blk.new (wr.alloc (.cells #[.int .i64 (t.kind : Int), .string ⟨t.text.toArray⟩, .slice As2 t.str.length cs2, .int .i64 t.nk, .int .i64 t.nn, .bool false, .slice Am2 t.mag.length cm2, .int .i64 ((t.pos : Int) + 1), .bool false] 39)) [.int .i64 (t.kind : Int), .string ⟨t.text.toArray⟩, .slice As2 t.str.length cs2, .int .i64 t.nk, .int .i64 t.nn, .bool false, .slice Am2 t.mag.length cm2, .int .i64 ((t.pos : Int) + 1), .bool true] 39
                  rwa [show (wr.alloc (.cells #[.int .i64 (t.kind : Int), .string ⟨t.text.toArray⟩, .slice As2 t.str.length cs2, .int .i64 t.nk, .int .i64 t.nn, .bool false, .slice Am2 t.mag.length cm2, .int .i64 ((t.pos : Int) + 1), .bool false] 39)).heap.size = wr.heap.size + 1 by simp] at this
                have HTp := hide (show T9 W wr.heap.size 0 (.int .i64 (t.kind : Int)) (.string ⟨t.text.toArray⟩) (.slice As2 t.str.length cs2) (.int .i64 t.nk) (.int .i64 t.nn) (.bool false) (.slice Am2 t.mag.length cm2) (.int .i64 ((t.pos : Int) + 1)) (.bool false) from T9.of_blk hBp)
                have HTq := hide (show T9 W (wr.heap.size + 1) 0 (.int .i64 (t.kind : Int)) (.string ⟨t.text.toArray⟩) (.slice As2 t.str.length cs2) (.int .i64 t.nk) (.int .i64 t.nn) (.bool false) (.slice Am2 t.mag.length cm2) (.int .i64 ((t.pos : Int) + 1)) (.bool true) from T9.of_blk hBq)
                have HTm := hide (show T9 W g4 (k * 9) (.int .i64 (t.kind : Int)) (.string ⟨t.text.toArray⟩) (.slice As4 t.str.length cs4) (.int .i64 t.nk) (.int .i64 t.nn) (.bool false) (.slice Am4 t.mag.length cm4) (.int .i64 ((t.pos : Int) + 1)) (.bool false) from HT4r.out.below hbW.out (by omega))
                have HTn := hide (show T9 W g6 (k * 9) (.int .i64 (t.kind : Int)) (.string ⟨t.text.toArray⟩) (.slice As6 t.str.length cs6) (.int .i64 t.nk) (.int .i64 t.nn) (.bool false) (.slice Am6 t.mag.length cm6) (.int .i64 ((t.pos : Int) + 1)) (.bool true) from HT6r.out.below hbW.out (by omega))
                have H4W := hide (H4.out.below (hbW.out.mono hr6))
                have H6W := hide (H6.out.below (hbW.out.mono hr6))
                have H2W := hide (H2.out.below (hbW.out.mono hr6))
                have HNL2 := hide HNL.out
                have hWW : w6.heap.size ≤ W.heap.size := by omega
                clear hW
                have C1 := hide (rtoken_c t.kind t.text t.str t.nk t.nn t.mag (t.pos + 1) ((t.pos : Int) + 1) false As4 Am4 As2 Am2 cs4 cm4 cs2 cm2 w6.heap.size W.drew (cast_one _) (by simpa using hWW) H4W.out.str.drew H4W.out.mag.drew H2W.out.str.drew H2W.out.mag.drew H2W.out.strl H2W.out.magl)
                have C2 := hide (fun (w8 : World) (hb8 : Below W.drew.heap.size W.drew w8) => rtoken_c t.kind t.text t.str t.nk t.nn t.mag (t.pos + 1) ((t.pos : Int) + 1) true As6 Am6 As2 Am2 cs6 cm6 cs2 cm2 w6.heap.size w8 (cast_one _) (Nat.le_trans hWW (below_drew' hb8).size) (H6W.out.below ((below_drew' hb8).mono hWW)).str (H6W.out.below ((below_drew' hb8).mono hWW)).mag (H2W.out.below ((below_drew' hb8).mono hWW)).str (H2W.out.below ((below_drew' hb8).mono hWW)).mag H2W.out.strl H2W.out.magl)
                have hd0 : wr.heap.size < W.heap.size := by omega
                have hd1 : wr.heap.size + 1 < W.heap.size := by omega
                have hd4 : g4 < W.heap.size := by omega
                have hd6 : g6 < W.heap.size := by omega
                go_region_held3 (fun w' => (w'.cell? ⟨wr.heap.size, 0, none⟩ = some (.int .i64 (t.kind : Int)) ∧ w'.cell? ⟨wr.heap.size, 1, none⟩ = some (.string ⟨t.text.toArray⟩) ∧ w'.cell? ⟨wr.heap.size, 2, none⟩ = some (.slice As2 t.str.length cs2) ∧ w'.cell? ⟨wr.heap.size, 3, none⟩ = some (.int .i64 t.nk) ∧ w'.cell? ⟨wr.heap.size, 4, none⟩ = some (.int .i64 t.nn) ∧ w'.cell? ⟨wr.heap.size, 5, none⟩ = some (.bool false) ∧ w'.cell? ⟨wr.heap.size, 6, none⟩ = some (.slice Am2 t.mag.length cm2) ∧ w'.cell? ⟨wr.heap.size, 7, none⟩ = some (.int .i64 ((t.pos : Int) + 1)) ∧ w'.cell? ⟨wr.heap.size, 8, none⟩ = some (.bool false)) ∧ (w'.cell? ⟨wr.heap.size + 1, 0, none⟩ = some (.int .i64 (t.kind : Int)) ∧ w'.cell? ⟨wr.heap.size + 1, 1, none⟩ = some (.string ⟨t.text.toArray⟩) ∧ w'.cell? ⟨wr.heap.size + 1, 2, none⟩ = some (.slice As2 t.str.length cs2) ∧ w'.cell? ⟨wr.heap.size + 1, 3, none⟩ = some (.int .i64 t.nk) ∧ w'.cell? ⟨wr.heap.size + 1, 4, none⟩ = some (.int .i64 t.nn) ∧ w'.cell? ⟨wr.heap.size + 1, 5, none⟩ = some (.bool false) ∧ w'.cell? ⟨wr.heap.size + 1, 6, none⟩ = some (.slice Am2 t.mag.length cm2) ∧ w'.cell? ⟨wr.heap.size + 1, 7, none⟩ = some (.int .i64 ((t.pos : Int) + 1)) ∧ w'.cell? ⟨wr.heap.size + 1, 8, none⟩ = some (.bool true)) ∧ (w'.cell? ⟨g4, k * 9, none⟩ = some (.int .i64 (t.kind : Int)) ∧ w'.cell? ⟨g4, k * 9 + 1, none⟩ = some (.string ⟨t.text.toArray⟩) ∧ w'.cell? ⟨g4, k * 9 + 2, none⟩ = some (.slice As4 t.str.length cs4) ∧ w'.cell? ⟨g4, k * 9 + 3, none⟩ = some (.int .i64 t.nk) ∧ w'.cell? ⟨g4, k * 9 + 4, none⟩ = some (.int .i64 t.nn) ∧ w'.cell? ⟨g4, k * 9 + 5, none⟩ = some (.bool false) ∧ w'.cell? ⟨g4, k * 9 + 6, none⟩ = some (.slice Am4 t.mag.length cm4) ∧ w'.cell? ⟨g4, k * 9 + 7, none⟩ = some (.int .i64 ((t.pos : Int) + 1)) ∧ w'.cell? ⟨g4, k * 9 + 8, none⟩ = some (.bool false)) ∧ (w'.cell? ⟨g6, k * 9, none⟩ = some (.int .i64 (t.kind : Int)) ∧ w'.cell? ⟨g6, k * 9 + 1, none⟩ = some (.string ⟨t.text.toArray⟩) ∧ w'.cell? ⟨g6, k * 9 + 2, none⟩ = some (.slice As6 t.str.length cs6) ∧ w'.cell? ⟨g6, k * 9 + 3, none⟩ = some (.int .i64 t.nk) ∧ w'.cell? ⟨g6, k * 9 + 4, none⟩ = some (.int .i64 t.nn) ∧ w'.cell? ⟨g6, k * 9 + 5, none⟩ = some (.bool false) ∧ w'.cell? ⟨g6, k * 9 + 6, none⟩ = some (.slice Am6 t.mag.length cm6) ∧ w'.cell? ⟨g6, k * 9 + 7, none⟩ = some (.int .i64 ((t.pos : Int) + 1)) ∧ w'.cell? ⟨g6, k * 9 + 8, none⟩ = some (.bool true)))
                  (first | (exact ⟨HTp.out, HTq.out, HTm.out, HTn.out⟩) | (exact ⟨HTp.out.below (below_drew' hb8) hd0, HTq.out.below (below_drew' hb8) hd1, HTm.out.below (below_drew' hb8) hd4, HTn.out.below (below_drew' hb8) hd6⟩) | (exact ⟨HTp.out.below (bstep (below_drew' hb8) hb9) hd0, HTq.out.below (bstep (below_drew' hb8) hb9) hd1, HTm.out.below (bstep (below_drew' hb8) hb9) hd4, HTn.out.below (bstep (below_drew' hb8) hb9) hd6⟩) | go_keep)
                  (first | (go_at_call 18; go_split_ands; (with_reducible refine C1.out.mono ?_); rintro e8 w8 ⟨rfl, hb8⟩) | (go_at_call 18; go_split_ands; (with_reducible refine (C2.out w8 hb8).mono ?_); rintro e9 w9 ⟨rfl, hb9⟩))
                all_goals go_wp2_with fail
                all_goals go_roundw
                case rel => exact ⟨k + 1, by omega, by go_num, hBR.out.trans ((bstep hbW.out (bstep (below_drew' hb8) hb9)).mono hr6)⟩
                case measure => simp [intOf]; omega
              · go_wp2_with fail
                obtain ⟨W, hW⟩ : ∃ W, (wr.alloc (.cells #[.int .i64 (t.kind : Int), .string ⟨t.text.toArray⟩, .slice As2 t.str.length cs2, .int .i64 t.nk, .int .i64 t.nn, .bool false, .slice Am2 t.mag.length cm2, .int .i64 ((t.pos : Int) + 1), .bool true] 39)).alloc (.cells #[.int .i64 (t.kind : Int), .string ⟨t.text.toArray⟩, .slice As2 t.str.length cs2, .int .i64 t.nk, .int .i64 t.nn, .bool false, .slice Am2 t.mag.length cm2, .int .i64 ((t.pos : Int) + 1), .bool true] 39) = W := ⟨_, rfl⟩
                rw [hW]
                have hbW := hide (show Below wr.heap.size wr W by rw [← hW]; exact ((Below.refl _ _).alloc (Nat.le_refl _) _).alloc (by simp) _)
                have hsW : wr.heap.size + 2 = W.heap.size := by rw [← hW]; simp
                have hBp : Blk W wr.heap.size [.int .i64 (t.kind : Int), .string ⟨t.text.toArray⟩, .slice As2 t.str.length cs2, .int .i64 t.nk, .int .i64 t.nn, .bool false, .slice Am2 t.mag.length cm2, .int .i64 ((t.pos : Int) + 1), .bool true] := by rw [← hW]; exact (Blk.new wr _ 39).below ((Below.refl _ _).alloc (Nat.le_refl _) _) (by simp)
                have hBq : Blk W (wr.heap.size + 1) [.int .i64 (t.kind : Int), .string ⟨t.text.toArray⟩, .slice As2 t.str.length cs2, .int .i64 t.nk, .int .i64 t.nn, .bool false, .slice Am2 t.mag.length cm2, .int .i64 ((t.pos : Int) + 1), .bool true] := by
                  rw [← hW]
                  have := Blk.new (wr.alloc (.cells #[.int .i64 (t.kind : Int), .string ⟨t.text.toArray⟩, .slice As2 t.str.length cs2, .int .i64 t.nk, .int .i64 t.nn, .bool false, .slice Am2 t.mag.length cm2, .int .i64 ((t.pos : Int) + 1), .bool true] 39)) [.int .i64 (t.kind : Int), .string ⟨t.text.toArray⟩, .slice As2 t.str.length cs2, .int .i64 t.nk, .int .i64 t.nn, .bool false, .slice Am2 t.mag.length cm2, .int .i64 ((t.pos : Int) + 1), .bool true] 39
                  rwa [show (wr.alloc (.cells #[.int .i64 (t.kind : Int), .string ⟨t.text.toArray⟩, .slice As2 t.str.length cs2, .int .i64 t.nk, .int .i64 t.nn, .bool false, .slice Am2 t.mag.length cm2, .int .i64 ((t.pos : Int) + 1), .bool true] 39)).heap.size = wr.heap.size + 1 by simp] at this
                have HTp := hide (show T9 W wr.heap.size 0 (.int .i64 (t.kind : Int)) (.string ⟨t.text.toArray⟩) (.slice As2 t.str.length cs2) (.int .i64 t.nk) (.int .i64 t.nn) (.bool false) (.slice Am2 t.mag.length cm2) (.int .i64 ((t.pos : Int) + 1)) (.bool true) from T9.of_blk hBp)
                have HTq := hide (show T9 W (wr.heap.size + 1) 0 (.int .i64 (t.kind : Int)) (.string ⟨t.text.toArray⟩) (.slice As2 t.str.length cs2) (.int .i64 t.nk) (.int .i64 t.nn) (.bool false) (.slice Am2 t.mag.length cm2) (.int .i64 ((t.pos : Int) + 1)) (.bool true) from T9.of_blk hBq)
                have HTm := hide (show T9 W g4 (k * 9) (.int .i64 (t.kind : Int)) (.string ⟨t.text.toArray⟩) (.slice As4 t.str.length cs4) (.int .i64 t.nk) (.int .i64 t.nn) (.bool false) (.slice Am4 t.mag.length cm4) (.int .i64 ((t.pos : Int) + 1)) (.bool true) from HT4r.out.below hbW.out (by omega))
                have HTn := hide (show T9 W g6 (k * 9) (.int .i64 (t.kind : Int)) (.string ⟨t.text.toArray⟩) (.slice As6 t.str.length cs6) (.int .i64 t.nk) (.int .i64 t.nn) (.bool false) (.slice Am6 t.mag.length cm6) (.int .i64 ((t.pos : Int) + 1)) (.bool true) from HT6r.out.below hbW.out (by omega))
                have H4W := hide (H4.out.below (hbW.out.mono hr6))
                have H6W := hide (H6.out.below (hbW.out.mono hr6))
                have H2W := hide (H2.out.below (hbW.out.mono hr6))
                have HNL2 := hide HNL.out
                have hWW : w6.heap.size ≤ W.heap.size := by omega
                clear hW
                have C1 := hide (rtoken_c t.kind t.text t.str t.nk t.nn t.mag (t.pos + 1) ((t.pos : Int) + 1) true As4 Am4 As2 Am2 cs4 cm4 cs2 cm2 w6.heap.size W.drew (cast_one _) (by simpa using hWW) H4W.out.str.drew H4W.out.mag.drew H2W.out.str.drew H2W.out.mag.drew H2W.out.strl H2W.out.magl)
                have C2 := hide (fun (w8 : World) (hb8 : Below W.drew.heap.size W.drew w8) => rtoken_c t.kind t.text t.str t.nk t.nn t.mag (t.pos + 1) ((t.pos : Int) + 1) true As6 Am6 As2 Am2 cs6 cm6 cs2 cm2 w6.heap.size w8 (cast_one _) (Nat.le_trans hWW (below_drew' hb8).size) (H6W.out.below ((below_drew' hb8).mono hWW)).str (H6W.out.below ((below_drew' hb8).mono hWW)).mag (H2W.out.below ((below_drew' hb8).mono hWW)).str (H2W.out.below ((below_drew' hb8).mono hWW)).mag H2W.out.strl H2W.out.magl)
                have hd0 : wr.heap.size < W.heap.size := by omega
                have hd1 : wr.heap.size + 1 < W.heap.size := by omega
                have hd4 : g4 < W.heap.size := by omega
                have hd6 : g6 < W.heap.size := by omega
                go_region_held3 (fun w' => (w'.cell? ⟨wr.heap.size, 0, none⟩ = some (.int .i64 (t.kind : Int)) ∧ w'.cell? ⟨wr.heap.size, 1, none⟩ = some (.string ⟨t.text.toArray⟩) ∧ w'.cell? ⟨wr.heap.size, 2, none⟩ = some (.slice As2 t.str.length cs2) ∧ w'.cell? ⟨wr.heap.size, 3, none⟩ = some (.int .i64 t.nk) ∧ w'.cell? ⟨wr.heap.size, 4, none⟩ = some (.int .i64 t.nn) ∧ w'.cell? ⟨wr.heap.size, 5, none⟩ = some (.bool false) ∧ w'.cell? ⟨wr.heap.size, 6, none⟩ = some (.slice Am2 t.mag.length cm2) ∧ w'.cell? ⟨wr.heap.size, 7, none⟩ = some (.int .i64 ((t.pos : Int) + 1)) ∧ w'.cell? ⟨wr.heap.size, 8, none⟩ = some (.bool true)) ∧ (w'.cell? ⟨wr.heap.size + 1, 0, none⟩ = some (.int .i64 (t.kind : Int)) ∧ w'.cell? ⟨wr.heap.size + 1, 1, none⟩ = some (.string ⟨t.text.toArray⟩) ∧ w'.cell? ⟨wr.heap.size + 1, 2, none⟩ = some (.slice As2 t.str.length cs2) ∧ w'.cell? ⟨wr.heap.size + 1, 3, none⟩ = some (.int .i64 t.nk) ∧ w'.cell? ⟨wr.heap.size + 1, 4, none⟩ = some (.int .i64 t.nn) ∧ w'.cell? ⟨wr.heap.size + 1, 5, none⟩ = some (.bool false) ∧ w'.cell? ⟨wr.heap.size + 1, 6, none⟩ = some (.slice Am2 t.mag.length cm2) ∧ w'.cell? ⟨wr.heap.size + 1, 7, none⟩ = some (.int .i64 ((t.pos : Int) + 1)) ∧ w'.cell? ⟨wr.heap.size + 1, 8, none⟩ = some (.bool true)) ∧ (w'.cell? ⟨g4, k * 9, none⟩ = some (.int .i64 (t.kind : Int)) ∧ w'.cell? ⟨g4, k * 9 + 1, none⟩ = some (.string ⟨t.text.toArray⟩) ∧ w'.cell? ⟨g4, k * 9 + 2, none⟩ = some (.slice As4 t.str.length cs4) ∧ w'.cell? ⟨g4, k * 9 + 3, none⟩ = some (.int .i64 t.nk) ∧ w'.cell? ⟨g4, k * 9 + 4, none⟩ = some (.int .i64 t.nn) ∧ w'.cell? ⟨g4, k * 9 + 5, none⟩ = some (.bool false) ∧ w'.cell? ⟨g4, k * 9 + 6, none⟩ = some (.slice Am4 t.mag.length cm4) ∧ w'.cell? ⟨g4, k * 9 + 7, none⟩ = some (.int .i64 ((t.pos : Int) + 1)) ∧ w'.cell? ⟨g4, k * 9 + 8, none⟩ = some (.bool true)) ∧ (w'.cell? ⟨g6, k * 9, none⟩ = some (.int .i64 (t.kind : Int)) ∧ w'.cell? ⟨g6, k * 9 + 1, none⟩ = some (.string ⟨t.text.toArray⟩) ∧ w'.cell? ⟨g6, k * 9 + 2, none⟩ = some (.slice As6 t.str.length cs6) ∧ w'.cell? ⟨g6, k * 9 + 3, none⟩ = some (.int .i64 t.nk) ∧ w'.cell? ⟨g6, k * 9 + 4, none⟩ = some (.int .i64 t.nn) ∧ w'.cell? ⟨g6, k * 9 + 5, none⟩ = some (.bool false) ∧ w'.cell? ⟨g6, k * 9 + 6, none⟩ = some (.slice Am6 t.mag.length cm6) ∧ w'.cell? ⟨g6, k * 9 + 7, none⟩ = some (.int .i64 ((t.pos : Int) + 1)) ∧ w'.cell? ⟨g6, k * 9 + 8, none⟩ = some (.bool true)))
                  (first | (exact ⟨HTp.out, HTq.out, HTm.out, HTn.out⟩) | (exact ⟨HTp.out.below (below_drew' hb8) hd0, HTq.out.below (below_drew' hb8) hd1, HTm.out.below (below_drew' hb8) hd4, HTn.out.below (below_drew' hb8) hd6⟩) | (exact ⟨HTp.out.below (bstep (below_drew' hb8) hb9) hd0, HTq.out.below (bstep (below_drew' hb8) hb9) hd1, HTm.out.below (bstep (below_drew' hb8) hb9) hd4, HTn.out.below (bstep (below_drew' hb8) hb9) hd6⟩) | go_keep)
                  (first | (go_at_call 18; go_split_ands; (with_reducible refine C1.out.mono ?_); rintro e8 w8 ⟨rfl, hb8⟩) | (go_at_call 18; go_split_ands; (with_reducible refine (C2.out w8 hb8).mono ?_); rintro e9 w9 ⟨rfl, hb9⟩))
                all_goals go_wp2_with fail
                all_goals go_roundw
                case rel => exact ⟨k + 1, by omega, by go_num, hBR.out.trans ((bstep hbW.out (bstep (below_drew' hb8) hb9)).mono hr6)⟩
                case measure => simp [intOf]; omega
              · go_wp2_with fail
                obtain ⟨W, hW⟩ : ∃ W, (wr.alloc (.cells #[.int .i64 (t.kind : Int), .string ⟨t.text.toArray⟩, .slice As2 t.str.length cs2, .int .i64 t.nk, .int .i64 t.nn, .bool false, .slice Am2 t.mag.length cm2, .int .i64 ((t.pos : Int) + 1), .bool true] 39)).alloc (.cells #[.int .i64 (t.kind : Int), .string ⟨t.text.toArray⟩, .slice As2 t.str.length cs2, .int .i64 t.nk, .int .i64 t.nn, .bool false, .slice Am2 t.mag.length cm2, .int .i64 ((t.pos : Int) + 1), .bool true] 39) = W := ⟨_, rfl⟩
                rw [hW]
                have hbW := hide (show Below wr.heap.size wr W by rw [← hW]; exact ((Below.refl _ _).alloc (Nat.le_refl _) _).alloc (by simp) _)
                have hsW : wr.heap.size + 2 = W.heap.size := by rw [← hW]; simp
                have hBp : Blk W wr.heap.size [.int .i64 (t.kind : Int), .string ⟨t.text.toArray⟩, .slice As2 t.str.length cs2, .int .i64 t.nk, .int .i64 t.nn, .bool false, .slice Am2 t.mag.length cm2, .int .i64 ((t.pos : Int) + 1), .bool true] := by rw [← hW]; exact (Blk.new wr _ 39).below ((Below.refl _ _).alloc (Nat.le_refl _) _) (by simp)
                have hBq : Blk W (wr.heap.size + 1) [.int .i64 (t.kind : Int), .string ⟨t.text.toArray⟩, .slice As2 t.str.length cs2, .int .i64 t.nk, .int .i64 t.nn, .bool false, .slice Am2 t.mag.length cm2, .int .i64 ((t.pos : Int) + 1), .bool true] := by
                  rw [← hW]
                  have := Blk.new (wr.alloc (.cells #[.int .i64 (t.kind : Int), .string ⟨t.text.toArray⟩, .slice As2 t.str.length cs2, .int .i64 t.nk, .int .i64 t.nn, .bool false, .slice Am2 t.mag.length cm2, .int .i64 ((t.pos : Int) + 1), .bool true] 39)) [.int .i64 (t.kind : Int), .string ⟨t.text.toArray⟩, .slice As2 t.str.length cs2, .int .i64 t.nk, .int .i64 t.nn, .bool false, .slice Am2 t.mag.length cm2, .int .i64 ((t.pos : Int) + 1), .bool true] 39
                  rwa [show (wr.alloc (.cells #[.int .i64 (t.kind : Int), .string ⟨t.text.toArray⟩, .slice As2 t.str.length cs2, .int .i64 t.nk, .int .i64 t.nn, .bool false, .slice Am2 t.mag.length cm2, .int .i64 ((t.pos : Int) + 1), .bool true] 39)).heap.size = wr.heap.size + 1 by simp] at this
                have HTp := hide (show T9 W wr.heap.size 0 (.int .i64 (t.kind : Int)) (.string ⟨t.text.toArray⟩) (.slice As2 t.str.length cs2) (.int .i64 t.nk) (.int .i64 t.nn) (.bool false) (.slice Am2 t.mag.length cm2) (.int .i64 ((t.pos : Int) + 1)) (.bool true) from T9.of_blk hBp)
                have HTq := hide (show T9 W (wr.heap.size + 1) 0 (.int .i64 (t.kind : Int)) (.string ⟨t.text.toArray⟩) (.slice As2 t.str.length cs2) (.int .i64 t.nk) (.int .i64 t.nn) (.bool false) (.slice Am2 t.mag.length cm2) (.int .i64 ((t.pos : Int) + 1)) (.bool true) from T9.of_blk hBq)
                have HTm := hide (show T9 W g4 (k * 9) (.int .i64 (t.kind : Int)) (.string ⟨t.text.toArray⟩) (.slice As4 t.str.length cs4) (.int .i64 t.nk) (.int .i64 t.nn) (.bool false) (.slice Am4 t.mag.length cm4) (.int .i64 ((t.pos : Int) + 1)) (.bool true) from HT4r.out.below hbW.out (by omega))
                have HTn := hide (show T9 W g6 (k * 9) (.int .i64 (t.kind : Int)) (.string ⟨t.text.toArray⟩) (.slice As6 t.str.length cs6) (.int .i64 t.nk) (.int .i64 t.nn) (.bool false) (.slice Am6 t.mag.length cm6) (.int .i64 ((t.pos : Int) + 1)) (.bool true) from HT6r.out.below hbW.out (by omega))
                have H4W := hide (H4.out.below (hbW.out.mono hr6))
                have H6W := hide (H6.out.below (hbW.out.mono hr6))
                have H2W := hide (H2.out.below (hbW.out.mono hr6))
                have HNL2 := hide HNL.out
                have hWW : w6.heap.size ≤ W.heap.size := by omega
                clear hW
                have C1 := hide (rtoken_c t.kind t.text t.str t.nk t.nn t.mag (t.pos + 1) ((t.pos : Int) + 1) true As4 Am4 As2 Am2 cs4 cm4 cs2 cm2 w6.heap.size W.drew (cast_one _) (by simpa using hWW) H4W.out.str.drew H4W.out.mag.drew H2W.out.str.drew H2W.out.mag.drew H2W.out.strl H2W.out.magl)
                have C2 := hide (fun (w8 : World) (hb8 : Below W.drew.heap.size W.drew w8) => rtoken_c t.kind t.text t.str t.nk t.nn t.mag (t.pos + 1) ((t.pos : Int) + 1) true As6 Am6 As2 Am2 cs6 cm6 cs2 cm2 w6.heap.size w8 (cast_one _) (Nat.le_trans hWW (below_drew' hb8).size) (H6W.out.below ((below_drew' hb8).mono hWW)).str (H6W.out.below ((below_drew' hb8).mono hWW)).mag (H2W.out.below ((below_drew' hb8).mono hWW)).str (H2W.out.below ((below_drew' hb8).mono hWW)).mag H2W.out.strl H2W.out.magl)
                have hd0 : wr.heap.size < W.heap.size := by omega
                have hd1 : wr.heap.size + 1 < W.heap.size := by omega
                have hd4 : g4 < W.heap.size := by omega
                have hd6 : g6 < W.heap.size := by omega
                go_region_held3 (fun w' => (w'.cell? ⟨wr.heap.size, 0, none⟩ = some (.int .i64 (t.kind : Int)) ∧ w'.cell? ⟨wr.heap.size, 1, none⟩ = some (.string ⟨t.text.toArray⟩) ∧ w'.cell? ⟨wr.heap.size, 2, none⟩ = some (.slice As2 t.str.length cs2) ∧ w'.cell? ⟨wr.heap.size, 3, none⟩ = some (.int .i64 t.nk) ∧ w'.cell? ⟨wr.heap.size, 4, none⟩ = some (.int .i64 t.nn) ∧ w'.cell? ⟨wr.heap.size, 5, none⟩ = some (.bool false) ∧ w'.cell? ⟨wr.heap.size, 6, none⟩ = some (.slice Am2 t.mag.length cm2) ∧ w'.cell? ⟨wr.heap.size, 7, none⟩ = some (.int .i64 ((t.pos : Int) + 1)) ∧ w'.cell? ⟨wr.heap.size, 8, none⟩ = some (.bool true)) ∧ (w'.cell? ⟨wr.heap.size + 1, 0, none⟩ = some (.int .i64 (t.kind : Int)) ∧ w'.cell? ⟨wr.heap.size + 1, 1, none⟩ = some (.string ⟨t.text.toArray⟩) ∧ w'.cell? ⟨wr.heap.size + 1, 2, none⟩ = some (.slice As2 t.str.length cs2) ∧ w'.cell? ⟨wr.heap.size + 1, 3, none⟩ = some (.int .i64 t.nk) ∧ w'.cell? ⟨wr.heap.size + 1, 4, none⟩ = some (.int .i64 t.nn) ∧ w'.cell? ⟨wr.heap.size + 1, 5, none⟩ = some (.bool false) ∧ w'.cell? ⟨wr.heap.size + 1, 6, none⟩ = some (.slice Am2 t.mag.length cm2) ∧ w'.cell? ⟨wr.heap.size + 1, 7, none⟩ = some (.int .i64 ((t.pos : Int) + 1)) ∧ w'.cell? ⟨wr.heap.size + 1, 8, none⟩ = some (.bool true)) ∧ (w'.cell? ⟨g4, k * 9, none⟩ = some (.int .i64 (t.kind : Int)) ∧ w'.cell? ⟨g4, k * 9 + 1, none⟩ = some (.string ⟨t.text.toArray⟩) ∧ w'.cell? ⟨g4, k * 9 + 2, none⟩ = some (.slice As4 t.str.length cs4) ∧ w'.cell? ⟨g4, k * 9 + 3, none⟩ = some (.int .i64 t.nk) ∧ w'.cell? ⟨g4, k * 9 + 4, none⟩ = some (.int .i64 t.nn) ∧ w'.cell? ⟨g4, k * 9 + 5, none⟩ = some (.bool false) ∧ w'.cell? ⟨g4, k * 9 + 6, none⟩ = some (.slice Am4 t.mag.length cm4) ∧ w'.cell? ⟨g4, k * 9 + 7, none⟩ = some (.int .i64 ((t.pos : Int) + 1)) ∧ w'.cell? ⟨g4, k * 9 + 8, none⟩ = some (.bool true)) ∧ (w'.cell? ⟨g6, k * 9, none⟩ = some (.int .i64 (t.kind : Int)) ∧ w'.cell? ⟨g6, k * 9 + 1, none⟩ = some (.string ⟨t.text.toArray⟩) ∧ w'.cell? ⟨g6, k * 9 + 2, none⟩ = some (.slice As6 t.str.length cs6) ∧ w'.cell? ⟨g6, k * 9 + 3, none⟩ = some (.int .i64 t.nk) ∧ w'.cell? ⟨g6, k * 9 + 4, none⟩ = some (.int .i64 t.nn) ∧ w'.cell? ⟨g6, k * 9 + 5, none⟩ = some (.bool false) ∧ w'.cell? ⟨g6, k * 9 + 6, none⟩ = some (.slice Am6 t.mag.length cm6) ∧ w'.cell? ⟨g6, k * 9 + 7, none⟩ = some (.int .i64 ((t.pos : Int) + 1)) ∧ w'.cell? ⟨g6, k * 9 + 8, none⟩ = some (.bool true)))
                  (first | (exact ⟨HTp.out, HTq.out, HTm.out, HTn.out⟩) | (exact ⟨HTp.out.below (below_drew' hb8) hd0, HTq.out.below (below_drew' hb8) hd1, HTm.out.below (below_drew' hb8) hd4, HTn.out.below (below_drew' hb8) hd6⟩) | (exact ⟨HTp.out.below (bstep (below_drew' hb8) hb9) hd0, HTq.out.below (bstep (below_drew' hb8) hb9) hd1, HTm.out.below (bstep (below_drew' hb8) hb9) hd4, HTn.out.below (bstep (below_drew' hb8) hb9) hd6⟩) | go_keep)
                  (first | (go_at_call 18; go_split_ands; (with_reducible refine C1.out.mono ?_); rintro e8 w8 ⟨rfl, hb8⟩) | (go_at_call 18; go_split_ands; (with_reducible refine (C2.out w8 hb8).mono ?_); rintro e9 w9 ⟨rfl, hb9⟩))
                all_goals go_wp2_with fail
                all_goals go_roundw
                case rel => exact ⟨k + 1, by omega, by go_num, hBR.out.trans ((bstep hbW.out (bstep (below_drew' hb8) hb9)).mono hr6)⟩
                case measure => simp [intOf]; omega
            · go_wp2_with fail
              refine (lfirst_any wr).mono ?_
              rintro e w7 ⟨rfl, hb7⟩
              go_wp2_with fail
              go_ret
              exact ⟨rfl, HW6.out.trans ((hbr.trans (hb7.mono hbr.size)).mono HW6.out.size)⟩
        · have e1 : ((er : Int) != 0) = true := by rw [bne_iff_ne]; omega
          have hat := HQ0.out her
          have HAT := hide (show a1 = at0 + 1 by rw [← HA1.out]; unfold addQ; simp [her])
          clear her
          have e2 : ((a1 : Int) == (at0 : Int) + 1) = true := by rw [HAT.out]; simp
          go_wp2_with fail
          refine (lfirst_any w6).mono ?_
          rintro e w7 ⟨rfl, hb7⟩
          go_wp2_with fail
          go_ret
          exact ⟨rfl, bstep HW6.out hb7⟩
end Go.Proofs.Ytngcikgjdeomdaa
