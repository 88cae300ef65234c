/- The law LexQuotes, walked. -/
import Derived.Test.YtngcikgjdeomdaaLexFirst
import Derived.Test.YtngcikgjdeomdaaPQuotes
namespace Go.Proofs.Ytngcikgjdeomdaa
open Go.RowKit

theorem made_lit {w : World} (e : TypeId) (cs : List Value) (n : Nat) (hn : cs.length = n) (h : n ≤ maxLen) : Made w (w.alloc (.cells cs.toArray e)) e (.slice (some ⟨w.heap.size, 0, none⟩) n n) cs := by
  subst hn
  exact Made.lit w e cs h
set_option maxHeartbeats 8000000 in
set_option maxRecDepth 100000 in
theorem lexQuotes_law (A : Option Addr) (c : Nat) (u : List UInt16) (_hc : u.length ≤ c) (_hm : c ≤ maxLen) (double : Bool) (w : World) (hr : Reads w w.heap.size 1 A u.length (u16s u)) :
    Calls Try.prog 7 #[.slice A u.length c, .bool double] w fun e w' => e = .returned (.bool true) ∧ Below w.heap.size w w' := by
  obtain ⟨i0, hi0, hz0, hz1, hz2⟩ := info_parts Try.info_u16
  by_cases hlong : 4000 < u.length
  · have h2 : (4000 : Int) < (u.length : Int) := by omega
    go_enter Try.func7, Try.ntmps7
    go_wp2_with fail
    refine (lfirst_any w).mono ?_
    rintro e w1 ⟨rfl, hb1⟩
    go_wp2_with fail
    refine (lfirst_any w1).mono ?_
    rintro e w2 ⟨rfl, hb2⟩
    go_wp2_with fail
    go_ret
    exact ⟨rfl, bstep hb1 hb2⟩
  · have hl : u.length ≤ 4000 := by omega
    have HR := hide hr
    clear hr hlong
    go_enter Try.func7, Try.ntmps7
    go_wp2_with fail
    refine (lfirst_any w).mono ?_
    rintro e w1 ⟨rfl, hb1⟩
    have HR1 := hide (HR.out.below hb1)
    have HB1 := hide hb1
    have hs1 := hb1.size
    clear hb1
    go_upto_if 20 with (fail)
    go_cut [5] (fun v wx => ∃ q : UInt16, v = .int .u16 (q.toNat : Int) ∧ (q = 39 ∨ q = 34) ∧ w1 = wx)
    case first =>
      cases double
      · go_wp2_with fail
        go_meet
        exact ⟨39, rfl, .inl rfl, rfl⟩
      · go_wp2_with fail
        go_meet
        exact ⟨34, rfl, .inr rfl, rfl⟩
    case rest =>
      obtain ⟨q, hv, hq, hwx⟩ := hcut
      subst hv hwx
      go_wp2_with fail
      go_loop [6, 7] (fun b i => ∃ k : Nat, k ≤ u.length ∧ i = .int .i64 k ∧ b = .bool ((u.take k).all (okQ q))) (fun _ i => u.length - (intOf i).toNat)
      case atStart => exact ⟨0, Nat.zero_le _, rfl, rfl⟩
      case round =>
        obtain ⟨k, hk, rfl, rfl⟩ := hrel
        by_cases hlt : k < u.length
        · obtain ⟨blk, off, rfl, _, hcell⟩ := HR1.out.spotL (by omega)
          have hca := hcell k hlt
          have HS := hide (show (u.take (k + 1)).all (okQ q) = ((u.take k).all (okQ q) && okQ q u[k]) by rw [List.take_succ_eq_append_getElem hlt, List.all_append]; simp)
          obtain ⟨x, hx⟩ : ∃ x, u[k] = x := ⟨_, rfl⟩
          rw [hx] at hca HS
          obtain ⟨b0, hb0⟩ : ∃ b, (u.take k).all (okQ q) = b := ⟨_, rfl⟩
          rw [hb0] at HS ⊢
          obtain ⟨b1, hb1⟩ : ∃ b, ((x.toNat : Int) != (q.toNat : Int)) = b := ⟨_, rfl⟩
          obtain ⟨b2, hb2⟩ : ∃ b, ((x.toNat : Int) != 10) = b := ⟨_, rfl⟩
          obtain ⟨b3, hb3⟩ : ∃ b, ((x.toNat : Int) != 13) = b := ⟨_, rfl⟩
          obtain ⟨b4, hb4⟩ : ∃ b, ((x.toNat : Int) != 92) = b := ⟨_, rfl⟩
          have HO := hide (show okQ q x = (b1 && b2 && b3 && b4) by
            rw [← hb1, ← hb2, ← hb3, ← hb4]
            unfold okQ
            congr 1
            · congr 1
              · congr 1
                · rw [Bool.eq_iff_iff]
                  simp only [Bool.not_eq_true', beq_eq_false_iff_ne, bne_iff_ne, ne_eq]
                  exact ⟨fun h e => h (UInt16.toNat_inj.1 (by omega)), fun h e => h (by rw [e])⟩
                · rw [Bool.eq_iff_iff]; simp; omega
              · rw [Bool.eq_iff_iff]; simp; omega
            · rw [Bool.eq_iff_iff]; simp; omega)
          clear hcell hx hb0
          cases b0 with
          | false =>
            clear hb1 hb2 hb3 hb4
            go_wp2_with fail
            go_round
            case rel => exact ⟨k + 1, by omega, by go_num, by rw [HS.out]; rfl⟩
            case measure => simp [intOf]; omega
          | true =>
            cases b1 <;> cases b2 <;> cases b3 <;> cases b4
            all_goals
              go_wp2_with fail
              go_round
              case rel => exact ⟨k + 1, by omega, by go_num, by rw [HS.out, HO.out]; rfl⟩
              case measure => simp [intOf]; omega
        · obtain ⟨pl, hpl⟩ : ∃ b, u.all (okQ q) = b := ⟨_, rfl⟩
          rw [show u.take k = u from List.take_of_length_le (by omega), hpl]
          have HPL := hide hpl
          clear hpl
          cases pl with
          | false =>
            go_wp2_with fail
            refine (lfirst_any w1).mono ?_
            rintro e w2 ⟨rfl, hb2⟩
            go_wp2_with fail
            go_ret
            exact ⟨rfl, bstep HB1.out hb2⟩
          | true =>
            have hq1 := hide (lex_quotes hq HPL.out hl)
            have hq2 := hide (lex_open hq HPL.out hl)
            have hml := hide (show Made w1 (w1.alloc (.cells #[.int .u16 (q.toNat : Int)] 32)) 32 (.slice (some ⟨w1.heap.size, 0, none⟩) 1 1) (u16s [q]) from made_lit 32 [.int .u16 (q.toNat : Int)] 1 rfl (by decide))
            have hra := hide (HR1.out.alloc (by omega) (.cells #[.int .u16 (q.toNat : Int)] 32))
            clear hq
            go_wp2_with (first | (at_builtin; refine wpList_any rfl _ _ 22 rfl 32 i0 _ 2 Try.underlying22 hi0 hz0 hz1 hz2 rfl (.slice (some ⟨w1.heap.size, 0, none⟩) 1 1) (u16s [q]) rfl hml.out w.heap.size A u.length c (u16s u) rfl hra.out (u16s_one _) (by simp [u16s]; omega) (by omega) ?_; intro v2 w2 hm0; have H2 := hide hm0; clear hm0) | (at_builtin; refine wpList_lit rfl _ _ 22 rfl 32 i0 _ 2 Try.underlying22 hi0 hz0 hz1 hz2 rfl v2 (u16s [q] ++ u16s u) rfl H2.out [.int .u16 (q.toNat : Int)] 1 1 rfl rfl rfl (by simp [u16s]; omega) (by omega) ?_; intro v3 w3 hm3; obtain ⟨A3, c3, rfl, hl3, hx3, hr3⟩ := (show Made w1 w3 32 v3 (u16s (([q] ++ u) ++ [q])) from hm3.cells (by simp [u16s, u16v])).u16; have H3 := hide hm3.below; clear hm3))
            have hn3 : (([q] ++ u) ++ [q]).length = u.length + 1 + 1 := by simp
            have HN3 := hide hn3
            rw [hn3] at hl3 hr3
            clear hn3
            refine (ltok_is (N := 2) (Nat.le_refl _) HN3.out hr3 hl3 hx3 hq1.out rfl).mono ?_
            rintro e w4 ⟨B4, d4, rfl, ht4, hc4, _, hb4⟩
            have HT4 := hide ht4
            have HB4 := hide (bstep H3.out hb4)
            have hs4 : w1.heap.size ≤ w4.heap.size := HB4.out.size
            clear hr3 hl3 hx3 H3 hb4 ht4 hml hra H2 HN3
            have HR4 := hide (HR1.out.below (HB4.out.mono hs1))
            have hml := hide (show Made w4 (w4.alloc (.cells #[.int .u16 (q.toNat : Int)] 32)) 32 (.slice (some ⟨w4.heap.size, 0, none⟩) 1 1) (u16s [q]) from made_lit 32 [.int .u16 (q.toNat : Int)] 1 rfl (by decide))
            have hra := hide (HR4.out.alloc (by omega) (.cells #[.int .u16 (q.toNat : Int)] 32))
            go_wp2_with (at_builtin; refine wpList_any rfl _ _ 22 rfl 32 i0 _ 2 Try.underlying22 hi0 hz0 hz1 hz2 rfl (.slice (some ⟨w4.heap.size, 0, none⟩) 1 1) (u16s [q]) rfl hml.out w.heap.size A u.length c (u16s u) rfl hra.out (u16s_one _) (by simp [u16s]; omega) (by omega) ?_; intro v5 w5 hm0; have H5 := hide hm0; clear hm0)
            obtain ⟨A5, c5, rfl, hl5, hx5, hr5⟩ := (show Made w4 w5 32 v5 (u16s ([q] ++ u)) from H5.out.cells (by simp [u16s])).u16
            have hn5 : ([q] ++ u).length = u.length + 1 := by simp
            have HN5 := hide hn5
            rw [hn5] at hl5 hr5 ⊢
            clear hn5
            refine (ltok_is (N := 0) (Nat.le_refl _) HN5.out hr5 hl5 hx5 hq2.out rfl).mono ?_
            rintro e w6 ⟨B6, d6, rfl, _, _, _, hb6⟩
            have HB6 := hide (bstep HB4.out (bstep H5.out.below hb6))
            have HT6 := hide (HT4.out.below (bstep H5.out.below hb6))
            have hs6 : w1.heap.size ≤ w6.heap.size := HB6.out.size
            clear hr5 hl5 hx5 H5 hb6 hml hra HT4 HB4 HR4 HN5
            go_wp2_with fail
            refine (lfirst_any w6).mono ?_
            rintro e w7 ⟨rfl, hb7⟩
            have HT7 := hide (HT6.out.below hb7)
            have HB7 := hide (bstep HB6.out hb7)
            have hs7 : w1.heap.size ≤ w7.heap.size := HB7.out.size
            have HR7 := hide (HR1.out.below (HB7.out.mono hs1))
            clear hb7 HT6 HB6
            obtain ⟨g, rfl, _, hg, hat⟩ := HT7.out.at_ (by simp)
            obtain ⟨As, _, cs, _, h0⟩ := hat 0 (by simp)
            have hx0 : w7.cell? ⟨g, 0, none⟩ = some (.int .i64 4) := h0.k0
            have hx2 : w7.cell? ⟨g, 2, none⟩ = some (.slice As u.length cs) := h0.k2
            have HSTR := hide (show Reads w7 w7.heap.size 1 As u.length (u16s u) from Reads.of_own h0.str)
            clear hat h0
            go_wp2_with fail
            refine (lunits_eq (Nat.le_refl _) rfl rfl HSTR.out (HR7.out.more (by omega)) (by omega) (by omega) (r := true) (decide_eq_true rfl)).mono ?_
            rintro e w8 ⟨rfl, hb8⟩
            go_wp2_with fail
            go_ret
            exact ⟨rfl, bstep HB1.out (bstep HB7.out hb8)⟩
end Go.Proofs.Ytngcikgjdeomdaa
