/- Joined for a claim: LT12, LT13, LexToken, LexToks. -/
import Derived.Test.YtbljbmeifmpfoaaK17
import Derived.Test.YtbljbmeifmpfoaaK13
import Derived.Test.YtbljbmeifmpfoaaK16
namespace Go.Proofs.Ytbljbmeifmpfoaa
open Go.RowKit

theorem TkQ.open {w w' : World} {i : Nat} {r : Ans} {e : Ending} (h : TkQ w i r e w') : ∃ (a0 : Int) (a1 : ByteArray) (A2 : Option Addr) (n2 c2 : Nat) (a3 a4 : Int) (A6 : Option Addr) (n6 c6 : Nat) (a7 : Int) (a8 : Bool) (k : Nat), e = .returned (.tuple #[.agg #[.int .i64 a0, .string a1, .slice A2 n2 c2, .int .i64 a3, .int .i64 a4, .bool false, .slice A6 n6 c6, .int .i64 a7, .bool a8], .int .i64 (k : Int), .int .i64 (r.1 : Int)]) ∧ Below w.heap.size w w' ∧ (r.1 ≠ 0 → .agg #[.int .i64 a0, .string a1, .slice A2 n2 c2, .int .i64 a3, .int .i64 a4, .bool false, .slice A6 n6 c6, .int .i64 a7, .bool a8] = noV) ∧ (r.1 = 0 → TokV w' w.heap.size r.2.1 (.agg #[.int .i64 a0, .string a1, .slice A2 n2 c2, .int .i64 a3, .int .i64 a4, .bool false, .slice A6 n6 c6, .int .i64 a7, .bool a8]) ∧ k = i + r.2.2) := by
  obtain ⟨v, k, h1, h2, h3, h4⟩ := h
  by_cases h0 : r.1 = 0
  · obtain ⟨⟨vs, vm, hv, h5, h6⟩, hk⟩ := h3 h0
    obtain ⟨A2, c2, rfl, _, _⟩ := own_shape h5
    obtain ⟨A6, c6, rfl, _, _⟩ := own_shape h6
    subst hv
    exact ⟨_, _, _, _, _, _, _, _, _, _, _, _, k, h1, h4, fun h => absurd h0 h, fun _ => ⟨⟨_, _, rfl, h5, h6⟩, hk⟩⟩
  · rw [h2 h0] at h1
    exact ⟨_, _, _, _, _, _, _, _, _, _, _, _, k, h1, h4, fun _ => rfl, fun h => absurd h h0⟩
theorem TkQ.pass {w wr W : World} {i k : Nat} {r : Ans} {v0 v1 v2 v3 v4 v5 v6 v7 v8 : Value} (h : RB w wr) (hW : w.heap.size < W.heap.size) (h1 : r.1 ≠ 0 → .agg #[v0, v1, v2, v3, v4, v5, v6, v7, v8] = noV) (h2 : r.1 = 0 → TokV wr W.heap.size r.2.1 (.agg #[v0, v1, v2, v3, v4, v5, v6, v7, v8]) ∧ k = i + r.2.2) :
    TkQ w i r (.returned (.tuple #[.agg #[v0, v1, v2, v3, v4, v5, v6, v7, v8], .int .i64 (k : Int), .int .i64 (r.1 : Int)])) (((((((((wr.setCell ⟨w.heap.size, 0, none⟩ v0).setCell ⟨w.heap.size, 1, none⟩ v1).setCell ⟨w.heap.size, 2, none⟩ v2).setCell ⟨w.heap.size, 3, none⟩ v3).setCell ⟨w.heap.size, 4, none⟩ v4).setCell ⟨w.heap.size, 5, none⟩ v5).setCell ⟨w.heap.size, 6, none⟩ v6).setCell ⟨w.heap.size, 7, none⟩ v7).setCell ⟨w.heap.size, 8, none⟩ v8) := by
  refine ⟨_, k, rfl, h1, fun h0 => ?_, h.put⟩
  obtain ⟨⟨vs, vm, hv, h5, h6⟩, hk⟩ := h2 h0
  exact ⟨⟨vs, vm, hv, own_base (set9_own h5 hW) (Nat.le_of_lt hW), own_base (set9_own h6 hW) (Nat.le_of_lt hW)⟩, hk⟩
/-- which of the cases: the unit behind the digits -/
def odd4 (C : Int) : Prop := C = 46 ∨ C = 101 ∨ C = 69 ∨ C = 95
def odd6 (C : Int) : Prop := C = 120 ∨ C = 88 ∨ C = 111 ∨ C = 79 ∨ C = 98 ∨ C = 66
theorem odd_at {z : Bool} {y : UInt16} {C : Int} (h : (y.toNat : Int) = C) : oddAfter z y = true ↔ odd4 C ∨ (z = true ∧ odd6 C) := by
  unfold oddAfter odd4 odd6
  subst h
  cases z <;> simp only [Bool.or_eq_true, Bool.and_eq_true, beq_iff_eq, Bool.false_eq_true, false_and, or_false, true_and] <;> omega
theorem numT_cases (u : List UInt16) (i K : Nat) (L : List UInt16) (h : K = i + L.length) (hL : (u.drop i).takeWhile isDigit = L) : numberT (u.drop i) = numT' L (u.drop K) := by
  unfold numberT
  rw [hL, List.drop_drop, h]
set_option maxHeartbeats 16000000 in
set_option maxRecDepth 1000000 in
theorem rnumber_any {A : Option Addr} {B n c i : Nat} {u : List UInt16} {w : World} (hn : u.length = n) (hB : B ≤ w.heap.size) (ha : Reads w B 1 A n (u16s u)) (hi : i < n) (hc : n ≤ c) (hl : n ≤ 4096) (hx : isDigit (atU u i) = true) {r : Ans} (hr : numberT (u.drop i) = r) :
    Calls Try.prog 33 #[.slice A n c, .int .i64 (i : Int)] w (TkQ w i r) := by
  subst hn
  obtain ⟨L, hL⟩ : ∃ L, (u.drop i).takeWhile isDigit = L := ⟨_, rfl⟩
  have hd : (u.drop i).take L.length = L := by rw [← hL]; exact tw_take _ _
  have hdg : ∀ x ∈ L, isDigit x = true := by rw [← hL]; exact tw_all
  have hm0 : 0 < L.length := by
    rw [← hL, List.drop_eq_getElem_cons hi, ← atU_in hi]
    exact takeWhile_pos hx
  have hle : i + L.length ≤ u.length := by
    have h1 := takeWhile_le isDigit (u.drop i)
    rw [hL, List.length_drop] at h1
    omega
  have hL0 : L[0] = atU u i := by
    have : (u.drop i).take L.length = L := hd
    rw [List.drop_eq_getElem_cons hi, ← atU_in hi] at this
    have h2 : L[0]? = some (atU u i) := by
      rw [← this, List.getElem?_take, if_pos hm0]; rfl
    rw [List.getElem?_eq_getElem hm0] at h2
    injection h2
  obtain ⟨K, hK⟩ : ∃ K, i + L.length = K := ⟨_, rfl⟩
  rw [numT_cases u i K L hK.symm hL] at hr
  have hisz : isAt 0 (fun x => x.toNat == 48) L = ((atU u i).toNat == 48) := by
    unfold isAt
    rw [List.getElem?_eq_getElem hm0, hL0]; rfl
  unfold numT' at hr
  rw [hisz, starts_one (c := 110) (by decide), List.drop_drop, isAt_atU (p := oddAfter (decide (L = [48]))) (by cases decide (L = [48]) <;> decide), isAt_atU (p := isLet) (by decide)] at hr
  simp only [Nat.add_zero] at hr
  obtain ⟨y, hy⟩ : ∃ y, atU u K = y := ⟨_, rfl⟩
  obtain ⟨x, hxx⟩ : ∃ x, atU u i = x := ⟨_, rfl⟩
  rw [hy, hxx] at hr
  obtain ⟨z, hz⟩ : ∃ z, decide (L = [48]) = z := ⟨_, rfl⟩
  rw [hz] at hr
  have hzl : (x.toNat == 48) = true → z = false → i + 1 < K := by
    intro h1 h2
    rcases Nat.lt_or_ge 1 L.length with h | h
    · omega
    · exfalso
      have h3 : L = [L[0]] := by
        match L, hm0, h with
        | [a], _, _ => rfl
      rw [hL0, hxx] at h3
      have h4 : x = 48 := UInt16.toNat_inj.1 (beq_iff_eq.1 h1)
      rw [h4] at h3
      rw [h2] at hz
      exact of_decide_eq_false hz h3
  have hzt : z = true → (x.toNat == 48) = true ∧ K = i + 1 := by
    intro h
    rw [h] at hz
    have h3 := of_decide_eq_true hz
    refine ⟨?_, by rw [← hK, h3]; rfl⟩
    have h4 : L[0] = 48 := by simp [h3]
    rw [← hxx, ← hL0, h4]; rfl
  have hne : (x.toNat == 48) = false → L[0] ≠ 48 := by
    intro h h2
    rw [hL0, hxx] at h2
    rw [h2] at h
    cases h
  obtain ⟨b, o, rfl, hbB, hcell⟩ := ha.spotL (by omega)
  have hbw : b < w.heap.size := by omega
  obtain ⟨W, hW⟩ : ∃ W, w.alloc (.cells #[.int .i64 0, .string ⟨#[]⟩, .slice none 0 0, .int .i64 0, .int .i64 0, .bool false, .slice none 0 0, .int .i64 0, .bool false] 40) = W := ⟨_, rfl⟩
  have HB0 := hide (show RB w W by rw [← hW]; exact RB.start w)
  have HA := hide (HB0.out.reads hB ha)
  have hBW : B ≤ W.heap.size := Nat.le_trans hB HB0.out.below.size
  have hWs : w.heap.size < W.heap.size := HB0.out.blk.1
  have hca : W.cell? ⟨b, o + i, none⟩ = some (.int .u16 (x.toNat : Int)) := by
    have h1 := hcell i hi
    rw [← atU_in hi, hxx] at h1
    exact (HB0.out.below.cell (p := ⟨b, o + i, none⟩) hbw).trans h1
  have CR := hide (rrun_any (c := c) (i := i) (r := K) (w := W) false rfl HA.out (Nat.le_of_lt hi) (by omega) (by rw [runP_false, hL, hK]))
  have CY := hide (rat_any (c := c) (i := K) (w := W) rfl HA.out)
  rw [hy] at CY
  have hdK : (u.drop i).take (K - i) = L := by rw [show K - i = L.length by omega]; exact hd
  have CB := hide (fun (hzz : L[0] ≠ 48 ∨ L = [48]) => rbigint_any (c := c) (i := i) (k := K) (w := W) rfl hBW HA.out (by omega) (by omega) hc hl hdK hdg hm0 hzz rfl)
  have CA := hide (rascii5_any (c := c - i) (m := K - i) (w := W) (by omega) hBW (reads_sub rfl HA.out hdK (by omega) (by omega)) (by omega) (plain_dig hdg))
  obtain ⟨s, hs⟩ : ∃ s : ByteArray, (⟨(asc L).toArray⟩ : ByteArray) = s := ⟨_, rfl⟩
  rw [hs] at CA
  have CP := hide (fun (hzz : L[0] ≠ 48 ∨ L = [48]) w0 => r1parse_any (s := s) (l := L) (by rw [← hs]) hdg hm0 hzz (by omega) w0)
  have CL := hide (fun w0 => rletter_any y w0)
  obtain ⟨q, hq⟩ : ∃ q, isLet y = q := ⟨_, rfl⟩
  rw [hq] at CL hr
  obtain ⟨V, hV⟩ : ∃ V, decVal L = V := ⟨_, rfl⟩
  rw [hV] at CP hr CB
  obtain ⟨m, hm⟩ : ∃ m, L.length = m := ⟨_, rfl⟩
  rw [hm] at hr hK CB
  have HK := hide hK
  have hiK : i < K := by omega
  have hKn : K ≤ u.length := by omega
  obtain ⟨N, hN⟩ : ∃ N, u.length = N := ⟨_, rfl⟩
  rw [hN] at CR CY CB hi hc hl hKn ⊢
  obtain ⟨C, hC⟩ : ∃ C : Int, (y.toNat : Int) = C := ⟨_, rfl⟩
  have hodd := odd_at (z := z) hC
  have h110 : (y.toNat == 110) = decide (C = 110) := by rw [← hC, Bool.eq_iff_iff, beq_iff_eq, decide_eq_true_eq]; omega
  rw [show (y.toNat == (110 : UInt8).toNat) = (y.toNat == 110) from rfl, h110] at hr
  rw [hC] at CY CL
  obtain ⟨X, hX⟩ : ∃ X : Int, (x.toNat : Int) = X := ⟨_, rfl⟩
  have h48 : (x.toNat == 48) = decide (X = 48) := by rw [← hX, Bool.eq_iff_iff, beq_iff_eq, decide_eq_true_eq]; omega
  rw [h48] at hr hzl hzt hne
  rw [hX] at hca
  have HR := hide hr
  have HOD := hide hodd
  have HZL := hide hzl
  have HZT := hide hzt
  have HNE := hide hne
  have HZ0 := hide hz
  clear hx hL hd hdg hle hL0 hr hisz hy hxx hz hzl hzt hne hcell ha hdK hs hq hV hm hN hC hodd h110 hX h48 hK hB
  go_enter Try.func33, Try.ntmps33
  go_upto_region 1 with (fail)
  clear hW
  go_wp2_with fail
  refine CR.out.mono ?_
  rintro e1 w1 ⟨rfl, rfl⟩
  go_wp2_with fail
  refine CY.out.mono ?_
  rintro e1 w1 ⟨rfl, rfl⟩
  clear CR CY
  obtain ⟨c0, f0⟩ := HB0.out.blk.2 0 (by decide)
  obtain ⟨c1, f1⟩ := HB0.out.blk.2 1 (by decide)
  obtain ⟨c2, f2⟩ := HB0.out.blk.2 2 (by decide)
  obtain ⟨c3, f3⟩ := HB0.out.blk.2 3 (by decide)
  obtain ⟨c4, f4⟩ := HB0.out.blk.2 4 (by decide)
  obtain ⟨c5, f5⟩ := HB0.out.blk.2 5 (by decide)
  obtain ⟨c6, f6⟩ := HB0.out.blk.2 6 (by decide)
  obtain ⟨c7, f7⟩ := HB0.out.blk.2 7 (by decide)
  obtain ⟨c8, f8⟩ := HB0.out.blk.2 8 (by decide)
  by_cases hbad : X = 48 ∧ i + 1 < K
  · obtain ⟨hx48, hik⟩ := hbad
    have HZ := hide (show bad 5 = r by
      have h1 := HR.out
      have h2 : z = false := by
        cases hzc : z with
        | false => rfl
        | true => have := (HZT.out hzc).2; omega
      rwa [h2, hx48, if_pos (by simp)] at h1)
    subst hx48
    have hikI : (i : Int) + 1 < (K : Int) := by omega
    clear HR HOD HZL HZT HNE CB CA CP CL HK HZ0
    go_wp2_with fail
    obtain ⟨q0, q1, q2, q3, q4, q5, q6, q7, q8⟩ := set9_cells (v0 := .int .i64 0) (v1 := .string ⟨#[]⟩) (v2 := .slice none 0 0) (v3 := .int .i64 0) (v4 := .int .i64 0) (v5 := .bool false) (v6 := .slice none 0 0) (v7 := .int .i64 0) (v8 := .bool false) HB0.out.blk rfl
    refine bodyPost_ret (v := .tuple #[.agg #[.int .i64 0, .string ⟨#[]⟩, .slice none 0 0, .int .i64 0, .int .i64 0, .bool false, .slice none 0 0, .int .i64 0, .bool false], .int .i64 0, .int .i64 5]) (by simp [results, Try.results33, go_sem, q0, q1, q2, q3, q4, q5, q6, q7, q8]) rfl ?_
    exact TkQ.bad (E := 5) HZ.out (by decide) HB0.out.put
  have hzz := hide (show L[0] ≠ 48 ∨ L = [48] by
    cases hzc : z with
    | true => exact .inr (of_decide_eq_true (HZ0.out.trans hzc))
    | false =>
      refine .inl (HNE.out (decide_eq_false (fun h => hbad ⟨h, HZL.out (decide_eq_true h) hzc⟩))))
  have hzX : (X == 48) = z := by
    cases hzc : z with
    | true => have := of_decide_eq_true (HZT.out hzc).1; rw [this]; rfl
    | false => exact beq_eq_false_iff_ne.2 (fun h => hbad ⟨h, HZL.out (decide_eq_true h) hzc⟩)
  have hzK : z = true → ¬ (i : Int) + 1 < (K : Int) := fun h => by have := (HZT.out h).2; omega
  have HR1 := hide (show (if decide (C = 110) = true then bigT V m (u.drop (K + 1)) else if oddAfter z y = true then bad 6 else if q = true then bad 5 else if 9007199254740991 < V then bad 6 else (0, { noTok with kind := 2, nn := V }, m)) = r by
    have h1 := HR.out
    have h3 : (decide (X = 48) && !z) = false := by
      rw [← hzX]
      by_cases h : X = 48 <;> simp [h]
    rwa [if_neg (by rw [h3]; simp)] at h1)
  clear HR HZT HZL HNE HZ0 hbad
  by_cases h110 : C = 110
  · have HR2 := hide (show bigT V m (u.drop (K + 1)) = r by
      have := HR1.out
      rwa [if_pos (decide_eq_true h110)] at this)
    have CB2 := hide (CB.out hzz.out)
    rw [HR2.out] at CB2
    subst h110
    clear HR1 HOD CB CA CP CL HK hzz HR2
    cases z
    all_goals
      (try have hzK2 := hzK rfl)
      clear hzK
      go_wp2_with fail
      refine CB2.out.mono ?_
      intro e1 w1 hq1
      obtain ⟨a0, a1, A2, n2, c2', a3, a4, A6, n6, c6', a7, a8, k2, rfl, hb1, g1, g2⟩ := hq1.open
      have HB1 := hide (HB0.out.go hb1)
      have G1 := hide g1
      have G2 := hide g2
      clear hb1 g1 g2 hq1 c0 c1 c2 c3 c4 c5 c6 c7 c8 f0 f1 f2 f3 f4 f5 f6 f7 f8
      obtain ⟨c0, f0⟩ := HB1.out.blk.2 0 (by decide)
      obtain ⟨c1, f1⟩ := HB1.out.blk.2 1 (by decide)
      obtain ⟨c2, f2⟩ := HB1.out.blk.2 2 (by decide)
      obtain ⟨c3, f3⟩ := HB1.out.blk.2 3 (by decide)
      obtain ⟨c4, f4⟩ := HB1.out.blk.2 4 (by decide)
      obtain ⟨c5, f5⟩ := HB1.out.blk.2 5 (by decide)
      obtain ⟨c6, f6⟩ := HB1.out.blk.2 6 (by decide)
      obtain ⟨c7, f7⟩ := HB1.out.blk.2 7 (by decide)
      obtain ⟨c8, f8⟩ := HB1.out.blk.2 8 (by decide)
      obtain ⟨E, hE⟩ : ∃ E, r.1 = E := ⟨_, rfl⟩
      rw [hE]
      have HE := hide hE
      clear hE
      go_wp2_with fail
      obtain ⟨q0, q1, q2, q3, q4, q5, q6, q7, q8⟩ := set9_cells (v0 := .int .i64 a0) (v1 := .string a1) (v2 := .slice A2 n2 c2') (v3 := .int .i64 a3) (v4 := .int .i64 a4) (v5 := .bool false) (v6 := .slice A6 n6 c6') (v7 := .int .i64 a7) (v8 := .bool a8) HB1.out.blk rfl
      refine bodyPost_ret (v := .tuple #[.agg #[.int .i64 a0, .string a1, .slice A2 n2 c2', .int .i64 a3, .int .i64 a4, .bool false, .slice A6 n6 c6', .int .i64 a7, .bool a8], .int .i64 (k2 : Int), .int .i64 (E : Int)]) (by simp [results, Try.results33, go_sem, q0, q1, q2, q3, q4, q5, q6, q7, q8]) rfl ?_
      exact by rw [← HE.out]; exact TkQ.pass HB1.out hWs G1.out G2.out
  have e110 : (C == 110) = false := beq_eq_false_iff_ne.2 h110
  have HR3 := hide (show (if oddAfter z y = true then bad 6 else if q = true then bad 5 else if 9007199254740991 < V then bad 6 else (0, { noTok with kind := 2, nn := V }, m)) = r by
    have := HR1.out
    rwa [if_neg (by simpa using h110)] at this)
  clear HR1 CB h110
  by_cases ho : oddAfter z y = true
  · have HZ := hide (show bad 6 = r by have := HR3.out; rwa [if_pos ho] at this)
    have hoc := HOD.out.1 ho
    clear HR3 HOD ho CA CP CL HK
    rcases hoc with ho | ⟨rfl, ho⟩
    · rcases ho with rfl | rfl | rfl | rfl <;> cases z
      all_goals
        (try have hzK2 := hzK rfl)
        clear hzK e110
        go_wp2_with fail
        obtain ⟨q0, q1, q2, q3, q4, q5, q6, q7, q8⟩ := set9_cells (v0 := .int .i64 0) (v1 := .string ⟨#[]⟩) (v2 := .slice none 0 0) (v3 := .int .i64 0) (v4 := .int .i64 0) (v5 := .bool false) (v6 := .slice none 0 0) (v7 := .int .i64 0) (v8 := .bool false) HB0.out.blk rfl
        refine bodyPost_ret (v := .tuple #[.agg #[.int .i64 0, .string ⟨#[]⟩, .slice none 0 0, .int .i64 0, .int .i64 0, .bool false, .slice none 0 0, .int .i64 0, .bool false], .int .i64 0, .int .i64 6]) (by simp [results, Try.results33, go_sem, q0, q1, q2, q3, q4, q5, q6, q7, q8]) rfl ?_
        exact TkQ.bad (E := 6) HZ.out (by decide) HB0.out.put
    · have hzK2 := hzK rfl
      rcases ho with rfl | rfl | rfl | rfl | rfl | rfl
      all_goals
        clear hzK e110
        go_wp2_with fail
        obtain ⟨q0, q1, q2, q3, q4, q5, q6, q7, q8⟩ := set9_cells (v0 := .int .i64 0) (v1 := .string ⟨#[]⟩) (v2 := .slice none 0 0) (v3 := .int .i64 0) (v4 := .int .i64 0) (v5 := .bool false) (v6 := .slice none 0 0) (v7 := .int .i64 0) (v8 := .bool false) HB0.out.blk rfl
        refine bodyPost_ret (v := .tuple #[.agg #[.int .i64 0, .string ⟨#[]⟩, .slice none 0 0, .int .i64 0, .int .i64 0, .bool false, .slice none 0 0, .int .i64 0, .bool false], .int .i64 0, .int .i64 6]) (by simp [results, Try.results33, go_sem, q0, q1, q2, q3, q4, q5, q6, q7, q8]) rfl ?_
        exact TkQ.bad (E := 6) HZ.out (by decide) HB0.out.put
  have hno : ¬ (odd4 C ∨ (z = true ∧ odd6 C)) := fun h => ho (HOD.out.2 h)
  have HR4 := hide (show (if q = true then bad 5 else if 9007199254740991 < V then bad 6 else (0, { noTok with kind := 2, nn := V }, m)) = r by have := HR3.out; rwa [if_neg ho] at this)
  have x46 : (C == 46) = false := beq_eq_false_iff_ne.2 (fun h => hno (.inl (by unfold odd4; omega)))
  have x101 : (C == 101) = false := beq_eq_false_iff_ne.2 (fun h => hno (.inl (by unfold odd4; omega)))
  have x69 : (C == 69) = false := beq_eq_false_iff_ne.2 (fun h => hno (.inl (by unfold odd4; omega)))
  have x95 : (C == 95) = false := beq_eq_false_iff_ne.2 (fun h => hno (.inl (by unfold odd4; omega)))
  have z120 : z = true → (C == 120) = false := fun hz => beq_eq_false_iff_ne.2 (fun h => hno (.inr ⟨hz, by unfold odd6; omega⟩))
  have z88 : z = true → (C == 88) = false := fun hz => beq_eq_false_iff_ne.2 (fun h => hno (.inr ⟨hz, by unfold odd6; omega⟩))
  have z111 : z = true → (C == 111) = false := fun hz => beq_eq_false_iff_ne.2 (fun h => hno (.inr ⟨hz, by unfold odd6; omega⟩))
  have z79 : z = true → (C == 79) = false := fun hz => beq_eq_false_iff_ne.2 (fun h => hno (.inr ⟨hz, by unfold odd6; omega⟩))
  have z98 : z = true → (C == 98) = false := fun hz => beq_eq_false_iff_ne.2 (fun h => hno (.inr ⟨hz, by unfold odd6; omega⟩))
  have z66 : z = true → (C == 66) = false := fun hz => beq_eq_false_iff_ne.2 (fun h => hno (.inr ⟨hz, by unfold odd6; omega⟩))
  clear HR3 HOD ho hno
  cases q with
  | true =>
    have HZ := hide (show bad 5 = r from HR4.out)
    clear HR4 CA CP HK
    cases z
    all_goals
      first | replace z120 := z120 rfl | clear z120
      first | replace z88 := z88 rfl | clear z88
      first | replace z111 := z111 rfl | clear z111
      first | replace z79 := z79 rfl | clear z79
      first | replace z98 := z98 rfl | clear z98
      first | replace z66 := z66 rfl | clear z66
      (try have hzK2 := hzK rfl)
      clear hzK
      go_wp2_with (first | (go_at_call 30; refine (CL.out _).mono ?_; rintro e3 w3 ⟨rfl, rfl⟩))
      obtain ⟨q0, q1, q2, q3, q4, q5, q6, q7, q8⟩ := set9_cells (v0 := .int .i64 0) (v1 := .string ⟨#[]⟩) (v2 := .slice none 0 0) (v3 := .int .i64 0) (v4 := .int .i64 0) (v5 := .bool false) (v6 := .slice none 0 0) (v7 := .int .i64 0) (v8 := .bool false) HB0.out.blk rfl
      refine bodyPost_ret (v := .tuple #[.agg #[.int .i64 0, .string ⟨#[]⟩, .slice none 0 0, .int .i64 0, .int .i64 0, .bool false, .slice none 0 0, .int .i64 0, .bool false], .int .i64 0, .int .i64 5]) (by simp [results, Try.results33, go_sem, q0, q1, q2, q3, q4, q5, q6, q7, q8]) rfl ?_
      exact TkQ.bad (E := 5) HZ.out (by decide) HB0.out.put
  | false =>
    have HR5 := hide (show (if 9007199254740991 < V then bad 6 else (0, { noTok with kind := 2, nn := V }, m)) = r from HR4.out)
    have CP2 := hide (fun w0 => CP.out hzz.out w0)
    clear HR4 CP hzz
    cases z
    all_goals
      first | replace z120 := z120 rfl | clear z120
      first | replace z88 := z88 rfl | clear z88
      first | replace z111 := z111 rfl | clear z111
      first | replace z79 := z79 rfl | clear z79
      first | replace z98 := z98 rfl | clear z98
      first | replace z66 := z66 rfl | clear z66
      (try have hzK2 := hzK rfl)
      clear hzK
      go_wp2_with (first | (go_at_call 30; refine (CL.out _).mono ?_; rintro e3 w3 ⟨rfl, rfl⟩))
      refine CA.out.mono ?_
      rintro e1 w1 ⟨rfl, hb1⟩
      have HB1 := hide (HB0.out.go hb1)
      clear hb1
      go_wp2_with fail
      refine (CP2.out _).mono ?_
      rintro e2 w2 ⟨hnum, hb2⟩
      have HB2 := hide (HB1.out.go hb2)
      clear hb2 c0 c1 c2 c3 c4 c5 c6 c7 c8 f0 f1 f2 f3 f4 f5 f6 f7 f8
      have hRT : w.heap.size < w2.heap.size := HB2.out.blk.1
      rcases hnum with ⟨rfl, hv⟩ | ⟨rfl, hv⟩
      · obtain ⟨W3, hW3⟩ : ∃ W3, w2.alloc (.cells #[.int .i64 0, .int .i64 (V : Int)] 35) = W3 := ⟨_, rfl⟩
        have HB3 := hide (show RB w W3 by rw [← hW3]; exact HB2.out.go ((Below.refl _ _).alloc (Nat.le_refl _) _))
        have HT := hide (show Blk W3 w2.heap.size [.int .i64 0, .int .i64 (V : Int)] by rw [← hW3]; exact Blk.new w2 _ _)
        have HZ := hide (show (0, { noTok with kind := 2, nn := V }, m) = r by have := HR5.out; rwa [if_neg (by omega)] at this)
        obtain ⟨c0, f0⟩ := HB3.out.blk.2 0 (by decide)
        obtain ⟨c1, f1⟩ := HB3.out.blk.2 1 (by decide)
        obtain ⟨c2, f2⟩ := HB3.out.blk.2 2 (by decide)
        obtain ⟨c3, f3⟩ := HB3.out.blk.2 3 (by decide)
        obtain ⟨c4, f4⟩ := HB3.out.blk.2 4 (by decide)
        obtain ⟨c5, f5⟩ := HB3.out.blk.2 5 (by decide)
        obtain ⟨c6, f6⟩ := HB3.out.blk.2 6 (by decide)
        obtain ⟨c7, f7⟩ := HB3.out.blk.2 7 (by decide)
        obtain ⟨c8, f8⟩ := HB3.out.blk.2 8 (by decide)
        have a0 := (HT.out.2 0 (by simp)).1
        have a1 := (HT.out.2 1 (by simp)).1
        clear hv HR5
        go_wp2_with fail
        obtain ⟨q0, q1, q2, q3, q4, q5, q6, q7, q8⟩ := set9_cells (v0 := .int .i64 2) (v1 := .string ⟨#[]⟩) (v2 := .slice none 0 0) (v3 := .int .i64 0) (v4 := .int .i64 (V : Int)) (v5 := .bool false) (v6 := .slice none 0 0) (v7 := .int .i64 0) (v8 := .bool false) HB3.out.blk rfl
        refine bodyPost_ret (v := .tuple #[.agg #[.int .i64 2, .string ⟨#[]⟩, .slice none 0 0, .int .i64 0, .int .i64 (V : Int), .bool false, .slice none 0 0, .int .i64 0, .bool false], .int .i64 (K : Int), .int .i64 0]) (by simp [results, Try.results33, go_sem, q0, q1, q2, q3, q4, q5, q6, q7, q8]) rfl ?_
        exact TkQ.good HZ.out HK.out.symm ⟨_, _, rfl, World.ownsRow_nil _ _ _ _, World.ownsRow_nil _ _ _ _⟩ HB3.out.put
      · obtain ⟨W3, hW3⟩ : ∃ W3, w2.alloc (.cells #[.int .i64 2, .int .i64 0] 35) = W3 := ⟨_, rfl⟩
        have HB3 := hide (show RB w W3 by rw [← hW3]; exact HB2.out.go ((Below.refl _ _).alloc (Nat.le_refl _) _))
        have HT := hide (show Blk W3 w2.heap.size [.int .i64 2, .int .i64 0] by rw [← hW3]; exact Blk.new w2 _ _)
        have HB4 := hide (show RB w (W3.setCell ⟨w2.heap.size, 1, none⟩ (.int .i64 0)) from HB3.out.set hRT)
        have HZ := hide (show bad 6 = r by have := HR5.out; rwa [if_pos hv] at this)
        obtain ⟨a1, g1⟩ := HT.out.2 1 (by simp)
        obtain ⟨c0, f0⟩ := HB3.out.blk.2 0 (by decide)
        obtain ⟨c1, f1⟩ := HB3.out.blk.2 1 (by decide)
        obtain ⟨c2, f2⟩ := HB3.out.blk.2 2 (by decide)
        obtain ⟨c3, f3⟩ := HB3.out.blk.2 3 (by decide)
        obtain ⟨c4, f4⟩ := HB3.out.blk.2 4 (by decide)
        obtain ⟨c5, f5⟩ := HB3.out.blk.2 5 (by decide)
        obtain ⟨c6, f6⟩ := HB3.out.blk.2 6 (by decide)
        obtain ⟨c7, f7⟩ := HB3.out.blk.2 7 (by decide)
        obtain ⟨c8, f8⟩ := HB3.out.blk.2 8 (by decide)
        clear hv HR5
        go_wp2_with fail
        obtain ⟨q0, q1, q2, q3, q4, q5, q6, q7, q8⟩ := set9_cells (v0 := .int .i64 0) (v1 := .string ⟨#[]⟩) (v2 := .slice none 0 0) (v3 := .int .i64 0) (v4 := .int .i64 0) (v5 := .bool false) (v6 := .slice none 0 0) (v7 := .int .i64 0) (v8 := .bool false) HB4.out.blk rfl
        refine bodyPost_ret (v := .tuple #[.agg #[.int .i64 0, .string ⟨#[]⟩, .slice none 0 0, .int .i64 0, .int .i64 0, .bool false, .slice none 0 0, .int .i64 0, .bool false], .int .i64 0, .int .i64 6]) (by simp [results, Try.results33, go_sem, q0, q1, q2, q3, q4, q5, q6, q7, q8]) rfl ?_
        exact TkQ.bad (E := 6) HZ.out (by decide) HB4.out.put
end Go.Proofs.Ytbljbmeifmpfoaa

namespace Go.Proofs.Ytbljbmeifmpfoaa
open Go.RowKit

set_option maxHeartbeats 16000000 in
set_option maxRecDepth 1000000 in
theorem rtoken_any {A : Option Addr} {B n c i : Nat} {u : List UInt16} {w : World} (hn : u.length = n) (hB : B ≤ w.heap.size) (ha : Reads w B 1 A n (u16s u)) (hi : i < n) (hc : n ≤ c) (hl : n ≤ 4096) {r : Ans} (hr : tokenT (i == 0) (u.drop i) = r) :
    Calls Try.prog 16 #[.slice A n c, .int .i64 (i : Int)] w (TkQ w i r) := by
  subst hn
  obtain ⟨b, o, rfl, hbB, hcell⟩ := ha.spotL (by omega)
  have hbw : b < w.heap.size := by omega
  obtain ⟨W, hW⟩ : ∃ W, w.alloc (.cells #[.int .i64 0, .string ⟨#[]⟩, .slice none 0 0, .int .i64 0, .int .i64 0, .bool false, .slice none 0 0, .int .i64 0, .bool false] 40) = W := ⟨_, rfl⟩
  have HB0 := hide (show RB w W by rw [← hW]; exact RB.start w)
  have HA := hide (HB0.out.reads hB ha)
  have hBW : B ≤ W.heap.size := Nat.le_trans hB HB0.out.below.size
  have hWs : w.heap.size < W.heap.size := HB0.out.blk.1
  obtain ⟨x, hx⟩ : ∃ x, atU u i = x := ⟨_, rfl⟩
  have hxu : u[i] = x := by rw [← hx, atU_in hi]
  rw [List.drop_eq_getElem_cons hi, tokenT_cons, hxu, isAt_atU (p := isDigit) (by decide), Nat.add_zero] at hr
  have hdr : x :: u.drop (i + 1) = u.drop i := by rw [List.drop_eq_getElem_cons hi, hxu]
  rw [hdr] at hr
  obtain ⟨y, hy⟩ : ∃ y, atU u (i + 1) = y := ⟨_, rfl⟩
  rw [hy] at hr
  obtain ⟨X, hX⟩ : ∃ X : Int, (x.toNat : Int) = X := ⟨_, rfl⟩
  obtain ⟨Y, hY⟩ : ∃ Y : Int, (y.toNat : Int) = Y := ⟨_, rfl⟩
  have hci : W.cell? ⟨b, o + i, none⟩ = some (.int .u16 X) := by
    have h1 := hcell i hi
    rw [hxu, hX] at h1
    exact (HB0.out.below.cell (p := ⟨b, o + i, none⟩) hbw).trans h1
  have CL := hide (fun w0 => rletter_any x w0)
  have CD := hide (fun w0 => rdigit_any x w0)
  have CE := hide (fun w0 => rdigit_any y w0)
  have CY := hide (rat_any (c := c) (i := i + 1) (w := W) rfl HA.out)
  rw [hy] at CY
  have KW := hide (fun (h : isLet x = true) => rwordt_any (c := c) (i := i) (w := W) rfl hBW HA.out hi hc (by omega) (by rw [hx]; exact h) rfl)
  have KN := hide (fun (h : isDigit x = true) => rnumber_any (c := c) (i := i) (w := W) rfl hBW HA.out hi hc hl (by rw [hx]; exact h) rfl)
  have KQ := hide (fun (h : isLine x = false) => rquoted_any (c := c) (i := i) (w := W) rfl hBW HA.out hi hl (by rw [hx]; exact h) rfl)
  have KS := hide (rsignt_any (c := c) (i := i) (w := W) rfl hBW HA.out hi hc hl rfl)
  rw [hx] at KQ
  obtain ⟨p, hp⟩ : ∃ p, isLet x = p := ⟨_, rfl⟩
  obtain ⟨d, hd⟩ : ∃ p, isDigit x = p := ⟨_, rfl⟩
  obtain ⟨d1, hd1⟩ : ∃ p, isDigit y = p := ⟨_, rfl⟩
  rw [hp] at CL hr KW
  rw [hd] at CD hr KN
  rw [hd1] at CE hr
  rw [hX] at CL CD
  rw [hY] at CY CE
  obtain ⟨N, hN⟩ : ∃ N, u.length = N := ⟨_, rfl⟩
  rw [hN] at CY KW KN KQ KS hi hc hl ⊢
  have HX := hide hX
  have HR := hide hr
  clear hr hx hxu hy hX hY hp hd hd1 hN hcell ha hdr hB
  go_enter Try.func16, Try.ntmps16
  go_upto_region 1 with (fail)
  clear hW
  obtain ⟨c0, f0⟩ := HB0.out.blk.2 0 (by decide)
  obtain ⟨c1, f1⟩ := HB0.out.blk.2 1 (by decide)
  obtain ⟨c2, f2⟩ := HB0.out.blk.2 2 (by decide)
  obtain ⟨c3, f3⟩ := HB0.out.blk.2 3 (by decide)
  obtain ⟨c4, f4⟩ := HB0.out.blk.2 4 (by decide)
  obtain ⟨c5, f5⟩ := HB0.out.blk.2 5 (by decide)
  obtain ⟨c6, f6⟩ := HB0.out.blk.2 6 (by decide)
  obtain ⟨c7, f7⟩ := HB0.out.blk.2 7 (by decide)
  obtain ⟨c8, f8⟩ := HB0.out.blk.2 8 (by decide)
  cases p with
  | true =>
    have hrr : wordT (u.drop i) = r := HR.out
    have K2 := hide (KW.out rfl)
    rw [hrr] at K2
    clear hrr HR KW KN KQ KS CE CY CD
    go_wp2_with (go_at_call 30; refine (CL.out _).mono ?_; rintro e3 w3 ⟨rfl, rfl⟩)
    refine K2.out.mono ?_
    intro e1 w1 hq1
    obtain ⟨a0, a1, A2, n2, c2', a3, a4, A6, n6, c6', a7, a8, k2, rfl, hb1, g1, g2⟩ := hq1.open
    have HB1 := hide (HB0.out.go hb1)
    have G1 := hide g1
    have G2 := hide g2
    clear hb1 g1 g2 hq1 c0 c1 c2 c3 c4 c5 c6 c7 c8 f0 f1 f2 f3 f4 f5 f6 f7 f8
    obtain ⟨c0, f0⟩ := HB1.out.blk.2 0 (by decide)
    obtain ⟨c1, f1⟩ := HB1.out.blk.2 1 (by decide)
    obtain ⟨c2, f2⟩ := HB1.out.blk.2 2 (by decide)
    obtain ⟨c3, f3⟩ := HB1.out.blk.2 3 (by decide)
    obtain ⟨c4, f4⟩ := HB1.out.blk.2 4 (by decide)
    obtain ⟨c5, f5⟩ := HB1.out.blk.2 5 (by decide)
    obtain ⟨c6, f6⟩ := HB1.out.blk.2 6 (by decide)
    obtain ⟨c7, f7⟩ := HB1.out.blk.2 7 (by decide)
    obtain ⟨c8, f8⟩ := HB1.out.blk.2 8 (by decide)
    obtain ⟨E, hE⟩ : ∃ E, r.1 = E := ⟨_, rfl⟩
    rw [hE]
    have HE := hide hE
    clear hE
    go_wp2_with fail
    obtain ⟨q0, q1, q2, q3, q4, q5, q6, q7, q8⟩ := set9_cells (v0 := .int .i64 a0) (v1 := .string a1) (v2 := .slice A2 n2 c2') (v3 := .int .i64 a3) (v4 := .int .i64 a4) (v5 := .bool false) (v6 := .slice A6 n6 c6') (v7 := .int .i64 a7) (v8 := .bool a8) HB1.out.blk rfl
    refine bodyPost_ret (v := .tuple #[.agg #[.int .i64 a0, .string a1, .slice A2 n2 c2', .int .i64 a3, .int .i64 a4, .bool false, .slice A6 n6 c6', .int .i64 a7, .bool a8], .int .i64 (k2 : Int), .int .i64 (E : Int)]) (by simp [results, Try.results16, go_sem, q0, q1, q2, q3, q4, q5, q6, q7, q8]) rfl ?_
    exact by rw [← HE.out]; exact TkQ.pass HB1.out hWs G1.out G2.out
  | false =>
    cases d with
    | true =>
      have hrr : numberT (u.drop i) = r := HR.out
      have K2 := hide (KN.out rfl)
      rw [hrr] at K2
      clear hrr HR KW KN KQ KS CE CY
      go_wp2_with (first | (go_at_call 30; refine (CL.out _).mono ?_; rintro e3 w3 ⟨rfl, rfl⟩) | (go_at_call 32; refine (CD.out _).mono ?_; rintro e3 w3 ⟨rfl, rfl⟩))
      refine K2.out.mono ?_
      intro e1 w1 hq1
      obtain ⟨a0, a1, A2, n2, c2', a3, a4, A6, n6, c6', a7, a8, k2, rfl, hb1, g1, g2⟩ := hq1.open
      have HB1 := hide (HB0.out.go hb1)
      have G1 := hide g1
      have G2 := hide g2
      clear hb1 g1 g2 hq1 c0 c1 c2 c3 c4 c5 c6 c7 c8 f0 f1 f2 f3 f4 f5 f6 f7 f8
      obtain ⟨c0, f0⟩ := HB1.out.blk.2 0 (by decide)
      obtain ⟨c1, f1⟩ := HB1.out.blk.2 1 (by decide)
      obtain ⟨c2, f2⟩ := HB1.out.blk.2 2 (by decide)
      obtain ⟨c3, f3⟩ := HB1.out.blk.2 3 (by decide)
      obtain ⟨c4, f4⟩ := HB1.out.blk.2 4 (by decide)
      obtain ⟨c5, f5⟩ := HB1.out.blk.2 5 (by decide)
      obtain ⟨c6, f6⟩ := HB1.out.blk.2 6 (by decide)
      obtain ⟨c7, f7⟩ := HB1.out.blk.2 7 (by decide)
      obtain ⟨c8, f8⟩ := HB1.out.blk.2 8 (by decide)
      obtain ⟨E, hE⟩ : ∃ E, r.1 = E := ⟨_, rfl⟩
      rw [hE]
      have HE := hide hE
      clear hE
      go_wp2_with fail
      obtain ⟨q0, q1, q2, q3, q4, q5, q6, q7, q8⟩ := set9_cells (v0 := .int .i64 a0) (v1 := .string a1) (v2 := .slice A2 n2 c2') (v3 := .int .i64 a3) (v4 := .int .i64 a4) (v5 := .bool false) (v6 := .slice A6 n6 c6') (v7 := .int .i64 a7) (v8 := .bool a8) HB1.out.blk rfl
      refine bodyPost_ret (v := .tuple #[.agg #[.int .i64 a0, .string a1, .slice A2 n2 c2', .int .i64 a3, .int .i64 a4, .bool false, .slice A6 n6 c6', .int .i64 a7, .bool a8], .int .i64 (k2 : Int), .int .i64 (E : Int)]) (by simp [results, Try.results16, go_sem, q0, q1, q2, q3, q4, q5, q6, q7, q8]) rfl ?_
      exact by rw [← HE.out]; exact TkQ.pass HB1.out hWs G1.out G2.out
    | false =>
      by_cases hq : X = 39 ∨ X = 34
      · have hrr : quotedT x (u.drop (i + 1)) = r := by
          have := HR.out
          rwa [if_neg (by simp), if_neg (by simp), if_pos (by
            have hx := HX.out
            rcases hq with h | h
            · rw [show x.toNat = 39 by omega]; rfl
            · rw [show x.toNat = 34 by omega]; rfl)] at this
        have K2 := hide (KQ.out (line_not (by have := HX.out; omega) (by have := HX.out; omega)))
        rw [hrr] at K2
        clear hrr HR KW KN KQ KS CE CY HX
        rcases hq with rfl | rfl
        all_goals
          go_wp2_with (first | (go_at_call 30; refine (CL.out _).mono ?_; rintro e3 w3 ⟨rfl, rfl⟩) | (go_at_call 32; refine (CD.out _).mono ?_; rintro e3 w3 ⟨rfl, rfl⟩))
          refine K2.out.mono ?_
          intro e1 w1 hq1
          obtain ⟨a0, a1, A2, n2, c2', a3, a4, A6, n6, c6', a7, a8, k2, rfl, hb1, g1, g2⟩ := hq1.open
          have HB1 := hide (HB0.out.go hb1)
          have G1 := hide g1
          have G2 := hide g2
          clear hb1 g1 g2 hq1 c0 c1 c2 c3 c4 c5 c6 c7 c8 f0 f1 f2 f3 f4 f5 f6 f7 f8
          obtain ⟨c0, f0⟩ := HB1.out.blk.2 0 (by decide)
          obtain ⟨c1, f1⟩ := HB1.out.blk.2 1 (by decide)
          obtain ⟨c2, f2⟩ := HB1.out.blk.2 2 (by decide)
          obtain ⟨c3, f3⟩ := HB1.out.blk.2 3 (by decide)
          obtain ⟨c4, f4⟩ := HB1.out.blk.2 4 (by decide)
          obtain ⟨c5, f5⟩ := HB1.out.blk.2 5 (by decide)
          obtain ⟨c6, f6⟩ := HB1.out.blk.2 6 (by decide)
          obtain ⟨c7, f7⟩ := HB1.out.blk.2 7 (by decide)
          obtain ⟨c8, f8⟩ := HB1.out.blk.2 8 (by decide)
          obtain ⟨E, hE⟩ : ∃ E, r.1 = E := ⟨_, rfl⟩
          rw [hE]
          have HE := hide hE
          clear hE
          go_wp2_with fail
          obtain ⟨q0, q1, q2, q3, q4, q5, q6, q7, q8⟩ := set9_cells (v0 := .int .i64 a0) (v1 := .string a1) (v2 := .slice A2 n2 c2') (v3 := .int .i64 a3) (v4 := .int .i64 a4) (v5 := .bool false) (v6 := .slice A6 n6 c6') (v7 := .int .i64 a7) (v8 := .bool a8) HB1.out.blk rfl
          refine bodyPost_ret (v := .tuple #[.agg #[.int .i64 a0, .string a1, .slice A2 n2 c2', .int .i64 a3, .int .i64 a4, .bool false, .slice A6 n6 c6', .int .i64 a7, .bool a8], .int .i64 (k2 : Int), .int .i64 (E : Int)]) (by simp [results, Try.results16, go_sem, q0, q1, q2, q3, q4, q5, q6, q7, q8]) rfl ?_
          exact by rw [← HE.out]; exact TkQ.pass HB1.out hWs G1.out G2.out
      have e39 : (X == 39) = false := beq_eq_false_iff_ne.2 (fun h => hq (.inl h))
      have e34 : (X == 34) = false := beq_eq_false_iff_ne.2 (fun h => hq (.inr h))
      have HR2 := hide (show (if (x.toNat == 46 && d1) = true then bad 6 else signT (i == 0) (u.drop i)) = r by
        have := HR.out
        rwa [if_neg (by simp), if_neg (by simp), if_neg (by
          rw [show (x.toNat == 39) = false from beq_eq_false_iff_ne.2 (fun h => hq (.inl (by have := HX.out; omega))), show (x.toNat == 34) = false from beq_eq_false_iff_ne.2 (fun h => hq (.inr (by have := HX.out; omega)))]
          simp)] at this)
      clear HR hq KW KN KQ
      by_cases h46 : X = 46
      · cases d1 with
        | true =>
          have HZ := hide (show bad 6 = r by
            have := HR2.out
            rwa [show x.toNat = 46 by have := HX.out; omega, if_pos (by rfl)] at this)
          subst h46
          clear HR2 HX KS
          go_wp2_with (first | (go_at_call 30; refine (CL.out _).mono ?_; rintro e3 w3 ⟨rfl, rfl⟩) | (go_at_call 14; refine CY.out.mono ?_; rintro e3 w3 ⟨rfl, rfl⟩; go_wp2_with fail; refine (CE.out _).mono ?_; rintro e4 w4 ⟨rfl, rfl⟩) | (go_at_call 32; refine (CD.out _).mono ?_; rintro e3 w3 ⟨rfl, rfl⟩))
          obtain ⟨q0, q1, q2, q3, q4, q5, q6, q7, q8⟩ := set9_cells (v0 := .int .i64 0) (v1 := .string ⟨#[]⟩) (v2 := .slice none 0 0) (v3 := .int .i64 0) (v4 := .int .i64 0) (v5 := .bool false) (v6 := .slice none 0 0) (v7 := .int .i64 0) (v8 := .bool false) HB0.out.blk rfl
          refine bodyPost_ret (v := .tuple #[.agg #[.int .i64 0, .string ⟨#[]⟩, .slice none 0 0, .int .i64 0, .int .i64 0, .bool false, .slice none 0 0, .int .i64 0, .bool false], .int .i64 0, .int .i64 6]) (by simp [results, Try.results16, go_sem, q0, q1, q2, q3, q4, q5, q6, q7, q8]) rfl ?_
          exact TkQ.bad (E := 6) HZ.out (by decide) HB0.out.put
        | false =>
          have hrr : signT (i == 0) (u.drop i) = r := by
            have := HR2.out
            rwa [if_neg (by simp)] at this
          have K2 := hide KS.out
          rw [hrr] at K2
          subst h46
          clear hrr HR2 HX KS
          go_wp2_with (first | (go_at_call 30; refine (CL.out _).mono ?_; rintro e3 w3 ⟨rfl, rfl⟩) | (go_at_call 14; refine CY.out.mono ?_; rintro e3 w3 ⟨rfl, rfl⟩; go_wp2_with fail; refine (CE.out _).mono ?_; rintro e4 w4 ⟨rfl, rfl⟩) | (go_at_call 32; refine (CD.out _).mono ?_; rintro e3 w3 ⟨rfl, rfl⟩))
          refine K2.out.mono ?_
          intro e1 w1 hq1
          obtain ⟨a0, a1, A2, n2, c2', a3, a4, A6, n6, c6', a7, a8, k2, rfl, hb1, g1, g2⟩ := hq1.open
          have HB1 := hide (HB0.out.go hb1)
          have G1 := hide g1
          have G2 := hide g2
          clear hb1 g1 g2 hq1 c0 c1 c2 c3 c4 c5 c6 c7 c8 f0 f1 f2 f3 f4 f5 f6 f7 f8
          obtain ⟨c0, f0⟩ := HB1.out.blk.2 0 (by decide)
          obtain ⟨c1, f1⟩ := HB1.out.blk.2 1 (by decide)
          obtain ⟨c2, f2⟩ := HB1.out.blk.2 2 (by decide)
          obtain ⟨c3, f3⟩ := HB1.out.blk.2 3 (by decide)
          obtain ⟨c4, f4⟩ := HB1.out.blk.2 4 (by decide)
          obtain ⟨c5, f5⟩ := HB1.out.blk.2 5 (by decide)
          obtain ⟨c6, f6⟩ := HB1.out.blk.2 6 (by decide)
          obtain ⟨c7, f7⟩ := HB1.out.blk.2 7 (by decide)
          obtain ⟨c8, f8⟩ := HB1.out.blk.2 8 (by decide)
          obtain ⟨E, hE⟩ : ∃ E, r.1 = E := ⟨_, rfl⟩
          rw [hE]
          have HE := hide hE
          clear hE
          go_wp2_with fail
          obtain ⟨q0, q1, q2, q3, q4, q5, q6, q7, q8⟩ := set9_cells (v0 := .int .i64 a0) (v1 := .string a1) (v2 := .slice A2 n2 c2') (v3 := .int .i64 a3) (v4 := .int .i64 a4) (v5 := .bool false) (v6 := .slice A6 n6 c6') (v7 := .int .i64 a7) (v8 := .bool a8) HB1.out.blk rfl
          refine bodyPost_ret (v := .tuple #[.agg #[.int .i64 a0, .string a1, .slice A2 n2 c2', .int .i64 a3, .int .i64 a4, .bool false, .slice A6 n6 c6', .int .i64 a7, .bool a8], .int .i64 (k2 : Int), .int .i64 (E : Int)]) (by simp [results, Try.results16, go_sem, q0, q1, q2, q3, q4, q5, q6, q7, q8]) rfl ?_
          exact by rw [← HE.out]; exact TkQ.pass HB1.out hWs G1.out G2.out
      · have e46 : (X == 46) = false := beq_eq_false_iff_ne.2 h46
        have hrr : signT (i == 0) (u.drop i) = r := by
          have := HR2.out
          rwa [if_neg (by rw [show (x.toNat == 46) = false from beq_eq_false_iff_ne.2 (by have := HX.out; omega)]; simp)] at this
        have K2 := hide KS.out
        rw [hrr] at K2
        clear hrr HR2 HX KS h46 CE CY
        go_wp2_with (first | (go_at_call 30; refine (CL.out _).mono ?_; rintro e3 w3 ⟨rfl, rfl⟩) | (go_at_call 32; refine (CD.out _).mono ?_; rintro e3 w3 ⟨rfl, rfl⟩))
        refine K2.out.mono ?_
        intro e1 w1 hq1
        obtain ⟨a0, a1, A2, n2, c2', a3, a4, A6, n6, c6', a7, a8, k2, rfl, hb1, g1, g2⟩ := hq1.open
        have HB1 := hide (HB0.out.go hb1)
        have G1 := hide g1
        have G2 := hide g2
        clear hb1 g1 g2 hq1 c0 c1 c2 c3 c4 c5 c6 c7 c8 f0 f1 f2 f3 f4 f5 f6 f7 f8
        obtain ⟨c0, f0⟩ := HB1.out.blk.2 0 (by decide)
        obtain ⟨c1, f1⟩ := HB1.out.blk.2 1 (by decide)
        obtain ⟨c2, f2⟩ := HB1.out.blk.2 2 (by decide)
        obtain ⟨c3, f3⟩ := HB1.out.blk.2 3 (by decide)
        obtain ⟨c4, f4⟩ := HB1.out.blk.2 4 (by decide)
        obtain ⟨c5, f5⟩ := HB1.out.blk.2 5 (by decide)
        obtain ⟨c6, f6⟩ := HB1.out.blk.2 6 (by decide)
        obtain ⟨c7, f7⟩ := HB1.out.blk.2 7 (by decide)
        obtain ⟨c8, f8⟩ := HB1.out.blk.2 8 (by decide)
        obtain ⟨E, hE⟩ : ∃ E, r.1 = E := ⟨_, rfl⟩
        rw [hE]
        have HE := hide hE
        clear hE
        go_wp2_with fail
        obtain ⟨q0, q1, q2, q3, q4, q5, q6, q7, q8⟩ := set9_cells (v0 := .int .i64 a0) (v1 := .string a1) (v2 := .slice A2 n2 c2') (v3 := .int .i64 a3) (v4 := .int .i64 a4) (v5 := .bool false) (v6 := .slice A6 n6 c6') (v7 := .int .i64 a7) (v8 := .bool a8) HB1.out.blk rfl
        refine bodyPost_ret (v := .tuple #[.agg #[.int .i64 a0, .string a1, .slice A2 n2 c2', .int .i64 a3, .int .i64 a4, .bool false, .slice A6 n6 c6', .int .i64 a7, .bool a8], .int .i64 (k2 : Int), .int .i64 (E : Int)]) (by simp [results, Try.results16, go_sem, q0, q1, q2, q3, q4, q5, q6, q7, q8]) rfl ?_
        exact by rw [← HE.out]; exact TkQ.pass HB1.out hWs G1.out G2.out
end Go.Proofs.Ytbljbmeifmpfoaa

namespace Go.Proofs.Ytbljbmeifmpfoaa
open Go.RowKit

set_option maxHeartbeats 8000000 in
set_option maxRecDepth 100000 in
theorem ltoken_any {A : Option Addr} {c g B k n : Nat} {u : List UInt16} {w : World} (hr : Rd w g A n c k) (hn : u.length = n) (ha : Reads w B 1 A n (u16s u)) (hB : B ≤ g) (hk : k < u.length) (hl : n ≤ 4096) (hc : n ≤ c) {m e : Nat} {t : Tok} (hq : tokenT (k == 0) (u.drop k) = (e, t, m)) :
    Calls Try.prog 13 #[.pointer (some ⟨g, 0, none⟩)] w fun ev w' => ∃ v, ev = .returned (.tuple #[v, .int .i64 (e : Int)]) ∧ (e ≠ 0 → v = noV) ∧ (e = 0 → TokV w' w.heap.size t v ∧ Mv w w' g A n c (k + m)) ∧ w.grownBy w' (some g) := by
  subst hn
  have hg := hr.lt
  obtain ⟨x, hx⟩ : ∃ x, u[k] = x := ⟨_, rfl⟩
  have hdr := List.drop_eq_getElem_cons hk
  rw [hx] at hdr
  rw [hdr, tokenT_cons] at hq
  obtain ⟨blk, off, rfl, hblk, hcell⟩ := ha.spotL (by omega)
  have hca := hcell k hk
  rw [hx] at hca
  have hca' := World.cell?_alloc_lt w (.cells zero9.toArray 40) ⟨blk, off + k, none⟩ (by show blk < _; omega)
  rw [hca] at hca'
  have HX := hide hx
  have HDR := hide hdr
  have HQ := hide hq
  have HA := hide ha
  have hS0 := hide (show SgS w (w.alloc (.cells zero9.toArray 40)) g (some ⟨blk, off, none⟩) u.length c k from ⟨⟨hr.alloc _, grown_alloc w _ _⟩, Blk.new w zero9 40⟩)
  have hc0 := hr.c0
  have hc1 := hr.c1
  have hx16 := x.toNat_lt
  have hbw : blk < w.heap.size := by omega
  clear hcell hx hdr hq ha hr hca'
  go_enter Try.func13, Try.ntmps13
  go_wp2_with fail
  go_quiet (fail)
  have hM1 := hide (hS0.out.drewN hg nq).mv
  have hz1 := hide (hS0.out.drewN hg nq).zero
  obtain ⟨w1, hw1⟩ : ∃ w1, (w.alloc (.cells zero9.toArray 40)).drewN nq = w1 := ⟨_, rfl⟩
  have hsz1 : w.heap.size < w1.heap.size := by rw [← hw1]; simp
  have HW1 := hide hw1
  rw [hw1] at hM1 hz1
  have HW1' := hide (show (w.alloc (.cells #[.int .i64 0, .string ⟨#[]⟩, .slice none 0 0, .int .i64 0, .int .i64 0, .bool false, .slice none 0 0, .int .i64 0, .bool false] 40)).drewN nq = w1 from hw1)
  rw [HW1'.out]
  have hA1 := hide (HA.out.grown hM1.out.grown hB (Nat.le_of_lt hg))
  clear hw1 hS0 hc0 hc1 hca HW1 HW1'
  cases hlet : isLet x with
  | true =>
    have HQ2 := hide (show wordT (u.drop k) = (e, t, m) by
      have := HQ.out
      rw [if_pos hlet] at this
      rw [HDR.out]; exact this)
    have HT := hide hlet
    go_wp2_with (go_at_call 22; refine (lletter_any _ _).mono ?_; rintro e2 w2 ⟨rfl, rfl⟩)
    refine (lwordT_any (m := m) (e := e) (t := t) hM1.out.rd rfl hA1.out hB (Nat.le_of_lt hk) hl HQ2.out).mono ?_
    rintro e4 w4 ⟨v, rfl, hbad, hgood, hG4⟩
    have hz4 := hide (hz1.out.grown hG4 (by omega))
    have HBAD := hide hbad
    have HGOOD := hide hgood
    have HG4 := hide (grown_trans hM1.out.grown hG4)
    clear hbad hgood hG4
    obtain ⟨b0', fb0⟩ := hz4.out.2 0 (by decide)
    obtain ⟨b1', fb1⟩ := hz4.out.2 1 (by decide)
    obtain ⟨b2', fb2⟩ := hz4.out.2 2 (by decide)
    obtain ⟨b3', fb3⟩ := hz4.out.2 3 (by decide)
    obtain ⟨b4', fb4⟩ := hz4.out.2 4 (by decide)
    obtain ⟨b5', fb5⟩ := hz4.out.2 5 (by decide)
    obtain ⟨b6', fb6⟩ := hz4.out.2 6 (by decide)
    obtain ⟨b7', fb7⟩ := hz4.out.2 7 (by decide)
    obtain ⟨b8', fb8⟩ := hz4.out.2 8 (by decide)
    by_cases he : e = 0
    · obtain ⟨⟨vs, vm, hv, ho1, ho2⟩, hM4⟩ := HGOOD.out he
      subst hv
      obtain ⟨As, cs, rfl, _, _⟩ := own_shape ho1
      obtain ⟨Am, cm, rfl, _, _⟩ := own_shape ho2
      have HO1 := hide ho1
      have HO2 := hide ho2
      have HM4 := hide (Mv.then hM1.out hM4)
      have HE := hide he
      obtain ⟨ls, hls⟩ : ∃ l, t.str.length = l := ⟨_, rfl⟩
      obtain ⟨lm, hlm⟩ : ∃ l, t.mag.length = l := ⟨_, rfl⟩
      rw [hls, hlm]
      rw [hls] at HO1
      rw [hlm] at HO2
      have HLS := hide hls
      have HLM := hide hlm
      clear ho1 ho2 hM4 he hls hlm
      go_wp2_with fail
      obtain ⟨q0, q1, q2, q3, q4, q5, q6, q7, q8⟩ := set9_cells (v0 := .int .i64 (t.kind : Int)) (v1 := .string ⟨t.text.toArray⟩) (v2 := .slice As ls cs) (v3 := .int .i64 t.nk) (v4 := .int .i64 t.nn) (v5 := .bool false) (v6 := .slice Am lm cm) (v7 := .int .i64 (t.pos : Int)) (v8 := .bool t.nl) hz4.out rfl
      refine bodyPost_ret (v := .tuple #[.agg #[.int .i64 (t.kind : Int), .string ⟨t.text.toArray⟩, .slice As ls cs, .int .i64 t.nk, .int .i64 t.nn, .bool false, .slice Am lm cm, .int .i64 (t.pos : Int), .bool t.nl], .int .i64 (e : Int)]) (by simp [results, Try.results13, go_sem, q0, q1, q2, q3, q4, q5, q6, q7, q8]) rfl ?_
      refine ⟨_, rfl, fun h => absurd HE.out h, fun _ => ⟨⟨_, _, rfl, ?_, ?_⟩, ?_⟩, set9_grownM HG4.out (Nat.le_refl _)⟩
      · rw [HLS.out]; exact own_base (set9_own HO1.out hsz1) (by omega)
      · rw [HLM.out]; exact own_base (set9_own HO2.out hsz1) (by omega)
      · exact set9_mv HM4.out (Nat.le_refl _) hg
    · obtain rfl := HBAD.out he
      unfold noV
      go_wp2_with fail
      obtain ⟨q0, q1, q2, q3, q4, q5, q6, q7, q8⟩ := set9_cells (v0 := .int .i64 0) (v1 := .string ⟨#[]⟩) (v2 := .slice none 0 0) (v3 := .int .i64 0) (v4 := .int .i64 0) (v5 := .bool false) (v6 := .slice none 0 0) (v7 := .int .i64 0) (v8 := .bool false) hz4.out rfl
      refine bodyPost_ret (v := .tuple #[.agg #[.int .i64 0, .string ⟨#[]⟩, .slice none 0 0, .int .i64 0, .int .i64 0, .bool false, .slice none 0 0, .int .i64 0, .bool false], .int .i64 (e : Int)]) (by simp [results, Try.results13, go_sem, q0, q1, q2, q3, q4, q5, q6, q7, q8]) rfl ?_
      exact ⟨_, rfl, fun _ => rfl, fun h => absurd h he, set9_grownM HG4.out (Nat.le_refl _)⟩
  | false =>
    cases hdig : isDigit x with
    | true =>
      have HQ2 := hide (show numberT (u.drop k) = (e, t, m) by
        have := HQ.out
        rw [if_neg (by rw [hlet]; simp), if_pos hdig] at this
        rw [HDR.out]; exact this)
      go_wp2_with (first | (go_at_call 22; refine (lletter_any _ _).mono ?_; rintro e2 w2 ⟨rfl, rfl⟩) | (go_at_call 24; refine (ldigit_any _ _).mono ?_; rintro e2 w2 ⟨rfl, rfl⟩))
      refine (lnumber_any (m := m) (e := e) (t := t) hM1.out.rd rfl hA1.out hB hk (by rw [HX.out]; exact hdig) hl HQ2.out).mono ?_
      rintro e4 w4 ⟨v, rfl, hbad, hgood, hG4⟩
      have hz4 := hide (hz1.out.grown hG4 (by omega))
      have HBAD := hide hbad
      have HGOOD := hide hgood
      have HG4 := hide (grown_trans hM1.out.grown hG4)
      clear hbad hgood hG4
      obtain ⟨b0', fb0⟩ := hz4.out.2 0 (by decide)
      obtain ⟨b1', fb1⟩ := hz4.out.2 1 (by decide)
      obtain ⟨b2', fb2⟩ := hz4.out.2 2 (by decide)
      obtain ⟨b3', fb3⟩ := hz4.out.2 3 (by decide)
      obtain ⟨b4', fb4⟩ := hz4.out.2 4 (by decide)
      obtain ⟨b5', fb5⟩ := hz4.out.2 5 (by decide)
      obtain ⟨b6', fb6⟩ := hz4.out.2 6 (by decide)
      obtain ⟨b7', fb7⟩ := hz4.out.2 7 (by decide)
      obtain ⟨b8', fb8⟩ := hz4.out.2 8 (by decide)
      by_cases he : e = 0
      · obtain ⟨⟨vs, vm, hv, ho1, ho2⟩, hM4⟩ := HGOOD.out he
        subst hv
        obtain ⟨As, cs, rfl, _, _⟩ := own_shape ho1
        obtain ⟨Am, cm, rfl, _, _⟩ := own_shape ho2
        have HO1 := hide ho1
        have HO2 := hide ho2
        have HM4 := hide (Mv.then hM1.out hM4)
        have HE := hide he
        obtain ⟨ls, hls⟩ : ∃ l, t.str.length = l := ⟨_, rfl⟩
        obtain ⟨lm, hlm⟩ : ∃ l, t.mag.length = l := ⟨_, rfl⟩
        rw [hls, hlm]
        rw [hls] at HO1
        rw [hlm] at HO2
        have HLS := hide hls
        have HLM := hide hlm
        clear ho1 ho2 hM4 he hls hlm
        go_wp2_with fail
        obtain ⟨q0, q1, q2, q3, q4, q5, q6, q7, q8⟩ := set9_cells (v0 := .int .i64 (t.kind : Int)) (v1 := .string ⟨t.text.toArray⟩) (v2 := .slice As ls cs) (v3 := .int .i64 t.nk) (v4 := .int .i64 t.nn) (v5 := .bool false) (v6 := .slice Am lm cm) (v7 := .int .i64 (t.pos : Int)) (v8 := .bool t.nl) hz4.out rfl
        refine bodyPost_ret (v := .tuple #[.agg #[.int .i64 (t.kind : Int), .string ⟨t.text.toArray⟩, .slice As ls cs, .int .i64 t.nk, .int .i64 t.nn, .bool false, .slice Am lm cm, .int .i64 (t.pos : Int), .bool t.nl], .int .i64 (e : Int)]) (by simp [results, Try.results13, go_sem, q0, q1, q2, q3, q4, q5, q6, q7, q8]) rfl ?_
        refine ⟨_, rfl, fun h => absurd HE.out h, fun _ => ⟨⟨_, _, rfl, ?_, ?_⟩, ?_⟩, set9_grownM HG4.out (Nat.le_refl _)⟩
        · rw [HLS.out]; exact own_base (set9_own HO1.out hsz1) (by omega)
        · rw [HLM.out]; exact own_base (set9_own HO2.out hsz1) (by omega)
        · exact set9_mv HM4.out (Nat.le_refl _) hg
      · obtain rfl := HBAD.out he
        unfold noV
        go_wp2_with fail
        obtain ⟨q0, q1, q2, q3, q4, q5, q6, q7, q8⟩ := set9_cells (v0 := .int .i64 0) (v1 := .string ⟨#[]⟩) (v2 := .slice none 0 0) (v3 := .int .i64 0) (v4 := .int .i64 0) (v5 := .bool false) (v6 := .slice none 0 0) (v7 := .int .i64 0) (v8 := .bool false) hz4.out rfl
        refine bodyPost_ret (v := .tuple #[.agg #[.int .i64 0, .string ⟨#[]⟩, .slice none 0 0, .int .i64 0, .int .i64 0, .bool false, .slice none 0 0, .int .i64 0, .bool false], .int .i64 (e : Int)]) (by simp [results, Try.results13, go_sem, q0, q1, q2, q3, q4, q5, q6, q7, q8]) rfl ?_
        exact ⟨_, rfl, fun _ => rfl, fun h => absurd h he, set9_grownM HG4.out (Nat.le_refl _)⟩
    | false =>
      by_cases h39 : x.toNat = 39
      · have e39 : ((x.toNat : Int) == 39) = true := by rw [h39]; rfl
        have HQU := hide (show (x.toNat == 39 || x.toNat == 34) = true by rw [h39]; rfl)
        clear h39
        have HQ2 := hide (show quotedT u[k] (u.drop (k + 1)) = (e, t, m) by
          have := HQ.out
          rw [if_neg (by rw [hlet]; simp), if_neg (by rw [hdig]; simp), if_pos HQU.out] at this
          rw [HX.out]; exact this)
        go_wp2_with (first | (go_at_call 22; refine (lletter_any _ _).mono ?_; rintro e2 w2 ⟨rfl, rfl⟩) | (go_at_call 24; refine (ldigit_any _ _).mono ?_; rintro e2 w2 ⟨rfl, rfl⟩))
        refine (lquoted_any (m := m) (e := e) (t := t) hM1.out.rd rfl hA1.out hB hk hl HQ2.out).mono ?_
        rintro e4 w4 ⟨v, rfl, hbad, hgood, hG4⟩
        have hz4 := hide (hz1.out.grown hG4 (by omega))
        have HBAD := hide hbad
        have HGOOD := hide hgood
        have HG4 := hide (grown_trans hM1.out.grown hG4)
        clear hbad hgood hG4
        obtain ⟨b0', fb0⟩ := hz4.out.2 0 (by decide)
        obtain ⟨b1', fb1⟩ := hz4.out.2 1 (by decide)
        obtain ⟨b2', fb2⟩ := hz4.out.2 2 (by decide)
        obtain ⟨b3', fb3⟩ := hz4.out.2 3 (by decide)
        obtain ⟨b4', fb4⟩ := hz4.out.2 4 (by decide)
        obtain ⟨b5', fb5⟩ := hz4.out.2 5 (by decide)
        obtain ⟨b6', fb6⟩ := hz4.out.2 6 (by decide)
        obtain ⟨b7', fb7⟩ := hz4.out.2 7 (by decide)
        obtain ⟨b8', fb8⟩ := hz4.out.2 8 (by decide)
        by_cases he : e = 0
        · obtain ⟨⟨vs, vm, hv, ho1, ho2⟩, hM4⟩ := HGOOD.out he
          subst hv
          obtain ⟨As, cs, rfl, _, _⟩ := own_shape ho1
          obtain ⟨Am, cm, rfl, _, _⟩ := own_shape ho2
          have HO1 := hide ho1
          have HO2 := hide ho2
          have HM4 := hide (Mv.then hM1.out hM4)
          have HE := hide he
          obtain ⟨ls, hls⟩ : ∃ l, t.str.length = l := ⟨_, rfl⟩
          obtain ⟨lm, hlm⟩ : ∃ l, t.mag.length = l := ⟨_, rfl⟩
          rw [hls, hlm]
          rw [hls] at HO1
          rw [hlm] at HO2
          have HLS := hide hls
          have HLM := hide hlm
          clear ho1 ho2 hM4 he hls hlm
          go_wp2_with fail
          obtain ⟨q0, q1, q2, q3, q4, q5, q6, q7, q8⟩ := set9_cells (v0 := .int .i64 (t.kind : Int)) (v1 := .string ⟨t.text.toArray⟩) (v2 := .slice As ls cs) (v3 := .int .i64 t.nk) (v4 := .int .i64 t.nn) (v5 := .bool false) (v6 := .slice Am lm cm) (v7 := .int .i64 (t.pos : Int)) (v8 := .bool t.nl) hz4.out rfl
          refine bodyPost_ret (v := .tuple #[.agg #[.int .i64 (t.kind : Int), .string ⟨t.text.toArray⟩, .slice As ls cs, .int .i64 t.nk, .int .i64 t.nn, .bool false, .slice Am lm cm, .int .i64 (t.pos : Int), .bool t.nl], .int .i64 (e : Int)]) (by simp [results, Try.results13, go_sem, q0, q1, q2, q3, q4, q5, q6, q7, q8]) rfl ?_
          refine ⟨_, rfl, fun h => absurd HE.out h, fun _ => ⟨⟨_, _, rfl, ?_, ?_⟩, ?_⟩, set9_grownM HG4.out (Nat.le_refl _)⟩
          · rw [HLS.out]; exact own_base (set9_own HO1.out hsz1) (by omega)
          · rw [HLM.out]; exact own_base (set9_own HO2.out hsz1) (by omega)
          · exact set9_mv HM4.out (Nat.le_refl _) hg
        · obtain rfl := HBAD.out he
          unfold noV
          go_wp2_with fail
          obtain ⟨q0, q1, q2, q3, q4, q5, q6, q7, q8⟩ := set9_cells (v0 := .int .i64 0) (v1 := .string ⟨#[]⟩) (v2 := .slice none 0 0) (v3 := .int .i64 0) (v4 := .int .i64 0) (v5 := .bool false) (v6 := .slice none 0 0) (v7 := .int .i64 0) (v8 := .bool false) hz4.out rfl
          refine bodyPost_ret (v := .tuple #[.agg #[.int .i64 0, .string ⟨#[]⟩, .slice none 0 0, .int .i64 0, .int .i64 0, .bool false, .slice none 0 0, .int .i64 0, .bool false], .int .i64 (e : Int)]) (by simp [results, Try.results13, go_sem, q0, q1, q2, q3, q4, q5, q6, q7, q8]) rfl ?_
          exact ⟨_, rfl, fun _ => rfl, fun h => absurd h he, set9_grownM HG4.out (Nat.le_refl _)⟩
      · have e39 : ((x.toNat : Int) == 39) = false := beq_eq_false_iff_ne.2 (by omega)
        by_cases h34 : x.toNat = 34
        · have e34 : ((x.toNat : Int) == 34) = true := by rw [h34]; rfl
          have HQU := hide (show (x.toNat == 39 || x.toNat == 34) = true by rw [h34]; rfl)
          clear h34 h39
          have HQ2 := hide (show quotedT u[k] (u.drop (k + 1)) = (e, t, m) by
            have := HQ.out
            rw [if_neg (by rw [hlet]; simp), if_neg (by rw [hdig]; simp), if_pos HQU.out] at this
            rw [HX.out]; exact this)
          go_wp2_with (first | (go_at_call 22; refine (lletter_any _ _).mono ?_; rintro e2 w2 ⟨rfl, rfl⟩) | (go_at_call 24; refine (ldigit_any _ _).mono ?_; rintro e2 w2 ⟨rfl, rfl⟩))
          refine (lquoted_any (m := m) (e := e) (t := t) hM1.out.rd rfl hA1.out hB hk hl HQ2.out).mono ?_
          rintro e4 w4 ⟨v, rfl, hbad, hgood, hG4⟩
          have hz4 := hide (hz1.out.grown hG4 (by omega))
          have HBAD := hide hbad
          have HGOOD := hide hgood
          have HG4 := hide (grown_trans hM1.out.grown hG4)
          clear hbad hgood hG4
          obtain ⟨b0', fb0⟩ := hz4.out.2 0 (by decide)
          obtain ⟨b1', fb1⟩ := hz4.out.2 1 (by decide)
          obtain ⟨b2', fb2⟩ := hz4.out.2 2 (by decide)
          obtain ⟨b3', fb3⟩ := hz4.out.2 3 (by decide)
          obtain ⟨b4', fb4⟩ := hz4.out.2 4 (by decide)
          obtain ⟨b5', fb5⟩ := hz4.out.2 5 (by decide)
          obtain ⟨b6', fb6⟩ := hz4.out.2 6 (by decide)
          obtain ⟨b7', fb7⟩ := hz4.out.2 7 (by decide)
          obtain ⟨b8', fb8⟩ := hz4.out.2 8 (by decide)
          by_cases he : e = 0
          · obtain ⟨⟨vs, vm, hv, ho1, ho2⟩, hM4⟩ := HGOOD.out he
            subst hv
            obtain ⟨As, cs, rfl, _, _⟩ := own_shape ho1
            obtain ⟨Am, cm, rfl, _, _⟩ := own_shape ho2
            have HO1 := hide ho1
            have HO2 := hide ho2
            have HM4 := hide (Mv.then hM1.out hM4)
            have HE := hide he
            obtain ⟨ls, hls⟩ : ∃ l, t.str.length = l := ⟨_, rfl⟩
            obtain ⟨lm, hlm⟩ : ∃ l, t.mag.length = l := ⟨_, rfl⟩
            rw [hls, hlm]
            rw [hls] at HO1
            rw [hlm] at HO2
            have HLS := hide hls
            have HLM := hide hlm
            clear ho1 ho2 hM4 he hls hlm
            go_wp2_with fail
            obtain ⟨q0, q1, q2, q3, q4, q5, q6, q7, q8⟩ := set9_cells (v0 := .int .i64 (t.kind : Int)) (v1 := .string ⟨t.text.toArray⟩) (v2 := .slice As ls cs) (v3 := .int .i64 t.nk) (v4 := .int .i64 t.nn) (v5 := .bool false) (v6 := .slice Am lm cm) (v7 := .int .i64 (t.pos : Int)) (v8 := .bool t.nl) hz4.out rfl
            refine bodyPost_ret (v := .tuple #[.agg #[.int .i64 (t.kind : Int), .string ⟨t.text.toArray⟩, .slice As ls cs, .int .i64 t.nk, .int .i64 t.nn, .bool false, .slice Am lm cm, .int .i64 (t.pos : Int), .bool t.nl], .int .i64 (e : Int)]) (by simp [results, Try.results13, go_sem, q0, q1, q2, q3, q4, q5, q6, q7, q8]) rfl ?_
            refine ⟨_, rfl, fun h => absurd HE.out h, fun _ => ⟨⟨_, _, rfl, ?_, ?_⟩, ?_⟩, set9_grownM HG4.out (Nat.le_refl _)⟩
            · rw [HLS.out]; exact own_base (set9_own HO1.out hsz1) (by omega)
            · rw [HLM.out]; exact own_base (set9_own HO2.out hsz1) (by omega)
            · exact set9_mv HM4.out (Nat.le_refl _) hg
          · obtain rfl := HBAD.out he
            unfold noV
            go_wp2_with fail
            obtain ⟨q0, q1, q2, q3, q4, q5, q6, q7, q8⟩ := set9_cells (v0 := .int .i64 0) (v1 := .string ⟨#[]⟩) (v2 := .slice none 0 0) (v3 := .int .i64 0) (v4 := .int .i64 0) (v5 := .bool false) (v6 := .slice none 0 0) (v7 := .int .i64 0) (v8 := .bool false) hz4.out rfl
            refine bodyPost_ret (v := .tuple #[.agg #[.int .i64 0, .string ⟨#[]⟩, .slice none 0 0, .int .i64 0, .int .i64 0, .bool false, .slice none 0 0, .int .i64 0, .bool false], .int .i64 (e : Int)]) (by simp [results, Try.results13, go_sem, q0, q1, q2, q3, q4, q5, q6, q7, q8]) rfl ?_
            exact ⟨_, rfl, fun _ => rfl, fun h => absurd h he, set9_grownM HG4.out (Nat.le_refl _)⟩
        · have e34 : ((x.toNat : Int) == 34) = false := beq_eq_false_iff_ne.2 (by omega)
          have HQU := hide (show (x.toNat == 39 || x.toNat == 34) = false by
            rw [Bool.or_eq_false_iff]
            exact ⟨beq_eq_false_iff_ne.2 h39, beq_eq_false_iff_ne.2 h34⟩)
          clear h39 h34
          obtain ⟨b, hb⟩ : ∃ b, isAt 1 isDigit (u.drop k) = b := ⟨_, rfl⟩
          have HB0 := hide (show isAt 0 isDigit (u.drop (k + 1)) = b by
            rw [← hb, HDR.out]
            unfold isAt
            rfl)
          have HB := hide hb
          clear hb
          by_cases h46 : x.toNat = 46
          · have e46 : ((x.toNat : Int) == 46) = true := by rw [h46]; rfl
            have H46 := hide (show (x.toNat == 46) = true by rw [h46]; rfl)
            clear h46
            go_wp2_with (first | (go_at_call 22; refine (lletter_any _ _).mono ?_; rintro e2 w2 ⟨rfl, rfl⟩) | (go_at_call 24; refine (ldigit_any _ _).mono ?_; rintro e2 w2 ⟨rfl, rfl⟩))
            refine (lis_digit (j := 1) hM1.out.rd rfl hA1.out (Nat.le_of_lt hk) hl (by omega) HB.out).mono ?_
            rintro e3 w3 ⟨rfl, m3, hw3⟩
            have hM3 := hide (show Mv w w3 g (some ⟨blk, off, none⟩) u.length c k by rw [hw3]; exact hM1.out.drewN m3)
            have hz3 := hide (show Blk w3 w.heap.size zero9 by rw [hw3]; exact hz1.out.grown (grown_drewN _ (some g) _) (by omega))
            have hsz3 : w.heap.size < w3.heap.size := by rw [hw3]; simpa using hsz1
            have hA3 := hide (HA.out.grown hM3.out.grown hB (Nat.le_of_lt hg))
            clear hw3 m3 hM1 hz1 hA1 hsz1
            cases b with
            | true =>
              obtain ⟨b0', fb0⟩ := hz3.out.2 0 (by decide)
              obtain ⟨b1', fb1⟩ := hz3.out.2 1 (by decide)
              obtain ⟨b2', fb2⟩ := hz3.out.2 2 (by decide)
              obtain ⟨b3', fb3⟩ := hz3.out.2 3 (by decide)
              obtain ⟨b4', fb4⟩ := hz3.out.2 4 (by decide)
              obtain ⟨b5', fb5⟩ := hz3.out.2 5 (by decide)
              obtain ⟨b6', fb6⟩ := hz3.out.2 6 (by decide)
              obtain ⟨b7', fb7⟩ := hz3.out.2 7 (by decide)
              obtain ⟨b8', fb8⟩ := hz3.out.2 8 (by decide)
              go_wp2_with fail
              obtain ⟨q0, q1, q2, q3, q4, q5, q6, q7, q8⟩ := set9_cells (v0 := .int .i64 0) (v1 := .string ⟨#[]⟩) (v2 := .slice none 0 0) (v3 := .int .i64 0) (v4 := .int .i64 0) (v5 := .bool false) (v6 := .slice none 0 0) (v7 := .int .i64 0) (v8 := .bool false) hz3.out rfl
              refine bodyPost_ret (v := .tuple #[.agg #[.int .i64 0, .string ⟨#[]⟩, .slice none 0 0, .int .i64 0, .int .i64 0, .bool false, .slice none 0 0, .int .i64 0, .bool false], .int .i64 6]) (by simp [results, Try.results13, go_sem, q0, q1, q2, q3, q4, q5, q6, q7, q8]) rfl ?_
              have hq := HQ.out
              rw [if_neg (by rw [hlet]; simp), if_neg (by rw [hdig]; simp), if_neg (by rw [HQU.out]; simp), if_pos (by rw [H46.out, HB0.out]; rfl)] at hq
              obtain ⟨z1, z2, z3⟩ := ans_bad hq
              subst z1
              exact ⟨_, rfl, fun _ => rfl, fun h => absurd h (by decide), (set9_mv hM3.out (Nat.le_refl _) hg).grown⟩
            | false =>
              have HQ2 := hide (show signT (k == 0) (u.drop k) = (e, t, m) by
                have := HQ.out
                rw [if_neg (by rw [hlet]; simp), if_neg (by rw [hdig]; simp), if_neg (by rw [HQU.out]; simp), if_neg (by rw [HB0.out]; simp)] at this
                rw [HDR.out]; exact this)
              go_wp2_with fail
              refine (lsignT_any (m := m) (e := e) (t := t) hM3.out.rd rfl hA3.out hB hk hl hc HQ2.out).mono ?_
              rintro e4 w4 ⟨v, rfl, hbad, hgood, hG4⟩
              have hz4 := hide (hz3.out.grown hG4 (by omega))
              have HBAD := hide hbad
              have HGOOD := hide hgood
              have HG4 := hide (grown_trans hM3.out.grown hG4)
              clear hbad hgood hG4
              obtain ⟨b0', fb0⟩ := hz4.out.2 0 (by decide)
              obtain ⟨b1', fb1⟩ := hz4.out.2 1 (by decide)
              obtain ⟨b2', fb2⟩ := hz4.out.2 2 (by decide)
              obtain ⟨b3', fb3⟩ := hz4.out.2 3 (by decide)
              obtain ⟨b4', fb4⟩ := hz4.out.2 4 (by decide)
              obtain ⟨b5', fb5⟩ := hz4.out.2 5 (by decide)
              obtain ⟨b6', fb6⟩ := hz4.out.2 6 (by decide)
              obtain ⟨b7', fb7⟩ := hz4.out.2 7 (by decide)
              obtain ⟨b8', fb8⟩ := hz4.out.2 8 (by decide)
              by_cases he : e = 0
              · obtain ⟨⟨vs, vm, hv, ho1, ho2⟩, hM4⟩ := HGOOD.out he
                subst hv
                obtain ⟨As, cs, rfl, _, _⟩ := own_shape ho1
                obtain ⟨Am, cm, rfl, _, _⟩ := own_shape ho2
                have HO1 := hide ho1
                have HO2 := hide ho2
                have HM4 := hide (Mv.then hM3.out hM4)
                have HE := hide he
                obtain ⟨ls, hls⟩ : ∃ l, t.str.length = l := ⟨_, rfl⟩
                obtain ⟨lm, hlm⟩ : ∃ l, t.mag.length = l := ⟨_, rfl⟩
                rw [hls, hlm]
                rw [hls] at HO1
                rw [hlm] at HO2
                have HLS := hide hls
                have HLM := hide hlm
                clear ho1 ho2 hM4 he hls hlm
                go_wp2_with fail
                obtain ⟨q0, q1, q2, q3, q4, q5, q6, q7, q8⟩ := set9_cells (v0 := .int .i64 (t.kind : Int)) (v1 := .string ⟨t.text.toArray⟩) (v2 := .slice As ls cs) (v3 := .int .i64 t.nk) (v4 := .int .i64 t.nn) (v5 := .bool false) (v6 := .slice Am lm cm) (v7 := .int .i64 (t.pos : Int)) (v8 := .bool t.nl) hz4.out rfl
                refine bodyPost_ret (v := .tuple #[.agg #[.int .i64 (t.kind : Int), .string ⟨t.text.toArray⟩, .slice As ls cs, .int .i64 t.nk, .int .i64 t.nn, .bool false, .slice Am lm cm, .int .i64 (t.pos : Int), .bool t.nl], .int .i64 (e : Int)]) (by simp [results, Try.results13, go_sem, q0, q1, q2, q3, q4, q5, q6, q7, q8]) rfl ?_
                refine ⟨_, rfl, fun h => absurd HE.out h, fun _ => ⟨⟨_, _, rfl, ?_, ?_⟩, ?_⟩, set9_grownM HG4.out (Nat.le_refl _)⟩
                · rw [HLS.out]; exact own_base (set9_own HO1.out hsz3) (by omega)
                · rw [HLM.out]; exact own_base (set9_own HO2.out hsz3) (by omega)
                · exact set9_mv HM4.out (Nat.le_refl _) hg
              · obtain rfl := HBAD.out he
                unfold noV
                go_wp2_with fail
                obtain ⟨q0, q1, q2, q3, q4, q5, q6, q7, q8⟩ := set9_cells (v0 := .int .i64 0) (v1 := .string ⟨#[]⟩) (v2 := .slice none 0 0) (v3 := .int .i64 0) (v4 := .int .i64 0) (v5 := .bool false) (v6 := .slice none 0 0) (v7 := .int .i64 0) (v8 := .bool false) hz4.out rfl
                refine bodyPost_ret (v := .tuple #[.agg #[.int .i64 0, .string ⟨#[]⟩, .slice none 0 0, .int .i64 0, .int .i64 0, .bool false, .slice none 0 0, .int .i64 0, .bool false], .int .i64 (e : Int)]) (by simp [results, Try.results13, go_sem, q0, q1, q2, q3, q4, q5, q6, q7, q8]) rfl ?_
                exact ⟨_, rfl, fun _ => rfl, fun h => absurd h he, set9_grownM HG4.out (Nat.le_refl _)⟩
          · have e46 : ((x.toNat : Int) == 46) = false := beq_eq_false_iff_ne.2 (by omega)
            have H46 := hide (show (x.toNat == 46) = false from beq_eq_false_iff_ne.2 h46)
            clear h46
            have HQ2 := hide (show signT (k == 0) (u.drop k) = (e, t, m) by
              have := HQ.out
              rw [if_neg (by rw [hlet]; simp), if_neg (by rw [hdig]; simp), if_neg (by rw [HQU.out]; simp), if_neg (by rw [H46.out]; simp)] at this
              rw [HDR.out]; exact this)
            go_wp2_with (first | (go_at_call 22; refine (lletter_any _ _).mono ?_; rintro e2 w2 ⟨rfl, rfl⟩) | (go_at_call 24; refine (ldigit_any _ _).mono ?_; rintro e2 w2 ⟨rfl, rfl⟩))
            refine (lsignT_any (m := m) (e := e) (t := t) hM1.out.rd rfl hA1.out hB hk hl hc HQ2.out).mono ?_
            rintro e4 w4 ⟨v, rfl, hbad, hgood, hG4⟩
            have hz4 := hide (hz1.out.grown hG4 (by omega))
            have HBAD := hide hbad
            have HGOOD := hide hgood
            have HG4 := hide (grown_trans hM1.out.grown hG4)
            clear hbad hgood hG4
            obtain ⟨b0', fb0⟩ := hz4.out.2 0 (by decide)
            obtain ⟨b1', fb1⟩ := hz4.out.2 1 (by decide)
            obtain ⟨b2', fb2⟩ := hz4.out.2 2 (by decide)
            obtain ⟨b3', fb3⟩ := hz4.out.2 3 (by decide)
            obtain ⟨b4', fb4⟩ := hz4.out.2 4 (by decide)
            obtain ⟨b5', fb5⟩ := hz4.out.2 5 (by decide)
            obtain ⟨b6', fb6⟩ := hz4.out.2 6 (by decide)
            obtain ⟨b7', fb7⟩ := hz4.out.2 7 (by decide)
            obtain ⟨b8', fb8⟩ := hz4.out.2 8 (by decide)
            by_cases he : e = 0
            · obtain ⟨⟨vs, vm, hv, ho1, ho2⟩, hM4⟩ := HGOOD.out he
              subst hv
              obtain ⟨As, cs, rfl, _, _⟩ := own_shape ho1
              obtain ⟨Am, cm, rfl, _, _⟩ := own_shape ho2
              have HO1 := hide ho1
              have HO2 := hide ho2
              have HM4 := hide (Mv.then hM1.out hM4)
              have HE := hide he
              obtain ⟨ls, hls⟩ : ∃ l, t.str.length = l := ⟨_, rfl⟩
              obtain ⟨lm, hlm⟩ : ∃ l, t.mag.length = l := ⟨_, rfl⟩
              rw [hls, hlm]
              rw [hls] at HO1
              rw [hlm] at HO2
              have HLS := hide hls
              have HLM := hide hlm
              clear ho1 ho2 hM4 he hls hlm
              go_wp2_with fail
              obtain ⟨q0, q1, q2, q3, q4, q5, q6, q7, q8⟩ := set9_cells (v0 := .int .i64 (t.kind : Int)) (v1 := .string ⟨t.text.toArray⟩) (v2 := .slice As ls cs) (v3 := .int .i64 t.nk) (v4 := .int .i64 t.nn) (v5 := .bool false) (v6 := .slice Am lm cm) (v7 := .int .i64 (t.pos : Int)) (v8 := .bool t.nl) hz4.out rfl
              refine bodyPost_ret (v := .tuple #[.agg #[.int .i64 (t.kind : Int), .string ⟨t.text.toArray⟩, .slice As ls cs, .int .i64 t.nk, .int .i64 t.nn, .bool false, .slice Am lm cm, .int .i64 (t.pos : Int), .bool t.nl], .int .i64 (e : Int)]) (by simp [results, Try.results13, go_sem, q0, q1, q2, q3, q4, q5, q6, q7, q8]) rfl ?_
              refine ⟨_, rfl, fun h => absurd HE.out h, fun _ => ⟨⟨_, _, rfl, ?_, ?_⟩, ?_⟩, set9_grownM HG4.out (Nat.le_refl _)⟩
              · rw [HLS.out]; exact own_base (set9_own HO1.out hsz1) (by omega)
              · rw [HLM.out]; exact own_base (set9_own HO2.out hsz1) (by omega)
              · exact set9_mv HM4.out (Nat.le_refl _) hg
            · obtain rfl := HBAD.out he
              unfold noV
              go_wp2_with fail
              obtain ⟨q0, q1, q2, q3, q4, q5, q6, q7, q8⟩ := set9_cells (v0 := .int .i64 0) (v1 := .string ⟨#[]⟩) (v2 := .slice none 0 0) (v3 := .int .i64 0) (v4 := .int .i64 0) (v5 := .bool false) (v6 := .slice none 0 0) (v7 := .int .i64 0) (v8 := .bool false) hz4.out rfl
              refine bodyPost_ret (v := .tuple #[.agg #[.int .i64 0, .string ⟨#[]⟩, .slice none 0 0, .int .i64 0, .int .i64 0, .bool false, .slice none 0 0, .int .i64 0, .bool false], .int .i64 (e : Int)]) (by simp [results, Try.results13, go_sem, q0, q1, q2, q3, q4, q5, q6, q7, q8]) rfl ?_
              exact ⟨_, rfl, fun _ => rfl, fun h => absurd h he, set9_grownM HG4.out (Nat.le_refl _)⟩
end Go.Proofs.Ytbljbmeifmpfoaa

namespace Go.Proofs.Ytbljbmeifmpfoaa
open Go.RowKit

theorem Try.info_tok : (Try.prog.info? 40).map (fun i => (i.zero, i.size, i.bytes)) = some (some (.agg zero9.toArray), 9, 112) := by kernel_rfl
def tokV9 (t : Tok) (vs vm : Value) : List Value := [.int .i64 (t.kind : Int), .string ⟨t.text.toArray⟩, vs, .int .i64 t.nk, .int .i64 t.nn, .bool false, vm, .int .i64 (t.pos : Int), .bool t.nl]
/-- cells that are these tokens; what they own lies in blocks from base on -/
def TokC (w : World) (base : Nat) : List Tok → List Value → Prop
  | [], cs => cs = []
  | t :: r, cs => ∃ vs vm rest, cs = tokV9 t vs vm ++ rest ∧ w.ownsRow base 41 1 vs t.str.length (u16s t.str) ∧ w.ownsRow base 98 1 vm t.mag.length (u32s t.mag) ∧ TokC w base r rest
theorem TokC.len {w : World} {base : Nat} : ∀ {ts : List Tok} {cs : List Value}, TokC w base ts cs → cs.length = ts.length * 9 := by
  intro ts
  induction ts with
  | nil => intro cs h; rw [show cs = [] from h]; rfl
  | cons t r ih =>
    intro cs h
    obtain ⟨vs, vm, rest, rfl, _, _, h3⟩ := h
    have := ih h3
    simp only [tokV9, List.length_append, List.length_cons, List.length_nil, this]
    omega
theorem TokC.map {w w' : World} {base base' : Nat} (hk : ∀ (e : TypeId) (v : Value) (n : Nat) (xs : List Value), (e = 41 ∨ e = 98) → w.ownsRow base e 1 v n xs → w'.ownsRow base' e 1 v n xs) : ∀ {ts : List Tok} {cs : List Value}, TokC w base ts cs → TokC w' base' ts cs := by
  intro ts
  induction ts with
  | nil => intro cs h; exact h
  | cons t r ih =>
    intro cs h
    obtain ⟨vs, vm, rest, rfl, h1, h2, h3⟩ := h
    exact ⟨vs, vm, rest, rfl, hk _ _ _ _ (.inl rfl) h1, hk _ _ _ _ (.inr rfl) h2, ih h3⟩
theorem TokC.snoc {w : World} {base : Nat} {t : Tok} {vs vm : Value} (h1 : w.ownsRow base 41 1 vs t.str.length (u16s t.str)) (h2 : w.ownsRow base 98 1 vm t.mag.length (u32s t.mag)) : ∀ {ts : List Tok} {cs : List Value}, TokC w base ts cs → TokC w base (ts ++ [t]) (cs ++ tokV9 t vs vm) := by
  intro ts
  induction ts with
  | nil => intro cs h; rw [show cs = [] from h]; exact ⟨vs, vm, [], by simp, h1, h2, rfl⟩
  | cons s r ih =>
    intro cs h
    obtain ⟨vs', vm', rest, rfl, g1, g2, g3⟩ := h
    exact ⟨vs', vm', rest ++ tokV9 t vs vm, by simp, g1, g2, ih g3⟩
/-- A row of one type is not the row of another one. -/
theorem own_apart {w w' : World} {b1 b2 : Nat} {e1 e2 : TypeId} {s1 s2 n1 n2 : Nat} {v1 v2 : Value} {xs ys : List Value} (h1 : w.ownsRow b1 e1 s1 v1 n1 xs) (h2 : w.ownsRow b2 e2 s2 v2 n2 ys) (hne : e1 ≠ e2) (hg : w.grownBy w' v2.ownBlock) : w'.ownsRow b1 e1 s1 v1 n1 xs := by
  refine h1.kept hg ?_
  rcases h1.2 with ⟨rfl, _⟩ | ⟨g, cap, cur, rfl, _, hgg, _⟩
  · exact .inl rfl
  · right
    rcases h2.2 with ⟨rfl, _⟩ | ⟨g2, cap2, cur2, rfl, _, hgg2, _⟩
    · simp [Value.ownBlock]
    · intro e
      simp only [Value.ownBlock, Option.some.injEq] at e
      subst e
      rw [hgg] at hgg2
      injection hgg2 with hgg2
      injection hgg2 with _ h4 _
      exact hne h4
theorem own_new {w w' : World} {base : Nat} {e : TypeId} {s n : Nat} {v : Value} {xs : List Value} (h : w.ownsRow base e s v n xs) (hg : w.grownBy w' none) : w'.ownsRow base e s v n xs :=
  h.kept hg (by cases hv : v.ownBlock <;> simp)

/-- a slice that is these tokens -/
def TokL (w : World) (base : Nat) (ts : List Tok) (v : Value) : Prop := ∃ cs, w.ownsRow base 40 9 v ts.length cs ∧ TokC w base ts cs
theorem TokL.nil (w : World) (base : Nat) : TokL w base [] (.slice none 0 0) := ⟨[], World.ownsRow_nil _ _ _ _, rfl⟩
theorem TokL.grown {w w' : World} {base g : Nat} {ts : List Tok} {v : Value} (h : TokL w base ts v) (hg : w.grownBy w' (some g)) (hb : g < base) : TokL w' base ts v := by
  obtain ⟨cs, h1, h2⟩ := h
  exact ⟨cs, own_grown h1 hg hb, h2.map fun _ _ _ _ _ h => own_grown h hg hb⟩
theorem TokL.new {w w' : World} {base : Nat} {ts : List Tok} {v : Value} (h : TokL w base ts v) (hg : w.grownBy w' none) : TokL w' base ts v := by
  obtain ⟨cs, h1, h2⟩ := h
  exact ⟨cs, own_new h1 hg, h2.map fun _ _ _ _ _ h => own_new h hg⟩
theorem TokL.base {w : World} {base base' : Nat} {ts : List Tok} {v : Value} (h : TokL w base ts v) (hb : base' ≤ base) : TokL w base' ts v := by
  obtain ⟨cs, h1, h2⟩ := h
  exact ⟨cs, own_base h1 hb, h2.map fun _ _ _ _ _ h => own_base h hb⟩
theorem TokL.below {w w' : World} {base : Nat} {ts : List Tok} {v : Value} (h : TokL w base ts v) (hb : Below w.heap.size w w') : TokL w' base ts v :=
  h.new ⟨hb.os, hb.tape, hb.output, hb.size, fun k hk _ => hb.block k hk⟩
/-- Behind an append of one token. -/
theorem TokL.snoc {w w' : World} {base : Nat} {ts : List Tok} {v v' : Value} {t : Tok} {vs vm : Value} {cs : List Value} (hc : w.ownsRow base 40 9 v ts.length cs) (ht : TokC w base ts cs) (h1 : w.ownsRow base 41 1 vs t.str.length (u16s t.str)) (h2 : w.ownsRow base 98 1 vm t.mag.length (u32s t.mag))
    (ho : w'.ownsRow base 40 9 v' (ts.length + 1) (cs ++ tokV9 t vs vm)) (hg : w.grownBy w' v.ownBlock) : TokL w' base (ts ++ [t]) v' := by
  refine ⟨cs ++ tokV9 t vs vm, by rw [List.length_append]; exact ho, TokC.snoc (own_apart h1 hc (by decide) hg) (own_apart h2 hc (by decide) hg) (ht.map fun e _ _ _ he h => own_apart h hc (by rcases he with rfl | rfl <;> decide) hg)⟩

section
variable {P : Program} {w : World} {ops : Array Oper} {rest : List Oper} {o : Oper} {a : Act} {Q : Exit → Act → World → Prop}
/-- append of what the operation ahead has laid; its block's number as the slot has it. -/
theorem wpList_litH (hgd : o.guard = none) (s x : Operand) (t : TypeId)
    (ho : o.op = .call { callee := .builtin .append, args := #[s, x], argTypes := #[t, t] })
    (e : TypeId) (i : TypeInfo) (z : Value) (size bytes : Nat) (ht : P.underlying t = some (.slice e)) (hi : P.info? e = some i) (hz : i.zero = some z)
    (hsize : i.size = size) (hby : i.bytes = bytes) (hzs : z.cells.size = size) (hsz0 : 0 < size) (base : Nat) (hbase : base ≤ w.heap.size)
    (v : Value) (xs : List Value) (k : Nat) (hs : a.eval s = v) (hm : w.ownsRow base e size v k xs)
    (cs : List Value) (m c B0 : Nat) (hB0 : B0 = w.heap.size) (hx : a.eval x = .slice (some ⟨B0, 0, none⟩) m c) (hl : cs.length = m * size) (h1 : (cs.all fun u => u.oneCell') = true)
    (hsz : k + m ≤ 70368744177664) (hb2 : (k + m) * bytes ≤ 140737488355328)
    (h : ∀ v' w', w'.ownsRow base e size v' (k + m) (xs ++ cs) → w.grownBy w' v.ownBlock → wpList P ops Q rest (a.put o.dst v') w') : wpList P ops Q (o :: rest) a (w.alloc (.cells cs.toArray e)) := by
  subst hB0
  exact wpList_litG hgd s x t ho e i z size bytes ht hi hz hsize hby hzs hsz0 base hbase v xs k hs hm cs m c hx hl h1 hsz hb2 h
end

/-- what the loop has in hand: the reader is block w.heap.size -/
structure LxS (w wr : World) (A : Option Addr) (n c p : Nat) (v : Value) (acc : List Tok) : Prop where
  rd : Rd wr w.heap.size A n c p
  below : Below w.heap.size w wr
  toks : TokL wr (w.heap.size + 1) acc v
theorem below_grown {w wr w' : World} (h : Below w.heap.size w wr) (hg : wr.grownBy w' (some w.heap.size)) : Below w.heap.size w w' :=
  h.grown hg h.size (fun k hk => by injection hk with hk; omega)
theorem LxS.mov {w wr w' : World} {A : Option Addr} {n c p p' : Nat} {v : Value} {acc : List Tok} (h : LxS w wr A n c p v acc) (hm : Mv wr w' w.heap.size A n c p') : LxS w w' A n c p' v acc :=
  ⟨hm.rd, below_grown h.below hm.grown, h.toks.grown hm.grown (by omega)⟩
theorem LxS.new {w wr w' : World} {A : Option Addr} {n c p : Nat} {v : Value} {acc : List Tok} (h : LxS w wr A n c p v acc) (hg : wr.grownBy w' none) : LxS w w' A n c p v acc :=
  ⟨⟨hg.cell h.rd.c0 (by simp), hg.cell h.rd.c1 (by simp), (World.frozen?_of_block (w := wr) (hg.block _ h.rd.lt (by simp))).trans h.rd.f1⟩, h.below.grown hg h.below.size (fun k hk => by cases hk), h.toks.new hg⟩
theorem LxS.app {w wr w' : World} {A : Option Addr} {n c p : Nat} {v v' : Value} {acc acc' : List Tok} (h : LxS w wr A n c p v acc) (hg : wr.grownBy w' v.ownBlock) (ht : TokL w' (w.heap.size + 1) acc' v') : LxS w w' A n c p v' acc' := by
  obtain ⟨cs, ho, _⟩ := h.toks
  have hne : ∀ k, k < w.heap.size + 1 → some k ≠ v.ownBlock := fun k hk e => by have := (ho.lt k e.symm).1; omega
  exact ⟨⟨hg.cell h.rd.c0 (hne _ (by simp)), hg.cell h.rd.c1 (hne _ (by simp)), (World.frozen?_of_block (w := wr) (hg.block _ h.rd.lt (hne _ (by simp)))).trans h.rd.f1⟩, h.below.grown hg h.below.size (fun k hk => by have := (ho.lt k hk).1; omega), ht⟩

/-- tokens ahead of what comes -/
def prep (acc : List Tok) (q : List Tok × Nat × Nat) : List Tok × Nat × Nat := if q.2.2 ≠ 0 then ([], q.2) else (acc ++ q.1, 0, 0)
theorem prep_cons (acc : List Tok) (t : Tok) (q : List Tok × Nat × Nat) : prep acc (consT t q) = prep (acc ++ [t]) q := by
  unfold prep consT
  by_cases h : q.2.2 ≠ 0
  · rw [if_pos h, if_pos h]; simp only; rw [if_pos h]
  · rw [if_neg h, if_neg h]; simp
theorem lexL_zero : ∀ (f k : Nat) (l : List UInt16), (lexN f k l).2.2 = 0 → (lexN f k l).2.1 = 0 := by
  intro f
  induction f with
  | zero => intro k l _; rfl
  | succ f ih =>
    intro k l
    rw [lexN]
    by_cases h1 : (passF l).2.2 ≠ 0
    · rw [if_pos h1]; intro h; exact absurd h h1
    rw [if_neg h1]
    by_cases h2 : l.drop (passF l).1 = []
    · rw [if_pos h2]; intro _; rfl
    rw [if_neg h2]
    by_cases h3 : (tokAt k l).1 ≠ 0
    · rw [if_pos h3]; intro h; exact absurd h h3
    rw [if_neg h3]
    unfold consT
    split
    · intro h; rename_i h4; exact absurd h h4
    · intro _; rfl
theorem lexL_err : ∀ (f k : Nat) (l : List UInt16), (lexN f k l).2.2 ≠ 0 → (lexN f k l).1 = [] := by
  intro f
  induction f with
  | zero => intro k l _; rfl
  | succ f ih =>
    intro k l
    rw [lexN]
    by_cases h1 : (passF l).2.2 ≠ 0
    · rw [if_pos h1]; intro h; rfl
    rw [if_neg h1]
    by_cases h2 : l.drop (passF l).1 = []
    · rw [if_pos h2]; intro h; exact absurd rfl h
    rw [if_neg h2]
    by_cases h3 : (tokAt k l).1 ≠ 0
    · rw [if_pos h3]; intro h; rfl
    rw [if_neg h3]
    unfold consT
    split
    · intro _; rfl
    · intro h; exact absurd rfl h
/-- how far the loop is -/
def AtLex (u : List UInt16) (p : Nat) (acc : List Tok) : Prop := acc.length ≤ p ∧ p ≤ u.length ∧ lexL 0 u = prep acc (lexL p (u.drop p))
theorem AtLex.start (u : List UInt16) : AtLex u 0 [] := by
  refine ⟨Nat.le_refl _, Nat.zero_le _, ?_⟩
  rw [List.drop_zero]
  unfold prep
  split
  · rename_i h
    have := lexL_err _ _ _ h
    exact Prod.ext this rfl
  · rename_i h
    have h1 := Decidable.not_not.1 h
    have h2 := lexL_zero _ _ _ h1
    exact Prod.ext rfl (Prod.ext h2 h1)
theorem AtLex.pass {u : List UInt16} {p m e : Nat} {nl : Bool} {acc : List Tok} (h : AtLex u p acc) (hq : passF (u.drop p) = (m, nl, e)) (he : e ≠ 0) : lexL 0 u = ([], p + m, e) := by
  obtain ⟨_, _, h⟩ := h
  rw [h, lexL_pass (by rw [hq]; exact he), hq]
  unfold prep
  rw [if_pos he]
theorem AtLex.last {u : List UInt16} {p m : Nat} {nl : Bool} {acc : List Tok} (h : AtLex u p acc) (hq : passF (u.drop p) = (m, nl, 0)) (hm : p + m = u.length) : lexL 0 u = (acc ++ [setAt noTok u.length nl], 0, 0) := by
  obtain ⟨_, _, h⟩ := h
  rw [h, lexL_end (by rw [hq]) (by rw [hq, List.drop_drop, hm, List.drop_length]), hq, ← hm]
  unfold prep
  rw [if_neg (by simp)]
theorem AtLex.bad {u : List UInt16} {p m e k : Nat} {nl : Bool} {t : Tok} {acc : List Tok} (h : AtLex u p acc) (hq : passF (u.drop p) = (m, nl, 0)) (hm : p + m < u.length) (ht : tokenT (p + m == 0) (u.drop (p + m)) = (e, t, k)) (he : e ≠ 0) : lexL 0 u = ([], p + m, e) := by
  obtain ⟨_, _, h⟩ := h
  have htok : tokAt p (u.drop p) = (e, t, k) := by unfold tokAt; rw [hq, List.drop_drop]; exact ht
  rw [h, lexL_bad (by rw [hq]) (by rw [hq, List.drop_drop]; intro h2; have := congrArg List.length h2; rw [List.length_drop] at this; simp at this; omega) (by rw [htok]; exact he), hq, htok]
  unfold prep
  rw [if_pos he]
theorem AtLex.more {u : List UInt16} {p m k : Nat} {nl : Bool} {t : Tok} {acc : List Tok} (h : AtLex u p acc) (hq : passF (u.drop p) = (m, nl, 0)) (hm : p + m < u.length) (ht : tokenT (p + m == 0) (u.drop (p + m)) = (0, t, k)) : AtLex u (p + m + k) (acc ++ [setAt t (p + m) nl]) ∧ 1 ≤ k := by
  obtain ⟨ha, hp, h⟩ := h
  have htok : tokAt p (u.drop p) = (0, t, k) := by unfold tokAt; rw [hq, List.drop_drop]; exact ht
  have hlen := token_len (z := p + m == 0) (l := u.drop (p + m)) (by rw [ht])
  rw [ht, List.length_drop] at hlen
  simp only at hlen
  refine ⟨⟨by simp; omega, by omega, ?_⟩, hlen.1⟩
  rw [h, lexL_more (by rw [hq]) (by rw [hq, List.drop_drop]; intro h2; have := congrArg List.length h2; rw [List.length_drop] at this; simp at this; omega) (by rw [htok]), prep_cons, hq, htok, List.drop_drop, Nat.add_assoc]
end Go.Proofs.Ytbljbmeifmpfoaa
