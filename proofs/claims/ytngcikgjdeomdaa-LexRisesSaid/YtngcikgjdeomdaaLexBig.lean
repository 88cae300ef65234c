/- The reader's bigint, walked: what stands behind digits with an n. -/
import Derived.Test.YtngcikgjdeomdaaBigParseW
import Derived.Test.YtngcikgjdeomdaaLexTok
namespace Go.Proofs.Ytngcikgjdeomdaa
open Go.RowKit

/-- what the call has made so far -/
structure BgS (w wr : World) (g : Nat) (A : Option Addr) (n c k R : Nat) (X : Option Addr) (mx cx : Nat) : Prop where
  mv : Mv w wr g A n c k
  zero : Blk wr w.heap.size zero9
  box : Blk wr R [.bool false, .slice X mx cx]
theorem BgS.drewN {w wr : World} {g n c k R mx cx : Nat} {A X : Option Addr} (h : BgS w wr g A n c k R X mx cx) (hg : g < w.heap.size) (hR : w.heap.size ≤ R) (m : Nat) : BgS w (wr.drewN m) g A n c k R X mx cx :=
  ⟨h.mv.drewN m, h.zero.grown (grown_drewN wr (some g) m) (by omega), h.box.grown (grown_drewN wr (some g) m) (by omega)⟩
theorem own_drewN {w : World} {base e n : Nat} {v : Value} {xs : List Value} (h : w.ownsRow base e 1 v n xs) (m : Nat) : (w.drewN m).ownsRow base e 1 v n xs :=
  h.kept (row := none) ⟨rfl, rfl, rfl, Nat.le_refl _, fun _ _ _ => rfl⟩ (by cases hv : v.ownBlock <;> simp)
theorem bigT_over {v n e m : Nat} {r : List UInt16} {t : Tok} (h : big8 ≤ v) (hq : bigT v n r = (e, t, m)) : 6 = e ∧ noTok = t ∧ 0 = m := by
  unfold bigT at hq
  rw [if_pos h] at hq
  exact ans_bad hq
theorem bigT_odd {v n e m : Nat} {r : List UInt16} {t : Tok} (h : v < big8) (h2 : (isAt 0 isLet r || isAt 0 isDigit r) = true) (hq : bigT v n r = (e, t, m)) : 5 = e ∧ noTok = t ∧ 0 = m := by
  unfold bigT at hq
  rw [if_neg (Nat.not_le.2 h), if_pos h2] at hq
  exact ans_bad hq
theorem bigT_good {v n e m : Nat} {r : List UInt16} {t : Tok} (h : v < big8) (h2 : (isAt 0 isLet r || isAt 0 isDigit r) = false) (hq : bigT v n r = (e, t, m)) : 0 = e ∧ { noTok with kind := 3, mag := limbs v } = t ∧ n + 1 = m := by
  unfold bigT at hq
  rw [if_neg (Nat.not_le.2 h), if_neg (by rw [h2]; simp)] at hq
  exact ans_of hq

set_option maxHeartbeats 8000000 in
set_option maxRecDepth 100000 in
theorem lbigint_any {A : Option Addr} {c g B k n : Nat} {u : List UInt16} {w : World} {s : ByteArray} {d : List UInt16} (hsd : s.data.toList = asc d) (hd : ∀ x ∈ d, isDigit x = true) (h0 : 0 < d.length) (hz : d[0] ≠ 48 ∨ d = [48]) (hdl : d.length ≤ 4096)
    (hr : Rd w g A n c k) (hn : u.length = n) (ha : Reads w B 1 A n (u16s u)) (hB : B ≤ g) (hk : k ≤ n) (hl : n ≤ 4096) {m e : Nat} {t : Tok} (hq : bigT (decVal d) d.length (u.drop k) = (e, t, m)) :
    Calls Try.prog 62 #[.pointer (some ⟨g, 0, none⟩), .string s] w fun ev w' => ∃ v, ev = .returned (.tuple #[v, .int .i64 (e : Int)]) ∧ (e ≠ 0 → v = noV) ∧ (e = 0 → TokV w' w.heap.size t v ∧ Mv w w' g A n c k ∧ m = d.length + 1) ∧ w.grownBy w' (some g) := by
  have hg := hr.lt
  have HP := hide (bparse_any hsd hd h0 hz hdl (w.alloc (.cells zero9.toArray 39)))
  have HQ := hide hq
  have HA := hide ha
  have HR := hide hr
  obtain ⟨b1, hb1⟩ : ∃ b, isAt 0 isLet (u.drop k) = b := ⟨_, rfl⟩
  obtain ⟨b2, hb2⟩ : ∃ b, isAt 0 isDigit (u.drop k) = b := ⟨_, rfl⟩
  have HB1 := hide hb1
  have HB2 := hide hb2
  have HN := hide hn
  clear hq ha hr hsd hd h0 hz hdl hb1 hb2 hn
  go_enter Try.func62, Try.ntmps62
  go_wp2_with fail
  refine HP.out.mono ?_
  rintro e1 w1 ⟨X, mx, cx, er, rfl, hbl, hcase⟩
  have hsz : w.heap.size + 1 ≤ w1.heap.size := by have := hbl.size; simpa using this
  have hS := hide (show BgS w (w1.alloc (.cells #[.bool false, .slice X mx cx] 37)) g A n c k w1.heap.size X mx cx from by
    have hb2 : Below w.heap.size w w1 := ((Below.refl _ w).alloc (Nat.le_refl _) _).trans (hbl.mono (by simp))
    refine ⟨⟨(HR.out.below hb2 hg).alloc _, grown_trans (grown_of_below _ hb2) (grown_alloc _ _ _)⟩, ?_, Blk.new w1 [.bool false, .slice X mx cx] _⟩
    exact ((Blk.new w zero9 39).below hbl (by simp)).grownR (grown_alloc w1 _ none) (by simp))
  have hC := hide hcase
  clear hbl hcase
  by_cases her : er = 0
  · have hv8 : decVal d < big8 := by
      rcases hC.out with ⟨_, h, _⟩ | ⟨h, _⟩
      · exact h
      · omega
    have hown := hide (show w1.ownsRow (w.alloc (.cells zero9.toArray 39)).heap.size 88 1 (.slice X mx cx) (limbs (decVal d)).length (u32s (limbs (decVal d))) by
      rcases hC.out with ⟨_, _, h⟩ | ⟨h, _⟩
      · exact h
      · omega)
    have e1 : ((er : Int) != 0) = false := by rw [her]; rfl
    have HV8 := hide hv8
    clear her hC hv8
    go_wp2_with fail
    refine (lis_letter (j := 0) hS.out.mv.rd HN.out (HA.out.grown hS.out.mv.grown hB (Nat.le_of_lt hg)) hk hl (by omega) HB1.out).mono ?_
    rintro e3 w3 ⟨rfl, m3, hw3⟩
    have hS3 := hide (show BgS w w3 g A n c k w1.heap.size X mx cx by rw [hw3]; exact hS.out.drewN hg (by omega) m3)
    have hO3 := hide (show w3.ownsRow (w.heap.size + 1) 88 1 (.slice X mx cx) (limbs (decVal d)).length (u32s (limbs (decVal d))) by
      rw [hw3]
      exact own_drewN (own_base (hown.out.alloc _) (by simp)) m3)
    clear hw3 m3 hS hown
    cases b1 with
    | true =>
      obtain ⟨b0, fb0⟩ := hS3.out.zero.2 0 (by decide)
      obtain ⟨b1, fb1⟩ := hS3.out.zero.2 1 (by decide)
      obtain ⟨b2, fb2⟩ := hS3.out.zero.2 2 (by decide)
      obtain ⟨b3, fb3⟩ := hS3.out.zero.2 3 (by decide)
      obtain ⟨b4, fb4⟩ := hS3.out.zero.2 4 (by decide)
      obtain ⟨b5, fb5⟩ := hS3.out.zero.2 5 (by decide)
      obtain ⟨b6, fb6⟩ := hS3.out.zero.2 6 (by decide)
      obtain ⟨b7, fb7⟩ := hS3.out.zero.2 7 (by decide)
      obtain ⟨b8, fb8⟩ := hS3.out.zero.2 8 (by decide)
      go_wp2_with fail
      obtain ⟨q0, q1, q2, q3, q4, q5, q6, q7, q8⟩ := set9_cells (v0 := .int .i64 0) (v1 := .string ⟨#[]⟩) (v2 := .slice none 0 0) (v3 := .int .i64 0) (v4 := .int .i64 0) (v5 := .bool false) (v6 := .slice none 0 0) (v7 := .int .i64 0) (v8 := .bool false) hS3.out.zero rfl
      refine bodyPost_ret (v := .tuple #[.agg #[.int .i64 0, .string ⟨#[]⟩, .slice none 0 0, .int .i64 0, .int .i64 0, .bool false, .slice none 0 0, .int .i64 0, .bool false], .int .i64 5]) (by simp [results, Try.results62, go_sem, q0, q1, q2, q3, q4, q5, q6, q7, q8]) rfl ?_
      obtain ⟨z1, z2, z3⟩ := bigT_odd HV8.out (by rw [HB1.out]; rfl) HQ.out
      subst z1
      exact ⟨_, rfl, fun _ => rfl, fun h => absurd h (by decide), (set9_mv hS3.out.mv (Nat.le_refl _) hg).grown⟩
    | false =>
      go_wp2_with fail
      refine (lis_digit (j := 0) hS3.out.mv.rd HN.out (HA.out.grown hS3.out.mv.grown hB (Nat.le_of_lt hg)) hk hl (by omega) HB2.out).mono ?_
      rintro e4 w4 ⟨rfl, m4, hw4⟩
      have hS4 := hide (show BgS w w4 g A n c k w1.heap.size X mx cx by rw [hw4]; exact hS3.out.drewN hg (by omega) m4)
      have hO4 := hide (show w4.ownsRow (w.heap.size + 1) 88 1 (.slice X mx cx) (limbs (decVal d)).length (u32s (limbs (decVal d))) by
        rw [hw4]
        exact own_drewN hO3.out m4)
      clear hw4 m4 hS3 hO3
      obtain ⟨b0, fb0⟩ := hS4.out.zero.2 0 (by decide)
      obtain ⟨b1, fb1⟩ := hS4.out.zero.2 1 (by decide)
      obtain ⟨b2', fb2⟩ := hS4.out.zero.2 2 (by decide)
      obtain ⟨b3, fb3⟩ := hS4.out.zero.2 3 (by decide)
      obtain ⟨b4, fb4⟩ := hS4.out.zero.2 4 (by decide)
      obtain ⟨b5, fb5⟩ := hS4.out.zero.2 5 (by decide)
      obtain ⟨b6, fb6⟩ := hS4.out.zero.2 6 (by decide)
      obtain ⟨b7, fb7⟩ := hS4.out.zero.2 7 (by decide)
      obtain ⟨b8, fb8⟩ := hS4.out.zero.2 8 (by decide)
      obtain ⟨x0, fx0⟩ := hS4.out.box.2 0 (by simp)
      obtain ⟨x1, fx1⟩ := hS4.out.box.2 1 (by simp)
      cases b2 with
      | true =>
        go_wp2_with fail
        obtain ⟨q0, q1, q2, q3, q4, q5, q6, q7, q8⟩ := set9_cells (v0 := .int .i64 0) (v1 := .string ⟨#[]⟩) (v2 := .slice none 0 0) (v3 := .int .i64 0) (v4 := .int .i64 0) (v5 := .bool false) (v6 := .slice none 0 0) (v7 := .int .i64 0) (v8 := .bool false) hS4.out.zero rfl
        refine bodyPost_ret (v := .tuple #[.agg #[.int .i64 0, .string ⟨#[]⟩, .slice none 0 0, .int .i64 0, .int .i64 0, .bool false, .slice none 0 0, .int .i64 0, .bool false], .int .i64 5]) (by simp [results, Try.results62, go_sem, q0, q1, q2, q3, q4, q5, q6, q7, q8]) rfl ?_
        obtain ⟨z1, z2, z3⟩ := bigT_odd HV8.out (by rw [HB1.out, HB2.out]; rfl) HQ.out
        subst z1
        exact ⟨_, rfl, fun _ => rfl, fun h => absurd h (by decide), (set9_mv hS4.out.mv (Nat.le_refl _) hg).grown⟩
      | false =>
        go_wp2_with fail
        obtain ⟨q0, q1, q2, q3, q4, q5, q6, q7, q8⟩ := set9_cells (v0 := .int .i64 3) (v1 := .string ⟨#[]⟩) (v2 := .slice none 0 0) (v3 := .int .i64 0) (v4 := .int .i64 0) (v5 := .bool false) (v6 := .slice X mx cx) (v7 := .int .i64 0) (v8 := .bool false) hS4.out.zero rfl
        refine bodyPost_ret (v := .tuple #[.agg #[.int .i64 3, .string ⟨#[]⟩, .slice none 0 0, .int .i64 0, .int .i64 0, .bool false, .slice X mx cx, .int .i64 0, .bool false], .int .i64 0]) (by simp [results, Try.results62, go_sem, q0, q1, q2, q3, q4, q5, q6, q7, q8]) rfl ?_
        obtain ⟨z1, z2, z3⟩ := bigT_good HV8.out (by rw [HB1.out, HB2.out]; rfl) HQ.out
        subst z1 z2 z3
        exact ⟨_, rfl, fun h => absurd rfl h, fun _ => ⟨⟨_, _, rfl, World.ownsRow_nil _ _ _ _, own_base (set9_own hO4.out (by omega)) (by omega)⟩, set9_mv hS4.out.mv (Nat.le_refl _) hg, rfl⟩, (set9_mv hS4.out.mv (Nat.le_refl _) hg).grown⟩
  · have hv8 : big8 ≤ decVal d := by
      rcases hC.out with ⟨h, _, _⟩ | ⟨_, h⟩
      · omega
      · exact h
    have e1 : ((er : Int) != 0) = true := by rw [bne_iff_ne]; omega
    have HV8 := hide hv8
    clear her hC hv8
    obtain ⟨b0, fb0⟩ := hS.out.zero.2 0 (by decide)
    obtain ⟨b1', fb1⟩ := hS.out.zero.2 1 (by decide)
    obtain ⟨b2', fb2⟩ := hS.out.zero.2 2 (by decide)
    obtain ⟨b3, fb3⟩ := hS.out.zero.2 3 (by decide)
    obtain ⟨b4, fb4⟩ := hS.out.zero.2 4 (by decide)
    obtain ⟨b5, fb5⟩ := hS.out.zero.2 5 (by decide)
    obtain ⟨b6, fb6⟩ := hS.out.zero.2 6 (by decide)
    obtain ⟨b7, fb7⟩ := hS.out.zero.2 7 (by decide)
    obtain ⟨b8, fb8⟩ := hS.out.zero.2 8 (by decide)
    go_wp2_with fail
    obtain ⟨q0, q1, q2, q3, q4, q5, q6, q7, q8⟩ := set9_cells (v0 := .int .i64 0) (v1 := .string ⟨#[]⟩) (v2 := .slice none 0 0) (v3 := .int .i64 0) (v4 := .int .i64 0) (v5 := .bool false) (v6 := .slice none 0 0) (v7 := .int .i64 0) (v8 := .bool false) hS.out.zero rfl
    refine bodyPost_ret (v := .tuple #[.agg #[.int .i64 0, .string ⟨#[]⟩, .slice none 0 0, .int .i64 0, .int .i64 0, .bool false, .slice none 0 0, .int .i64 0, .bool false], .int .i64 6]) (by simp [results, Try.results62, go_sem, q0, q1, q2, q3, q4, q5, q6, q7, q8]) rfl ?_
    obtain ⟨z1, z2, z3⟩ := bigT_over HV8.out HQ.out
    subst z1
    exact ⟨_, rfl, fun _ => rfl, fun h => absurd h (by decide), (set9_mv hS.out.mv (Nat.le_refl _) hg).grown⟩
end Go.Proofs.Ytngcikgjdeomdaa
