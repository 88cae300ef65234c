/- A token's value and its cells; the reader's word, walked. -/
import Derived.Test.YtngcikgjdeomdaaLexRun
import Derived.Test.YtngcikgjdeomdaaLexWords
namespace Go.Proofs.Ytngcikgjdeomdaa
open Go.RowKit

/-- A block whose cells are these, none frozen. -/
def Blk (w : World) (R : Nat) (cs : List Value) : Prop := R < w.heap.size ∧ ∀ j (h : j < cs.length), w.cell? ⟨R, j, none⟩ = some cs[j] ∧ w.frozen? ⟨R, j, none⟩ = false
def zero9 : List Value := [.int .i64 0, .string ⟨#[]⟩, .slice none 0 0, .int .i64 0, .int .i64 0, .bool false, .slice none 0 0, .int .i64 0, .bool false]
def noV : Value := .agg #[.int .i64 0, .string ⟨#[]⟩, .slice none 0 0, .int .i64 0, .int .i64 0, .bool false, .slice none 0 0, .int .i64 0, .bool false]
theorem Blk.new (w : World) (cs : List Value) (T : TypeId) : Blk (w.alloc (.cells cs.toArray T)) w.heap.size cs := by
  refine ⟨by simp, fun j h => ⟨?_, ?_⟩⟩
  · rw [World.cell?_alloc_at _ _ _ _ rfl]
    simp [List.getElem?_eq_getElem h]
  · exact World.frozen?_alloc_at _ _ _ _ rfl
theorem Blk.grown {w w' : World} {R g : Nat} {cs : List Value} (h : Blk w R cs) (hg : w.grownBy w' (some g)) (hne : R ≠ g) : Blk w' R cs :=
  ⟨Nat.lt_of_lt_of_le h.1 hg.size, fun j hj => ⟨grown_cell hg (h.2 j hj).1 hne, (grown_frozen (p := ⟨R, j, none⟩) hg h.1 hne).trans (h.2 j hj).2⟩⟩
theorem Blk.below {w w' : World} {R D : Nat} {cs : List Value} (h : Blk w R cs) (hb : Below D w w') (hR : R < D) : Blk w' R cs :=
  ⟨Nat.lt_of_lt_of_le h.1 hb.size, fun j hj => ⟨(hb.cell (p := ⟨R, j, none⟩) hR).trans (h.2 j hj).1, (hb.frozen (p := ⟨R, j, none⟩) hR).trans (h.2 j hj).2⟩⟩
section
variable {w w0 w' : World} {R : Nat} {cs : List Value} {v0 v1 v2 v3 v4 v5 v6 v7 v8 : Value}
theorem Blk.cell {j : Nat} (h : Blk w R cs) (hj : j < cs.length) : w.cell? ⟨R, j, none⟩ = some cs[j] := (h.2 j hj).1
/-- Behind the store of a whole token. -/
theorem set9_cells (h : Blk w R cs) (hl : cs.length = 9) :
    (((((((((w.setCell ⟨R, 0, none⟩ v0).setCell ⟨R, 1, none⟩ v1).setCell ⟨R, 2, none⟩ v2).setCell ⟨R, 3, none⟩ v3).setCell ⟨R, 4, none⟩ v4).setCell ⟨R, 5, none⟩ v5).setCell ⟨R, 6, none⟩ v6).setCell ⟨R, 7, none⟩ v7).setCell ⟨R, 8, none⟩ v8).cell? ⟨R, 0, none⟩ = some v0 ∧ (((((((((w.setCell ⟨R, 0, none⟩ v0).setCell ⟨R, 1, none⟩ v1).setCell ⟨R, 2, none⟩ v2).setCell ⟨R, 3, none⟩ v3).setCell ⟨R, 4, none⟩ v4).setCell ⟨R, 5, none⟩ v5).setCell ⟨R, 6, none⟩ v6).setCell ⟨R, 7, none⟩ v7).setCell ⟨R, 8, none⟩ v8).cell? ⟨R, 1, none⟩ = some v1 ∧ (((((((((w.setCell ⟨R, 0, none⟩ v0).setCell ⟨R, 1, none⟩ v1).setCell ⟨R, 2, none⟩ v2).setCell ⟨R, 3, none⟩ v3).setCell ⟨R, 4, none⟩ v4).setCell ⟨R, 5, none⟩ v5).setCell ⟨R, 6, none⟩ v6).setCell ⟨R, 7, none⟩ v7).setCell ⟨R, 8, none⟩ v8).cell? ⟨R, 2, none⟩ = some v2 ∧ (((((((((w.setCell ⟨R, 0, none⟩ v0).setCell ⟨R, 1, none⟩ v1).setCell ⟨R, 2, none⟩ v2).setCell ⟨R, 3, none⟩ v3).setCell ⟨R, 4, none⟩ v4).setCell ⟨R, 5, none⟩ v5).setCell ⟨R, 6, none⟩ v6).setCell ⟨R, 7, none⟩ v7).setCell ⟨R, 8, none⟩ v8).cell? ⟨R, 3, none⟩ = some v3 ∧ (((((((((w.setCell ⟨R, 0, none⟩ v0).setCell ⟨R, 1, none⟩ v1).setCell ⟨R, 2, none⟩ v2).setCell ⟨R, 3, none⟩ v3).setCell ⟨R, 4, none⟩ v4).setCell ⟨R, 5, none⟩ v5).setCell ⟨R, 6, none⟩ v6).setCell ⟨R, 7, none⟩ v7).setCell ⟨R, 8, none⟩ v8).cell? ⟨R, 4, none⟩ = some v4 ∧ (((((((((w.setCell ⟨R, 0, none⟩ v0).setCell ⟨R, 1, none⟩ v1).setCell ⟨R, 2, none⟩ v2).setCell ⟨R, 3, none⟩ v3).setCell ⟨R, 4, none⟩ v4).setCell ⟨R, 5, none⟩ v5).setCell ⟨R, 6, none⟩ v6).setCell ⟨R, 7, none⟩ v7).setCell ⟨R, 8, none⟩ v8).cell? ⟨R, 5, none⟩ = some v5 ∧ (((((((((w.setCell ⟨R, 0, none⟩ v0).setCell ⟨R, 1, none⟩ v1).setCell ⟨R, 2, none⟩ v2).setCell ⟨R, 3, none⟩ v3).setCell ⟨R, 4, none⟩ v4).setCell ⟨R, 5, none⟩ v5).setCell ⟨R, 6, none⟩ v6).setCell ⟨R, 7, none⟩ v7).setCell ⟨R, 8, none⟩ v8).cell? ⟨R, 6, none⟩ = some v6 ∧ (((((((((w.setCell ⟨R, 0, none⟩ v0).setCell ⟨R, 1, none⟩ v1).setCell ⟨R, 2, none⟩ v2).setCell ⟨R, 3, none⟩ v3).setCell ⟨R, 4, none⟩ v4).setCell ⟨R, 5, none⟩ v5).setCell ⟨R, 6, none⟩ v6).setCell ⟨R, 7, none⟩ v7).setCell ⟨R, 8, none⟩ v8).cell? ⟨R, 7, none⟩ = some v7 ∧ (((((((((w.setCell ⟨R, 0, none⟩ v0).setCell ⟨R, 1, none⟩ v1).setCell ⟨R, 2, none⟩ v2).setCell ⟨R, 3, none⟩ v3).setCell ⟨R, 4, none⟩ v4).setCell ⟨R, 5, none⟩ v5).setCell ⟨R, 6, none⟩ v6).setCell ⟨R, 7, none⟩ v7).setCell ⟨R, 8, none⟩ v8).cell? ⟨R, 8, none⟩ = some v8 := by
  obtain ⟨c0, f0⟩ := h.2 0 (by omega)
  obtain ⟨c1, f1⟩ := h.2 1 (by omega)
  obtain ⟨c2, f2⟩ := h.2 2 (by omega)
  obtain ⟨c3, f3⟩ := h.2 3 (by omega)
  obtain ⟨c4, f4⟩ := h.2 4 (by omega)
  obtain ⟨c5, f5⟩ := h.2 5 (by omega)
  obtain ⟨c6, f6⟩ := h.2 6 (by omega)
  obtain ⟨c7, f7⟩ := h.2 7 (by omega)
  obtain ⟨c8, f8⟩ := h.2 8 (by omega)
  refine ⟨?_, ?_, ?_, ?_, ?_, ?_, ?_, ?_, ?_⟩
  all_goals go_simp
theorem set9_grown : w.grownBy (((((((((w.setCell ⟨R, 0, none⟩ v0).setCell ⟨R, 1, none⟩ v1).setCell ⟨R, 2, none⟩ v2).setCell ⟨R, 3, none⟩ v3).setCell ⟨R, 4, none⟩ v4).setCell ⟨R, 5, none⟩ v5).setCell ⟨R, 6, none⟩ v6).setCell ⟨R, 7, none⟩ v7).setCell ⟨R, 8, none⟩ v8) (some R) :=
  grown_trans (grown_trans (grown_trans (grown_trans (grown_trans (grown_trans (grown_trans (grown_trans (grown_set w R 0 v0) (grown_set _ R 1 v1)) (grown_set _ R 2 v2)) (grown_set _ R 3 v3)) (grown_set _ R 4 v4)) (grown_set _ R 5 v5)) (grown_set _ R 6 v6)) (grown_set _ R 7 v7)) (grown_set _ R 8 v8)
theorem set9_mv {g n c k : Nat} {A : Option Addr} (h : Mv w0 w g A n c k) (hR : w0.heap.size ≤ R) (hg : g < w0.heap.size) : Mv w0 (((((((((w.setCell ⟨R, 0, none⟩ v0).setCell ⟨R, 1, none⟩ v1).setCell ⟨R, 2, none⟩ v2).setCell ⟨R, 3, none⟩ v3).setCell ⟨R, 4, none⟩ v4).setCell ⟨R, 5, none⟩ v5).setCell ⟨R, 6, none⟩ v6).setCell ⟨R, 7, none⟩ v7).setCell ⟨R, 8, none⟩ v8) g A n c k := by
  have hs := set9_grown (w := w) (R := R) (v0 := v0) (v1 := v1) (v2 := v2) (v3 := v3) (v4 := v4) (v5 := v5) (v6 := v6) (v7 := v7) (v8 := v8)
  refine ⟨⟨grown_cell hs h.rd.c0 (show g ≠ R by omega), grown_cell hs h.rd.c1 (show g ≠ R by omega), (grown_frozen (p := ⟨g, 1, none⟩) hs h.rd.lt (show g ≠ R by omega)).trans h.rd.f1⟩, ?_⟩
  exact ⟨hs.os.trans h.grown.os, hs.tape.trans h.grown.tape, hs.output.trans h.grown.output, Nat.le_trans h.grown.size hs.size, fun i hi hne => (hs.block i (Nat.lt_of_lt_of_le hi h.grown.size) (fun e => by injection e with e; omega)).trans (h.grown.block i hi hne)⟩
theorem set9_own {base e : TypeId} {n : Nat} {v : Value} {xs : List Value} (h : w.ownsRow base e 1 v n xs) (hb : R < base) : (((((((((w.setCell ⟨R, 0, none⟩ v0).setCell ⟨R, 1, none⟩ v1).setCell ⟨R, 2, none⟩ v2).setCell ⟨R, 3, none⟩ v3).setCell ⟨R, 4, none⟩ v4).setCell ⟨R, 5, none⟩ v5).setCell ⟨R, 6, none⟩ v6).setCell ⟨R, 7, none⟩ v7).setCell ⟨R, 8, none⟩ v8).ownsRow base e 1 v n xs := own_grown h set9_grown hb
end
/-- A value that is a token: what it owns lies in blocks from base on. -/
def TokV (w : World) (base : Nat) (t : Tok) (v : Value) : Prop :=
  ∃ vs vm, v = .agg #[.int .i64 (t.kind : Int), .string ⟨t.text.toArray⟩, vs, .int .i64 t.nk, .int .i64 t.nn, .bool false, vm, .int .i64 (t.pos : Int), .bool t.nl] ∧
    w.ownsRow base 32 1 vs t.str.length (u16s t.str) ∧ w.ownsRow base 88 1 vm t.mag.length (t.mag.map fun n : Nat => Value.int .u32 (n : Int))

theorem ans_of {a b m k : Nat} {t s : Tok} (h : ((a, t, m) : Ans) = (b, s, k)) : a = b ∧ t = s ∧ m = k := by
  simp only [Prod.mk.injEq] at h
  exact h
theorem ans_bad {x e k : Nat} {s : Tok} (h : bad x = (e, s, k)) : x = e ∧ noTok = s ∧ 0 = k := ans_of h

set_option maxHeartbeats 4000000 in
set_option maxRecDepth 100000 in
theorem lwordT_any {A : Option Addr} {c g B k n : Nat} {u : List UInt16} {w : World} (hr : Rd w g A n c k) (hn : u.length = n) (ha : Reads w B 1 A n (u16s u)) (hB : B ≤ g) (hk : k ≤ n) (hl : n ≤ 4096) {m e : Nat} {t : Tok} (hq : wordT (u.drop k) = (e, t, m)) :
    Calls Try.prog 44 #[.pointer (some ⟨g, 0, none⟩)] w fun ev w' => ∃ v, ev = .returned (.tuple #[v, .int .i64 (e : Int)]) ∧ (e ≠ 0 → v = noV) ∧ (e = 0 → TokV w' w.heap.size t v ∧ Mv w w' g A n c (k + m)) ∧ w.grownBy w' (some g) := by
  subst hn
  have hg := hr.lt
  obtain ⟨l, hll⟩ : ∃ l, (u.drop k).takeWhile isRun = l := ⟨_, rfl⟩
  have hle : k + l.length ≤ u.length := by
    have h1 := takeWhile_le isRun (u.drop k)
    rw [hll, List.length_drop] at h1
    omega
  unfold wordT at hq
  rw [hll, List.drop_drop] at hq
  obtain ⟨b, hb⟩ : ∃ b, starts [92] (u.drop (k + l.length)) = b := ⟨_, rfl⟩
  rw [hb] at hq
  have HL := hide hll
  have HB := hide hb
  have HQ := hide hq
  have HA := hide ha
  have hR := hide (hr.alloc (.cells zero9.toArray 39))
  have hAl := hide (ha.alloc (Nat.le_trans hB (Nat.le_of_lt hg)) (.cells zero9.toArray 39))
  have hZ := hide (Blk.new w zero9 39)
  have hG0 := hide (grown_alloc w (.cells zero9.toArray 39) (some g))
  clear hll hb hq ha hr
  go_enter Try.func44, Try.ntmps44
  go_wp2_with fail
  refine (lrun_run hR.out rfl hAl.out hB hk hl HL.out).mono ?_
  rintro e1 w1 ⟨rfl, hM1⟩
  have hR1 := hide hM1.rd
  have hG1 := hide (grown_trans hG0.out hM1.grown)
  have hA1 := hide (HA.out.grown hG1.out hB (Nat.le_of_lt hg))
  have hZ1 := hide (hZ.out.grown hM1.grown (by omega))
  clear hM1
  go_wp2_with fail
  refine (lhas_any ⟨#[92]⟩ hR1.out rfl hA1.out hle hl (by decide) HB.out).mono ?_
  rintro e2 w2 ⟨rfl, m2, hw2⟩
  have hM2 := hide (show Mv w w2 g A u.length c (k + l.length) by rw [hw2]; exact ⟨hR1.out.drewN m2, grown_trans hG1.out (grown_drewN _ _ _)⟩)
  have hZ2 := hide (show Blk w2 w.heap.size zero9 by rw [hw2]; exact hZ1.out.grown (grown_drewN w1 (some g) m2) (by omega))
  clear hw2 m2 hR1 hG1 hA1 hZ1 hR hAl hZ hG0
  obtain ⟨c0, f0⟩ := hZ2.out.2 0 (by decide)
  obtain ⟨c1, f1⟩ := hZ2.out.2 1 (by decide)
  obtain ⟨c2, f2⟩ := hZ2.out.2 2 (by decide)
  obtain ⟨c3, f3⟩ := hZ2.out.2 3 (by decide)
  obtain ⟨c4, f4⟩ := hZ2.out.2 4 (by decide)
  obtain ⟨c5, f5⟩ := hZ2.out.2 5 (by decide)
  obtain ⟨c6, f6⟩ := hZ2.out.2 6 (by decide)
  obtain ⟨c7, f7⟩ := hZ2.out.2 7 (by decide)
  obtain ⟨c8, f8⟩ := hZ2.out.2 8 (by decide)
  cases b with
  | true =>
    have hq := HQ.out
    rw [if_pos rfl] at hq
    have HQ2 := hide hq
    clear hq
    go_wp2
    obtain ⟨q0, q1, q2, q3, q4, q5, q6, q7, q8⟩ := set9_cells (v0 := .int .i64 0) (v1 := .string ⟨#[]⟩) (v2 := .slice none 0 0) (v3 := .int .i64 0) (v4 := .int .i64 0) (v5 := .bool false) (v6 := .slice none 0 0) (v7 := .int .i64 0) (v8 := .bool false) hZ2.out rfl
    refine bodyPost_ret (v := .tuple #[.agg #[.int .i64 0, .string ⟨#[]⟩, .slice none 0 0, .int .i64 0, .int .i64 0, .bool false, .slice none 0 0, .int .i64 0, .bool false], .int .i64 6]) (by simp [results, Try.results44, go_sem, q0, q1, q2, q3, q4, q5, q6, q7, q8]) rfl ?_
    obtain ⟨z1, z2, z3⟩ := ans_bad HQ2.out
    subst z1
    exact ⟨_, rfl, fun _ => rfl, fun h => absurd h (by decide), (set9_mv hM2.out (Nat.le_refl _) hg).grown⟩
  | false =>
    have hq := HQ.out
    rw [if_neg (by simp)] at hq
    have HQ2 := hide hq
    clear hq
    by_cases hw : 0 < wordF (asc l)
    · have hq := HQ2.out
      rw [if_pos hw] at hq
      have HQ3 := hide hq
      clear hq
      go_wp2_with (go_at_call 21; refine (lword_any _ _).mono ?_; rintro e3 w3 ⟨rfl, rfl⟩)
      obtain ⟨q0, q1, q2, q3, q4, q5, q6, q7, q8⟩ := set9_cells (v0 := .int .i64 6) (v1 := .string ⟨(asc l).toArray⟩) (v2 := .slice none 0 0) (v3 := .int .i64 0) (v4 := .int .i64 0) (v5 := .bool false) (v6 := .slice none 0 0) (v7 := .int .i64 0) (v8 := .bool false) hZ2.out rfl
      refine bodyPost_ret (v := .tuple #[.agg #[.int .i64 6, .string ⟨(asc l).toArray⟩, .slice none 0 0, .int .i64 0, .int .i64 0, .bool false, .slice none 0 0, .int .i64 0, .bool false], .int .i64 0]) (by simp [results, Try.results44, go_sem, q0, q1, q2, q3, q4, q5, q6, q7, q8]) rfl ?_
      obtain ⟨z1, z2, z3⟩ := ans_of HQ3.out
      subst z1 z2 z3
      exact ⟨_, rfl, fun h => absurd rfl h, fun _ => ⟨⟨_, _, rfl, World.ownsRow_nil _ _ _ _, World.ownsRow_nil _ _ _ _⟩, set9_mv hM2.out (Nat.le_refl _) hg⟩, (set9_mv hM2.out (Nat.le_refl _) hg).grown⟩
    · have hq := HQ2.out
      rw [if_neg hw] at hq
      have HQ3 := hide hq
      clear hq
      go_wp2_with (go_at_call 21; refine (lword_any _ _).mono ?_; rintro e3 w3 ⟨rfl, rfl⟩)
      obtain ⟨q0, q1, q2, q3, q4, q5, q6, q7, q8⟩ := set9_cells (v0 := .int .i64 1) (v1 := .string ⟨(asc l).toArray⟩) (v2 := .slice none 0 0) (v3 := .int .i64 0) (v4 := .int .i64 0) (v5 := .bool false) (v6 := .slice none 0 0) (v7 := .int .i64 0) (v8 := .bool false) hZ2.out rfl
      refine bodyPost_ret (v := .tuple #[.agg #[.int .i64 1, .string ⟨(asc l).toArray⟩, .slice none 0 0, .int .i64 0, .int .i64 0, .bool false, .slice none 0 0, .int .i64 0, .bool false], .int .i64 0]) (by simp [results, Try.results44, go_sem, q0, q1, q2, q3, q4, q5, q6, q7, q8]) rfl ?_
      obtain ⟨z1, z2, z3⟩ := ans_of HQ3.out
      subst z1 z2 z3
      exact ⟨_, rfl, fun h => absurd rfl h, fun _ => ⟨⟨_, _, rfl, World.ownsRow_nil _ _ _ _, World.ownsRow_nil _ _ _ _⟩, set9_mv hM2.out (Nat.le_refl _) hg⟩, (set9_mv hM2.out (Nat.le_refl _) hg).grown⟩
end Go.Proofs.Ytngcikgjdeomdaa
