/- Joined for a claim: LT6, LT10, LT11, DecS. -/
import Derived.Test.YtbljbmeifmpfoaaK11
import Derived.Test.YtbljbmeifmpfoaaK08
import Derived.Test.YtbljbmeifmpfoaaK09
import Derived.Test.YtbljbmeifmpfoaaK12
import Derived.OwnWalk
import Derived.Test.YtbljbmeifmpfoaaK01
namespace Go.Proofs.Ytbljbmeifmpfoaa
open Go.RowKit

/-- what a token's function answers at place i -/
def TkQ (w : World) (i : Nat) (r : Ans) (e : Ending) (w' : World) : Prop := ∃ (v : Value) (k : Nat), e = .returned (.tuple #[v, .int .i64 (k : Int), .int .i64 (r.1 : Int)]) ∧ (r.1 ≠ 0 → v = noV) ∧ (r.1 = 0 → TokV w' w.heap.size r.2.1 v ∧ k = i + r.2.2) ∧ Below w.heap.size w w'
theorem TkQ.bad {w w' : World} {i E : Nat} {r : Ans} (h : bad E = r) (he : E ≠ 0) (hb : Below w.heap.size w w') : TkQ w i r (.returned (.tuple #[noV, .int .i64 0, .int .i64 (E : Int)])) w' := by
  subst h
  exact ⟨noV, 0, rfl, fun _ => rfl, fun h => absurd h he, hb⟩
theorem TkQ.good {w w' : World} {i k m : Nat} {t : Tok} {v : Value} {r : Ans} (h : (0, t, m) = r) (hk : k = i + m) (hv : TokV w' w.heap.size t v) (hb : Below w.heap.size w w') : TkQ w i r (.returned (.tuple #[v, .int .i64 (k : Int), .int .i64 0])) w' := by
  subst h
  exact ⟨v, k, rfl, fun h => absurd rfl h, fun _ => ⟨hv, hk⟩, hb⟩
/-- the result's own block, empty, behind a call's begin -/
structure RB (w wr : World) : Prop where
  blk : Blk wr w.heap.size zero9
  below : Below w.heap.size w wr
theorem RB.start (w : World) : RB w (w.alloc (.cells zero9.toArray 40)) := ⟨Blk.new w zero9 _, (Below.refl _ _).alloc (Nat.le_refl _) _⟩
theorem RB.go {w wr w2 : World} (h : RB w wr) (hb : Below wr.heap.size wr w2) : RB w w2 := ⟨h.blk.below hb h.blk.1, h.below.trans (hb.mono h.below.size)⟩
theorem RB.reads {w wr : World} {B n : Nat} {A : Option Addr} {xs : List Value} (h : RB w wr) (hB : B ≤ w.heap.size) (ha : Reads w B 1 A n xs) : Reads wr B 1 A n xs := ha.below (h.below.mono hB)
theorem RB.put {w wr : World} {v0 v1 v2 v3 v4 v5 v6 v7 v8 : Value} (h : RB w wr) : Below w.heap.size w (((((((((wr.setCell ⟨w.heap.size, 0, none⟩ v0).setCell ⟨w.heap.size, 1, none⟩ v1).setCell ⟨w.heap.size, 2, none⟩ v2).setCell ⟨w.heap.size, 3, none⟩ v3).setCell ⟨w.heap.size, 4, none⟩ v4).setCell ⟨w.heap.size, 5, none⟩ v5).setCell ⟨w.heap.size, 6, none⟩ v6).setCell ⟨w.heap.size, 7, none⟩ v7).setCell ⟨w.heap.size, 8, none⟩ v8) :=
  h.below.trans (below_of_grown set9_grown (Nat.le_refl _) (Nat.le_of_lt h.blk.1))
theorem RB.set {w wr : World} {T j : Nat} {v : Value} (h : RB w wr) (hT : w.heap.size < T) : RB w (wr.setCell ⟨T, j, none⟩ v) := ⟨h.blk.setOther (by omega) _, h.below.setCell (Nat.le_of_lt hT) _⟩
theorem reads_sub {w : World} {B b o n i m : Nat} {u L : List UInt16} (hn : u.length = n) (h : Reads w B 1 (some ⟨b, o, none⟩) n (u16s u)) (hd : (u.drop i).take m = L) (h0 : 0 < m) (hi : i + m ≤ n) : Reads w B 1 (some ⟨b, o + i, none⟩) m (u16s L) := by
  subst hn
  have h1 := h.cut16 (k := i) (c := u.length) (by omega) (Nat.le_refl _)
  rw [if_neg (by omega)] at h1
  have h2 := h1.take16 (k := m) (by rw [List.length_drop]; omega)
  rw [hd] at h2
  have hl : L.length = m := by rw [← hd, List.length_take, List.length_drop]; omega
  rw [hl, Option.map_some, Addr.add_lit] at h2
  exact h2
theorem runP_true : runP true = isRun := by funext x; unfold runP isRun; cases isDigit x <;> cases isLet x <;> rfl
theorem runP_false : runP false = isDigit := by funext x; unfold runP; simp
theorem tw_take {α : Type} (p : α → Bool) (l : List α) : l.take (l.takeWhile p).length = l.takeWhile p := by
  induction l with
  | nil => rfl
  | cons x l ih =>
    rw [List.takeWhile_cons]
    split
    · rw [List.length_cons, List.take_succ_cons, ih]
    · rfl
theorem tw_all {α : Type} {p : α → Bool} {l : List α} : ∀ x ∈ l.takeWhile p, p x = true := by
  induction l with
  | nil => intro x hx; cases hx
  | cons y l ih =>
    intro x hx
    rw [List.takeWhile_cons] at hx
    split at hx
    · rename_i hy
      rcases List.mem_cons.1 hx with rfl | h
      · exact hy
      · exact ih x h
    · cases hx
theorem plain_run {l : List UInt16} (h : ∀ x ∈ l, isRun x = true) : plainOk l = true := by
  unfold plainOk
  rw [List.all_eq_true]
  intro x hx
  have h1 := h x hx
  unfold isRun isLet isDigit at h1
  simp only [Bool.or_eq_true, Bool.and_eq_true, decide_eq_true_eq, beq_iff_eq] at h1
  simp only [decide_eq_true_eq]
  omega

set_option maxHeartbeats 8000000 in
set_option maxRecDepth 1000000 in
theorem rwordt_any {A : Option Addr} {B n c i : Nat} {u : List UInt16} {w : World} (hn : u.length = n) (hB : B ≤ w.heap.size) (ha : Reads w B 1 A n (u16s u)) (hi : i < n) (hc : n ≤ c) (hl : n ≤ 1000000) (hx : isLet (atU u i) = true) {r : Ans} (hr : wordT (u.drop i) = r) :
    Calls Try.prog 31 #[.slice A n c, .int .i64 (i : Int)] w (TkQ w i r) := by
  subst hn
  obtain ⟨L, hL⟩ : ∃ L, (u.drop i).takeWhile isRun = L := ⟨_, rfl⟩
  have hr2 := hr
  unfold wordT at hr2
  rw [hL, List.drop_drop, starts_one (c := 92) (by decide)] at hr2
  have hd : (u.drop i).take L.length = L := by rw [← hL]; exact tw_take _ _
  have hpl : plainOk L = true := by rw [← hL]; exact plain_run tw_all
  have hm0 : 0 < L.length := by
    rw [← hL, List.drop_eq_getElem_cons hi, ← atU_in hi]
    exact takeWhile_pos (by unfold isRun; rw [hx]; rfl)
  have hle : i + L.length ≤ u.length := by
    have h1 := takeWhile_le isRun (u.drop i)
    rw [hL, List.length_drop] at h1
    omega
  obtain ⟨m, hm⟩ : ∃ m, L.length = m := ⟨_, rfl⟩
  rw [hm] at hr2 hd hm0 hle
  obtain ⟨K, hK⟩ : ∃ K, i + m = K := ⟨_, rfl⟩
  obtain ⟨y, hy⟩ : ∃ y, atU u K = y := ⟨_, rfl⟩
  rw [hK, hy] at hr2
  obtain ⟨b, o, rfl, _, _⟩ := ha.spotL (by omega)
  obtain ⟨W, hW⟩ : ∃ W, w.alloc (.cells #[.int .i64 0, .string ⟨#[]⟩, .slice none 0 0, .int .i64 0, .int .i64 0, .bool false, .slice none 0 0, .int .i64 0, .bool false] 40) = W := ⟨_, rfl⟩
  have HB0 := hide (show RB w W by rw [← hW]; exact RB.start w)
  have HA := hide (HB0.out.reads hB ha)
  have hBW : B ≤ W.heap.size := Nat.le_trans hB HB0.out.below.size
  have CR := hide (rrun_any (c := c) (i := i) (r := K) (w := W) true rfl HA.out (Nat.le_of_lt hi) hl (by rw [runP_true, hL, hm, hK]))
  have CY := hide (rat_any (c := c) (i := K) (w := W) rfl HA.out)
  rw [hy] at CY
  have CA := hide (rascii5_any (c := c - i) (m := K - i) (w := W) (by omega) hBW (reads_sub rfl HA.out (by rw [show K - i = m by omega]; exact hd) (by omega) (by omega)) (by omega) hpl)
  obtain ⟨Y, hY⟩ : ∃ Y : Int, (y.toNat : Int) = Y := ⟨_, rfl⟩
  rw [hY] at CY
  obtain ⟨N, hN⟩ : ∃ N, u.length = N := ⟨_, rfl⟩
  rw [hN] at CR CY hi hc hl hle
  have HR2 := hide hr2
  have HYN := hide hY
  have HK := hide hK
  have hKi : i < K := by omega
  have hKN : K ≤ N := by omega
  rw [hN]
  clear hx hr hr2 hL hd hpl ha hB hY hy hN hle
  go_enter Try.func31, Try.ntmps31
  go_upto_region 1 with (fail)
  clear hW
  go_wp2_with fail
  refine CR.out.mono ?_
  rintro e1 w1 ⟨rfl, rfl⟩
  go_wp2_with fail
  refine CY.out.mono ?_
  rintro e1 w1 ⟨rfl, rfl⟩
  obtain ⟨c0, f0⟩ := HB0.out.blk.2 0 (by decide)
  obtain ⟨c1, f1⟩ := HB0.out.blk.2 1 (by decide)
  obtain ⟨c2, f2⟩ := HB0.out.blk.2 2 (by decide)
  obtain ⟨c3, f3⟩ := HB0.out.blk.2 3 (by decide)
  obtain ⟨c4, f4⟩ := HB0.out.blk.2 4 (by decide)
  obtain ⟨c5, f5⟩ := HB0.out.blk.2 5 (by decide)
  obtain ⟨c6, f6⟩ := HB0.out.blk.2 6 (by decide)
  obtain ⟨c7, f7⟩ := HB0.out.blk.2 7 (by decide)
  obtain ⟨c8, f8⟩ := HB0.out.blk.2 8 (by decide)
  by_cases h92 : Y = 92
  · have HZ := hide (show bad 6 = r by
      have := HR2.out
      rwa [if_pos (by show (y.toNat == 92) = true; rw [beq_iff_eq]; have := HYN.out; omega)] at this)
    subst h92
    clear HR2 CA CR HYN
    go_wp2_with fail
    obtain ⟨q0, q1, q2, q3, q4, q5, q6, q7, q8⟩ := set9_cells (v0 := .int .i64 0) (v1 := .string ⟨#[]⟩) (v2 := .slice none 0 0) (v3 := .int .i64 0) (v4 := .int .i64 0) (v5 := .bool false) (v6 := .slice none 0 0) (v7 := .int .i64 0) (v8 := .bool false) HB0.out.blk rfl
    refine bodyPost_ret (v := .tuple #[.agg #[.int .i64 0, .string ⟨#[]⟩, .slice none 0 0, .int .i64 0, .int .i64 0, .bool false, .slice none 0 0, .int .i64 0, .bool false], .int .i64 0, .int .i64 6]) (by simp [results, Try.results31, go_sem, q0, q1, q2, q3, q4, q5, q6, q7, q8]) rfl ?_
    exact TkQ.bad (E := 6) HZ.out (by decide) HB0.out.put
  · have e92 : (Y == 92) = false := beq_eq_false_iff_ne.2 h92
    have HZ := hide (show (0, { noTok with kind := if 0 < wordF (asc L) then 6 else 1, text := asc L }, m) = r by
      have := HR2.out
      rwa [if_neg (by show ¬ (y.toNat == 92) = true; rw [beq_iff_eq]; have := HYN.out; omega)] at this)
    have hKI : (K : Int) = (i : Int) + (m : Int) := by have := HK.out; omega
    clear HR2 CR CY HYN h92 hKI
    go_wp2_with fail
    refine CA.out.mono ?_
    rintro e1 w1 ⟨rfl, hb1⟩
    have HB1 := hide (HB0.out.go hb1)
    have hRT : w.heap.size < w1.heap.size := HB1.out.blk.1
    have HBT := hide ((RB.mk HB1.out.blk HB1.out.below).go ((Below.refl _ w1).alloc (Nat.le_refl _) (.cells #[.int .i64 1, .string ⟨(asc L).toArray⟩, .slice none 0 0, .int .i64 0, .int .i64 0, .bool false, .slice none 0 0, .int .i64 0, .bool false] 40)))
    have HT := hide (Blk.new w1 [.int .i64 1, .string ⟨(asc L).toArray⟩, .slice none 0 0, .int .i64 0, .int .i64 0, .bool false, .slice none 0 0, .int .i64 0, .bool false] 40)
    obtain ⟨s, hs⟩ : ∃ s : ByteArray, (⟨(asc L).toArray⟩ : ByteArray) = s := ⟨_, rfl⟩
    obtain ⟨nw, hnw⟩ : ∃ nw, wordF (asc L) = nw := ⟨_, rfl⟩
    have CW := hide (fun w0 => rword_any s w0 (n := nw) (by rw [← hs, ← hnw]))
    rw [hnw] at HZ
    rw [hs] at HBT HT
    have HSS := hide hs
    clear hb1 hnw CA c0 c1 c2 c3 c4 c5 c6 c7 c8 f0 f1 f2 f3 f4 f5 f6 f7 f8
    go_wp2_with fail
    refine (CW.out _).mono ?_
    rintro e2 w2 ⟨rfl, hb2⟩
    have HB2 := hide (HBT.out.go hb2)
    have HT2 := hide (HT.out.below hb2 HT.out.1)
    clear hb2 HBT HT HB1
    obtain ⟨c0, f0⟩ := HB2.out.blk.2 0 (by decide)
    obtain ⟨c1, f1⟩ := HB2.out.blk.2 1 (by decide)
    obtain ⟨c2, f2⟩ := HB2.out.blk.2 2 (by decide)
    obtain ⟨c3, f3⟩ := HB2.out.blk.2 3 (by decide)
    obtain ⟨c4, f4⟩ := HB2.out.blk.2 4 (by decide)
    obtain ⟨c5, f5⟩ := HB2.out.blk.2 5 (by decide)
    obtain ⟨c6, f6⟩ := HB2.out.blk.2 6 (by decide)
    obtain ⟨c7, f7⟩ := HB2.out.blk.2 7 (by decide)
    obtain ⟨c8, f8⟩ := HB2.out.blk.2 8 (by decide)
    obtain ⟨a0, g0⟩ := HT2.out.2 0 (by simp)
    have a1 := (HT2.out.2 1 (by simp)).1
    have a2 := (HT2.out.2 2 (by simp)).1
    have a3 := (HT2.out.2 3 (by simp)).1
    have a4 := (HT2.out.2 4 (by simp)).1
    have a5 := (HT2.out.2 5 (by simp)).1
    have a6 := (HT2.out.2 6 (by simp)).1
    have a7 := (HT2.out.2 7 (by simp)).1
    have a8 := (HT2.out.2 8 (by simp)).1
    by_cases h0 : 0 < nw
    · have HZ2 := hide (show (0, { noTok with kind := 6, text := asc L }, m) = r by have := HZ.out; rwa [if_pos h0] at this)
      have h0I : (0 : Int) < (nw : Int) := by omega
      have HB3 := hide (show RB w (w2.setCell ⟨w1.heap.size, 0, none⟩ (.int .i64 6)) from HB2.out.set hRT)
      go_wp2_with fail
      obtain ⟨q0, q1, q2, q3, q4, q5, q6, q7, q8⟩ := set9_cells (v0 := .int .i64 6) (v1 := .string s) (v2 := .slice none 0 0) (v3 := .int .i64 0) (v4 := .int .i64 0) (v5 := .bool false) (v6 := .slice none 0 0) (v7 := .int .i64 0) (v8 := .bool false) HB3.out.blk rfl
      refine bodyPost_ret (v := .tuple #[.agg #[.int .i64 6, .string s, .slice none 0 0, .int .i64 0, .int .i64 0, .bool false, .slice none 0 0, .int .i64 0, .bool false], .int .i64 (K : Int), .int .i64 0]) (by simp [results, Try.results31, go_sem, q0, q1, q2, q3, q4, q5, q6, q7, q8]) rfl ?_
      exact TkQ.good HZ2.out HK.out.symm ⟨_, _, by rw [← HSS.out]; rfl, World.ownsRow_nil _ _ _ _, World.ownsRow_nil _ _ _ _⟩ HB3.out.put
    · have HZ2 := hide (show (0, { noTok with kind := 1, text := asc L }, m) = r by have := HZ.out; rwa [if_neg h0] at this)
      have h0I : ¬ (0 : Int) < (nw : Int) := by omega
      go_wp2_with fail
      obtain ⟨q0, q1, q2, q3, q4, q5, q6, q7, q8⟩ := set9_cells (v0 := .int .i64 1) (v1 := .string s) (v2 := .slice none 0 0) (v3 := .int .i64 0) (v4 := .int .i64 0) (v5 := .bool false) (v6 := .slice none 0 0) (v7 := .int .i64 0) (v8 := .bool false) HB2.out.blk rfl
      refine bodyPost_ret (v := .tuple #[.agg #[.int .i64 1, .string s, .slice none 0 0, .int .i64 0, .int .i64 0, .bool false, .slice none 0 0, .int .i64 0, .bool false], .int .i64 (K : Int), .int .i64 0]) (by simp [results, Try.results31, go_sem, q0, q1, q2, q3, q4, q5, q6, q7, q8]) rfl ?_
      exact TkQ.good HZ2.out HK.out.symm ⟨_, _, by rw [← HSS.out]; rfl, World.ownsRow_nil _ _ _ _, World.ownsRow_nil _ _ _ _⟩ HB2.out.put
end Go.Proofs.Ytbljbmeifmpfoaa

namespace Go.Proofs.Ytbljbmeifmpfoaa
open Go.RowKit

theorem plusQ_zero (p : Nat × List UInt16 × Nat) : plusQ 0 p = p := by unfold plusQ; rw [Nat.zero_add]
theorem plusQ_plus (a b : Nat) (p : Nat × List UInt16 × Nat) : plusQ a (plusQ b p) = plusQ (a + b) p := by unfold plusQ; simp only [Nat.add_assoc]
/-- how far the document's loop is -/
structure AtQuoR (q : UInt16) (u : List UInt16) (i p : Nat) (acc : List UInt16) : Prop where
  lo : i + 1 ≤ p
  hi : p ≤ u.length
  len : acc.length ≤ p
  eq : quoL q (u.drop (i + 1)) [] = plusQ (p - (i + 1)) (quoL q (u.drop p) acc)
section
variable {q : UInt16} {u : List UInt16} {i p : Nat} {acc : List UInt16}
theorem AtQuoR.start (h : i + 1 ≤ u.length) : AtQuoR q u i (i + 1) [] := ⟨Nat.le_refl _, h, Nat.zero_le _, by rw [Nat.sub_self, plusQ_zero]⟩
theorem quoted_bad {E : Nat} (h : (quoL q (u.drop (i + 1)) []).1 = E) (hE : E ≠ 0) : bad E = quotedT q (u.drop (i + 1)) := by
  unfold quotedT
  show _ = if (quoL q (u.drop (i + 1)) []).1 ≠ 0 then bad (quoL q (u.drop (i + 1)) []).1 else _
  rw [h, if_pos hE]
theorem AtQuoR.over (h : AtQuoR q u i u.length acc) : bad 5 = quotedT q (u.drop (i + 1)) := quoted_bad (by rw [h.eq, List.drop_length, quoL_nil]; rfl) (by decide)
theorem AtQuoR.line (h : AtQuoR q u i p acc) (hp : p < u.length) (hl : isLine u[p] = true) : bad 5 = quotedT q (u.drop (i + 1)) := quoted_bad (by rw [h.eq, List.drop_eq_getElem_cons hp, quoL_line hl]; rfl) (by decide)
theorem AtQuoR.close (h : AtQuoR q u i p acc) (hp : p < u.length) (hq : isLine q = false) (hx : u[p] = q) : (0, { noTok with kind := 4, str := acc }, p + 1 - i) = quotedT q (u.drop (i + 1)) := by
  have he := h.eq
  rw [List.drop_eq_getElem_cons hp, hx, quoL_end hq] at he
  have h2 : quoF q (u.drop (i + 1)) = (0, acc, p - (i + 1) + 1) := he
  unfold quotedT
  rw [h2, if_neg (by simp)]
  have := h.lo
  rw [show p + 1 - i = 1 + (p - (i + 1) + 1) by omega]
theorem AtQuoR.plain (h : AtQuoR q u i p acc) (hp : p < u.length) (hl : isLine u[p] = false) (h2 : u[p] ≠ q) (h3 : u[p].toNat ≠ 92) : AtQuoR q u i (p + 1) (acc ++ [u[p]]) := by
  have hlo := h.lo
  refine ⟨by omega, hp, by have := h.len; simp; omega, ?_⟩
  rw [h.eq, List.drop_eq_getElem_cons hp, quoL_plain hl h2 h3, plusQ_plus, show p - (i + 1) + 1 = p + 1 - (i + 1) by omega]
theorem AtQuoR.badesc (h : AtQuoR q u i p acc) (hp : p < u.length) (hl : isLine u[p] = false) (h2 : u[p] ≠ q) (h3 : u[p].toNat = 92) {E : Nat} (h4 : (escF (u.drop (p + 1))).1 = E) (hE : E ≠ 0) : bad E = quotedT q (u.drop (i + 1)) :=
  quoted_bad (by rw [h.eq, List.drop_eq_getElem_cons hp, quoL_bad hl h2 h3 (by rw [h4]; exact hE), h4]; rfl) hE
theorem AtQuoR.esc (h : AtQuoR q u i p acc) (hp : p < u.length) (hl : isLine u[p] = false) (h2 : u[p] ≠ q) (h3 : u[p].toNat = 92) {y : UInt16} {m : Nat} (h4 : escF (u.drop (p + 1)) = (0, y, m)) : AtQuoR q u i (p + 1 + m) (acc ++ [y]) := by
  have hlo := h.lo
  have h5 := esc_len (l := u.drop (p + 1)) (by rw [h4])
  rw [h4, List.length_drop] at h5
  simp only at h5
  refine ⟨by omega, by omega, by have := h.len; simp; omega, ?_⟩
  rw [h.eq, List.drop_eq_getElem_cons hp, quoL_esc hl h2 h3 h4, plusQ_plus, List.drop_drop, show p - (i + 1) + (1 + m) = p + 1 + m - (i + 1) by omega]
end
theorem Made.drewN {w0 w : World} {e : TypeId} {v : Value} {xs : List Value} (h : Made w0 w e v xs) (m : Nat) : Made w0 (w.drewN m) e v xs :=
  ⟨h.own.kept (row := none) ⟨rfl, rfl, rfl, Nat.le_refl _, fun _ _ _ => rfl⟩ (by cases hv : v.ownBlock <;> simp), below_drewN h.below m⟩
theorem u16s_snocR (l : List UInt16) (x : UInt16) : u16s l ++ [.int .u16 (x.toNat : Int)] = u16s (l ++ [x]) := by simp [u16s]; rfl
set_option maxHeartbeats 16000000 in
set_option maxRecDepth 1000000 in
theorem rquoted_any {A : Option Addr} {B n c i : Nat} {u : List UInt16} {w : World} (hn : u.length = n) (hB : B ≤ w.heap.size) (ha : Reads w B 1 A n (u16s u)) (hi : i < n) (hl : n ≤ 4096) (hqx : isLine (atU u i) = false) {r : Ans} (hr : quotedT (atU u i) (u.drop (i + 1)) = r) :
    Calls Try.prog 34 #[.slice A n c, .int .i64 (i : Int)] w (TkQ w i r) := by
  subst hn
  obtain ⟨i0, hi0, hz0, hz1, hz2⟩ := info_parts Try.info_u16
  obtain ⟨q, hq⟩ : ∃ q, atU u i = q := ⟨_, rfl⟩
  rw [hq] at hqx hr
  have HST := hide (AtQuoR.start (q := q) (u := u) (i := i) hi)
  obtain ⟨b, o, rfl, hbB, hcell⟩ := ha.spotL (by omega)
  have hbw : b < w.heap.size := by omega
  obtain ⟨W, hW⟩ : ∃ W, w.alloc (.cells #[.int .i64 0, .string ⟨#[]⟩, .slice none 0 0, .int .i64 0, .int .i64 0, .bool false, .slice none 0 0, .int .i64 0, .bool false] 40) = W := ⟨_, rfl⟩
  have HB0 := hide (show RB w W by rw [← hW]; exact RB.start w)
  have HA := hide (HB0.out.reads hB ha)
  have hBW : B ≤ W.heap.size := Nat.le_trans hB HB0.out.below.size
  have hWs : w.heap.size < W.heap.size := HB0.out.blk.1
  have hbW : b < W.heap.size := by omega
  have HCI := hide (show W.cell? ⟨b, o + i, none⟩ = some (.int .u16 (q.toNat : Int)) by
    have h1 := hcell i hi
    rw [← atU_in hi, hq] at h1
    exact (HB0.out.below.cell (p := ⟨b, o + i, none⟩) hbw).trans h1)
  obtain ⟨Q, hQ⟩ : ∃ Q : Int, (q.toNat : Int) = Q := ⟨_, rfl⟩
  rw [hQ] at HCI
  have HQ := hide hQ
  have HQL := hide hqx
  have HR := hide hr
  have hQQ : (Q == Q) = true := by simp
  obtain ⟨N, hN⟩ : ∃ N, u.length = N := ⟨_, rfl⟩
  have HN := hide hN
  rw [hN] at hi hl HA ⊢
  clear hqx hr hQ hq hcell ha hN
  go_enter Try.func34, Try.ntmps34
  go_upto_region 1 with (fail)
  clear hW
  go_wp2_with fail
  go_loopw [7, 8] (fun vs vk wr => ∃ (p : Nat) (acc : List UInt16), vk = .int .i64 (p : Int) ∧ Hid (AtQuoR q u i p acc) ∧ Hid (Made W wr 41 vs (u16s acc))) (fun _ v _ => N - (intOf v).toNat)
  case atStart => exact ⟨i + 1, [], by go_num, HST.out, Made.nil _ _⟩
  case round =>
    clear HST
    obtain ⟨p, acc, rfl, hat, hmd⟩ := hrel
    have hpN : p ≤ N := by rw [← HN.out]; exact hat.out.hi
    have hci := (hmd.out.below.cell (p := ⟨b, o + i, none⟩) hbW).trans HCI.out
    by_cases hlt : p < N
    · have l1 : (p : Int) < (N : Int) := by omega
      have l2 : decide ((p : Int) < (N : Int)) = true := decide_eq_true l1
      have hpu : p < u.length := by rw [HN.out]; exact hlt
      have har := hide (HA.out.below (hmd.out.below.mono hBW))
      obtain ⟨b1, o1, ho1, _, hc⟩ := (show Reads wr B 1 (some ⟨b, o, none⟩) u.length (u16s u) by rw [HN.out]; exact har.out).spotL (by omega)
      obtain ⟨rfl, rfl⟩ : b = b1 ∧ o = o1 := by simpa using ho1
      have hcp := hc p hpu
      have HCLO := hide (fun h => (hat.out.close hpu HQL.out h).trans HR.out)
      have HLIN := hide (fun h => (hat.out.line hpu h).trans HR.out)
      have HPLA := hide (fun h h2 h3 => hat.out.plain hpu h h2 h3)
      have HBAD := hide (fun h h2 h3 (E : Nat) h4 (hE : E ≠ 0) => (hat.out.badesc hpu h h2 h3 (E := E) h4 hE).trans HR.out)
      have HESC := hide (fun h h2 h3 (y : UInt16) (m : Nat) h4 => hat.out.esc hpu h h2 h3 (y := y) (m := m) h4)
      have hacc : (u16s acc).length ≤ 4096 := by have := hat.out.len; simp [u16s]; omega
      obtain ⟨x, hx⟩ : ∃ x, u[p] = x := ⟨_, rfl⟩
      rw [hx] at hcp HCLO HLIN HPLA HBAD HESC
      obtain ⟨X, hX⟩ : ∃ X : Int, (x.toNat : Int) = X := ⟨_, rfl⟩
      rw [hX] at hcp
      have HX := hide hX
      have hlo := hat.out.lo
      clear hat hc hx hX ho1 har
      by_cases hxq : X = Q
      · have HZ := hide (HCLO.out (UInt16.toNat_inj.1 (by have := HX.out; have := HQ.out; omega)))
        subst hxq
        clear HCLO HLIN HPLA HBAD HESC
        go_wp2_with fail
        go_quiet (fail)
        obtain ⟨wq, hwq⟩ : ∃ wq, wr.drewN nq = wq := ⟨_, rfl⟩
        rw [hwq]
        have HM0 := hmd.out.drewN nq
        rw [hwq] at HM0
        have HM := hide HM0
        clear hwq hcp hci hmd HM0
        have hown := hide (HM.out.own)
        obtain ⟨SA, sc, rfl, _, _⟩ := own_shape hown.out
        have HB1 := hide (HB0.out.go HM.out.below)
        obtain ⟨a7, ha7⟩ : ∃ a7, (u16s acc).length = a7 := ⟨_, rfl⟩
        have HA7 := hide (show acc.length = a7 by rw [← ha7]; simp [u16s])
        rw [ha7] at hown
        rw [ha7]
        clear ha7
        obtain ⟨c0, f0⟩ := HB1.out.blk.2 0 (by decide)
        obtain ⟨c1, f1⟩ := HB1.out.blk.2 1 (by decide)
        obtain ⟨c2, f2⟩ := HB1.out.blk.2 2 (by decide)
        obtain ⟨c3, f3⟩ := HB1.out.blk.2 3 (by decide)
        obtain ⟨c4, f4⟩ := HB1.out.blk.2 4 (by decide)
        obtain ⟨c5, f5⟩ := HB1.out.blk.2 5 (by decide)
        obtain ⟨c6, f6⟩ := HB1.out.blk.2 6 (by decide)
        obtain ⟨c7, f7⟩ := HB1.out.blk.2 7 (by decide)
        obtain ⟨c8, f8⟩ := HB1.out.blk.2 8 (by decide)
        clear HM
        go_wp2_with fail
        obtain ⟨q0, q1, q2, q3, q4, q5, q6, q7, q8⟩ := set9_cells (v0 := .int .i64 4) (v1 := .string ⟨#[]⟩) (v2 := .slice SA a7 sc) (v3 := .int .i64 0) (v4 := .int .i64 0) (v5 := .bool false) (v6 := .slice none 0 0) (v7 := .int .i64 0) (v8 := .bool false) HB1.out.blk rfl
        refine bodyPost_ret (v := .tuple #[.agg #[.int .i64 4, .string ⟨#[]⟩, .slice SA a7 sc, .int .i64 0, .int .i64 0, .bool false, .slice none 0 0, .int .i64 0, .bool false], .int .i64 ((p : Int) + 1), .int .i64 0]) (by simp [results, Try.results34, go_sem, q0, q1, q2, q3, q4, q5, q6, q7, q8]) rfl ?_
        exact TkQ.good (k := p + 1) HZ.out (by omega) ⟨_, _, rfl, own_base (set9_own (by rw [show ({ noTok with kind := 4, str := acc } : Tok).str.length = a7 from HA7.out]; exact hown.out) hWs) (Nat.le_of_lt hWs), World.ownsRow_nil _ _ _ _⟩ HB1.out.put
      have hxq2 : (X == Q) = false := beq_eq_false_iff_ne.2 hxq
      have HNQ := hide (show x ≠ q from fun h => hxq (by rw [← HX.out, ← HQ.out, h]))
      clear HCLO hxq
      by_cases hln : X = 10 ∨ X = 13
      · have HZ := hide (HLIN.out (line_of (x := x) (by have := HX.out; omega)).1)
        clear HLIN HPLA HBAD HESC HX HNQ
        have HB1 := hide (HB0.out.go hmd.out.below)
        obtain ⟨c0, f0⟩ := HB1.out.blk.2 0 (by decide)
        obtain ⟨c1, f1⟩ := HB1.out.blk.2 1 (by decide)
        obtain ⟨c2, f2⟩ := HB1.out.blk.2 2 (by decide)
        obtain ⟨c3, f3⟩ := HB1.out.blk.2 3 (by decide)
        obtain ⟨c4, f4⟩ := HB1.out.blk.2 4 (by decide)
        obtain ⟨c5, f5⟩ := HB1.out.blk.2 5 (by decide)
        obtain ⟨c6, f6⟩ := HB1.out.blk.2 6 (by decide)
        obtain ⟨c7, f7⟩ := HB1.out.blk.2 7 (by decide)
        obtain ⟨c8, f8⟩ := HB1.out.blk.2 8 (by decide)
        rcases hln with rfl | rfl
        all_goals
          go_wp2_with fail
          go_quiet (fail)
          go_wp2_with fail
          obtain ⟨q0, q1, q2, q3, q4, q5, q6, q7, q8⟩ := set9_cells (v0 := .int .i64 0) (v1 := .string ⟨#[]⟩) (v2 := .slice none 0 0) (v3 := .int .i64 0) (v4 := .int .i64 0) (v5 := .bool false) (v6 := .slice none 0 0) (v7 := .int .i64 0) (v8 := .bool false) (HB1.out.go (below_drewN (Below.refl _ _) nq)).blk rfl
          refine bodyPost_ret (v := .tuple #[.agg #[.int .i64 0, .string ⟨#[]⟩, .slice none 0 0, .int .i64 0, .int .i64 0, .bool false, .slice none 0 0, .int .i64 0, .bool false], .int .i64 0, .int .i64 5]) (by simp [results, Try.results34, go_sem, q0, q1, q2, q3, q4, q5, q6, q7, q8]) rfl ?_
          exact TkQ.bad (E := 5) HZ.out (by decide) (HB1.out.go (below_drewN (Below.refl _ _) nq)).put
      have e10 : (X == 10) = false := beq_eq_false_iff_ne.2 (fun h => hln (.inl h))
      have e13 : (X == 13) = false := beq_eq_false_iff_ne.2 (fun h => hln (.inr h))
      have HNL := hide (line_not (x := x) (fun h => hln (.inl (by have := HX.out; omega))) (fun h => hln (.inr (by have := HX.out; omega))))
      clear HLIN hln
      by_cases h92 : X = 92
      · have HX92 := hide (show x.toNat = 92 by have := HX.out; omega)
        by_cases hp1 : p + 1 < N
        · have l3 : ¬ (N : Int) ≤ (p : Int) + 1 := by omega
          have l4 : decide ((N : Int) ≤ (p : Int) + 1) = false := decide_eq_false l3
          obtain ⟨⟨e, y, m⟩, hesc⟩ : ∃ z, escF (u.drop (p + 1)) = z := ⟨_, rfl⟩
          have CE := hide (fun (w0 : World) (hb : Below W.heap.size W w0) => rescape_any (c := c) (i := p + 1) (w := w0) HN.out (HA.out.below (hb.mono hBW)) hp1 (by omega) hesc)
          have HBAD2 := hide (fun hE => HBAD.out HNL.out HNQ.out HX92.out e (by rw [hesc]) hE)
          have HESC2 := hide (fun (h0 : e = 0) => HESC.out HNL.out HNQ.out HX92.out y m (by rw [hesc, h0]))
          subst h92
          clear HBAD HESC HPLA hesc HX HX92 HNL HNQ
          go_wp2_with fail
          go_quiet (fail)
          obtain ⟨wq, hwq⟩ : ∃ wq, wr.drewN nq = wq := ⟨_, rfl⟩
          rw [hwq]
          have HM0 := hmd.out.drewN nq
          rw [hwq] at HM0
          have HM := hide HM0
          have hcp2 : wq.cell? ⟨b, o + p, none⟩ = some (.int .u16 92) := by rw [← hwq]; exact hcp
          clear hwq hcp hci hmd HM0
          go_wp2_with fail
          refine (CE.out wq HM.out.below).mono ?_
          rintro e1 w1 ⟨rfl, hb1⟩
          have HM1 := hide (HM.out.call hb1)
          clear hb1 HM CE hcp2
          unfold escE
          by_cases he : e = 0
          · have hnx := hide (HESC2.out he)
            have hnxl := hnx.out.hi
            rw [HN.out] at hnxl
            subst he
            clear HBAD2 HESC2
            go_wp2_with (at_builtin; refine wpList_lit rfl _ _ 22 rfl 41 i0 _ 2 Try.underlying22 hi0 hz0 hz1 hz2 rfl _ _ rfl HM1.out [.int .u16 (y.toNat : Int)] 1 1 rfl rfl rfl (by omega) (by omega) ?_; intro v' w' hm')
            go_roundw
            case rel => exact ⟨p + 1 + m, acc ++ [y], by go_num, hnx.out, hm'.cells (u16s_snocR acc y)⟩
            case measure => simp [intOf]; omega
          · have HZ := hide (HBAD2.out he)
            have HB1 := hide (HB0.out.go HM1.out.below)
            have heI : ((e : Int) == 0) = false := beq_eq_false_iff_ne.2 (by omega)
            have HE := hide he
            clear HBAD2 HESC2 he
            obtain ⟨c0, f0⟩ := HB1.out.blk.2 0 (by decide)
            obtain ⟨c1, f1⟩ := HB1.out.blk.2 1 (by decide)
            obtain ⟨c2, f2⟩ := HB1.out.blk.2 2 (by decide)
            obtain ⟨c3, f3⟩ := HB1.out.blk.2 3 (by decide)
            obtain ⟨c4, f4⟩ := HB1.out.blk.2 4 (by decide)
            obtain ⟨c5, f5⟩ := HB1.out.blk.2 5 (by decide)
            obtain ⟨c6, f6⟩ := HB1.out.blk.2 6 (by decide)
            obtain ⟨c7, f7⟩ := HB1.out.blk.2 7 (by decide)
            obtain ⟨c8, f8⟩ := HB1.out.blk.2 8 (by decide)
            go_wp2_with fail
            obtain ⟨q0, q1, q2, q3, q4, q5, q6, q7, q8⟩ := set9_cells (v0 := .int .i64 0) (v1 := .string ⟨#[]⟩) (v2 := .slice none 0 0) (v3 := .int .i64 0) (v4 := .int .i64 0) (v5 := .bool false) (v6 := .slice none 0 0) (v7 := .int .i64 0) (v8 := .bool false) HB1.out.blk rfl
            refine bodyPost_ret (v := .tuple #[.agg #[.int .i64 0, .string ⟨#[]⟩, .slice none 0 0, .int .i64 0, .int .i64 0, .bool false, .slice none 0 0, .int .i64 0, .bool false], .int .i64 0, .int .i64 (e : Int)]) (by simp [results, Try.results34, go_sem, q0, q1, q2, q3, q4, q5, q6, q7, q8]) rfl ?_
            exact TkQ.bad (E := e) HZ.out HE.out HB1.out.put
        · have l3 : (N : Int) ≤ (p : Int) + 1 := by omega
          have l4 : decide ((N : Int) ≤ (p : Int) + 1) = true := decide_eq_true l3
          have HZ := hide (HBAD.out HNL.out HNQ.out HX92.out 5 (by rw [List.drop_of_length_le (by rw [HN.out]; omega)]; rfl) (by decide))
          subst h92
          have HB1 := hide (HB0.out.go hmd.out.below)
          clear HBAD HESC HPLA HX HX92 HNL HNQ
          obtain ⟨c0, f0⟩ := HB1.out.blk.2 0 (by decide)
          obtain ⟨c1, f1⟩ := HB1.out.blk.2 1 (by decide)
          obtain ⟨c2, f2⟩ := HB1.out.blk.2 2 (by decide)
          obtain ⟨c3, f3⟩ := HB1.out.blk.2 3 (by decide)
          obtain ⟨c4, f4⟩ := HB1.out.blk.2 4 (by decide)
          obtain ⟨c5, f5⟩ := HB1.out.blk.2 5 (by decide)
          obtain ⟨c6, f6⟩ := HB1.out.blk.2 6 (by decide)
          obtain ⟨c7, f7⟩ := HB1.out.blk.2 7 (by decide)
          obtain ⟨c8, f8⟩ := HB1.out.blk.2 8 (by decide)
          go_wp2_with fail
          go_quiet (fail)
          go_wp2_with fail
          obtain ⟨q0, q1, q2, q3, q4, q5, q6, q7, q8⟩ := set9_cells (v0 := .int .i64 0) (v1 := .string ⟨#[]⟩) (v2 := .slice none 0 0) (v3 := .int .i64 0) (v4 := .int .i64 0) (v5 := .bool false) (v6 := .slice none 0 0) (v7 := .int .i64 0) (v8 := .bool false) (HB1.out.go (below_drewN (Below.refl _ _) nq)).blk rfl
          refine bodyPost_ret (v := .tuple #[.agg #[.int .i64 0, .string ⟨#[]⟩, .slice none 0 0, .int .i64 0, .int .i64 0, .bool false, .slice none 0 0, .int .i64 0, .bool false], .int .i64 0, .int .i64 5]) (by simp [results, Try.results34, go_sem, q0, q1, q2, q3, q4, q5, q6, q7, q8]) rfl ?_
          exact TkQ.bad (E := 5) HZ.out (by decide) (HB1.out.go (below_drewN (Below.refl _ _) nq)).put
      have e92 : (X == 92) = false := beq_eq_false_iff_ne.2 h92
      have hnx := hide (HPLA.out HNL.out HNQ.out (by have := HX.out; omega))
      clear HPLA HBAD HESC h92 HNL HNQ
      go_wp2_with fail
      go_quiet (fail)
      obtain ⟨wq, hwq⟩ : ∃ wq, wr.drewN nq = wq := ⟨_, rfl⟩
      rw [hwq]
      have HM0 := hmd.out.drewN nq
      rw [hwq] at HM0
      have HM := hide HM0
      have hcp2 : wq.cell? ⟨b, o + p, none⟩ = some (.int .u16 X) := by rw [← hwq]; exact hcp
      clear hwq hcp hci hmd HM0
      go_wp2_with (at_builtin; refine wpList_lit rfl _ _ 22 rfl 41 i0 _ 2 Try.underlying22 hi0 hz0 hz1 hz2 rfl _ _ rfl HM.out [.int .u16 X] 1 1 rfl rfl rfl (by omega) (by omega) ?_; intro v' w' hm')
      go_roundw
      case rel => exact ⟨p + 1, acc ++ [x], by go_num, hnx.out, hm'.cells (by rw [← HX.out]; exact u16s_snocR acc x)⟩
      case measure => simp [intOf]; omega
    · have l1 : ¬ (p : Int) < (N : Int) := by omega
      have l2 : decide ((p : Int) < (N : Int)) = false := decide_eq_false l1
      have l3 : (N : Int) ≤ (p : Int) := by omega
      have l4 : decide ((N : Int) ≤ (p : Int)) = true := decide_eq_true l3
      have HZ := hide (show bad 5 = r by
        have h1 := hat.out
        rw [show p = u.length by have := HN.out; omega] at h1
        exact h1.over.trans HR.out)
      have HB1 := hide (HB0.out.go hmd.out.below)
      clear hat
      obtain ⟨c0, f0⟩ := HB1.out.blk.2 0 (by decide)
      obtain ⟨c1, f1⟩ := HB1.out.blk.2 1 (by decide)
      obtain ⟨c2, f2⟩ := HB1.out.blk.2 2 (by decide)
      obtain ⟨c3, f3⟩ := HB1.out.blk.2 3 (by decide)
      obtain ⟨c4, f4⟩ := HB1.out.blk.2 4 (by decide)
      obtain ⟨c5, f5⟩ := HB1.out.blk.2 5 (by decide)
      obtain ⟨c6, f6⟩ := HB1.out.blk.2 6 (by decide)
      obtain ⟨c7, f7⟩ := HB1.out.blk.2 7 (by decide)
      obtain ⟨c8, f8⟩ := HB1.out.blk.2 8 (by decide)
      go_wp2_with fail
      go_quiet (fail)
      go_wp2_with fail
      obtain ⟨q0, q1, q2, q3, q4, q5, q6, q7, q8⟩ := set9_cells (v0 := .int .i64 0) (v1 := .string ⟨#[]⟩) (v2 := .slice none 0 0) (v3 := .int .i64 0) (v4 := .int .i64 0) (v5 := .bool false) (v6 := .slice none 0 0) (v7 := .int .i64 0) (v8 := .bool false) (HB1.out.go (below_drewN (Below.refl _ _) nq)).blk rfl
      refine bodyPost_ret (v := .tuple #[.agg #[.int .i64 0, .string ⟨#[]⟩, .slice none 0 0, .int .i64 0, .int .i64 0, .bool false, .slice none 0 0, .int .i64 0, .bool false], .int .i64 0, .int .i64 5]) (by simp [results, Try.results34, go_sem, q0, q1, q2, q3, q4, q5, q6, q7, q8]) rfl ?_
      exact TkQ.bad (E := 5) HZ.out (by decide) (HB1.out.go (below_drewN (Below.refl _ _) nq)).put
end Go.Proofs.Ytbljbmeifmpfoaa

namespace Go.Proofs.Ytbljbmeifmpfoaa
open Go.RowKit

theorem signN_over {l : List UInt16} : ∀ k, signN l (l.length + k) = signN l l.length := by
  intro k
  induction k with
  | zero => rfl
  | succ k ih =>
    rw [← Nat.add_assoc, signN, ← ih]
    have : signAt l (l.length + k + 1) = 0 := by
      unfold signAt
      rw [if_neg]
      rw [decide_eq_false (by omega)]
      simp
    rw [this]
    simp
theorem signN_minR {l : List UInt16} {m : Nat} (h : m = min 4 l.length) : signN l m = signN l 4 := by
  rcases Nat.lt_or_ge 4 l.length with h2 | h2
  · rw [show m = 4 by omega]
  · rw [show m = l.length by omega]
    have := signN_over (l := l) (4 - l.length)
    rw [show l.length + (4 - l.length) = 4 by omega] at this
    exact this.symm
theorem signN_next {l : List UInt16} {m : Nat} (h : signN l (m + 1) = signN l 4) (h0 : signAt l (m + 1) = 0) : signN l m = signN l 4 := by
  rw [← h, signN, h0]; simp
theorem signN_hitR {l : List UInt16} {m : Nat} (h : signN l (m + 1) = signN l 4) (h0 : signAt l (m + 1) ≠ 0) : signN l 4 = some (m + 1) := by
  rw [← h, signN, if_pos h0]
theorem signAt_eq {l : List UInt16} {m : Nat} (hm : m ≤ l.length) {ok t d : Bool} {S : List UInt8} (h1 : plainOk (l.take m) = ok) (h2 : asc (l.take m) = S) (h3 : decide (S = [63, 46]) = t) (h4 : isAt 2 isDigit l = d) : signAt l m = if (ok && !(t && d)) = true then signF S else 0 := by
  unfold signAt
  rw [decide_eq_true hm, h2, h4, h3, Bool.true_and]
  unfold plainOk at h1
  rw [h1]
set_option maxHeartbeats 16000000 in
set_option maxRecDepth 1000000 in
theorem rsignt_any {A : Option Addr} {B n c i : Nat} {u : List UInt16} {w : World} (hn : u.length = n) (hB : B ≤ w.heap.size) (ha : Reads w B 1 A n (u16s u)) (hi : i < n) (hc : n ≤ c) (hl : n ≤ 4096) {r : Ans} (hr : signT (i == 0) (u.drop i) = r) :
    Calls Try.prog 35 #[.slice A n c, .int .i64 (i : Int)] w (TkQ w i r) := by
  subst hn
  obtain ⟨b, o, rfl, hbB, hcell⟩ := ha.spotL (by omega)
  have hbw : b < w.heap.size := by omega
  obtain ⟨W, hW⟩ : ∃ W, w.alloc (.cells #[.int .i64 0, .string ⟨#[]⟩, .slice none 0 0, .int .i64 0, .int .i64 0, .bool false, .slice none 0 0, .int .i64 0, .bool false] 40) = W := ⟨_, rfl⟩
  have HB0 := hide (show RB w W by rw [← hW]; exact RB.start w)
  have HA := hide (HB0.out.reads hB ha)
  have hBW : B ≤ W.heap.size := Nat.le_trans hB HB0.out.below.size
  have hbW : b < W.heap.size := Nat.lt_of_lt_of_le hbw HB0.out.below.size
  obtain ⟨x, hx⟩ : ∃ x, u[i] = x := ⟨_, rfl⟩
  obtain ⟨X, hX⟩ : ∃ X : Int, (x.toNat : Int) = X := ⟨_, rfl⟩
  have HCI := hide (show W.cell? ⟨b, o + i, none⟩ = some (.int .u16 X) by
    have h1 := hcell i hi
    rw [hx, hX] at h1
    exact (HB0.out.below.cell (p := ⟨b, o + i, none⟩) hbw).trans h1)
  have hdr : u.drop i = x :: u.drop (i + 1) := by rw [List.drop_eq_getElem_cons hi, hx]
  have hx0 := x.toNat_lt
  have hX0 : 0 ≤ X := by omega
  have hX1 : X < 65536 := by omega
  have HX := hide hX
  have HDR := hide hdr
  have HR := hide hr
  have HLD := hide (show (u.drop i).length = u.length - i from List.length_drop)
  obtain ⟨N, hN⟩ : ∃ N, u.length = N := ⟨_, rfl⟩
  have HN := hide hN
  rw [hN] at hi hl hc HA HLD ⊢
  clear hr hx hX hdr hcell ha hN hx0
  go_enter Try.func35, Try.ntmps35
  go_upto_region 1 with (fail)
  clear hW
  go_cut [7] (fun v wx => (∃ m : Nat, v = .int .i64 (m : Int) ∧ Hid (m = min 4 (N - i))) ∧ W = wx)
  case first =>
    by_cases h4 : (4 : Int) ≤ (N : Int) - (i : Int)
    · have h4' : ¬ (N : Int) - (i : Int) < 4 := by omega
      go_wp2_with fail
      go_meet
      exact ⟨⟨4, by first | rfl | (exact congrArg (Value.int .i64) (by omega)) | (exact congrArg (Value.int .i64) (by split <;> omega)), (show 4 = min 4 (N - i) by omega)⟩, rfl⟩
    · have h4' : (N : Int) - (i : Int) < 4 := by omega
      go_wp2_with fail
      go_meet
      exact ⟨⟨N - i, by first | (exact congrArg (Value.int .i64) (by omega)) | (exact congrArg (Value.int .i64) (by split <;> omega)), (show N - i = min 4 (N - i) by omega)⟩, rfl⟩
  case rest =>
    obtain ⟨⟨m0, rfl, hm0⟩, rfl⟩ := hcut
    have hm04 : m0 ≤ 4 := by have := hm0.out; omega
    have hm0N : i + m0 ≤ N := by have := hm0.out; omega
    have HST := hide (show signN (u.drop i) m0 = signN (u.drop i) 4 from signN_minR (by rw [HLD.out]; exact hm0.out))
    clear hm0
    go_wp2_with fail
    go_loopw [7] (fun v wr => ∃ m : Nat, v = .int .i64 (m : Int) ∧ m ≤ 4 ∧ i + m ≤ N ∧ Hid (signN (u.drop i) m = signN (u.drop i) 4) ∧ Hid (Below W.heap.size W wr)) (fun v _ => (intOf v).toNat)
    case atStart => exact ⟨m0, rfl, hm04, hm0N, HST.out, Below.refl _ _⟩
    case round =>
      clear HST hm04 hm0N
      obtain ⟨m1, rfl, hm4, hmN, hat, hbw1⟩ := hrel
      cases m1 with
      | succ m =>
        obtain ⟨M, hM⟩ : ∃ M, m + 1 = M := ⟨_, rfl⟩
        have hMp : 0 < M := by omega
        obtain ⟨K, hK⟩ : ∃ K, i + M = K := ⟨_, rfl⟩
        have hKI : (i : Int) + (M : Int) = (K : Int) := by omega
        have hmI : (M : Int) - 1 = (m : Int) := by omega
        have hiK : i < K := by omega
        have hKN : K ≤ N := by omega
        have HRd := hide (HA.out.below (hbw1.out.mono hBW))
        have hsl : ((u.drop i).take (K - i)).length = K - i := by rw [List.length_take, HLD.out]; omega
        have hsub := reads_sub (i := i) (m := K - i) (L := (u.drop i).take (K - i)) HN.out HRd.out rfl (by omega) (by omega)
        have CP := r3plain_any (c := c - i) (w := wr) (xs := (u.drop i).take (K - i)) (Nat.le_trans hBW hbw1.out.size) (by rw [hsl]; exact hsub) (by omega)
        rw [hsl] at CP
        have hMK : M = K - i := by omega
        have hSA := fun (ok t d : Bool) (S : List UInt8) h1 h2 h3 h4 => signAt_eq (l := u.drop i) (m := K - i) (by rw [HLD.out]; omega) (ok := ok) (t := t) (d := d) (S := S) h1 h2 h3 h4
        obtain ⟨ok, hok⟩ : ∃ ok, plainOk ((u.drop i).take (K - i)) = ok := ⟨_, rfl⟩
        have HSA := hide (fun (t d : Bool) (S : List UInt8) h2 h3 h4 => hSA ok t d S hok h2 h3 h4)
        have HAT := hide (show signN (u.drop i) (K - i - 1 + 1) = signN (u.drop i) 4 by rw [show K - i - 1 + 1 = m + 1 by omega]; exact hat.out)
        have HNXT := hide (fun (h0 : signAt (u.drop i) (K - i) = 0) => (show signN (u.drop i) m = signN (u.drop i) 4 from signN_next hat.out (by rw [show m + 1 = K - i by omega]; exact h0)))
        have HHIT := hide (fun (h0 : signAt (u.drop i) (K - i) ≠ 0) => (show signN (u.drop i) 4 = some (K - i) by rw [show K - i = m + 1 by omega]; exact signN_hitR hat.out (by rw [show m + 1 = K - i by omega]; exact h0)))
        rw [hM]
        rw [hM] at hm4 hmN
        have hmm : m ≤ 4 := by omega
        have hmNN : i + m ≤ N := by omega
        clear hsl hsub hSA hat HAT hM hK hMK
        obtain ⟨d, hd⟩ : ∃ d, isDigit (atU u (i + 2)) = d := ⟨_, rfl⟩
        obtain ⟨y, hy⟩ : ∃ y, atU u (i + 2) = y := ⟨_, rfl⟩
        have hds : isAt 2 isDigit (u.drop i) = d := by rw [isAt_atU (p := isDigit) (by decide)]; exact hd
        obtain ⟨sub, hsub⟩ : ∃ sub, (u.drop i).take (K - i) = sub := ⟨_, rfl⟩
        rw [hsub] at hok CP HSA
        unfold plainF at CP
        rw [hok] at CP
        have HDS := hide hds
        have CD := hide (fun w0 => rdigit_any y w0)
        rw [hy] at hd
        rw [hd] at CD
        have HY := hide hy
        have HOK := hide hok
        have HSUB := hide hsub
        clear hd hds hsub hok hy
        cases ok with
        | false =>
          have HNX := hide (HNXT.out (by rw [HSA.out (decide (asc sub = [63, 46])) d (asc sub) rfl rfl HDS.out]; rfl))
          have CP2 := hide CP
          have CS := hide (fun w0 => rsign_any ⟨#[]⟩ w0 (n := 0) (by decide))
          clear CP HSA HHIT HNXT CD
          go_wp2_with fail
          refine CP2.out.mono ?_
          rintro e1 w1 ⟨rfl, hb1⟩
          have HB1 := hide (hbw1.out.trans (hb1.mono hbw1.out.size))
          clear hb1
          go_wp2_with fail
          refine (CS.out _).mono ?_
          rintro e2 w2 ⟨rfl, hb2⟩
          have HB2 := hide (HB1.out.trans (hb2.mono HB1.out.size))
          clear hb2
          go_wp2_with fail
          go_roundw
          case rel => exact ⟨m, rfl, hmm, hmNN, HNX.out, HB2.out⟩
          case measure => simp [intOf]; omega
        | true =>
          obtain ⟨s, hs⟩ : ∃ s : ByteArray, (⟨(asc sub).toArray⟩ : ByteArray) = s := ⟨_, rfl⟩
          have CP2 := hide (show Calls Try.prog 55 #[.slice (some ⟨b, o + i, none⟩) (K - i) (c - i)] wr fun e w' => e = .returned (.tuple #[.string s, .bool true]) ∧ Below wr.heap.size wr w' by rw [← hs]; exact CP)
          obtain ⟨k, hk⟩ : ∃ k, signF (asc sub) = k := ⟨_, rfl⟩
          have CS := hide (fun w0 => rsign_any s w0 (n := k) (by rw [← hs, ← hk]))
          obtain ⟨t, ht⟩ : ∃ t, decide (asc sub = [63, 46]) = t := ⟨_, rfl⟩
          have hst : (s.toList == ([63, 46] : List UInt8)) = t := by
            rw [← ht, ← hs, ByteArray.toList_eq, Bool.eq_iff_iff, beq_iff_eq, decide_eq_true_eq]
          have HSAT := hide (show signAt (u.drop i) (K - i) = if (!(t && d)) = true then k else 0 by
            have := HSA.out t d (asc sub) rfl ht HDS.out
            rw [hk, Bool.true_and] at this
            exact this)
          have HS := hide hs
          clear CP HSA hs hk ht
          go_wp2_with fail
          refine CP2.out.mono ?_
          rintro e1 w1 ⟨rfl, hb1⟩
          have HB1 := hide (hbw1.out.trans (hb1.mono hbw1.out.size))
          clear hb1
          go_wp2_with fail
          refine (CS.out _).mono ?_
          rintro e2 w2 ⟨rfl, hb2⟩
          have HB2 := hide (HB1.out.trans (hb2.mono HB1.out.size))
          have CY := hide (rat_any (c := c) (i := i + 2) (w := w2) HN.out (HA.out.below (HB2.out.mono hBW)))
          rw [HY.out] at CY
          obtain ⟨Y, hY⟩ : ∃ Y : Int, (y.toNat : Int) = Y := ⟨_, rfl⟩
          rw [hY] at CY CD
          clear hb2 CS CP2 hY
          by_cases hk0 : k = 0
          · have HNX := hide (HNXT.out (by rw [HSAT.out, hk0]; split <;> rfl))
            have hk0I : ((k : Int) == 0) = true := by rw [hk0]; rfl
            subst hk0
            clear HSAT HNXT HHIT hk0I
            go_wp2_with fail
            go_roundw
            case rel => exact ⟨m, rfl, hmm, hmNN, HNX.out, HB2.out⟩
            case measure => simp [intOf]; omega
          · have hk0I : ((k : Int) == 0) = false := beq_eq_false_iff_ne.2 (by omega)
            by_cases htd : t = true ∧ d = true
            · obtain ⟨rfl, rfl⟩ := htd
              have HNX := hide (HNXT.out (by rw [HSAT.out]; rfl))
              clear HSAT HNXT HHIT hk0
              go_wp2_with (first | (go_at_call 14; refine CY.out.mono ?_; rintro e3 w3 ⟨rfl, rfl⟩) | (go_at_call 32; refine (CD.out _).mono ?_; rintro e3 w3 ⟨rfl, rfl⟩))
              go_roundw
              case rel => exact ⟨m, rfl, hmm, hmNN, HNX.out, HB2.out⟩
              case measure => simp [intOf]; omega
            · have htd2 : (t && d) = false := by
                cases t with
                | false => rfl
                | true => cases d with
                  | false => rfl
                  | true => exact absurd ⟨rfl, rfl⟩ htd
              have HSg := hide (show signAt (u.drop i) (K - i) = k by rw [HSAT.out, htd2]; rfl)
              have HH := hide (HHIT.out (by rw [HSg.out]; exact hk0))
              have HBR := hide (HB0.out.go HB2.out)
              clear HSAT HNXT HHIT htd hk0
              obtain ⟨c0, f0⟩ := HBR.out.blk.2 0 (by decide)
              obtain ⟨c1, f1⟩ := HBR.out.blk.2 1 (by decide)
              obtain ⟨c2, f2⟩ := HBR.out.blk.2 2 (by decide)
              obtain ⟨c3, f3⟩ := HBR.out.blk.2 3 (by decide)
              obtain ⟨c4, f4⟩ := HBR.out.blk.2 4 (by decide)
              obtain ⟨c5, f5⟩ := HBR.out.blk.2 5 (by decide)
              obtain ⟨c6, f6⟩ := HBR.out.blk.2 6 (by decide)
              obtain ⟨c7, f7⟩ := HBR.out.blk.2 7 (by decide)
              obtain ⟨c8, f8⟩ := HBR.out.blk.2 8 (by decide)
              by_cases hk2 : k = 2
              · have HZ := hide (show bad 6 = r by
                  rw [← HR.out]
                  unfold signT
                  rw [HH.out]
                  simp only
                  rw [HSg.out, if_pos hk2])
                subst hk2
                clear HSg HH
                cases t <;> cases d
                all_goals first | (exact absurd htd2 (by decide)) | skip
                all_goals
                  clear htd2
                  go_wp2_with (first | (go_at_call 14; refine CY.out.mono ?_; rintro e3 w3 ⟨rfl, rfl⟩) | (go_at_call 32; refine (CD.out _).mono ?_; rintro e3 w3 ⟨rfl, rfl⟩))
                  obtain ⟨q0, q1, q2, q3, q4, q5, q6, q7, q8⟩ := set9_cells (v0 := .int .i64 0) (v1 := .string ⟨#[]⟩) (v2 := .slice none 0 0) (v3 := .int .i64 0) (v4 := .int .i64 0) (v5 := .bool false) (v6 := .slice none 0 0) (v7 := .int .i64 0) (v8 := .bool false) HBR.out.blk rfl
                  refine bodyPost_ret (v := .tuple #[.agg #[.int .i64 0, .string ⟨#[]⟩, .slice none 0 0, .int .i64 0, .int .i64 0, .bool false, .slice none 0 0, .int .i64 0, .bool false], .int .i64 0, .int .i64 6]) (by simp [results, Try.results35, go_sem, q0, q1, q2, q3, q4, q5, q6, q7, q8]) rfl ?_
                  exact TkQ.bad (E := 6) HZ.out (by decide) HBR.out.put
              · have hk2I : ((k : Int) == 2) = false := beq_eq_false_iff_ne.2 (by omega)
                have HZ := hide (show (0, { noTok with kind := 5, text := asc sub }, K - i) = r by
                  rw [← HR.out]
                  unfold signT
                  rw [HH.out]
                  simp only
                  rw [HSg.out, if_neg hk2, HSUB.out])
                clear HSg HH hk2
                cases t <;> cases d
                all_goals first | (exact absurd htd2 (by decide)) | skip
                all_goals
                  clear htd2
                  go_wp2_with (first | (go_at_call 14; refine CY.out.mono ?_; rintro e3 w3 ⟨rfl, rfl⟩) | (go_at_call 32; refine (CD.out _).mono ?_; rintro e3 w3 ⟨rfl, rfl⟩))
                  obtain ⟨q0, q1, q2, q3, q4, q5, q6, q7, q8⟩ := set9_cells (v0 := .int .i64 5) (v1 := .string s) (v2 := .slice none 0 0) (v3 := .int .i64 0) (v4 := .int .i64 0) (v5 := .bool false) (v6 := .slice none 0 0) (v7 := .int .i64 0) (v8 := .bool false) HBR.out.blk rfl
                  refine bodyPost_ret (v := .tuple #[.agg #[.int .i64 5, .string s, .slice none 0 0, .int .i64 0, .int .i64 0, .bool false, .slice none 0 0, .int .i64 0, .bool false], .int .i64 (K : Int), .int .i64 0]) (by simp [results, Try.results35, go_sem, q0, q1, q2, q3, q4, q5, q6, q7, q8]) rfl ?_
                  exact TkQ.good HZ.out (by omega) ⟨_, _, by rw [← HS.out]; rfl, World.ownsRow_nil _ _ _ _, World.ownsRow_nil _ _ _ _⟩ HBR.out.put
      | zero =>
        have hnone := hide (show signN (u.drop i) 4 = none from hat.out.symm)
        have HR2 := hide (show (if (isAt 0 (fun x => decide (128 ≤ x.toNat) || x.toNat == 96 || x.toNat == 92) (u.drop i) || ((i == 0) && starts [35, 33] (u.drop i))) = true then bad 6 else bad 5) = r by
          rw [← HR.out]
          unfold signT
          rw [hnone.out])
        have hci := (hbw1.out.cell (p := ⟨b, o + i, none⟩) hbW).trans HCI.out
        have HBR := hide (HB0.out.go hbw1.out)
        have CY := hide (show Calls Try.prog 14 #[.slice (some ⟨b, o, none⟩) N c, .int .i64 1] wr fun e w' => e = .returned (.int .u16 ((atU u 1).toNat : Int)) ∧ wr = w' from rat_any (c := c) (i := 1) (w := wr) HN.out (HA.out.below (hbw1.out.mono hBW)))
        obtain ⟨y, hy⟩ : ∃ y, atU u 1 = y := ⟨_, rfl⟩
        rw [hy] at CY
        have HY := hide hy
        obtain ⟨Y, hY⟩ : ∃ Y : Int, (y.toNat : Int) = Y := ⟨_, rfl⟩
        rw [hY] at CY
        have HYY := hide hY
        have HT := hide (show (i == 0) = true → starts [35, 33] (u.drop i) = ((x.toNat == 35) && (y.toNat == 33)) by
          intro h0
          have h1 : i = 0 := by simpa using h0
          have := starts_two (a := 35) (b := 33) (by decide) (u := u) (p := i) (by rw [HN.out]; exact hi)
          rw [this, show i + 1 = 1 by omega, HY.out]
          rw [atU_in (by rw [HN.out]; exact hi)]
          have h2 : u[i]'(by rw [HN.out]; exact hi) = x := by
            have h3 := HDR.out
            rw [List.drop_eq_getElem_cons (by rw [HN.out]; exact hi)] at h3
            injection h3
          rw [h2]
          rfl)
        have HI0 := hide (show isAt 0 (fun x => decide (128 ≤ x.toNat) || x.toNat == 96 || x.toNat == 92) (u.drop i) = (decide (128 ≤ x.toNat) || x.toNat == 96 || x.toNat == 92) by
          rw [HDR.out]; rfl)
        rw [HI0.out] at HR2
        clear hat hy hY HI0
        obtain ⟨c0, f0⟩ := HBR.out.blk.2 0 (by decide)
        obtain ⟨c1, f1⟩ := HBR.out.blk.2 1 (by decide)
        obtain ⟨c2, f2⟩ := HBR.out.blk.2 2 (by decide)
        obtain ⟨c3, f3⟩ := HBR.out.blk.2 3 (by decide)
        obtain ⟨c4, f4⟩ := HBR.out.blk.2 4 (by decide)
        obtain ⟨c5, f5⟩ := HBR.out.blk.2 5 (by decide)
        obtain ⟨c6, f6⟩ := HBR.out.blk.2 6 (by decide)
        obtain ⟨c7, f7⟩ := HBR.out.blk.2 7 (by decide)
        obtain ⟨c8, f8⟩ := HBR.out.blk.2 8 (by decide)
        by_cases g1 : (128 : Int) ≤ X ∨ X = 96 ∨ X = 92
        · have HZ := hide (show bad 6 = r by
            have := HR2.out
            rwa [if_pos (by
              have hx := HX.out
              rcases g1 with g | g | g
              · rw [decide_eq_true (show 128 ≤ x.toNat by omega)]; rfl
              · rw [show x.toNat = 96 by omega]; rfl
              · rw [show x.toNat = 92 by omega]; rfl)] at this)
          clear HR2 HT HX
          rcases g1 with g | rfl | rfl
          · by_cases g96 : X = 96
            · subst g96; omega
            have e96 : (X == 96) = false := beq_eq_false_iff_ne.2 g96
            clear g96
            go_wp2_with (first | (go_at_call 14; refine CY.out.mono ?_; rintro e3 w3 ⟨rfl, rfl⟩))
            obtain ⟨q0, q1, q2, q3, q4, q5, q6, q7, q8⟩ := set9_cells (v0 := .int .i64 0) (v1 := .string ⟨#[]⟩) (v2 := .slice none 0 0) (v3 := .int .i64 0) (v4 := .int .i64 0) (v5 := .bool false) (v6 := .slice none 0 0) (v7 := .int .i64 0) (v8 := .bool false) HBR.out.blk rfl
            refine bodyPost_ret (v := .tuple #[.agg #[.int .i64 0, .string ⟨#[]⟩, .slice none 0 0, .int .i64 0, .int .i64 0, .bool false, .slice none 0 0, .int .i64 0, .bool false], .int .i64 0, .int .i64 6]) (by simp [results, Try.results35, go_sem, q0, q1, q2, q3, q4, q5, q6, q7, q8]) rfl ?_
            exact TkQ.bad (E := 6) HZ.out (by decide) HBR.out.put
          all_goals
            go_wp2_with (first | (go_at_call 14; refine CY.out.mono ?_; rintro e3 w3 ⟨rfl, rfl⟩))
            obtain ⟨q0, q1, q2, q3, q4, q5, q6, q7, q8⟩ := set9_cells (v0 := .int .i64 0) (v1 := .string ⟨#[]⟩) (v2 := .slice none 0 0) (v3 := .int .i64 0) (v4 := .int .i64 0) (v5 := .bool false) (v6 := .slice none 0 0) (v7 := .int .i64 0) (v8 := .bool false) HBR.out.blk rfl
            refine bodyPost_ret (v := .tuple #[.agg #[.int .i64 0, .string ⟨#[]⟩, .slice none 0 0, .int .i64 0, .int .i64 0, .bool false, .slice none 0 0, .int .i64 0, .bool false], .int .i64 0, .int .i64 6]) (by simp [results, Try.results35, go_sem, q0, q1, q2, q3, q4, q5, q6, q7, q8]) rfl ?_
            exact TkQ.bad (E := 6) HZ.out (by decide) HBR.out.put
        have h128 : ¬ (128 : Int) ≤ X := fun h => g1 (.inl h)
        have e96 : (X == 96) = false := beq_eq_false_iff_ne.2 (fun h => g1 (.inr (.inl h)))
        have e92 : (X == 92) = false := beq_eq_false_iff_ne.2 (fun h => g1 (.inr (.inr h)))
        have HR3 := hide (show (if ((i == 0) && starts [35, 33] (u.drop i)) = true then bad 6 else bad 5) = r by
          have := HR2.out
          have hx := HX.out
          rwa [decide_eq_false (show ¬ 128 ≤ x.toNat by omega), show (x.toNat == 96) = false from beq_eq_false_iff_ne.2 (by intro h; exact g1 (.inr (.inl (by omega)))), show (x.toNat == 92) = false from beq_eq_false_iff_ne.2 (by intro h; exact g1 (.inr (.inr (by omega)))), Bool.false_or, Bool.false_or, Bool.false_or] at this)
        clear g1 HR2
        by_cases g2 : i = 0 ∧ X = 35 ∧ Y = 33
        · obtain ⟨rfl, rfl, rfl⟩ := g2
          have HZ := hide (show bad 6 = r by
            have := HR3.out
            rwa [HT.out rfl, show x.toNat = 35 by have := HX.out; omega, show y.toNat = 33 by have := HYY.out; omega, if_pos (by rfl)] at this)
          clear HR3 HT HX HYY
          rw [Nat.add_zero] at hci
          go_wp2_with (first | (go_at_call 14; refine CY.out.mono ?_; rintro e3 w3 ⟨rfl, rfl⟩))
          obtain ⟨q0, q1, q2, q3, q4, q5, q6, q7, q8⟩ := set9_cells (v0 := .int .i64 0) (v1 := .string ⟨#[]⟩) (v2 := .slice none 0 0) (v3 := .int .i64 0) (v4 := .int .i64 0) (v5 := .bool false) (v6 := .slice none 0 0) (v7 := .int .i64 0) (v8 := .bool false) HBR.out.blk rfl
          refine bodyPost_ret (v := .tuple #[.agg #[.int .i64 0, .string ⟨#[]⟩, .slice none 0 0, .int .i64 0, .int .i64 0, .bool false, .slice none 0 0, .int .i64 0, .bool false], .int .i64 0, .int .i64 6]) (by simp [results, Try.results35, go_sem, q0, q1, q2, q3, q4, q5, q6, q7, q8]) rfl ?_
          exact TkQ.bad (E := 6) HZ.out (by decide) HBR.out.put
        have HZ := hide (show bad 5 = r by
          have := HR3.out
          rwa [if_neg (by
            intro h
            rw [Bool.and_eq_true] at h
            have h1 := HT.out h.1
            rw [h.2] at h1
            have h2 := (Bool.and_eq_true _ _).mp h1.symm
            have hx := HX.out
            have hy := HYY.out
            have h3 := beq_iff_eq.1 h2.1
            have h4 := beq_iff_eq.1 h2.2
            exact g2 ⟨by simpa using h.1, by omega, by omega⟩)] at this)
        clear HR3 HT HX HYY
        by_cases gX : X = 35
        · by_cases gi : i = 0
          · have eY : (Y == 33) = false := beq_eq_false_iff_ne.2 (fun h => g2 ⟨gi, gX, h⟩)
            subst gX gi
            clear g2
            rw [Nat.add_zero] at hci
            go_wp2_with (first | (go_at_call 14; refine CY.out.mono ?_; rintro e3 w3 ⟨rfl, rfl⟩))
            obtain ⟨q0, q1, q2, q3, q4, q5, q6, q7, q8⟩ := set9_cells (v0 := .int .i64 0) (v1 := .string ⟨#[]⟩) (v2 := .slice none 0 0) (v3 := .int .i64 0) (v4 := .int .i64 0) (v5 := .bool false) (v6 := .slice none 0 0) (v7 := .int .i64 0) (v8 := .bool false) HBR.out.blk rfl
            refine bodyPost_ret (v := .tuple #[.agg #[.int .i64 0, .string ⟨#[]⟩, .slice none 0 0, .int .i64 0, .int .i64 0, .bool false, .slice none 0 0, .int .i64 0, .bool false], .int .i64 0, .int .i64 5]) (by simp [results, Try.results35, go_sem, q0, q1, q2, q3, q4, q5, q6, q7, q8]) rfl ?_
            exact TkQ.bad (E := 5) HZ.out (by decide) HBR.out.put
          · have ei : ((i : Int) == 0) = false := beq_eq_false_iff_ne.2 (by omega)
            subst gX
            clear g2 gi
            go_wp2_with (first | (go_at_call 14; refine CY.out.mono ?_; rintro e3 w3 ⟨rfl, rfl⟩))
            obtain ⟨q0, q1, q2, q3, q4, q5, q6, q7, q8⟩ := set9_cells (v0 := .int .i64 0) (v1 := .string ⟨#[]⟩) (v2 := .slice none 0 0) (v3 := .int .i64 0) (v4 := .int .i64 0) (v5 := .bool false) (v6 := .slice none 0 0) (v7 := .int .i64 0) (v8 := .bool false) HBR.out.blk rfl
            refine bodyPost_ret (v := .tuple #[.agg #[.int .i64 0, .string ⟨#[]⟩, .slice none 0 0, .int .i64 0, .int .i64 0, .bool false, .slice none 0 0, .int .i64 0, .bool false], .int .i64 0, .int .i64 5]) (by simp [results, Try.results35, go_sem, q0, q1, q2, q3, q4, q5, q6, q7, q8]) rfl ?_
            exact TkQ.bad (E := 5) HZ.out (by decide) HBR.out.put
        · have e35 : (X == 35) = false := beq_eq_false_iff_ne.2 gX
          clear g2 gX
          go_wp2_with (first | (go_at_call 14; refine CY.out.mono ?_; rintro e3 w3 ⟨rfl, rfl⟩))
          obtain ⟨q0, q1, q2, q3, q4, q5, q6, q7, q8⟩ := set9_cells (v0 := .int .i64 0) (v1 := .string ⟨#[]⟩) (v2 := .slice none 0 0) (v3 := .int .i64 0) (v4 := .int .i64 0) (v5 := .bool false) (v6 := .slice none 0 0) (v7 := .int .i64 0) (v8 := .bool false) HBR.out.blk rfl
          refine bodyPost_ret (v := .tuple #[.agg #[.int .i64 0, .string ⟨#[]⟩, .slice none 0 0, .int .i64 0, .int .i64 0, .bool false, .slice none 0 0, .int .i64 0, .bool false], .int .i64 0, .int .i64 5]) (by simp [results, Try.results35, go_sem, q0, q1, q2, q3, q4, q5, q6, q7, q8]) rfl ?_
          exact TkQ.bad (E := 5) HZ.out (by decide) HBR.out.put
end Go.Proofs.Ytbljbmeifmpfoaa

namespace Go.Proofs.Ytbljbmeifmpfoaa

/-- a byte -/
def chr (n : Nat) : UInt8 := UInt8.ofNat n
theorem chr_nat {n : Nat} (h : n < 256) : (chr n).toNat = n := by
  unfold chr; simp; omega

/-- the digits of a number -/
def decS (n : Nat) : List UInt8 := if n < 10 then [chr (48 + n)] else decS (n / 10) ++ [chr (48 + n % 10)]
termination_by n
theorem decS_lo {n : Nat} (h : n < 10) : decS n = [chr (48 + n)] := by rw [decS, if_pos h]
theorem decS_hi {n : Nat} (h : ¬ n < 10) : decS n = decS (n / 10) ++ [chr (48 + n % 10)] := by rw [decS, if_neg h]
theorem decS_len (n : Nat) : (decS n).length ≤ n + 1 := by
  induction n using Nat.strongRecOn with
  | _ n ih =>
    by_cases h : n < 10
    · rw [decS_lo h]; simp
    · rw [decS_hi h, List.length_append]
      have := ih (n / 10) (by omega)
      simp; omega
end Go.Proofs.Ytbljbmeifmpfoaa
