/- Joined for a claim: LexQuoW, BigParse. -/
import Derived.Test.YtbljbmeifmpfoaaK08
import Derived.Deep.CutBlock
import Derived.Deep.DeepCutAuto
import Derived.Deep.LoopGhost
namespace Go.Proofs.Ytbljbmeifmpfoaa
open Go.RowKit

theorem Blk.grownR {w w' : World} {R : Nat} {row : Option Nat} {cs : List Value} (h : Blk w R cs) (hg : w.grownBy w' row) (hne : some R ≠ row) : Blk w' R cs :=
  ⟨Nat.lt_of_lt_of_le h.1 hg.size, fun j hj => ⟨hg.cell (h.2 j hj).1 hne, (World.frozen?_of_block (w := w) (hg.block R h.1 hne)).trans (h.2 j hj).2⟩⟩
theorem Blk.set {w : World} {R i : Nat} {cs : List Value} (h : Blk w R cs) (hi : i < cs.length) (v : Value) : Blk (w.setCell ⟨R, i, none⟩ v) R (cs.set i v) := by
  refine ⟨by simp; exact h.1, fun j hj => ?_⟩
  rw [List.length_set] at hj
  obtain ⟨c1, f1⟩ := h.2 j hj
  obtain ⟨c2, f2⟩ := h.2 i hi
  by_cases e : i = j
  · subst e
    refine ⟨?_, by go_simp⟩
    rw [List.getElem_set_self]
    go_simp
  · refine ⟨?_, by go_simp⟩
    rw [List.getElem_set_ne e]
    have : (⟨R, i, none⟩ : Addr) ≠ ⟨R, j, none⟩ := fun h => e (by injection h)
    go_simp
theorem Blk.setOther {w : World} {R S i : Nat} {cs : List Value} (h : Blk w R cs) (hne : S ≠ R) (v : Value) : Blk (w.setCell ⟨S, i, none⟩ v) R cs :=
  h.grownR (grown_set w S i v) (by intro e; injection e with e; exact hne e.symm)
def tok4 (v : Value) : List Value := [.int .i64 4, .string ⟨#[]⟩, v, .int .i64 0, .int .i64 0, .bool false, .slice none 0 0, .int .i64 0, .bool false]
/-- the loop's memory -/
structure QuoS (w wr : World) (g : Nat) (A : Option Addr) (n c p : Nat) (v : Value) (acc : List UInt16) : Prop where
  mv : Mv w wr g A n c p
  zero : Blk wr w.heap.size zero9
  tok : Blk wr (w.heap.size + 1) (tok4 v)
  own : wr.ownsRow (w.heap.size + 2) 41 1 v acc.length (u16s acc)
theorem QuoS.mov {w wr w' : World} {g n c p p' : Nat} {A : Option Addr} {v : Value} {acc : List UInt16} (h : QuoS w wr g A n c p v acc) (hg : g < w.heap.size) (hm : Mv wr w' g A n c p') : QuoS w w' g A n c p' v acc :=
  ⟨h.mv.then hm, h.zero.grown hm.grown (by omega), h.tok.grown hm.grown (by omega), own_grown h.own hm.grown (by omega)⟩
theorem QuoS.app {w wr w' : World} {g n c p : Nat} {A : Option Addr} {v v' : Value} {acc acc' : List UInt16} (h : QuoS w wr g A n c p v acc) (hg : g < w.heap.size) (hgr : wr.grownBy w' v.ownBlock)
    (ho : w'.ownsRow (w.heap.size + 2) 41 1 v' acc'.length (u16s acc')) : QuoS w (w'.setCell ⟨w.heap.size + 1, 2, none⟩ v') g A n c p v' acc' := by
  have hne : ∀ k, k < w.heap.size + 2 → some k ≠ v.ownBlock := fun k hk e => by have := (h.own.lt k e.symm).1; omega
  have hrd : Rd w' g A n c p := ⟨hgr.cell h.mv.rd.c0 (hne g (by omega)), hgr.cell h.mv.rd.c1 (hne g (by omega)), (World.frozen?_of_block (w := wr) (hgr.block g h.mv.rd.lt (hne g (by omega)))).trans h.mv.rd.f1⟩
  have hs := grown_set w' (w.heap.size + 1) 2 v'
  refine ⟨⟨⟨grown_cell hs hrd.c0 (show g ≠ w.heap.size + 1 by omega), grown_cell hs hrd.c1 (show g ≠ w.heap.size + 1 by omega), (grown_frozen (p := ⟨g, 1, none⟩) hs hrd.lt (show g ≠ w.heap.size + 1 by omega)).trans hrd.f1⟩, ?_⟩, ?_, ?_, ?_⟩
  · refine ⟨hs.os.trans (hgr.os.trans h.mv.grown.os), hs.tape.trans (hgr.tape.trans h.mv.grown.tape), hs.output.trans (hgr.output.trans h.mv.grown.output), Nat.le_trans h.mv.grown.size (Nat.le_trans hgr.size hs.size), fun k hk hk2 => ?_⟩
    have hkr := Nat.lt_of_lt_of_le hk h.mv.grown.size
    exact (hs.block k (Nat.lt_of_lt_of_le hkr hgr.size) (by intro e; injection e with e; omega)).trans ((hgr.block k hkr (hne k (by omega))).trans (h.mv.grown.block k hk hk2))
  · exact (h.zero.grownR hgr (hne _ (by omega))).setOther (by omega) _
  · exact (h.tok.grownR hgr (hne _ (by omega))).set (by simp [tok4]) _
  · exact own_grown ho hs (by omega)
section
variable {P : Program} {w : World} {ops : Array Oper} {rest : List Oper} {o : Oper} {a : Act} {Q : Exit → Act → World → Prop}
theorem wpList_litO (hgd : o.guard = none) (s x : Operand) (t : TypeId)
    (ho : o.op = .call { callee := .builtin .append, args := #[s, x], argTypes := #[t, t] })
    (e : TypeId) (i : TypeInfo) (z : Value) (bytes : Nat) (ht : P.underlying t = some (.slice e)) (hi : P.info? e = some i) (hz : i.zero = some z)
    (hsize : i.size = 1) (hby : i.bytes = bytes) (hzs : z.cells.size = 1) (base : Nat) (hbase : base ≤ w.heap.size)
    (v : Value) (xs : List Value) (k : Nat) (hk : xs.length = k) (hs : a.eval s = v) (hm : w.ownsRow base e 1 v k xs)
    (cs : List Value) (m c : Nat) (hx : a.eval x = .slice (some ⟨w.heap.size, 0, none⟩) m c) (hl : cs.length = m) (h1 : (cs.all fun u => u.oneCell') = true)
    (hsz : xs.length + m ≤ 70368744177664) (hb2 : bytes ≤ 2)
    (h : ∀ v' w', w'.ownsRow base e 1 v' (xs ++ cs).length (xs ++ cs) → w.grownBy w' v.ownBlock → wpList P ops Q rest (a.put o.dst v') w') : wpList P ops Q (o :: rest) a (w.alloc (.cells cs.toArray e)) := by
  subst hl hk
  refine wpList_append_own (w.alloc (.cells cs.toArray e)) hgd s x t ho base e i z 1 bytes ht hi hz hsize hby hzs (by omega) v xs.length xs hs (hm.alloc _) ⟨w.heap.size, 0, none⟩ _ c cs hx (by omega) ?_ (fun u hu => List.all_eq_true.1 h1 u hu) (by unfold maxLen; omega) ?_ (Nat.le_trans hbase (by simp)) ?_
  · intro j u hu
    rw [Addr.add_lit, World.cell?_alloc_at _ _ _ _ rfl]
    simpa using hu
  · calc (xs.length + cs.length) * bytes ≤ 70368744177664 * 2 := Nat.mul_le_mul hsz hb2
      _ ≤ 140737488355328 := by omega
  · intro v' w' h1 h2 _
    exact h v' w' (by rw [List.length_append]; exact h1) (grown_trans (grown_alloc w _ _) h2)
end
theorem set9_grownM {w0 w : World} {R g : Nat} {v0 v1 v2 v3 v4 v5 v6 v7 v8 : Value} (h : w0.grownBy w (some g)) (hR : w0.heap.size ≤ R) : w0.grownBy (((((((((w.setCell ⟨R, 0, none⟩ v0).setCell ⟨R, 1, none⟩ v1).setCell ⟨R, 2, none⟩ v2).setCell ⟨R, 3, none⟩ v3).setCell ⟨R, 4, none⟩ v4).setCell ⟨R, 5, none⟩ v5).setCell ⟨R, 6, none⟩ v6).setCell ⟨R, 7, none⟩ v7).setCell ⟨R, 8, none⟩ v8) (some g) := by
  have hs := set9_grown (w := w) (R := R) (v0 := v0) (v1 := v1) (v2 := v2) (v3 := v3) (v4 := v4) (v5 := v5) (v6 := v6) (v7 := v7) (v8 := v8)
  exact ⟨hs.os.trans h.os, hs.tape.trans h.tape, hs.output.trans h.output, Nat.le_trans h.size hs.size, fun i hi hne => (hs.block i (Nat.lt_of_lt_of_le hi h.size) (fun e => by injection e with e; omega)).trans (h.block i hi hne)⟩
/-- how far the loop is -/
def AtQuo (q : UInt16) (u : List UInt16) (k p : Nat) (acc : List UInt16) : Prop := ∃ i, p = k + 1 + i ∧ quoL q (u.drop (k + 1)) [] = plusQ i (quoL q (u.drop p) acc)
theorem quotedT_bad {q : UInt16} {r : List UInt16} {e e' m : Nat} {t : Tok} (h : quotedT q r = (e, t, m)) (h2 : (quoL q r []).1 = e') (he : e' ≠ 0) : e' = e := by
  subst h2
  have hq : quoF q r = quoL q r [] := rfl
  unfold quotedT at h
  rw [hq, if_pos he] at h
  exact (ans_bad h).1
theorem quotedT_good {q : UInt16} {r s : List UInt16} {e m i : Nat} {t : Tok} (h : quotedT q r = (e, t, m)) (h2 : quoL q r [] = (0, s, i)) : e = 0 ∧ t = { noTok with kind := 4, str := s } ∧ m = 1 + i := by
  unfold quotedT at h
  have : quoF q r = quoL q r [] := rfl
  rw [this, h2, if_neg (by simp)] at h
  obtain ⟨h1, h3, h4⟩ := ans_of h
  exact ⟨h1.symm, h3.symm, h4.symm⟩
theorem u16s_snoc (l : List UInt16) (x : UInt16) : u16s l ++ [.int .u16 (x.toNat : Int)] = u16s (l ++ [x]) := by simp [u16s, u16v]

set_option maxHeartbeats 8000000 in
set_option maxRecDepth 100000 in
theorem lquoted_any {A : Option Addr} {c g B k n : Nat} {u : List UInt16} {w : World} (hr : Rd w g A n c k) (hn : u.length = n) (ha : Reads w B 1 A n (u16s u)) (hB : B ≤ g) (hk : k < u.length) (hl : n ≤ 4096) {m e : Nat} {t : Tok} (hq : quotedT u[k] (u.drop (k + 1)) = (e, t, m)) :
    Calls Try.prog 26 #[.pointer (some ⟨g, 0, none⟩)] w fun ev w' => ∃ v, ev = .returned (.tuple #[v, .int .i64 (e : Int)]) ∧ (e ≠ 0 → v = noV) ∧ (e = 0 → TokV w' w.heap.size t v ∧ Mv w w' g A n c (k + m)) ∧ w.grownBy w' (some g) := by
  subst hn
  obtain ⟨i0, hi0, hz0, hz1, hz2⟩ := info_parts Try.info_u16
  have hg := hr.lt
  have HA := hide ha
  obtain ⟨q, hqq⟩ : ∃ q, u[k] = q := ⟨_, rfl⟩
  rw [hqq] at hq
  have hE := hide (fun e' h2 he => quotedT_bad (e' := e') hq h2 he)
  have hGood := hide (fun s i h2 => quotedT_good (s := s) (i := i) hq h2)
  have hQ0 : QuoS w ((w.alloc (.cells zero9.toArray 40)).alloc (.cells (tok4 (.slice none 0 0)).toArray 40)) g A u.length c k (.slice none 0 0) [] := by
    have hW2 : Below w.heap.size w ((w.alloc (.cells zero9.toArray 40)).alloc (.cells (tok4 (.slice none 0 0)).toArray 40)) := ((Below.refl _ w).alloc (Nat.le_refl _) _).alloc (by simp) _
    refine ⟨⟨(hr.alloc _).alloc _, grown_of_below _ hW2⟩, ?_, ?_, World.ownsRow_nil _ _ _ _⟩
    · exact (Blk.new w zero9 40).below ((Below.refl _ _).alloc (Nat.le_refl _) _) (by simp)
    · have := Blk.new (w.alloc (.cells zero9.toArray 40)) (tok4 (.slice none 0 0)) 40
      rwa [show (w.alloc (.cells zero9.toArray 40)).heap.size = w.heap.size + 1 by simp] at this
  have HQ0 := hide hQ0
  have hc0 := hr.c0
  have hc1 := hr.c1
  obtain ⟨blk, off, rfl, hblk, hcell⟩ := ha.spotL (by omega)
  have hca := hcell k hk
  rw [hqq] at hca
  have hbw : blk < w.heap.size := by omega
  have hlt2 : (k : Int) < (u.length : Int) := by omega
  clear hq hQ0 ha hr hcell hqq
  go_enter Try.func26, Try.ntmps26
  go_upto_region 2 with (fail)
  go_cut [5] (fun x wx => x = .int .u16 (q.toNat : Int) ∧ Hid (QuoS w wx g (some ⟨blk, off, none⟩) u.length c k (.slice none 0 0) []))
  case first =>
    go_quiet (fail)
    go_wp2_with fail
    go_meet
    exact ⟨rfl, HQ0.out.mov hg ((Mv.refl HQ0.out.mv.rd).drewN _)⟩
  case rest =>
    obtain ⟨hx, hS⟩ := hcut
    subst hx
    clear hc0 hc1 hca HQ0
    have hc1 := hS.out.mv.rd.c1
    have hf1 := hS.out.mv.rd.f1
    go_wp2
    have hS1 := hide (hS.out.mov hg (Mv.step (Mv.refl hS.out.mv.rd) (z := (k : Int) + 1) (k' := k + 1) (by omega)))
    clear hc1 hf1 hS
    go_loopg [6] (u.length - (k + 1)) (fun r x wr => ∃ p acc v, p + r = u.length ∧ Hid (QuoS w wr g (some ⟨blk, off, none⟩) u.length c p v acc) ∧ acc.length ≤ p ∧ Hid (AtQuo q u k p acc))
    case atStart => exact ⟨k + 1, [], .slice none 0 0, by omega, hS1, Nat.zero_le _, 0, by omega, by simp [plusQ]⟩
    case round =>
      obtain ⟨p, acc, v, hpr, hS, hacc, hat⟩ := hrel
      have hc0 := hS.out.mv.rd.c0
      have hc1 := hS.out.mv.rd.c1
      have hf1 := hS.out.mv.rd.f1
      have har := hide (HA.out.grown hS.out.mv.grown hB (Nat.le_of_lt hg))
      by_cases hlt : p < u.length
      · have hlt2 : (p : Int) < (u.length : Int) := by omega
        obtain ⟨blk2, off2, hA2, _, hcell⟩ := har.out.spotL (by omega)
        injection hA2 with hA2
        injection hA2 with e1 e2
        subst e1 e2
        have hca := hcell p hlt
        have hdr := hide (List.drop_eq_getElem_cons hlt)
        obtain ⟨x, hx⟩ : ∃ x, u[p] = x := ⟨_, rfl⟩
        rw [hx] at hca hdr
        clear hcell hx
        cases hln : isLine x with
        | true =>
          have hz := hide (show (quoL q (u.drop (k + 1)) []).1 = 5 by
            obtain ⟨i, hi, he⟩ := hat.out
            rw [he, hdr.out, quoL_line hln]; rfl)
          have hzr := hide hS.out.zero
          obtain ⟨c0, f0⟩ := hzr.out.2 0 (by decide)
          obtain ⟨c1, f1⟩ := hzr.out.2 1 (by decide)
          obtain ⟨c2, f2⟩ := hzr.out.2 2 (by decide)
          obtain ⟨c3, f3⟩ := hzr.out.2 3 (by decide)
          obtain ⟨c4, f4⟩ := hzr.out.2 4 (by decide)
          obtain ⟨c5, f5⟩ := hzr.out.2 5 (by decide)
          obtain ⟨c6, f6⟩ := hzr.out.2 6 (by decide)
          obtain ⟨c7, f7⟩ := hzr.out.2 7 (by decide)
          obtain ⟨c8, f8⟩ := hzr.out.2 8 (by decide)
          go_wp2_with fail
          go_quiet (first | (go_at_call 19; refine Calls.quiet_of_same ((lline_any _ _).mono fun _ _ h => same_of h)))
          go_wp2
          obtain ⟨q0, q1, q2, q3, q4, q5, q6, q7, q8⟩ := set9_cells (v0 := .int .i64 0) (v1 := .string ⟨#[]⟩) (v2 := .slice none 0 0) (v3 := .int .i64 0) (v4 := .int .i64 0) (v5 := .bool false) (v6 := .slice none 0 0) (v7 := .int .i64 0) (v8 := .bool false) (hzr.out.grown (grown_drewN wr (some g) nq) (by omega)) rfl
          refine bodyPost_ret (v := .tuple #[.agg #[.int .i64 0, .string ⟨#[]⟩, .slice none 0 0, .int .i64 0, .int .i64 0, .bool false, .slice none 0 0, .int .i64 0, .bool false], .int .i64 5]) (by simp [results, Try.results26, go_sem, q0, q1, q2, q3, q4, q5, q6, q7, q8]) rfl ?_
          obtain rfl := hE.out _ hz.out (by decide)
          exact ⟨_, rfl, fun _ => rfl, fun h => absurd h (by first | decide | assumption), (set9_mv (hS.out.mv.drewN _) (Nat.le_refl _) hg).grown⟩
        | false =>
          have HLN := hide hln
          go_wp2_with fail
          go_quiet (first | (go_at_call 19; refine Calls.quiet_of_same ((lline_any _ _).mono fun _ _ h => same_of h)))
          go_upto_region 5 with (fail)
          go_cut [6] (fun xx wx => xx = .int .u16 (x.toNat : Int) ∧ Hid (QuoS w wx g (some ⟨blk, off, none⟩) u.length c p v acc))
          case first =>
            go_quiet (fail)
            go_wp2_with fail
            go_meet
            exact ⟨rfl, hS.out.mov hg (((Mv.refl hS.out.mv.rd).drewN _).drewN _)⟩
          case rest =>
            obtain ⟨hxx, hS5⟩ := hcut
            subst hxx
            clear hc0 hc1 hf1 hca hS har
            have hc1 := hS5.out.mv.rd.c1
            have hf1 := hS5.out.mv.rd.f1
            go_upto_region 6 with (fail)
            go_cut [5] (fun qq wx => qq = .int .u16 (q.toNat : Int) ∧ Hid (QuoS w wx g (some ⟨blk, off, none⟩) u.length c (p + 1) v acc))
            case first =>
              go_wp2_with fail
              go_meet
              exact ⟨rfl, hS5.out.mov hg (Mv.step (Mv.refl hS5.out.mv.rd) (by omega))⟩
            case rest =>
              obtain ⟨hqx, hS⟩ := hcut
              subst hqx
              clear hc1 hf1 hS5
              have hbase : w.heap.size + 2 ≤ wc.heap.size := hS.out.tok.1
              have hneT : some (w.heap.size + 1) ≠ v.ownBlock := fun e => by have := (hS.out.own.lt _ e.symm).1; omega
              by_cases hxq : x = q
              · have e1 : ((x.toNat : Int) == (q.toNat : Int)) = true := by rw [hxq]; simp
                have hz := hide (show ∃ i, p = k + 1 + i ∧ quoL q (u.drop (k + 1)) [] = (0, acc, i + 1) by
                  obtain ⟨i, hi, he⟩ := hat.out
                  refine ⟨i, hi, ?_⟩
                  rw [he, hdr.out, hxq, quoL_end (by rw [← hxq]; exact HLN.out)]; rfl)
                obtain ⟨Av, cv, rfl, _, _⟩ := own_shape hS.out.own
                have htb := hide hS.out.tok
                have hzr := hide hS.out.zero
                have a0 : wc.cell? ⟨w.heap.size + 1, 0, none⟩ = some (.int .i64 4) := (htb.out.2 0 (by simp [tok4])).1
                have a1 : wc.cell? ⟨w.heap.size + 1, 1, none⟩ = some (.string ⟨#[]⟩) := (htb.out.2 1 (by simp [tok4])).1
                have a2 : wc.cell? ⟨w.heap.size + 1, 2, none⟩ = some (.slice Av acc.length cv) := (htb.out.2 2 (by simp [tok4])).1
                have a3 : wc.cell? ⟨w.heap.size + 1, 3, none⟩ = some (.int .i64 0) := (htb.out.2 3 (by simp [tok4])).1
                have a4 : wc.cell? ⟨w.heap.size + 1, 4, none⟩ = some (.int .i64 0) := (htb.out.2 4 (by simp [tok4])).1
                have a5 : wc.cell? ⟨w.heap.size + 1, 5, none⟩ = some (.bool false) := (htb.out.2 5 (by simp [tok4])).1
                have a6 : wc.cell? ⟨w.heap.size + 1, 6, none⟩ = some (.slice none 0 0) := (htb.out.2 6 (by simp [tok4])).1
                have a7 : wc.cell? ⟨w.heap.size + 1, 7, none⟩ = some (.int .i64 0) := (htb.out.2 7 (by simp [tok4])).1
                have a8 : wc.cell? ⟨w.heap.size + 1, 8, none⟩ = some (.bool false) := (htb.out.2 8 (by simp [tok4])).1
                obtain ⟨b0, fb0⟩ := hzr.out.2 0 (by decide)
                obtain ⟨b1, fb1⟩ := hzr.out.2 1 (by decide)
                obtain ⟨b2, fb2⟩ := hzr.out.2 2 (by decide)
                obtain ⟨b3, fb3⟩ := hzr.out.2 3 (by decide)
                obtain ⟨b4, fb4⟩ := hzr.out.2 4 (by decide)
                obtain ⟨b5, fb5⟩ := hzr.out.2 5 (by decide)
                obtain ⟨b6, fb6⟩ := hzr.out.2 6 (by decide)
                obtain ⟨b7, fb7⟩ := hzr.out.2 7 (by decide)
                obtain ⟨b8, fb8⟩ := hzr.out.2 8 (by decide)
                clear hxq
                go_wp2
                obtain ⟨q0, q1, q2, q3, q4, q5, q6, q7, q8⟩ := set9_cells (v0 := .int .i64 4) (v1 := .string ⟨#[]⟩) (v2 := .slice Av acc.length cv) (v3 := .int .i64 0) (v4 := .int .i64 0) (v5 := .bool false) (v6 := .slice none 0 0) (v7 := .int .i64 0) (v8 := .bool false) hzr.out rfl
                refine bodyPost_ret (v := .tuple #[.agg #[.int .i64 4, .string ⟨#[]⟩, .slice Av acc.length cv, .int .i64 0, .int .i64 0, .bool false, .slice none 0 0, .int .i64 0, .bool false], .int .i64 0]) (by simp [results, Try.results26, go_sem, q0, q1, q2, q3, q4, q5, q6, q7, q8]) rfl ?_
                obtain ⟨i, hi, hz2⟩ := hz.out
                obtain ⟨z1, z2, z3⟩ := hGood.out _ _ hz2
                subst z1 z2 z3
                refine ⟨_, rfl, fun h => absurd rfl h, fun _ => ⟨⟨.slice Av acc.length cv, _, rfl, own_base (set9_own hS.out.own (by omega)) (by omega), World.ownsRow_nil _ _ _ _⟩, ?_⟩, (set9_mv hS.out.mv (Nat.le_refl _) hg).grown⟩
                rw [show k + (1 + (i + 1)) = p + 1 by omega]
                exact set9_mv hS.out.mv (Nat.le_refl _) hg
              · have e1 : ((x.toNat : Int) == (q.toNat : Int)) = false := by
                  rw [beq_eq_false_iff_ne]
                  intro h
                  exact hxq (UInt16.toNat_inj.1 (by omega))
                have hx16 := x.toNat_lt
                by_cases h92 : x.toNat = 92
                · have e2 : ((x.toNat : Int) == 92) = true := by rw [h92]; rfl
                  have H92 := hide h92
                  clear h92
                  obtain ⟨⟨ee, y, ne⟩, hesc⟩ : ∃ z, escF (u.drop (p + 1)) = z := ⟨_, rfl⟩
                  have HESC := hide hesc
                  have har := hide (HA.out.grown hS.out.mv.grown hB (Nat.le_of_lt hg))
                  by_cases hee : ee = 0
                  · subst hee
                    have hlen := esc_len (l := u.drop (p + 1)) (by rw [hesc])
                    rw [hesc, List.length_drop] at hlen
                    have hz := hide (fun i (hi : p = k + 1 + i) (he : quoL q (u.drop (k + 1)) [] = plusQ i (quoL q (u.drop p) acc)) => (by
                      refine ⟨i + (1 + ne), by omega, ?_⟩
                      rw [he, hdr.out, quoL_esc HLN.out hxq H92.out hesc, List.drop_drop]
                      simp only [plusQ]
                      congr 2
                      omega : AtQuo q u k (p + 1 + ne) (acc ++ [y])))
                    clear hesc hxq
                    go_wp2_with fail
                    refine (lescape_any hS.out.mv.rd rfl har.out hB hlt hl HESC.out).mono ?_
                    rintro e5 w5 ⟨rfl, hM5, hG5⟩
                    have hS6 := hide (hS.out.mov hg (hM5 rfl))
                    have hbase6 : w.heap.size + 2 ≤ w5.heap.size := hS6.out.tok.1
                    have a2 : w5.cell? ⟨w.heap.size + 1, 2, none⟩ = some v := (hS6.out.tok.2 2 (by simp [tok4])).1
                    clear hM5 hG5
                    go_wp2_with (at_builtin; refine wpList_litO rfl _ _ 22 rfl 41 i0 _ 2 Try.underlying22 hi0 hz0 hz1 hz2 rfl (w.heap.size + 2) hbase6 v (u16s acc) acc.length (u16s_len _) rfl hS6.out.own [.int .u16 (y.toNat : Int)] 1 1 rfl rfl rfl (by rw [u16s_len]; omega) (by omega) ?_; intro v' w' ho hgr; obtain ⟨Av, cv, rfl, _, _⟩ := own_shape ho; have d2 : w'.cell? ⟨w.heap.size + 1, 2, none⟩ = some v := ((hS6.out.tok.grownR hgr hneT).2 2 (by simp [tok4])).1; have fd2 := ((hS6.out.tok.grownR hgr hneT).2 2 (by simp [tok4])).2)
                    go_roundg (u.length - (p + 1 + ne))
                    case measure => omega
                    case rel =>
                      refine ⟨p + 1 + ne, acc ++ [y], _, by omega, hS6.out.app hg hgr (by rw [u16s_snoc, u16s_len] at ho; rw [show (u16s acc).length + 1 = (acc ++ [y]).length by simp [u16s]]; exact ho), by simp; omega, ?_⟩
                      obtain ⟨i, hi, he⟩ := hat.out
                      exact hz.out i hi he
                  · have hz := hide (show (quoL q (u.drop (k + 1)) []).1 = ee by
                      obtain ⟨i, hi, he⟩ := hat.out
                      rw [he, hdr.out, quoL_bad HLN.out hxq H92.out (by rw [hesc]; exact hee), hesc]; rfl)
                    have he1 : ((ee : Int) != 0) = true := by rw [bne_iff_ne]; omega
                    clear hesc hxq
                    go_wp2_with fail
                    refine (lescape_any hS.out.mv.rd rfl har.out hB hlt hl HESC.out).mono ?_
                    rintro e5 w5 ⟨rfl, _, hG5⟩
                    have hzr := hide (hS.out.zero.grown hG5 (by omega))
                    have hG6 := hide (grown_trans hS.out.mv.grown hG5)
                    clear hG5
                    obtain ⟨b0, fb0⟩ := hzr.out.2 0 (by decide)
                    obtain ⟨b1, fb1⟩ := hzr.out.2 1 (by decide)
                    obtain ⟨b2, fb2⟩ := hzr.out.2 2 (by decide)
                    obtain ⟨b3, fb3⟩ := hzr.out.2 3 (by decide)
                    obtain ⟨b4, fb4⟩ := hzr.out.2 4 (by decide)
                    obtain ⟨b5, fb5⟩ := hzr.out.2 5 (by decide)
                    obtain ⟨b6, fb6⟩ := hzr.out.2 6 (by decide)
                    obtain ⟨b7, fb7⟩ := hzr.out.2 7 (by decide)
                    obtain ⟨b8, fb8⟩ := hzr.out.2 8 (by decide)
                    go_wp2
                    obtain ⟨q0, q1, q2, q3, q4, q5, q6, q7, q8⟩ := set9_cells (v0 := .int .i64 0) (v1 := .string ⟨#[]⟩) (v2 := .slice none 0 0) (v3 := .int .i64 0) (v4 := .int .i64 0) (v5 := .bool false) (v6 := .slice none 0 0) (v7 := .int .i64 0) (v8 := .bool false) hzr.out rfl
                    refine bodyPost_ret (v := .tuple #[.agg #[.int .i64 0, .string ⟨#[]⟩, .slice none 0 0, .int .i64 0, .int .i64 0, .bool false, .slice none 0 0, .int .i64 0, .bool false], .int .i64 (ee : Int)]) (by simp [results, Try.results26, go_sem, q0, q1, q2, q3, q4, q5, q6, q7, q8]) rfl ?_
                    obtain rfl := hE.out _ hz.out hee
                    exact ⟨_, rfl, fun _ => rfl, fun h => absurd h hee, set9_grownM hG6.out (Nat.le_refl _)⟩
                · have e2 : ((x.toNat : Int) == 92) = false := beq_eq_false_iff_ne.2 (by omega)
                  have hz := hide (fun i (hi : p = k + 1 + i) (he : quoL q (u.drop (k + 1)) [] = plusQ i (quoL q (u.drop p) acc)) => (by
                    refine ⟨i + 1, by omega, ?_⟩
                    rw [he, hdr.out, quoL_plain HLN.out hxq h92]
                    simp only [plusQ]
                    congr 2
                    omega : AtQuo q u k (p + 1) (acc ++ [x])))
                  clear h92 hxq
                  have a2 : wc.cell? ⟨w.heap.size + 1, 2, none⟩ = some v := (hS.out.tok.2 2 (by simp [tok4])).1
                  go_wp2_with (at_builtin; refine wpList_litO rfl _ _ 22 rfl 41 i0 _ 2 Try.underlying22 hi0 hz0 hz1 hz2 rfl (w.heap.size + 2) hbase v (u16s acc) acc.length (u16s_len _) rfl hS.out.own [.int .u16 (x.toNat : Int)] 1 1 rfl rfl rfl (by rw [u16s_len]; omega) (by omega) ?_; intro v' w' ho hgr; obtain ⟨Av, cv, rfl, _, _⟩ := own_shape ho; have d2 : w'.cell? ⟨w.heap.size + 1, 2, none⟩ = some v := ((hS.out.tok.grownR hgr hneT).2 2 (by simp [tok4])).1; have fd2 := ((hS.out.tok.grownR hgr hneT).2 2 (by simp [tok4])).2)
                  go_roundg (gk - 1)
                  case measure => omega
                  case rel =>
                    refine ⟨p + 1, acc ++ [x], _, by omega, hS.out.app hg hgr (by rw [u16s_snoc, u16s_len] at ho; rw [show (u16s acc).length + 1 = (acc ++ [x]).length by simp [u16s]]; exact ho), by simp; omega, ?_⟩
                    obtain ⟨i, hi, he⟩ := hat.out
                    exact hz.out i hi he
      · obtain rfl : p = u.length := by omega
        have hz := hide (show (quoL q (u.drop (k + 1)) []).1 = 5 by
          obtain ⟨i, hi, he⟩ := hat.out
          rw [he, List.drop_length, quoL_nil]; rfl)
        have hzr := hide hS.out.zero
        obtain ⟨c0, f0⟩ := hzr.out.2 0 (by decide)
        obtain ⟨c1, f1⟩ := hzr.out.2 1 (by decide)
        obtain ⟨c2, f2⟩ := hzr.out.2 2 (by decide)
        obtain ⟨c3, f3⟩ := hzr.out.2 3 (by decide)
        obtain ⟨c4, f4⟩ := hzr.out.2 4 (by decide)
        obtain ⟨c5, f5⟩ := hzr.out.2 5 (by decide)
        obtain ⟨c6, f6⟩ := hzr.out.2 6 (by decide)
        obtain ⟨c7, f7⟩ := hzr.out.2 7 (by decide)
        obtain ⟨c8, f8⟩ := hzr.out.2 8 (by decide)
        go_wp2_with fail
        go_quiet (fail)
        go_wp2
        obtain ⟨q0, q1, q2, q3, q4, q5, q6, q7, q8⟩ := set9_cells (v0 := .int .i64 0) (v1 := .string ⟨#[]⟩) (v2 := .slice none 0 0) (v3 := .int .i64 0) (v4 := .int .i64 0) (v5 := .bool false) (v6 := .slice none 0 0) (v7 := .int .i64 0) (v8 := .bool false) (hzr.out.grown (grown_drewN wr (some g) nq) (by omega)) rfl
        refine bodyPost_ret (v := .tuple #[.agg #[.int .i64 0, .string ⟨#[]⟩, .slice none 0 0, .int .i64 0, .int .i64 0, .bool false, .slice none 0 0, .int .i64 0, .bool false], .int .i64 5]) (by simp [results, Try.results26, go_sem, q0, q1, q2, q3, q4, q5, q6, q7, q8]) rfl ?_
        obtain rfl := hE.out _ hz.out (by decide)
        exact ⟨_, rfl, fun _ => rfl, fun h => absurd h (by decide), (set9_mv (hS.out.mv.drewN nq) (Nat.le_refl _) hg).grown⟩
end Go.Proofs.Ytbljbmeifmpfoaa

namespace Go.Proofs.Ytbljbmeifmpfoaa
open Go.RowKit

theorem Try.info_u32 : (Try.prog.info? 98).map (fun i => (i.zero, i.size, i.bytes)) = some (some (.int .u32 0), 1, 4) := by kernel_rfl
def ParsePost (v : Nat) (w : World) (e : Ending) (w' : World) : Prop :=
  ∃ (X : Option Addr) (mx cx er : Nat), e = .returned (.tuple #[.agg #[.bool false, .slice X mx cx], .int .i64 (er : Int)]) ∧ Below w.heap.size w w' ∧
    (er = 0 ∧ v < big8 ∧ w'.ownsRow w.heap.size 98 1 (.slice X mx cx) (limbs v).length (u32s (limbs v)) ∨ er = 3 ∧ big8 ≤ v)
/-- how far the inner loop is -/
def AtMul (ms : List Nat) (d k c : Nat) (outs : List Nat) : Prop := outs.length = k ∧ mulGo ms d = (outs ++ (mulGo (ms.drop k) c).1, (mulGo (ms.drop k) c).2)
theorem AtMul.start (ms : List Nat) (d : Nat) : AtMul ms d 0 d [] := ⟨rfl, rfl⟩
theorem AtMul.step {ms : List Nat} {d k c : Nat} {outs : List Nat} (h : AtMul ms d k c outs) (hk : k < ms.length) : AtMul ms d (k + 1) ((c + 10 * ms[k]) / 4294967296) (outs ++ [(c + 10 * ms[k]) % 4294967296]) := by
  obtain ⟨h1, h2⟩ := h
  refine ⟨by simp [h1], ?_⟩
  rw [h2, List.drop_eq_getElem_cons hk, mulGo]
  simp
theorem AtMul.done {ms : List Nat} {d c : Nat} {outs : List Nat} (h : AtMul ms d ms.length c outs) : mulGo ms d = (outs, c) := by
  obtain ⟨h1, h2⟩ := h
  rw [h2, List.drop_length]
  simp [mulGo]
/-- the cells behind so many rounds -/
def mulCells (ms outs : List Nat) : List Nat := outs ++ ms.drop outs.length
theorem mulCells_get {ms outs : List Nat} (h : outs.length < ms.length) : (mulCells ms outs)[outs.length]? = some ms[outs.length] := by
  unfold mulCells
  rw [List.getElem?_append_right (Nat.le_refl _), Nat.sub_self, List.getElem?_drop]
  simp [List.getElem?_eq_getElem h]
theorem mulCells_set {ms outs : List Nat} (h : outs.length < ms.length) (x : Nat) : (mulCells ms outs).set outs.length x = mulCells ms (outs ++ [x]) := by
  unfold mulCells
  rw [List.set_append_right _ _ (Nat.le_refl _), Nat.sub_self, List.drop_eq_getElem_cons h, List.set_cons_zero]
  simp
theorem mulCells_len {ms outs : List Nat} (h : outs.length ≤ ms.length) : (mulCells ms outs).length = ms.length := by
  unfold mulCells
  rw [List.length_append, List.length_drop]
  omega
theorem u32s_set (l : List Nat) (k x : Nat) : (u32s l).set k (.int .u32 (x : Int)) = u32s (l.set k x) := by
  simp [u32s, List.map_set]

section
variable {P : Program} {w : World} {ops : Array Oper} {rest : List Oper} {o : Oper} {a : Act} {Q : Exit → Act → World → Prop}
/-- append of what the operation ahead has laid, onto a row of elements of any size. -/
theorem wpList_litG (hgd : o.guard = none) (s x : Operand) (t : TypeId)
    (ho : o.op = .call { callee := .builtin .append, args := #[s, x], argTypes := #[t, t] })
    (e : TypeId) (i : TypeInfo) (z : Value) (size bytes : Nat) (ht : P.underlying t = some (.slice e)) (hi : P.info? e = some i) (hz : i.zero = some z)
    (hsize : i.size = size) (hby : i.bytes = bytes) (hzs : z.cells.size = size) (hsz0 : 0 < size) (base : Nat) (hbase : base ≤ w.heap.size)
    (v : Value) (xs : List Value) (k : Nat) (hs : a.eval s = v) (hm : w.ownsRow base e size v k xs)
    (cs : List Value) (m c : Nat) (hx : a.eval x = .slice (some ⟨w.heap.size, 0, none⟩) m c) (hl : cs.length = m * size) (h1 : (cs.all fun u => u.oneCell') = true)
    (hsz : k + m ≤ 70368744177664) (hb2 : (k + m) * bytes ≤ 140737488355328)
    (h : ∀ v' w', w'.ownsRow base e size v' (k + m) (xs ++ cs) → w.grownBy w' v.ownBlock → wpList P ops Q rest (a.put o.dst v') w') : wpList P ops Q (o :: rest) a (w.alloc (.cells cs.toArray e)) := by
  refine wpList_append_own (w.alloc (.cells cs.toArray e)) hgd s x t ho base e i z size bytes ht hi hz hsize hby hzs hsz0 v k xs hs (hm.alloc _) ⟨w.heap.size, 0, none⟩ _ c cs hx hl ?_ (fun u hu => List.all_eq_true.1 h1 u hu) (by unfold maxLen; omega) hb2 (Nat.le_trans hbase (by simp)) ?_
  · intro j u hu
    rw [Addr.add_lit, World.cell?_alloc_at _ _ _ _ rfl]
    simpa using hu
  · intro v' w' h1 h2 _
    exact h v' w' h1 (grown_trans (grown_alloc w _ _) h2)
end
/-- Behind the store of two cells. -/
theorem set2_cells {w : World} {R : Nat} {cs : List Value} {v0 v1 : Value} (h : Blk w R cs) (hl : cs.length = 2) : ((w.setCell ⟨R, 0, none⟩ v0).setCell ⟨R, 1, none⟩ v1).cell? ⟨R, 0, none⟩ = some v0 ∧ ((w.setCell ⟨R, 0, none⟩ v0).setCell ⟨R, 1, none⟩ v1).cell? ⟨R, 1, none⟩ = some v1 := by
  obtain ⟨c0, f0⟩ := h.2 0 (by omega)
  obtain ⟨c1, f1⟩ := h.2 1 (by omega)
  refine ⟨?_, ?_⟩
  all_goals go_simp
theorem set2_below {w0 w : World} {R : Nat} {v0 v1 : Value} (h : Below w0.heap.size w0 w) (hR : w0.heap.size ≤ R) : Below w0.heap.size w0 ((w.setCell ⟨R, 0, none⟩ v0).setCell ⟨R, 1, none⟩ v1) := (h.setCell hR _).setCell hR _
theorem set2_own {w : World} {R base e n : Nat} {v v0 v1 : Value} {xs : List Value} (h : w.ownsRow base e 1 v n xs) (hb : R < base) : ((w.setCell ⟨R, 0, none⟩ v0).setCell ⟨R, 1, none⟩ v1).ownsRow base e 1 v n xs :=
  own_grown (own_grown h (grown_set w R 0 v0) hb) (grown_set _ R 1 v1) hb
theorem bmade_nil {A : Option Addr} {c B n : Nat} {xs : List Nat} {w : World} (hn : xs.length = n) (ha : Reads w B 1 A n (u32s xs)) (hB : B ≤ w.heap.size) (hl : n ≤ 4096) (hc : n ≤ c) (hc2 : c ≤ maxLen) (hm : trimL xs = xs) (h0 : n = 0) :
    Calls Try.prog 81 #[.slice A n c, .bool false] w fun e w' => e = .returned (.agg #[.bool false, .slice none 0 0]) ∧ Below w.heap.size w w' := by
  have := bmade_is (c := c) hn ha hB hl hc hc2 (m := n) (by rw [hm, hn])
  unfold madeV at this
  rw [if_pos h0] at this
  exact this
theorem bmade_pos {A : Option Addr} {c B n : Nat} {xs : List Nat} {w : World} (hn : xs.length = n) (ha : Reads w B 1 A n (u32s xs)) (hB : B ≤ w.heap.size) (hl : n ≤ 4096) (hc : n ≤ c) (hc2 : c ≤ maxLen) (hm : trimL xs = xs) (h0 : n ≠ 0) :
    Calls Try.prog 81 #[.slice A n c, .bool false] w fun e w' => e = .returned (.agg #[.bool false, .slice A n c]) ∧ Below w.heap.size w w' := by
  have := bmade_is (c := c) hn ha hB hl hc hc2 (m := n) (by rw [hm, hn])
  unfold madeV at this
  rw [if_neg h0] at this
  exact this

/-- what the loops have in hand -/
structure PaS (w wr : World) (v : Value) (n : Nat) (ms : List Nat) : Prop where
  own : wr.ownsRow (w.heap.size + 1) 98 1 v n (u32s ms)
  res : Blk wr w.heap.size [.bool false, .slice none 0 0]
  below : Below w.heap.size w wr
theorem PaS.grown {w wr w' : World} {v v' : Value} {n n' : Nat} {ms ms' : List Nat} (h : PaS w wr v n ms) (hg : wr.grownBy w' v.ownBlock) (ho : w'.ownsRow (w.heap.size + 1) 98 1 v' n' (u32s ms')) : PaS w w' v' n' ms' :=
  ⟨ho, h.res.grownR hg (fun e => by have := (h.own.lt _ e.symm).1; omega), h.below.grown hg h.below.size (fun k hk => by have := (h.own.lt k hk).1; omega)⟩
/-- the outer loop -/
def AtPar (l : List UInt16) (i : Nat) (ms : List Nat) : Prop := i ≤ l.length ∧ decVal (l.take i) < big8 ∧ ms = limbs (decVal (l.take i))
theorem PaS.below' {w wr w' : World} {v : Value} {n : Nat} {ms : List Nat} (h : PaS w wr v n ms) (hb : Below wr.heap.size wr w') : PaS w w' v n ms :=
  ⟨own_below h.own hb, h.res.below hb h.res.1, h.below.trans (hb.mono h.below.size)⟩
/-- Behind the append and the trim. -/
theorem PaS.trimmed {w wr w' : World} {A Av : Option Addr} {n cp cv m : Nat} {outs zs : List Nat} {c : Nat} (h : PaS w wr (.slice A n cp) n outs) (hg : wr.grownBy w' (Value.ownBlock (.slice A n cp))) (ho : w'.ownsRow (w.heap.size + 1) 98 1 (.slice Av (n + 1) cv) (n + 1) (u32s (outs ++ [c])))
    (hz : trimL (outs ++ [c]) = zs) (hm : zs.length = m) (hn : m ≤ n + 1) : PaS w w' (.slice Av m cv) m zs := by
  refine h.grown hg ?_
  have h1 := own_take (j := m) ho hn
  rw [u32s_take, ← hm, ← hz, ← trimL_take, hz, hm] at h1
  exact h1
theorem AtPar.start (l : List UInt16) : AtPar l 0 [] := ⟨Nat.zero_le _, by rw [List.take_zero]; exact Nat.pow_pos (by omega), rfl⟩
theorem AtPar.step {l : List UInt16} {k d c : Nat} {ms outs : List Nat} (h : AtPar l k ms) (hk : k < l.length) (hd : l[k].toNat = d + 48) (hd9 : d ≤ 9) (hm : mulGo ms d = (outs, c)) : trimL (outs ++ [c]) = limbs (decVal (l.take (k + 1))) := by
  obtain ⟨_, h2, h3⟩ := h
  subst h3
  have := limbs_step h2 hd9
  rw [hm] at this
  rw [this, decVal_take_succ l k hk, hd]
  congr 1
theorem AtPar.go {l : List UInt16} {k : Nat} {ms : List Nat} (hk : k < l.length) (hm : ms = limbs (decVal (l.take (k + 1)))) (h8 : ms.length ≤ 8) : AtPar l (k + 1) ms := by
  refine ⟨hk, ?_, hm⟩
  rcases Nat.lt_or_ge (decVal (l.take (k + 1))) big8 with h | h
  · exact h
  · have := limbs_gt h
    rw [← hm] at this
    omega
theorem AtPar.over {l : List UInt16} {k : Nat} {ms : List Nat} (hm : ms = limbs (decVal (l.take (k + 1)))) (h8 : ¬ ms.length ≤ 8) : big8 ≤ decVal l := by
  rcases Nat.lt_or_ge (decVal (l.take (k + 1))) big8 with h | h
  · have := limbs_le h
    rw [← hm] at this
    omega
  · exact Nat.le_trans h (decVal_take_le l (k + 1))
theorem AtPar.done {l : List UInt16} {ms : List Nat} (h : AtPar l l.length ms) : decVal l < big8 ∧ ms = limbs (decVal l) := by
  obtain ⟨_, h2, h3⟩ := h
  rw [List.take_length] at h2 h3
  exact ⟨h2, h3⟩
theorem PaS.drewN {w wr : World} {v : Value} {n : Nat} {ms : List Nat} (h : PaS w wr v n ms) (m : Nat) : PaS w (wr.drewN m) v n ms :=
  ⟨h.own.kept (row := none) ⟨rfl, rfl, rfl, Nat.le_refl _, fun _ _ _ => rfl⟩ (by cases hv : v.ownBlock <;> simp), h.res.grown (g := w.heap.size + 1) (grown_drewN wr _ m) (by omega), below_drewN h.below m⟩
theorem decVal_ge (l : List UInt16) (i : Nat) : decVal (l.take i) ≤ decVal l := decVal_take_le l i
end Go.Proofs.Ytbljbmeifmpfoaa
