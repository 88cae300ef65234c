/- The reader's run, at each function that it is asked with: a text as long as its units are so. Walked. -/
import Derived.Test.YtngcikgjdeomdaaLexHas
import Derived.Test.YtngcikgjdeomdaaStr
import Derived.Deep.LoopGhost
import Derived.Deep.RegionLaw
namespace Go.Proofs.Ytngcikgjdeomdaa
open Go.RowKit

section
variable {P : Program} {w0 w : World} {g : Nat} {ops : Array Oper} {o : Oper} {a : Act} {K : Act → World → Prop} {Q : Exit → Act → World → Prop} {E : Prop}
/-- append of what the operation ahead has laid, at a step of a region that draws, behind a reader that moves. -/
theorem step_litM (hgd : o.guard = none) (s x : Operand) (t : TypeId)
    (ho : o.op = .call { callee := .builtin .append, args := #[s, x], argTypes := #[t, t] })
    (e : TypeId) (i : TypeInfo) (z : Value) (bytes : Nat) (ht : P.underlying t = some (.slice e)) (hi : P.info? e = some i) (hz : i.zero = some z)
    (hsize : i.size = 1) (hby : i.bytes = bytes) (hzs : z.cells.size = 1)
    (v : Value) (xs : List Value) (hs : a.eval s = v) (hm : MadeM w0 w g e v xs)
    (cs : List Value) (m c : Nat) (hx : a.eval x = .slice (some ⟨w.heap.size, 0, none⟩) m c) (hl : cs.length = m) (h1 : (cs.all fun u => u.oneCell') = true)
    (hm0 : 0 < m) (hsz : xs.length + m ≤ 70368744177664) (hb2 : bytes ≤ 2)
    (h : ∀ v' w', MadeM w0 w' g e v' (xs ++ cs) → w.grownBy w' v.ownBlock → K (a.put o.dst v') w') :
    if Region.wanted o (yielded ops a.tmps) = true then Oper.wp P o a (w.alloc (.cells cs.toArray e)) K Q else E := by
  subst hl
  refine step_append_lies (w.alloc (.cells cs.toArray e)) hgd s x t ho w0.heap.size e i z 1 bytes ht hi hz hsize hby hzs (by omega) v xs.length xs hs (hm.own.alloc _) ⟨w.heap.size, 0, none⟩ _ c cs hx (by omega) ?_ (fun u hu => List.all_eq_true.1 h1 u hu) hm0 (by unfold maxLen; omega) ?_ (Nat.le_trans hm.grown.size (by simp)) _ rfl ?_
  · intro j u hu
    rw [Addr.add_lit, World.cell?_alloc_at _ _ _ _ rfl]
    simpa using hu
  · calc (xs.length + cs.length) * bytes ≤ 70368744177664 * 2 := Nat.mul_le_mul hsz hb2
      _ ≤ 140737488355328 := by omega
  · intro gg cap w' h1 h2 _ _
    have hgr : w.grownBy w' v.ownBlock := grown_trans (grown_alloc w _ _) h2
    refine h _ w' ⟨by rw [List.length_append]; exact h1, ⟨hgr.os.trans hm.grown.os, hgr.tape.trans hm.grown.tape, hgr.output.trans hm.grown.output, Nat.le_trans hm.grown.size hgr.size, fun k hk hne => ?_⟩⟩ hgr
    rw [hgr.block k (Nat.lt_of_lt_of_le hk hm.grown.size) (fun e => by have := (hm.own.lt k e.symm).1; omega)]
    exact hm.grown.block k hk hne
end

/-- how far the loop is -/
def AtRun (q : UInt16 → Bool) (u : List UInt16) (k p : Nat) (bs : List UInt8) : Prop := ∃ i, p = k + i ∧ bs = asc ((u.drop k).take i) ∧ (u.drop k).takeWhile q = (u.drop k).take i ++ (u.drop p).takeWhile q ∧ bs.length = i
theorem AtRun.start (q : UInt16 → Bool) (u : List UInt16) (k : Nat) : AtRun q u k k [] := ⟨0, rfl, rfl, by simp, rfl⟩
theorem AtRun.step {q : UInt16 → Bool} {u : List UInt16} {k p : Nat} {bs : List UInt8} (h : AtRun q u k p bs) (hp : p < u.length) (h1 : q u[p] = true) : AtRun q u k (p + 1) (bs ++ [u[p].toUInt8]) := by
  obtain ⟨i, hi, hb, he, hl⟩ := h
  have hik : i < (u.drop k).length := by rw [List.length_drop]; omega
  have hx : (u.drop k)[i] = u[p] := by rw [List.getElem_drop]; congr 1; omega
  have ht : (u.drop k).take (i + 1) = (u.drop k).take i ++ [u[p]] := by rw [List.take_succ_eq_append_getElem hik, hx]
  refine ⟨i + 1, by omega, ?_, ?_, by simp [hl]⟩
  · rw [ht, hb]; simp [asc]
  · rw [he, ht, List.drop_eq_getElem_cons hp, List.takeWhile_cons_of_pos h1, List.append_assoc]; rfl
theorem AtRun.stop {q : UInt16 → Bool} {u : List UInt16} {k p : Nat} {bs : List UInt8} (h : AtRun q u k p bs) (h1 : isAt 0 q (u.drop p) = false) : bs = asc ((u.drop k).takeWhile q) ∧ p = k + ((u.drop k).takeWhile q).length := by
  obtain ⟨i, hi, hb, he, hl⟩ := h
  have h0 : (u.drop p).takeWhile q = [] := by
    cases hd : u.drop p with
    | nil => rfl
    | cons x r =>
      rw [hd] at h1
      rw [List.takeWhile_cons_of_neg]
      intro h2
      have : isAt 0 q (x :: r) = q x := rfl
      rw [this, h2] at h1
      cases h1
  rw [h0, List.append_nil] at he
  have hl2 := congrArg List.length hb
  rw [he]
  refine ⟨hb, ?_⟩
  simp only [asc, List.length_map] at hl2
  omega
theorem asc_cell (x : UInt16) : u8v x.toUInt8 = .int .u8 (IntKind.u8.wrap (x.toNat : Int)) := by
  unfold u8v
  rw [IntKind.wrap_u8]
  congr 1
theorem isAt0 {u : List UInt16} {p : Nat} {q : UInt16 → Bool} (h : p < u.length) : isAt 0 q (u.drop p) = q u[p] := by
  have := isAt_in (u := u) (k := p) (j := 0) (p := q) (by omega)
  simpa using this
theorem isAt0_out {u : List UInt16} {p : Nat} {q : UInt16 → Bool} (h : ¬ p < u.length) : isAt 0 q (u.drop p) = false := isAt_out (by omega)

set_option maxHeartbeats 2000000 in
set_option maxRecDepth 100000 in
theorem lrun_digit {A : Option Addr} {c g B k n : Nat} {u : List UInt16} {w : World} (hr : Rd w g A n c k) (hn : u.length = n) (ha : Reads w B 1 A n (u16s u)) (hB : B ≤ g) (hk : k ≤ n) (hl : n ≤ 4096) {l : List UInt16} (hq : (u.drop k).takeWhile isDigit = l) :
    Calls Try.prog 60 #[.pointer (some ⟨g, 0, none⟩), .func (.func 45) #[] #[]] w fun e w' => e = .returned (.string ⟨(asc l).toArray⟩) ∧ Mv w w' g A n c (k + l.length) := by
  subst hn
  obtain ⟨i0, hi0, hz0, hz1, hz2⟩ := info_parts Try.info_u8
  have HQ := hide hq
  have HA := hide ha
  have hg := hr.lt
  have hM0 := hide (Mv.refl hr)
  clear hq ha hr
  go_enter Try.func60, Try.ntmps60
  go_wp2
  go_loopg [5] (u.length - k) (fun r v wr => ∃ p bs, p + r = u.length ∧ Hid (Mv w wr g A u.length c p) ∧ Hid (AtRun isDigit u k p bs) ∧ MadeM w wr g 5 v (u8s bs))
  case atStart => exact ⟨k, [], by omega, hM0, AtRun.start _ _ _, MadeM.nil (World.grownBy.refl w _) _⟩
  case round =>
    obtain ⟨p, bs, hpr, hM, hat, hm⟩ := hrel
    have har := hide (HA.out.grown hM.out.grown hB (Nat.le_of_lt hg))
    have hbl : bs.length ≤ p := by obtain ⟨i, hi, _, _, hl⟩ := hat.out; omega
    by_cases hlt : p < u.length
    · have hlt2 : (p : Int) < (u.length : Int) := by omega
      cases hqx : isDigit u[p] with
      | true =>
        have HI := hide (show isAt 0 isDigit (u.drop p) = true by rw [isAt0 hlt]; exact hqx)
        have hsp := hide (hat.out.step hlt hqx)
        go_wp2_with fail
        refine (lis_digit (j := 0) hM.out.rd rfl har.out (by omega) hl (by omega) HI.out).mono ?_
        rintro e1 w1 ⟨rfl, m1, hw1⟩
        subst hw1
        have hM1 := hide (hM.out.drewN m1)
        have hc0 := hM.out.rd.c0
        have hc1 := hM.out.rd.c1
        obtain ⟨blk, off, rfl, _, hcell⟩ := har.out.spotL (by omega)
        have hca := hcell p hlt
        have hx := u[p].toNat_lt
        have hm0 := hide hm
        have HC := hide (show u8s [u[p].toUInt8] = [.int .u8 (IntKind.u8.wrap (u[p].toNat : Int))] by rw [u8s, List.map_cons, asc_cell]; rfl)
        obtain ⟨x, hxx⟩ : ∃ x, u[p].toNat = x := ⟨_, rfl⟩
        rw [hxx] at hca hx
        rw [hxx] at HC
        clear hcell hxx hm
        go_wp2_with fail
        go_region_law (first | (refine step_litM rfl _ _ 63 rfl 5 i0 _ 1 Try.underlying63 hi0 hz0 hz1 hz2 rfl _ _ rfl (hm0.out.go hg (grown_drewN wr (some g) (m1 + 1))) [.int .u8 (IntKind.u8.wrap (x : Int))] 1 1 rfl rfl rfl (by omega) (by rw [u8s_len]; omega) (by omega) ?_; intro v' w' hm' hgr))
        all_goals have hrd := hide (Rd.appended (hM.out.rd.drewN (m1 + 1)) (hm0.out.go hg (grown_drewN wr (some g) (m1 + 1))) hg hgr)
        all_goals have hc2 := hrd.out.c1
        all_goals have hf2 := hrd.out.f1
        all_goals go_wp2
        all_goals go_roundg (gk - 1)
        all_goals first
          | omega
          | exact ⟨p + 1, _, by omega, ⟨hrd.out.setI (by omega), grown_trans hm'.grown (grown_set w' g 1 _)⟩, hsp, (hm'.go hg (grown_set w' g 1 _)).cells (by rw [← HC.out]; simp [u8s])⟩
      | false =>
        have HI := hide (show isAt 0 isDigit (u.drop p) = false by rw [isAt0 hlt]; exact hqx)
        have hst := hide (hat.out.stop HI.out)
        go_wp2_with fail
        refine (lis_digit (j := 0) hM.out.rd rfl har.out (by omega) hl (by omega) HI.out).mono ?_
        rintro e1 w1 ⟨rfl, m1, hw1⟩
        subst hw1
        obtain ⟨A', c', rfl, _, _, hr8⟩ := (hm.go hg (grown_drewN wr (some g) m1)).u8
        have hstr := run_str (c := c') hr8
        go_wp2
        go_ret
        obtain ⟨z1, z2⟩ := hst.out
        rw [HQ.out] at z1 z2
        exact ⟨by rw [z1]; rfl, by rw [← z2]; exact hM.out.drewN m1⟩
    · have HI := hide (show isAt 0 isDigit (u.drop p) = false from isAt0_out hlt)
      have hst := hide (hat.out.stop HI.out)
      go_wp2_with fail
      refine (lis_digit (j := 0) hM.out.rd rfl har.out (by omega) hl (by omega) HI.out).mono ?_
      rintro e1 w1 ⟨rfl, m1, hw1⟩
      subst hw1
      obtain ⟨A', c', rfl, _, _, hr8⟩ := (hm.go hg (grown_drewN wr (some g) m1)).u8
      have hstr := run_str (c := c') hr8
      go_wp2
      go_ret
      obtain ⟨z1, z2⟩ := hst.out
      rw [HQ.out] at z1 z2
      exact ⟨by rw [z1]; rfl, by rw [← z2]; exact hM.out.drewN m1⟩
set_option maxHeartbeats 2000000 in
set_option maxRecDepth 100000 in
theorem lrun_run {A : Option Addr} {c g B k n : Nat} {u : List UInt16} {w : World} (hr : Rd w g A n c k) (hn : u.length = n) (ha : Reads w B 1 A n (u16s u)) (hB : B ≤ g) (hk : k ≤ n) (hl : n ≤ 4096) {l : List UInt16} (hq : (u.drop k).takeWhile isRun = l) :
    Calls Try.prog 60 #[.pointer (some ⟨g, 0, none⟩), .func (.func 61) #[] #[]] w fun e w' => e = .returned (.string ⟨(asc l).toArray⟩) ∧ Mv w w' g A n c (k + l.length) := by
  subst hn
  obtain ⟨i0, hi0, hz0, hz1, hz2⟩ := info_parts Try.info_u8
  have HQ := hide hq
  have HA := hide ha
  have hg := hr.lt
  have hM0 := hide (Mv.refl hr)
  clear hq ha hr
  go_enter Try.func60, Try.ntmps60
  go_wp2
  go_loopg [5] (u.length - k) (fun r v wr => ∃ p bs, p + r = u.length ∧ Hid (Mv w wr g A u.length c p) ∧ Hid (AtRun isRun u k p bs) ∧ MadeM w wr g 5 v (u8s bs))
  case atStart => exact ⟨k, [], by omega, hM0, AtRun.start _ _ _, MadeM.nil (World.grownBy.refl w _) _⟩
  case round =>
    obtain ⟨p, bs, hpr, hM, hat, hm⟩ := hrel
    have har := hide (HA.out.grown hM.out.grown hB (Nat.le_of_lt hg))
    have hbl : bs.length ≤ p := by obtain ⟨i, hi, _, _, hl⟩ := hat.out; omega
    by_cases hlt : p < u.length
    · have hlt2 : (p : Int) < (u.length : Int) := by omega
      cases hqx : isRun u[p] with
      | true =>
        have HI := hide (show isAt 0 isRun (u.drop p) = true by rw [isAt0 hlt]; exact hqx)
        have hsp := hide (hat.out.step hlt hqx)
        go_wp2_with fail
        refine (lis_run (j := 0) hM.out.rd rfl har.out (by omega) hl (by omega) HI.out).mono ?_
        rintro e1 w1 ⟨rfl, m1, hw1⟩
        subst hw1
        have hM1 := hide (hM.out.drewN m1)
        have hc0 := hM.out.rd.c0
        have hc1 := hM.out.rd.c1
        obtain ⟨blk, off, rfl, _, hcell⟩ := har.out.spotL (by omega)
        have hca := hcell p hlt
        have hx := u[p].toNat_lt
        have hm0 := hide hm
        have HC := hide (show u8s [u[p].toUInt8] = [.int .u8 (IntKind.u8.wrap (u[p].toNat : Int))] by rw [u8s, List.map_cons, asc_cell]; rfl)
        obtain ⟨x, hxx⟩ : ∃ x, u[p].toNat = x := ⟨_, rfl⟩
        rw [hxx] at hca hx
        rw [hxx] at HC
        clear hcell hxx hm
        go_wp2_with fail
        go_region_law (first | (refine step_litM rfl _ _ 63 rfl 5 i0 _ 1 Try.underlying63 hi0 hz0 hz1 hz2 rfl _ _ rfl (hm0.out.go hg (grown_drewN wr (some g) (m1 + 1))) [.int .u8 (IntKind.u8.wrap (x : Int))] 1 1 rfl rfl rfl (by omega) (by rw [u8s_len]; omega) (by omega) ?_; intro v' w' hm' hgr))
        all_goals have hrd := hide (Rd.appended (hM.out.rd.drewN (m1 + 1)) (hm0.out.go hg (grown_drewN wr (some g) (m1 + 1))) hg hgr)
        all_goals have hc2 := hrd.out.c1
        all_goals have hf2 := hrd.out.f1
        all_goals go_wp2
        all_goals go_roundg (gk - 1)
        all_goals first
          | omega
          | exact ⟨p + 1, _, by omega, ⟨hrd.out.setI (by omega), grown_trans hm'.grown (grown_set w' g 1 _)⟩, hsp, (hm'.go hg (grown_set w' g 1 _)).cells (by rw [← HC.out]; simp [u8s])⟩
      | false =>
        have HI := hide (show isAt 0 isRun (u.drop p) = false by rw [isAt0 hlt]; exact hqx)
        have hst := hide (hat.out.stop HI.out)
        go_wp2_with fail
        refine (lis_run (j := 0) hM.out.rd rfl har.out (by omega) hl (by omega) HI.out).mono ?_
        rintro e1 w1 ⟨rfl, m1, hw1⟩
        subst hw1
        obtain ⟨A', c', rfl, _, _, hr8⟩ := (hm.go hg (grown_drewN wr (some g) m1)).u8
        have hstr := run_str (c := c') hr8
        go_wp2
        go_ret
        obtain ⟨z1, z2⟩ := hst.out
        rw [HQ.out] at z1 z2
        exact ⟨by rw [z1]; rfl, by rw [← z2]; exact hM.out.drewN m1⟩
    · have HI := hide (show isAt 0 isRun (u.drop p) = false from isAt0_out hlt)
      have hst := hide (hat.out.stop HI.out)
      go_wp2_with fail
      refine (lis_run (j := 0) hM.out.rd rfl har.out (by omega) hl (by omega) HI.out).mono ?_
      rintro e1 w1 ⟨rfl, m1, hw1⟩
      subst hw1
      obtain ⟨A', c', rfl, _, _, hr8⟩ := (hm.go hg (grown_drewN wr (some g) m1)).u8
      have hstr := run_str (c := c') hr8
      go_wp2
      go_ret
      obtain ⟨z1, z2⟩ := hst.out
      rw [HQ.out] at z1 z2
      exact ⟨by rw [z1]; rfl, by rw [← z2]; exact hM.out.drewN m1⟩
end Go.Proofs.Ytngcikgjdeomdaa
