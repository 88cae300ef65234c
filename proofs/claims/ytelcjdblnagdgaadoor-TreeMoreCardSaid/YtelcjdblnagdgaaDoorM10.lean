/- Joined for a claim: TPut, TNum, TPr0, TPr1, TPr5, TPr3. -/
import Derived.Test.YtelcjdblnagdgaaDoorM09
import Derived.Test.YtelcjdblnagdgaaDoorM02
import Derived.Deep.RegionLaw
import Derived.Test.YtelcjdblnagdgaaDoorShelf
import Derived.Test.YtelcjdblnagdgaaDoorM08
import Derived.Lib.AppendIntMem
import Derived.Deep.CutBlock
import Derived.Deep.DeepCutAuto
namespace Go.Proofs.YtelcjdblnagdgaaDoor
open Go.RowKit

/-- What is as it was while a printer in block g, whose units are v, goes on. -/
structure Pk (g : Nat) (w w' : World) (v v' : Value) : Prop where
  os : w'.os = w.os
  tape : w'.tape = w.tape
  output : w'.output = w.output
  size : w.heap.size ≤ w'.heap.size
  block : ∀ i, i < w.heap.size → i ≠ g → v.ownBlock ≠ some i → w'.heap[i]? = w.heap[i]?
  own : v'.ownBlock = v.ownBlock ∨ ∃ r, v'.ownBlock = some r ∧ w.heap.size ≤ r
section
variable {g : Nat} {w w' w'' : World} {v v' v'' : Value}
theorem Pk.refl (g : Nat) (w : World) (v : Value) : Pk g w w v v := ⟨rfl, rfl, rfl, Nat.le_refl _, fun _ _ _ _ => rfl, .inl rfl⟩
theorem Pk.trans (h : Pk g w w' v v') (k : Pk g w' w'' v' v'') : Pk g w w'' v v'' :=
  ⟨k.os.trans h.os, k.tape.trans h.tape, k.output.trans h.output, Nat.le_trans h.size k.size, fun i hi hg hne => (k.block i (Nat.lt_of_lt_of_le hi h.size) hg (by
    rcases h.own with e | ⟨r, e, hr⟩
    · rw [e]; exact hne
    · rw [e]; intro e2; injection e2 with e2; omega)).trans (h.block i hi hg hne), by
    rcases k.own with e | ⟨r, e, hr⟩
    · rcases h.own with e2 | ⟨r, e2, hr⟩
      · exact .inl (e.trans e2)
      · exact .inr ⟨r, e.trans e2, hr⟩
    · exact .inr ⟨r, e, Nat.le_trans h.size hr⟩⟩
theorem Pk.of_kept (h : Kept w w' v v') : Pk g w w' v v' := ⟨h.os, h.tape, h.output, h.size, fun i hi _ hne => h.block i hi hne, h.own⟩
theorem Pk.of_below (h : Below w.heap.size w w') : Pk g w w' v v := ⟨h.os, h.tape, h.output, h.size, fun i hi _ _ => h.block i hi, .inl rfl⟩
theorem Pk.set (h : Pk g w w' v v') (j : Nat) (z : Value) : Pk g w (w'.setCell ⟨g, j, none⟩ z) v v' :=
  ⟨h.os, h.tape, h.output, by have := h.size; simpa using this, fun i hi hg hne => (Below.heap_setCell _ _ _ _ hg).trans (h.block i hi hg hne), h.own⟩
theorem Pk.cell (h : Pk g w w' v v') {p : Addr} (hp : p.block < w.heap.size) (hg : p.block ≠ g) (hne : v.ownBlock ≠ some p.block) : w'.cell? p = w.cell? p := World.cell?_of_block (h.block p.block hp hg hne)
theorem Pk.apart (h : Pk g w w' v v') {i : Nat} (hi : i < w.heap.size) (hne : v.ownBlock ≠ some i) : v'.ownBlock ≠ some i := by
  rcases h.own with e | ⟨r, e, hr⟩
  · rw [e]; exact hne
  · rw [e]; intro e2; injection e2 with e2; omega
theorem Pk.below {B : Nat} (h : Pk g w w' v v') (hB : ∀ i, v.ownBlock = some i → B ≤ i) (hg : B ≤ g) (hs : B ≤ w.heap.size) : Below B w w' :=
  ⟨h.os, h.tape, h.output, h.size, fun i hi => h.block i (by omega) (by omega) (fun e => by have := hB i e; omega)⟩
end
/-- A printer in block g over the nodes at A: its units us are the slice v, in blocks from base on. -/
structure Pn (w : World) (base g : Nat) (A : Option Addr) (n c : Nat) (us : List UInt16) (v : Value) : Prop where
  c0 : w.cell? ⟨g, 0, none⟩ = some (.slice A n c)
  c1 : w.cell? ⟨g, 1, none⟩ = some v
  f1 : w.frozen? ⟨g, 1, none⟩ = false
  own : w.ownsRow base 34 1 v us.length (u16s us)
  gb : g < base
section
variable {w w' : World} {base g n c : Nat} {A : Option Addr} {us us' : List UInt16} {v v' : Value}
theorem Pn.lt (h : Pn w base g A n c us v) : g < w.heap.size := World.block_lt_of_cell? w _ h.c0
theorem Pn.ne (h : Pn w base g A n c us v) : v.ownBlock ≠ some g := fun e => by have := (h.own.lt g e).1; have := h.gb; omega
theorem Pn.ge (h : Pn w base g A n c us v) : ∀ i, v.ownBlock = some i → base ≤ i := own_ge h.own
/-- behind what leaves all that was there as it was -/
theorem Pn.below (h : Pn w base g A n c us v) (hb : Below w.heap.size w w') : Pn w' base g A n c us v :=
  ⟨(hb.cell (p := ⟨g, 0, none⟩) h.lt).trans h.c0, (hb.cell (p := ⟨g, 1, none⟩) h.lt).trans h.c1, (hb.frozen (p := ⟨g, 1, none⟩) h.lt).trans h.f1, own_below h.own hb, h.gb⟩
theorem Pn.alloc (h : Pn w base g A n c us v) (o : Obj) : Pn (w.alloc o) base g A n c us v := h.below ((Below.refl _ _).alloc (Nat.le_refl _) _)
theorem Pn.drew (h : Pn w base g A n c us v) : Pn w.drew base g A n c us v := h.below ((Below.refl _ _).drew)
/-- behind an append onto its units, the new slice not laid yet -/
theorem Pn.cells (h : Pn w base g A n c us v) (hk : Kept w w' v v') : w'.cell? ⟨g, 0, none⟩ = some (.slice A n c) ∧ w'.cell? ⟨g, 1, none⟩ = some v ∧ w'.frozen? ⟨g, 1, none⟩ = false :=
  ⟨(hk.cell (p := ⟨g, 0, none⟩) h.lt h.ne).trans h.c0, (hk.cell (p := ⟨g, 1, none⟩) h.lt h.ne).trans h.c1, (hk.frozen (p := ⟨g, 1, none⟩) h.lt h.ne).trans h.f1⟩
theorem Pn.put (h : Pn w base g A n c us v) (hk : Kept w w' v v') (ho : w'.ownsRow base 34 1 v' us'.length (u16s us')) : Pn (w'.setCell ⟨g, 1, none⟩ v') base g A n c us' v' := by
  obtain ⟨h0, h1, h2⟩ := h.cells hk
  exact ⟨by go_simp, by go_simp, by go_simp, own_grown ho (grown_set w' g 1 v') h.gb, h.gb⟩
end
section
variable {P : Program} {w : World} {ops : Array Oper} {o : Oper} {a : Act} {K : Act → World → Prop} {Q : Exit → Act → World → Prop} {E : Prop}
/-- append at a step of a region that draws: what is kept. -/
theorem step_appK (hgd : o.guard = none) (s x : Operand) (t : TypeId)
    (ho : o.op = .call { callee := .builtin .append, args := #[s, x], argTypes := #[t, t] })
    (base : Nat) (e : TypeId) (i : TypeInfo) (z : Value) (bytes : Nat) (ht : P.underlying t = some (.slice e)) (hi : P.info? e = some i) (hz : i.zero = some z)
    (hsize : i.size = 1) (hby : i.bytes = bytes) (hzs : z.cells.size = 1)
    (v : Value) (n : Nat) (xs : List Value) (hs : a.eval s = v) (hown : w.ownsRow base e 1 v n xs) (hbase : base ≤ w.heap.size)
    (ad : Addr) (m c : Nat) (news : List Value) (hx : a.eval x = .slice (some ad) m c) (hl : news.length = m) (hnews : ∀ j u, news[j]? = some u → w.cell? (ad.add j) = some u) (h1 : ∀ u ∈ news, u.oneCell' = true)
    (hm : 0 < m) (hsz : n + m ≤ 1099511627776) (hb2 : bytes ≤ 128)
    (h : ∀ v' w', w'.ownsRow base e 1 v' (n + m) (xs ++ news) → Kept w w' v v' → K (a.put o.dst v') w') :
    if Region.wanted o (yielded ops a.tmps) = true then Oper.wp P o a w K Q else E := by
  refine step_append_lies w hgd s x t ho base e i z 1 bytes ht hi hz hsize hby hzs (by omega) v n xs hs hown ad m c news hx (by omega) hnews h1 hm (by unfold maxLen; omega) ?_ hbase _ rfl ?_
  · calc (n + m) * bytes ≤ 1099511627776 * 128 := Nat.mul_le_mul hsz hb2
      _ ≤ 140737488355328 := by omega
  · intro gg cap w' h2 h3 h4 _
    refine h _ w' h2 ⟨h3.os, h3.tape, h3.output, h3.size, fun k hk hne => h3.block k hk (fun e => hne e.symm), ?_⟩
    rcases h4 with e | e
    · exact .inl e.symm
    · exact .inr ⟨gg, rfl, by omega⟩
end
theorem tascii_l (x : List UInt8) (hs : x.length ≤ 1000000000) (w : World) :
    Calls Tryd.prog 21 #[.string ⟨x.toArray⟩] w fun e w' => ∃ A c, e = .returned (.slice A x.length c) ∧ Reads w' w'.heap.size 1 A x.length (u16s (ascii x)) ∧ Below w.heap.size w w' := by
  refine (ascii_any ⟨x.toArray⟩ w (by show x.toArray.size ≤ _; simp; omega)).mono ?_
  rintro e w' ⟨v, rfl, hm⟩
  obtain ⟨A, c, rfl, h1, h2, hr⟩ := hm.u16
  have hl : (ascii (⟨x.toArray⟩ : ByteArray).data.toList).length = x.length := by simp [ascii]
  rw [hl] at hr ⊢
  exact ⟨A, c, rfl, hr, hm.below⟩
/-- tokens that may be put -/
def MayPut (us : List UInt16) (tks : Tks) : Prop := (∀ s ∈ tks, s ≠ []) ∧ us.length + tlen tks ≤ 1000000000
theorem tlen_ge : ∀ (t : Tks), t.length ≤ tlen t := by
  intro t
  induction t with
  | nil => exact Nat.zero_le _
  | cons s r ih => simp only [List.length_cons, tlen]; omega
theorem MayPut.app {us : List UInt16} {a b : Tks} (h : MayPut us (a ++ b)) : MayPut us a ∧ MayPut (putA us a) b := by
  have h1 := h.2
  rw [tlen_app] at h1
  have h2 := putA_len a us
  exact ⟨⟨fun s hs => h.1 s (List.mem_append_left _ hs), by omega⟩, ⟨fun s hs => h.1 s (List.mem_append_right _ hs), by omega⟩⟩
/-- what a call that prints tokens comes to -/
def PutP (w : World) (base g : Nat) (A : Option Addr) (n c : Nat) (us : List UInt16) (v : Value) (tks : Tks) (e : Ending) (w' : World) : Prop :=
  e = .returned (.tuple #[]) ∧ ∃ v', Pn w' base g A n c (putA us tks) v' ∧ Pk g w w' v v'
set_option maxHeartbeats 8000000 in
set_option maxRecDepth 100000 in
theorem put_any {base g n c m cl X ol : Nat} {A : Option Addr} {us : List UInt16} {v : Value} {tks : Tks} {w : World} (hp : Pn w base g A n c us v) (hb : base ≤ w.heap.size) (hn : tks.length = m)
    (hc : ∀ (j : Nat) (s : List UInt8), tks[j]? = some s → w.cell? ⟨X, ol + j, none⟩ = some (.string ⟨s.toArray⟩)) (hX : X < w.heap.size) (hXg : X ≠ g) (hXv : v.ownBlock ≠ some X) (hm : MayPut us tks) :
    Calls Tryd.prog 59 #[.pointer (some ⟨g, 0, none⟩), .slice (some ⟨X, ol, none⟩) m cl] w (PutP w base g A n c us v tks) := by
  have HP := hide hp
  have HB := hide hb
  have HN := hide hn
  have HC := hide hc
  have HM := hide hm
  have HXV := hide hXv
  have hm9 : m ≤ 1000000000 := by have h1 := tlen_ge tks; have h2 := hm.2; omega
  clear hp hn hc hm hXv
  go_enter Tryd.func59, Tryd.ntmps59
  obtain ⟨i0, hi, hz0, hz1, hz2⟩ := info_parts Tryd.info_u16
  have HI := hide (And.intro hi (And.intro hz0 (And.intro hz1 hz2)))
  clear hi hz0 hz1 hz2
  go_wp2_with fail
  go_loopw [8] (fun i wr => ∃ (k : Nat) (vr : Value), k ≤ m ∧ i = .int .i64 k ∧ Hid (Pn wr base g A n c (putA us (tks.take k)) vr) ∧ Hid (Pk g w wr v vr)) (fun i _ => m - (intOf i).toNat)
  case atStart => exact ⟨0, v, Nat.zero_le _, rfl, HP.out, Pk.refl g w v⟩
  case round =>
    obtain ⟨k, vr, hk, rfl, hpr, hkr⟩ := hrel
    by_cases hlt : k < m
    · have hkt : k < tks.length := by rw [HN.out]; exact hlt
      obtain ⟨s, hs⟩ : ∃ s, tks[k]? = some s := ⟨_, List.getElem?_eq_getElem hkt⟩
      have hcs := (hkr.out.cell (p := ⟨X, ol + k, none⟩) hX hXg HXV.out).trans (HC.out k s hs)
      have htk := hide (show tks.take (k + 1) = tks.take k ++ [s] by rw [List.take_add_one, hs]; rfl)
      have hsne : s ≠ [] := HM.out.1 s (List.mem_of_getElem? hs)
      have hlen : (putA us (tks.take k)).length + (s.length + 1) ≤ 1000000000 := by
        have h1 := HM.out.2
        have e : tks = tks.take k ++ (s :: tks.drop (k + 1)) := by
          have := (List.getElem?_eq_some_iff.1 hs).2
          rw [← this, ← List.drop_eq_getElem_cons hkt, List.take_append_drop]
        rw [e, tlen_app] at h1
        have h2 := putA_len (tks.take k) us
        have h3 : tlen (s :: tks.drop (k + 1)) = s.length + 1 + tlen (tks.drop (k + 1)) := rfl
        omega
      have hs0 : 0 < s.length := List.length_pos_iff.2 hsne
      obtain ⟨ur, hur⟩ : ∃ ur, putA us (tks.take k) = ur := ⟨_, rfl⟩
      rw [hur] at hpr hlen
      have HUR := hide hur
      have hc1 := hpr.out.c1
      have hf1 := hpr.out.f1
      have hgw := hpr.out.lt
      have hbr : base ≤ wr.heap.size := Nat.le_trans hb hkr.out.size
      obtain ⟨Av, cv, hv, hcv, _⟩ := own_shape hpr.out.own
      subst hv
      clear hs hsne hur hkt
      go_upto_if 17 with (fail)
      go_cut [5] (fun v5 wx => v5 = .string ⟨s.toArray⟩ ∧ ∃ vx, Hid (Pn wx base g A n c (if ur = [] then [] else ur ++ [32]) vx) ∧ Hid (Pk g w wx v vx))
      case first =>
        by_cases hu0 : ur = []
        · subst hu0
          go_wp2_with fail
          go_meet
          exact ⟨rfl, _, hpr.out, hkr.out⟩
        · have hu1 : 0 < ur.length := List.length_pos_iff.2 hu0
          have e1 : (0 : Int) < (ur.length : Int) := by omega
          have e2 : decide ((0 : Int) < (ur.length : Int)) = true := decide_eq_true e1
          have e3 : decide (0 < ur.length) = true := decide_eq_true hu1
          have HU := hide hu0
          obtain ⟨hi, hz0, hz1, hz2⟩ := HI.out
          clear hu0
          go_wp2_with (at_builtin; refine wpList_litK rfl _ _ 30 rfl base 34 i0 (.int .u16 0) 1 2 Tryd.underlying30 hi hz0 hz1 hz2 rfl (by decide) (.slice Av ur.length cv) _ _ rfl (by exact hpr.out.own) hbr [.int .u16 32] 1 1 rfl rfl rfl (by omega) (by decide) ?_; intro v' w' ho' hk'; obtain ⟨hcA, hcB, hcC⟩ := hpr.out.cells hk'; obtain ⟨Aw, cw, rfl, _, _⟩ := own_shape ho')
          go_meet
          refine ⟨rfl, _, ?_, hkr.out.trans ((Pk.of_kept hk').set 1 _)⟩
          rw [if_neg HU.out]
          have e : u16s ur ++ [Value.int .u16 32] = u16s (ur ++ [32]) := by simp [u16s, u16v]
          rw [e] at ho'
          exact hpr.out.put hk' (by rw [List.length_append]; exact ho')
      case rest =>
        obtain ⟨rfl, vx, hpx, hkx⟩ := hcut
        clear hc1 hf1 hcs hpr hkr hgw hbr
        obtain ⟨ux, hux⟩ : ∃ ux, (if ur = [] then [] else ur ++ [32]) = ux := ⟨_, rfl⟩
        have hlx : ux.length + s.length ≤ 1000000000 := by
          rw [← hux]
          split
          · simp; omega
          · rw [List.length_append, List.length_singleton]; omega
        rw [hux] at hpx
        have HUX := hide hux
        clear hux hlen
        have hc1 := hpx.out.c1
        have hf1 := hpx.out.f1
        have hgw := hpx.out.lt
        have hbx : base ≤ wc.heap.size := Nat.le_trans hb hkx.out.size
        have CA := hide (tascii_l s (by omega) wc.drew)
        obtain ⟨hi, hz0, hz1, hz2⟩ := HI.out
        go_wp2_with fail
        go_region_law (first | (go_simp; go_at_call 21; refine CA.out.mono ?_; rintro e3 w3 ⟨AA, cA, rfl, hr3, hb3⟩; have hp3 := hide (hpx.out.drew.below hb3); have hc3 := hp3.out.c1; obtain ⟨bA, oA, hAA, _, hnw⟩ := hr3.spotR hs0; subst hAA) | (refine step_appK rfl _ _ 30 rfl base 34 i0 (.int .u16 0) 2 Tryd.underlying30 hi hz0 hz1 hz2 rfl vx ux.length (u16s ux) rfl (by exact hp3.out.own) (Nat.le_trans hbx hb3.size) ⟨bA, oA, none⟩ s.length cA (u16s (ascii s)) rfl (by simp [u16s, ascii]) (fun j u hu => by rw [Addr.add_lit]; exact hnw j u hu) (u16s_one _) hs0 (by omega) (by decide) ?_; intro v' w' ho' hk'; obtain ⟨hcA, hcB, hcC⟩ := hp3.out.cells hk'; obtain ⟨Aw, cw, rfl, _, _⟩ := own_shape ho'))
        all_goals go_wp2_with fail
        all_goals go_roundw
        all_goals first
          | (simp [intOf]; omega)
          | (refine ⟨k + 1, _, by omega, by go_num, ?_, hkx.out.trans ((Pk.of_below (below_dr hb3)).trans ((Pk.of_kept hk').set 1 _))⟩
             have e : putA us (tks.take (k + 1)) = ux ++ ascii s := by
               rw [htk.out, putA_app, HUR.out]
               show putU ur s = _
               unfold putU
               rw [HUX.out]
             rw [e]
             refine hp3.out.put hk' ?_
             have e2 : u16s ux ++ u16s (ascii s) = u16s (ux ++ ascii s) := by simp [u16s]
             have e3 : ux.length + s.length = (ux ++ ascii s).length := by simp [ascii]
             rw [e2] at ho'
             rw [← e3]
             exact ho')
    · obtain rfl : m = k := by omega
      have htk := hide (show tks.take m = tks from List.take_of_length_le (by rw [HN.out]; omega))
      go_wp2_with fail
      refine bodyPost_ret (v := .tuple #[]) (by simp [results, Tryd.results59, go_sem]) rfl ?_
      refine ⟨rfl, vr, ?_, hkr.out⟩
      have := hpr.out
      rw [htk.out] at this
      exact this
end Go.Proofs.YtelcjdblnagdgaaDoor

namespace Go.Proofs.YtelcjdblnagdgaaDoor
open Go.RowKit

theorem decDigits_decS (n : Nat) : Lib.decDigits n = decS n := by
  induction n using Nat.strongRecOn with
  | _ n ih =>
    by_cases h : n < 10
    · rw [Lib.decDigits, dif_pos h, decS_lo h]; rfl
    · rw [Lib.decDigits, dif_neg h, decS_hi h, ih _ (by omega)]; rfl
theorem itoa_nat (n : Int) (h : 0 ≤ n) : Lib.itoa n = decS n.toNat := by
  unfold Lib.itoa
  rw [if_neg (by omega), decDigits_decS]
/-- the table that a number's text is made with -/
def Tab (w : World) : Prop := Lib.TabIs Tryd.prog w "internal/strconv.uint64pow10" .u64 Lib.pow10Tab
theorem gPow : Tryd.prog.globalNamed "internal/strconv.uint64pow10" = some 0 := by kernel_rfl
theorem Tab.below {B : Nat} {w w' : World} (h : Tab w) (hg : 0 < B) (hb : Below B w w') : Tab w' := by
  unfold Tab Lib.TabIs World.var? at h ⊢
  rw [gPow] at h ⊢
  simp only [Option.bind_some] at h ⊢
  rw [hb.block _ hg]
  exact h
theorem Tab.lt {w : World} (h : Tab w) : 0 < w.heap.size := by
  unfold Tab Lib.TabIs World.var? at h
  rw [gPow] at h
  simp only [Option.bind_some] at h
  rcases Nat.lt_or_ge 0 w.heap.size with h' | h'
  · exact h'
  · rw [Array.getElem?_eq_none h'] at h; cases h
theorem itoa_any {n : Int} (h0 : 0 ≤ n) (h1 : n ≤ 9007199254740991) {w : World} (ht : Tab w) :
    Calls Tryd.prog 80 #[.int .i64 n] w fun e w' => e = .returned (.string ⟨(decS n.toNat).toArray⟩) ∧ Below w.heap.size w w' := by
  refine (Tryd.strconv_Itoa n (by omega) (by omega) w ht).mono ?_
  rintro e w' ⟨rfl, k, os, rfl⟩
  exact ⟨by rw [itoa_nat n h0], Go.Lib.below_grow _ w (Nat.le_refl _) k os⟩
theorem nmay_eq (n : Int) (w : World) (h0 : 0 ≤ n) (h1 : n ≤ 9007199254740991) : Calls Tryd.prog 39 #[.agg #[.int .i64 0, .int .i64 n]] w fun e w' => e = .returned (.bool true) ∧ w' = w.alloc (.cells #[.int .i64 0, .int .i64 n] 37) := by
  have h2 : decide ((-9007199254740991 : Int) ≤ n) = true := decide_eq_true (by omega)
  have h3 : decide (n ≤ (9007199254740991 : Int)) = true := decide_eq_true h1
  go_enter Tryd.func39, Tryd.ntmps39
  go_wp2
  all_goals go_ret
  all_goals exact ⟨rfl, rfl⟩
set_option maxRecDepth 100000 in
theorem nas_any (n : Int) (w : World) (h0 : 0 ≤ n) (h1 : n ≤ 9007199254740991) :
    Calls Tryd.prog 79 #[.agg #[.int .i64 0, .int .i64 n]] w fun e w' => e = .returned (.agg #[.int .i64 0, .int .i64 n]) ∧ w' = ((w.alloc (.cells #[.int .i64 0, .int .i64 n] 37)).alloc (.cells #[.int .i64 0, .int .i64 n] 37)).alloc (.cells #[.int .i64 0, .int .i64 n] 37) := by
  go_enter Tryd.func79, Tryd.ntmps79
  go_wp2_with (go_at_call 39; refine (nmay_eq n _ h0 h1).mono ?_; rintro e w' ⟨rfl, rfl⟩)
  refine bodyPost_ret (v := .agg #[.int .i64 0, .int .i64 n]) (by simp [results, Tryd.results79, go_sem]) rfl ?_
  exact ⟨rfl, rfl⟩
set_option maxRecDepth 100000 in
theorem ntext_any (n : Int) (w : World) (h0 : 0 ≤ n) (h1 : n ≤ 9007199254740991) (ht : Tab w) :
    Calls Tryd.prog 64 #[.agg #[.int .i64 0, .int .i64 n]] w fun e w' => e = .returned (.string ⟨(decS n.toNat).toArray⟩) ∧ Below w.heap.size w w' := by
  have HT := hide (fun (W : World) (hb : Below w.heap.size w W) => itoa_any h0 h1 (ht.below ht.lt hb))
  clear ht
  go_enter Tryd.func64, Tryd.ntmps64
  go_wp2_with first
    | (go_at_call 79; refine (nas_any n _ h0 h1).mono ?_; rintro e w' ⟨rfl, rfl⟩)
    | (go_at_call 80; refine (HT.out _ (by go_grown)).mono ?_; rintro e w' ⟨rfl, hb⟩)
  go_ret
  refine ⟨rfl, Below.trans (b := _) ?_ (hb.mono (by simp; omega))⟩
  go_grown
end Go.Proofs.YtelcjdblnagdgaaDoor

namespace Go.Proofs.YtelcjdblnagdgaaDoor
open Go.RowKit

/-- what stays while a tree is printed -/
structure Cx where
  B : Nat
  base : Nat
  g : Nat
  n : Nat
  c : Nat
  A : Option Addr
  ts : List Nd
/-- the printer's state -/
structure Pe (C : Cx) (us : List UInt16) (v : Value) (w : World) : Prop where
  pn : Pn w C.base C.g C.A C.n C.c us v
  nds : NdsR w C.B C.A C.n C.ts
  hb : C.base ≤ w.heap.size
  hB : C.B ≤ C.g
  tab : Tab w
  gB : 0 < C.B
section
variable {C : Cx} {us us' : List UInt16} {v v' : Value} {w w' : World}
theorem Pe.low (h : Pe C us v w) (hk : Pk C.g w w' v v') : Below C.B w w' :=
  hk.below (fun i hi => by have := h.pn.ge i hi; have := h.pn.gb; have := h.hB; omega) h.hB (by have := h.hB; have := h.pn.gb; have := h.hb; omega)
theorem Pe.next (h : Pe C us v w) (hp : Pn w' C.base C.g C.A C.n C.c us' v') (hk : Pk C.g w w' v v') : Pe C us' v' w' :=
  ⟨hp, h.nds.below (h.low hk), Nat.le_trans h.hb hk.size, h.hB, h.tab.below h.gB (h.low hk), h.gB⟩
theorem Pe.below (h : Pe C us v w) (hb : Below w.heap.size w w') : Pe C us v w' := h.next (h.pn.below hb) (Pk.of_below hb)
theorem Pe.alloc (h : Pe C us v w) (o : Obj) : Pe C us v (w.alloc o) := h.below ((Below.refl _ _).alloc (Nat.le_refl _) _)
theorem Pe.blt (h : Pe C us v w) : C.B < w.heap.size := by have := h.hB; have := h.pn.lt; omega
end
/-- what a call that prints tokens comes to -/
def PutQ (C : Cx) (us : List UInt16) (v : Value) (w : World) (tks : Tks) (e : Ending) (w' : World) : Prop :=
  e = .returned (.tuple #[]) ∧ ∃ v', Pe C (putA us tks) v' w' ∧ Pk C.g w w' v v'
theorem PutQ.back {C : Cx} {us : List UInt16} {v : Value} {w w1 w' : World} {tks : Tks} {e : Ending} (hb : Below w.heap.size w w1) (h : PutQ C us v w1 tks e w') : PutQ C us v w tks e w' := by
  obtain ⟨h1, v', h2, h3⟩ := h
  exact ⟨h1, v', h2, (Pk.of_below hb).trans h3⟩
theorem PutQ.nil {C : Cx} {us : List UInt16} {v : Value} {w : World} (h : Pe C us v w) : PutQ C us v w [] (.returned (.tuple #[])) w := ⟨rfl, v, h, Pk.refl _ _ _⟩
/-- put of tokens that the operation ahead has laid -/
theorem put_lit {C : Cx} {us : List UInt16} {v : Value} {w : World} (hp : Pe C us v w) (tks : Tks) (m : Nat) (hn : tks.length = m) (hm : MayPut us tks) :
    Calls Tryd.prog 59 #[.pointer (some ⟨C.g, 0, none⟩), .slice (some ⟨w.heap.size, 0, none⟩) m m] (w.alloc (.cells (strL tks).toArray 9)) (PutQ C us v w tks) := by
  have hb1 : Below w.heap.size w (w.alloc (.cells (strL tks).toArray 9)) := (Below.refl _ _).alloc (Nat.le_refl _) _
  refine (put_any (hp.pn.below hb1) (Nat.le_trans hp.hb hb1.size) hn (fun j s hs => ?_) (by simp) (fun e => by have := hp.pn.lt; omega) (fun e => by have := (hp.pn.own.lt _ e).2; omega) hm).mono ?_
  · rw [Nat.zero_add, World.cell?_alloc_at _ _ _ _ rfl]
    simp [strL, hs]
  · rintro e w' ⟨rfl, v', h1, h2⟩
    have h3 := (Pk.of_below hb1).trans h2
    exact ⟨rfl, v', hp.next h1 h3, h3⟩
set_option maxHeartbeats 2000000 in
set_option maxRecDepth 100000 in
theorem pkind_any {C : Cx} {us : List UInt16} {v : Value} {w : World} {k : Nat} {x : Nd} (hp : Pe C us v w) (h : C.ts[k]? = some x) :
    Calls Tryd.prog 78 #[.pointer (some ⟨C.g, 0, none⟩), .int .i64 (k : Int)] w fun e w' => e = .returned (.int .i64 x.kind) ∧ w = w' := by
  have hkn : k < C.n := by have := (List.getElem?_eq_some_iff.1 h).1; rw [hp.nds.1] at this; exact this
  obtain ⟨b, o, x', s, hA, hbB, hx', hC, hR⟩ := hp.nds.get hkn
  obtain rfl : x = x' := Option.some.inj (h.symm.trans hx')
  have hc0 := hp.pn.c0
  rw [hA] at hc0
  have hk0 := hC.k0
  obtain ⟨g, hg⟩ : ∃ g, C.g = g := ⟨_, rfl⟩
  obtain ⟨n, hn⟩ : ∃ n, C.n = n := ⟨_, rfl⟩
  rw [hg, hn] at hc0
  rw [hn] at hkn
  rw [hg]
  clear hp h hA hx' hC hR hg hn
  go_enter Tryd.func78, Tryd.ntmps78
  go_wp2_with fail
  go_ret
  exact ⟨rfl, rfl⟩
theorem MayPut.of {us : List UInt16} {a b : Tks} (h : MayPut us a) (e : a = b) : MayPut us b := e ▸ h
set_option maxHeartbeats 2000000 in
set_option maxRecDepth 100000 in
theorem pnamed_any {C : Cx} {us : List UInt16} {v : Value} {w : World} {nm : List UInt8} (hp : Pe C us v w) (hm : MayPut us (namedP nm)) :
    Calls Tryd.prog 62 #[.pointer (some ⟨C.g, 0, none⟩), .string ⟨nm.toArray⟩] w (PutQ C us v w (namedP nm)) := by
  by_cases h : nm = []
  · subst h
    have HP := hide hp
    clear hm hp
    go_enter Tryd.func62, Tryd.ntmps62
    go_wp2_with fail
    refine bodyPost_ret (v := .tuple #[]) (by simp [results, Tryd.results62, go_sem]) rfl ?_
    exact PutQ.nil HP.out
  · have e : namedP nm = [nm] := by unfold namedP; rw [if_neg h]
    rw [e] at hm ⊢
    obtain ⟨nb, hnb⟩ : ∃ nb : ByteArray, ⟨nm.toArray⟩ = nb := ⟨_, rfl⟩
    have hd : nb.data.toList = nm := by rw [← hnb]
    have f1 : nb.toList ≠ [] := by rw [ByteArray.toList_eq, hd]; exact h
    have f2 : (nb.toList == []) = false := beq_eq_false_iff_ne.2 f1
    have f3 : nb.toList.isEmpty = false := by rw [List.isEmpty_eq_false_iff]; exact f1
    have HC := hide (put_lit hp [nm] 1 rfl hm)
    rw [show strL [nm] = [Value.string nb] by rw [← hnb]; rfl] at HC
    rw [hnb]
    clear hm e h hd hnb f1
    go_enter Tryd.func62, Tryd.ntmps62
    go_wp2_with fail
    refine HC.out.mono ?_
    rintro e1 w1 ⟨rfl, hq⟩
    go_wp2_with fail
    refine bodyPost_ret (v := .tuple #[]) (by simp [results, Tryd.results62, go_sem]) rfl ?_
    exact ⟨rfl, hq⟩
end Go.Proofs.YtelcjdblnagdgaaDoor

namespace Go.Proofs.YtelcjdblnagdgaaDoor
open Go.RowKit

/-- a node of so many at most prints its tokens -/
def NodeC (C : Cx) (m : Nat) : Prop := ∀ (t : Tr) (k : Nat) (us : List UInt16) (v : Value) (w : World), t.size ≤ m → At C.ts k t → Pe C us v w → MayPut us (prT t) →
  Calls Tryd.prog 30 #[.pointer (some ⟨C.g, 0, none⟩), .int .i64 (k : Int)] w (PutQ C us v w (prT t))
theorem MayPut.two {us : List UInt16} {a b c : Tks} (h : MayPut us a) (e : a = b ++ c) : MayPut us b ∧ MayPut (putA us b) c := (h.of e).app
theorem putA_of {us : List UInt16} {a b c : Tks} (e : a = b ++ c) : putA us a = putA (putA us b) c := by rw [e, putA_app]
/-- one call behind another -/
theorem PutQ.then {C : Cx} {us : List UInt16} {v v1 v2 : Value} {w w1 w2 : World} {a b c : Tks} (e : a = b ++ c) (h : Pk C.g w w1 v v1) (h2 : Pe C (putA (putA us b) c) v2 w2) (k2 : Pk C.g w1 w2 v1 v2) :
    PutQ C us v w a (.returned (.tuple #[])) w2 := ⟨rfl, v2, by rw [putA_of e]; exact h2, h.trans k2⟩
set_option maxHeartbeats 2000000 in
set_option maxRecDepth 100000 in
theorem pin_any {C : Cx} {m k : Nat} {us : List UInt16} {v : Value} {w : World} {t : Tr} (hN : NodeC C m) (ht : t.size ≤ m) (ha : At C.ts k t) (hp : Pe C us v w) (hm : MayPut us (inP (prT t))) :
    Calls Tryd.prog 60 #[.pointer (some ⟨C.g, 0, none⟩), .int .i64 (k : Int)] w (PutQ C us v w (inP (prT t))) := by
  obtain ⟨m1, m2⟩ := hm.two (b := [[40]]) (c := prT t ++ [[41]]) rfl
  obtain ⟨m3, m4⟩ := m2.app
  have C1 := hide (put_lit hp [[40]] 1 rfl m1)
  have M3 := hide m3
  have M4 := hide m4
  have HN := hide hN
  have HA := hide ha
  clear hm m1 m2 m3 m4 hN ha
  go_enter Tryd.func60, Tryd.ntmps60
  go_wp2_with fail
  refine C1.out.mono ?_
  rintro e1 w1 ⟨rfl, v1, hp1, hk1⟩
  have C2 := hide (HN.out t k _ v1 w1 ht HA.out hp1 M3.out)
  have HK1 := hide hk1
  clear hp1 hk1
  go_wp2_with fail
  refine C2.out.mono ?_
  rintro e2 w2 ⟨rfl, v2, hp2, hk2⟩
  have C3 := hide (put_lit hp2 [[41]] 1 rfl M4.out)
  have HK2 := hide (HK1.out.trans hk2)
  clear hp2 hk2
  go_wp2_with fail
  refine C3.out.mono ?_
  rintro e3 w3 ⟨rfl, v3, hp3, hk3⟩
  have HP3 := hide hp3
  have HK3 := hide (HK2.out.trans hk3)
  clear hp3 hk3
  go_wp2_with fail
  refine bodyPost_ret (v := .tuple #[]) (by simp [results, Tryd.results60, go_sem]) rfl ?_
  refine ⟨rfl, v3, ?_, HK3.out⟩
  have := HP3.out
  rw [← putA_app, ← putA_app] at this
  exact this
set_option maxHeartbeats 2000000 in
set_option maxRecDepth 100000 in
theorem ppart_any {C : Cx} {m k : Nat} {us : List UInt16} {v : Value} {w : World} {t : Tr} (hN : NodeC C m) (ht : t.size ≤ m) (ha : At C.ts k t) (hp : Pe C us v w) (hm : MayPut us (partP (t.nd.kind, prT t))) :
    Calls Tryd.prog 68 #[.pointer (some ⟨C.g, 0, none⟩), .int .i64 (k : Int)] w (PutQ C us v w (partP (t.nd.kind, prT t))) := by
  obtain ⟨K, hK⟩ : ∃ K, t.nd.kind = K := ⟨_, rfl⟩
  have CK := hide (pkind_any hp ha.get)
  rw [laid_kind, hK] at CK
  rw [hK] at hm ⊢
  by_cases h : 30 ≤ K ∧ K ≤ 37
  · have e : partP (K, prT t) = prT t := by unfold partP; rw [if_pos h]
    rw [e] at hm ⊢
    have C2 := hide (hN t k us v w ht ha hp hm)
    obtain ⟨h1, h2⟩ := h
    have e1 : decide ((30 : Int) ≤ K) = true := decide_eq_true h1
    have e2 : decide (K ≤ (37 : Int)) = true := decide_eq_true h2
    clear hm hN ha hK e
    go_enter Tryd.func68, Tryd.ntmps68
    go_wp2_with (go_at_call 78; refine CK.out.mono ?_; rintro e1 w1 ⟨rfl, rfl⟩)
    refine C2.out.mono ?_
    rintro e1 w1 ⟨rfl, hq⟩
    go_wp2_with fail
    refine bodyPost_ret (v := .tuple #[]) (by simp [results, Tryd.results68, go_sem]) rfl ?_
    exact ⟨rfl, hq⟩
  · have e : partP (K, prT t) = inP (prT t) := by unfold partP; rw [if_neg h]
    rw [e] at hm ⊢
    have C2 := hide (pin_any hN ht ha hp hm)
    by_cases h1 : 30 ≤ K
    · have h2 : ¬ K ≤ 37 := fun h2 => h ⟨h1, h2⟩
      have e1 : decide ((30 : Int) ≤ K) = true := decide_eq_true h1
      have e2 : decide (K ≤ (37 : Int)) = false := decide_eq_false h2
      clear hm hN ha hK e h
      go_enter Tryd.func68, Tryd.ntmps68
      go_wp2_with (go_at_call 78; refine CK.out.mono ?_; rintro e1 w1 ⟨rfl, rfl⟩)
      refine C2.out.mono ?_
      rintro e1 w1 ⟨rfl, hq⟩
      go_wp2_with fail
      refine bodyPost_ret (v := .tuple #[]) (by simp [results, Tryd.results68, go_sem]) rfl ?_
      exact ⟨rfl, hq⟩
    · have e1 : decide ((30 : Int) ≤ K) = false := decide_eq_false h1
      clear hm hN ha hK e h
      go_enter Tryd.func68, Tryd.ntmps68
      go_wp2_with (go_at_call 78; refine CK.out.mono ?_; rintro e1 w1 ⟨rfl, rfl⟩)
      refine C2.out.mono ?_
      rintro e1 w1 ⟨rfl, hq⟩
      go_wp2_with fail
      refine bodyPost_ret (v := .tuple #[]) (by simp [results, Tryd.results68, go_sem]) rfl ?_
      exact ⟨rfl, hq⟩
/-- kids that lie one behind the other -/
def KidsAt (C : Cx) (w : World) (b o : Nat) (l : List Tr) : Prop := ∀ i (hi : i < l.length), ∃ p : Nat, At C.ts p l[i] ∧ b < C.B ∧ w.cell? ⟨b, o + i, none⟩ = some (.int .i64 (p : Int))
theorem KidsAt.below {C : Cx} {w w' : World} {b o : Nat} {l : List Tr} (h : KidsAt C w b o l) (hb : Below C.B w w') : KidsAt C w' b o l := fun i hi => by
  obtain ⟨p, h1, h2, h3⟩ := h i hi
  exact ⟨p, h1, h2, (hb.cell (p := ⟨b, o + i, none⟩) h2).trans h3⟩
theorem comR_app (f : Kd → Tks) (a b : List Kd) : comR f (a ++ b) = comR f a ++ comR f b := by
  induction a with
  | nil => rfl
  | cons k r ih => show [44] :: (f k ++ comR f (r ++ b)) = [44] :: (f k ++ comR f r) ++ comR f b; rw [ih]; simp
theorem comP_app (f : Kd → Tks) (a b : List Kd) : comP f (a ++ b) = comP f a ++ (if a = [] then comP f b else comR f b) := by
  cases a with
  | nil => rfl
  | cons k r =>
    rw [if_neg (by simp)]
    show f k ++ comR f (r ++ b) = f k ++ comR f r ++ comR f b
    rw [comR_app, List.append_assoc]
/-- the tokens of one kid more -/
def stepP (f : Kd → Tks) (i : Nat) (k : Kd) : Tks := if i = 0 then f k else [44] :: f k
theorem comP_take {f : Kd → Tks} {ks : List Kd} {i : Nat} {k : Kd} (h : ks[i]? = some k) : comP f (ks.take (i + 1)) = comP f (ks.take i) ++ stepP f i k := by
  obtain ⟨hl, rfl⟩ := List.getElem?_eq_some_iff.1 h
  rw [List.take_succ_eq_append_getElem hl, comP_app]
  congr 1
  unfold stepP
  by_cases h0 : i = 0
  · subst h0; simp [comP, comR]
  · rw [if_neg h0, if_neg (by
      intro e
      rcases List.take_eq_nil_iff.1 e with e | e
      · exact h0 e
      · subst e; simp at hl)]; simp [comR]
theorem comP_rest (f : Kd → Tks) (ks : List Kd) (i : Nat) : ∃ r, comP f ks = comP f (ks.take i) ++ r := by
  refine ⟨if ks.take i = [] then comP f (ks.drop i) else comR f (ks.drop i), ?_⟩
  rw [← comP_app, List.take_append_drop]
theorem MayPut.upto {us : List UInt16} {f : Kd → Tks} {ks : List Kd} {i : Nat} {k : Kd} (h : MayPut us (comP f ks)) (hk : ks[i]? = some k) : MayPut (putA us (comP f (ks.take i))) (stepP f i k) := by
  obtain ⟨r, hr⟩ := comP_rest f ks (i + 1)
  rw [comP_take hk, List.append_assoc] at hr
  exact ((h.of hr).app.2).app.1
/-- the kids' slice -/
def KidsS (C : Cx) (w : World) (Al : Option Addr) (l : List Tr) : Prop := l ≠ [] → ∃ b o, Al = some ⟨b, o, none⟩ ∧ KidsAt C w b o l
theorem KidsS.below {C : Cx} {w w' : World} {Al : Option Addr} {l : List Tr} (h : KidsS C w Al l) (hb : Below C.B w w') : KidsS C w' Al l := fun h0 => by
  obtain ⟨b, o, h1, h2⟩ := h h0
  exact ⟨b, o, h1, h2.below hb⟩
set_option maxHeartbeats 4000000 in
set_option maxRecDepth 100000 in
theorem plist_node {C : Cx} {m L ck : Nat} {Al : Option Addr} {us : List UInt16} {v : Value} {w : World} {l : List Tr} (hN : NodeC C m) (hs : ∀ t ∈ l, t.size ≤ m) (hk : KidsS C w Al l) (hp : Pe C us v w) (hL : l.length = L) (hL6 : L ≤ 1000000) (hm : MayPut us (comP (·.2) (prs l))) :
    Calls Tryd.prog 67 #[.pointer (some ⟨C.g, 0, none⟩), .slice Al L ck, .func (Fn.func 30) #[.pointer (some ⟨C.g, 0, none⟩)] #[]] w (PutQ C us v w (comP (·.2) (prs l))) := by
  have HN := hide hN
  have HS := hide hs
  have HM := hide hm
  have HP := hide hp
  have HLL := hide hL
  by_cases hl : l = []
  · subst hl
    obtain rfl : L = 0 := by rw [← hL]; rfl
    clear hN hs hk hp hL hm
    go_enter Tryd.func67, Tryd.ntmps67
    go_wp2_with fail
    go_loopw [10] (fun i wr => i = .int .i64 0 ∧ wr = w) (fun _ _ => 0)
    case atStart => exact ⟨rfl, rfl⟩
    case round =>
      obtain ⟨rfl, rfl⟩ := hrel
      go_wp2_with fail
      refine bodyPost_ret (v := .tuple #[]) (by simp [results, Tryd.results67, go_sem]) rfl ?_
      rw [prs_nil]
      exact PutQ.nil HP.out
  obtain ⟨b, o, rfl, hka⟩ := hk hl
  have HK := hide hka
  clear hN hs hk hp hL hm hka hl
  go_enter Tryd.func67, Tryd.ntmps67
  go_wp2_with fail
  go_loopw [10] (fun i wr => ∃ (j : Nat) (vr : Value), j ≤ L ∧ i = .int .i64 j ∧ Hid (Pe C (putA us (comP (·.2) ((prs l).take j))) vr wr) ∧ Hid (Pk C.g w wr v vr)) (fun i _ => L - (intOf i).toNat)
  case atStart => exact ⟨0, v, Nat.zero_le _, rfl, HP.out, Pk.refl _ _ _⟩
  case round =>
    obtain ⟨j, vr, hj, rfl, hpr, hkr⟩ := hrel
    by_cases hlt : j < L
    · have hjl : j < l.length := by rw [HLL.out]; exact hlt
      obtain ⟨p, hat, hbB, hcell⟩ := (HK.out.below (HP.out.low hkr.out)) j hjl
      have hsz := HS.out l[j] (List.getElem_mem hjl)
      obtain ⟨t, ht⟩ : ∃ t, l[j] = t := ⟨_, rfl⟩
      have hg : (prs l)[j]? = some (t.nd.kind, prT t) := by rw [prs_map, List.getElem?_map, List.getElem?_eq_getElem hjl, ht]; rfl
      rw [ht] at hat hsz
      have HMS := hide (HM.out.upto hg)
      have HTK := hide (comP_take (f := (·.2)) hg)
      have HAT := hide hat
      obtain ⟨ur, hur⟩ : ∃ ur, putA us (comP (·.2) ((prs l).take j)) = ur := ⟨_, rfl⟩
      rw [hur] at hpr HMS
      have HUR := hide hur
      clear hjl hat ht hg hur
      by_cases h0 : j = 0
      · have e0 : ¬ (0 : Int) < (j : Int) := by omega
        have e1 : decide ((0 : Int) < (j : Int)) = false := decide_eq_false e0
        have e2 : ¬ 0 < j := by omega
        have HST := hide (show stepP (·.2) j (t.nd.kind, prT t) = prT t by unfold stepP; rw [if_pos h0])
        have C1 := hide (HN.out t p ur vr wr hsz HAT.out hpr.out (by have := HMS.out; rw [HST.out] at this; exact this))
        clear h0
        go_wp2_with fail
        refine C1.out.mono ?_
        rintro e3 w3 ⟨rfl, v3, hp3, hk3⟩
        have HP3 := hide hp3
        have HK3 := hide (hkr.out.trans hk3)
        clear hp3 hk3
        go_wp2_with fail
        go_roundw
        case rel => exact ⟨j + 1, v3, by omega, by go_num, by rw [HTK.out, putA_app, HUR.out, HST.out]; exact HP3.out, HK3.out⟩
        case measure => simp [intOf]; omega
      · have e0 : (0 : Int) < (j : Int) := by omega
        have e1 : decide ((0 : Int) < (j : Int)) = true := decide_eq_true e0
        have e2 : 0 < j := by omega
        have HST := hide (show stepP (·.2) j (t.nd.kind, prT t) = [[44]] ++ prT t by unfold stepP; rw [if_neg h0]; rfl)
        obtain ⟨m1, m2⟩ := HMS.out.two HST.out
        have C1 := hide (put_lit hpr.out [[44]] 1 rfl m1)
        have M2 := hide m2
        clear h0 m1 m2
        go_wp2_with fail
        refine C1.out.mono ?_
        rintro e3 w3 ⟨rfl, v3, hp3, hk3⟩
        have C2 := hide (HN.out t p _ v3 w3 hsz HAT.out hp3 M2.out)
        have HK3 := hide (hkr.out.trans hk3)
        clear hp3 hk3
        go_wp2_with fail
        refine C2.out.mono ?_
        rintro e4 w4 ⟨rfl, v4, hp4, hk4⟩
        have HP4 := hide hp4
        have HK4 := hide (HK3.out.trans hk4)
        clear hp4 hk4
        go_wp2_with fail
        go_roundw
        case rel => exact ⟨j + 1, v4, by omega, by go_num, by rw [HTK.out, putA_app, HUR.out, HST.out, putA_app]; exact HP4.out, HK4.out⟩
        case measure => simp [intOf]; omega
    · obtain rfl : L = j := by omega
      have HT := hide (show (prs l).take L = prs l from List.take_of_length_le (by rw [prs_len, HLL.out]; omega))
      go_wp2_with fail
      refine bodyPost_ret (v := .tuple #[]) (by simp [results, Tryd.results67, go_sem]) rfl ?_
      refine ⟨rfl, vr, ?_, hkr.out⟩
      have := hpr.out
      rw [HT.out] at this
      exact this
set_option maxHeartbeats 4000000 in
set_option maxRecDepth 100000 in
theorem plist_part {C : Cx} {m L ck : Nat} {Al : Option Addr} {us : List UInt16} {v : Value} {w : World} {l : List Tr} (hN : NodeC C m) (hs : ∀ t ∈ l, t.size ≤ m) (hk : KidsS C w Al l) (hp : Pe C us v w) (hL : l.length = L) (hL6 : L ≤ 1000000) (hm : MayPut us (comP partP (prs l))) :
    Calls Tryd.prog 67 #[.pointer (some ⟨C.g, 0, none⟩), .slice Al L ck, .func (Fn.func 68) #[.pointer (some ⟨C.g, 0, none⟩)] #[]] w (PutQ C us v w (comP partP (prs l))) := by
  have HN := hide hN
  have HS := hide hs
  have HM := hide hm
  have HP := hide hp
  have HLL := hide hL
  by_cases hl : l = []
  · subst hl
    obtain rfl : L = 0 := by rw [← hL]; rfl
    clear hN hs hk hp hL hm
    go_enter Tryd.func67, Tryd.ntmps67
    go_wp2_with fail
    go_loopw [10] (fun i wr => i = .int .i64 0 ∧ wr = w) (fun _ _ => 0)
    case atStart => exact ⟨rfl, rfl⟩
    case round =>
      obtain ⟨rfl, rfl⟩ := hrel
      go_wp2_with fail
      refine bodyPost_ret (v := .tuple #[]) (by simp [results, Tryd.results67, go_sem]) rfl ?_
      rw [prs_nil]
      exact PutQ.nil HP.out
  obtain ⟨b, o, rfl, hka⟩ := hk hl
  have HK := hide hka
  clear hN hs hk hp hL hm hka hl
  go_enter Tryd.func67, Tryd.ntmps67
  go_wp2_with fail
  go_loopw [10] (fun i wr => ∃ (j : Nat) (vr : Value), j ≤ L ∧ i = .int .i64 j ∧ Hid (Pe C (putA us (comP partP ((prs l).take j))) vr wr) ∧ Hid (Pk C.g w wr v vr)) (fun i _ => L - (intOf i).toNat)
  case atStart => exact ⟨0, v, Nat.zero_le _, rfl, HP.out, Pk.refl _ _ _⟩
  case round =>
    obtain ⟨j, vr, hj, rfl, hpr, hkr⟩ := hrel
    by_cases hlt : j < L
    · have hjl : j < l.length := by rw [HLL.out]; exact hlt
      obtain ⟨p, hat, hbB, hcell⟩ := (HK.out.below (HP.out.low hkr.out)) j hjl
      have hsz := HS.out l[j] (List.getElem_mem hjl)
      obtain ⟨t, ht⟩ : ∃ t, l[j] = t := ⟨_, rfl⟩
      have hg : (prs l)[j]? = some (t.nd.kind, prT t) := by rw [prs_map, List.getElem?_map, List.getElem?_eq_getElem hjl, ht]; rfl
      rw [ht] at hat hsz
      have HMS := hide (HM.out.upto hg)
      have HTK := hide (comP_take (f := partP) hg)
      have HAT := hide hat
      obtain ⟨ur, hur⟩ : ∃ ur, putA us (comP partP ((prs l).take j)) = ur := ⟨_, rfl⟩
      rw [hur] at hpr HMS
      have HUR := hide hur
      clear hjl hat ht hg hur
      by_cases h0 : j = 0
      · have e0 : ¬ (0 : Int) < (j : Int) := by omega
        have e1 : decide ((0 : Int) < (j : Int)) = false := decide_eq_false e0
        have e2 : ¬ 0 < j := by omega
        have HST := hide (show stepP partP j (t.nd.kind, prT t) = partP (t.nd.kind, prT t) by unfold stepP; rw [if_pos h0])
        have C1 := hide (ppart_any HN.out hsz HAT.out hpr.out (by have := HMS.out; rw [HST.out] at this; exact this))
        clear h0
        go_wp2_with fail
        refine C1.out.mono ?_
        rintro e3 w3 ⟨rfl, v3, hp3, hk3⟩
        have HP3 := hide hp3
        have HK3 := hide (hkr.out.trans hk3)
        clear hp3 hk3
        go_wp2_with fail
        go_roundw
        case rel => exact ⟨j + 1, v3, by omega, by go_num, by rw [HTK.out, putA_app, HUR.out, HST.out]; exact HP3.out, HK3.out⟩
        case measure => simp [intOf]; omega
      · have e0 : (0 : Int) < (j : Int) := by omega
        have e1 : decide ((0 : Int) < (j : Int)) = true := decide_eq_true e0
        have e2 : 0 < j := by omega
        have HST := hide (show stepP partP j (t.nd.kind, prT t) = [[44]] ++ partP (t.nd.kind, prT t) by unfold stepP; rw [if_neg h0]; rfl)
        obtain ⟨m1, m2⟩ := HMS.out.two HST.out
        have C1 := hide (put_lit hpr.out [[44]] 1 rfl m1)
        have M2 := hide m2
        clear h0 m1 m2
        go_wp2_with fail
        refine C1.out.mono ?_
        rintro e3 w3 ⟨rfl, v3, hp3, hk3⟩
        have C2 := hide (ppart_any HN.out hsz HAT.out hp3 M2.out)
        have HK3 := hide (hkr.out.trans hk3)
        clear hp3 hk3
        go_wp2_with fail
        refine C2.out.mono ?_
        rintro e4 w4 ⟨rfl, v4, hp4, hk4⟩
        have HP4 := hide hp4
        have HK4 := hide (HK3.out.trans hk4)
        clear hp4 hk4
        go_wp2_with fail
        go_roundw
        case rel => exact ⟨j + 1, v4, by omega, by go_num, by rw [HTK.out, putA_app, HUR.out, HST.out, putA_app]; exact HP4.out, HK4.out⟩
        case measure => simp [intOf]; omega
    · obtain rfl : L = j := by omega
      have HT := hide (show (prs l).take L = prs l from List.take_of_length_le (by rw [prs_len, HLL.out]; omega))
      go_wp2_with fail
      refine bodyPost_ret (v := .tuple #[]) (by simp [results, Tryd.results67, go_sem]) rfl ?_
      refine ⟨rfl, vr, ?_, hkr.out⟩
      have := hpr.out
      rw [HT.out] at this
      exact this
set_option maxHeartbeats 4000000 in
set_option maxRecDepth 100000 in
theorem pparams_any {C : Cx} {m L ck : Nat} {Al : Option Addr} {us : List UInt16} {v : Value} {w : World} {l : List Tr} (hN : NodeC C m) (hs : ∀ t ∈ l, t.size ≤ m) (hk : KidsS C w Al l) (hp : Pe C us v w) (hL : l.length = L) (hL6 : L ≤ 1000000) (hm : MayPut us (paramsP (prs l))) :
    Calls Tryd.prog 85 #[.pointer (some ⟨C.g, 0, none⟩), .slice Al L ck] w (PutQ C us v w (paramsP (prs l))) := by
  obtain ⟨m1, m2⟩ := hm.two (b := [[40]]) (c := comP (·.2) (prs l) ++ [[41]]) rfl
  obtain ⟨m3, m4⟩ := m2.app
  have M3 := hide m3
  have M4 := hide m4
  have HN := hide hN
  have HS := hide hs
  have HKS := hide hk
  have HP := hide hp
  have HLL := hide hL
  have M1 := hide m1
  clear hm m1 m2 m3 m4 hN hs hk hp hL
  go_enter Tryd.func85, Tryd.ntmps85
  have C1 := hide (put_lit HP.out [[40]] 1 rfl M1.out)
  go_wp2_with fail
  refine C1.out.mono ?_
  rintro e1 w1 ⟨rfl, v1, hp1, hk1⟩
  have HP1 := hide hp1
  have HK1 := hide (hk1)
  have C2 := hide (plist_node (ck := ck) HN.out HS.out (HKS.out.below (HP.out.low HK1.out)) hp1 HLL.out hL6 M3.out)
  clear hp1 hk1
  go_wp2_with fail
  refine C2.out.mono ?_
  rintro e2 w2 ⟨rfl, v2, hp2, hk2⟩
  have HP2 := hide hp2
  have HK2 := hide (HK1.out.trans hk2)
  have C3 := hide (put_lit hp2 [[41]] 1 rfl M4.out)
  clear hp2 hk2
  go_wp2_with fail
  refine C3.out.mono ?_
  rintro e3 w3 ⟨rfl, v3, hp3, hk3⟩
  have HP3 := hide hp3
  have HK3 := hide (HK2.out.trans hk3)
  clear hp3 hk3
  go_wp2_with fail
  refine bodyPost_ret (v := .tuple #[]) (by simp [results, Tryd.results85, go_sem]) rfl ?_
  refine ⟨rfl, v3, ?_, HK3.out⟩
  have := HP3.out
  simp only [← putA_app] at this
  exact this
end Go.Proofs.YtelcjdblnagdgaaDoor

namespace Go.Proofs.YtelcjdblnagdgaaDoor
open Go.RowKit

theorem kidsS_of {C : Cx} {w : World} {k : Nat} {x : Nd} {l : List Tr} {s : NdSl} (h : At C.ts k (.mk x l)) (hR : NdR w C.B ((Tr.mk x l).laid k) s) : KidsS C w s.Ak l := by
  intro h0
  have hlen : ((Tr.mk x l).laid k).kids.length = l.length := places_len (k + 1) l
  obtain ⟨b, o, hA, hb, hc⟩ := hR.kids.spotK (by rw [hlen]; exact List.length_pos_iff.2 h0)
  refine ⟨b, o, hA, fun i hi => ?_⟩
  obtain ⟨p, hp, hat, _⟩ := h.kid i hi
  have h1 := hc i (by rw [hlen]; exact hi)
  have h2 : ((Tr.mk x l).laid k).kids[i]'(by rw [hlen]; exact hi) = (p : Int) := (List.getElem?_eq_some_iff.1 hp).2
  rw [h2] at h1
  exact ⟨p, hat, hb, h1⟩
/-- a node's cells, by its place -/
theorem Pe.node {C : Cx} {us : List UInt16} {v : Value} {w : World} {k : Nat} {t : Tr} (hp : Pe C us v w) (h : At C.ts k t) : ∃ b o s, C.A = some ⟨b, o, none⟩ ∧ k < C.n ∧ b < C.B ∧ NdC w b (o + k * 8) (t.laid k) s ∧ NdR w C.B (t.laid k) s := by
  have hg := h.get
  have hkn : k < C.n := by have := (List.getElem?_eq_some_iff.1 hg).1; rw [hp.nds.1] at this; exact this
  obtain ⟨b, o, x', s, hA, hbB, hx', hC, hR⟩ := hp.nds.get hkn
  obtain rfl : t.laid k = x' := Option.some.inj (hg.symm.trans hx')
  exact ⟨b, o, s, hA, hkn, hbB, hC, hR⟩
set_option maxHeartbeats 4000000 in
set_option maxRecDepth 100000 in
theorem pdecls_any {C : Cx} {m k : Nat} {us : List UInt16} {v : Value} {w : World} {x : Nd} {l : List Tr} (hN : NodeC C m) (hs : ∀ t ∈ l, t.size ≤ m) (h : At C.ts k (.mk x l)) (hK : x.kind = 5 ∨ x.kind = 6) (hp : Pe C us v w) (hL6 : l.length ≤ 1000000) (hm : MayPut us (declsP x (prs l))) :
    Calls Tryd.prog 61 #[.pointer (some ⟨C.g, 0, none⟩), .int .i64 (k : Int)] w (PutQ C us v w (declsP x (prs l))) := by
  obtain ⟨b, o, s, hA, hkn, hbB, hC, hR⟩ := hp.node h
  obtain ⟨kc0, kc1, kc2, kc3, kc4, kc5, kc6, kc7⟩ := hC
  have hks := kidsS_of h hR
  have hlen : ((Tr.mk x l).laid k).kids.length = l.length := places_len (k + 1) l
  obtain ⟨L, hL⟩ : ∃ L, l.length = L := ⟨_, rfl⟩
  rw [hlen, hL] at kc7
  rw [hL] at hL6
  obtain ⟨y, hy⟩ : ∃ y, (Tr.mk x l).laid k = y := ⟨_, rfl⟩
  have hyk : y.kind = x.kind := by rw [← hy]; rfl
  rw [hy] at kc0 kc1 kc2 kc3 kc4 kc5 kc6
  rw [hyk] at kc0
  have hc0 := hp.pn.c0
  rw [hA] at hc0
  have hlt := hp.pn.lt
  have hBw := hp.blt
  obtain ⟨g, hg⟩ : ∃ g, C.g = g := ⟨_, rfl⟩
  have HP := hide hp
  have HN := hide hN
  have HS := hide hs
  have HKS := hide hks
  have HLL := hide hL
  obtain ⟨b1, m1, m2, e1⟩ : ∃ b1 : List UInt8, MayPut us [b1] ∧ MayPut (putA us [b1]) (comP (·.2) (prs l)) ∧ declsP x (prs l) = [b1] ++ comP (·.2) (prs l) :=
    ⟨_, (hm.two rfl).1, (hm.two rfl).2, rfl⟩
  have M2 := hide m2
  have hword : b1 = (if x.kind = 6 then [99, 111, 110, 115, 116] else [108, 101, 116]) := by
    have : declsP x (prs l) = (if x.kind = 6 then [99, 111, 110, 115, 116] else [108, 101, 116]) :: comP (·.2) (prs l) := rfl
    rw [this] at e1
    injection e1 with e2 e3
    exact e2.symm
  have HE := hide e1
  have HW1 := hide (fun (W : World) (hb : Below w.heap.size w W) => put_lit (hp.below hb) [b1] 1 rfl m1)
  rw [hg] at hc0 hlt
  obtain ⟨n, hn⟩ : ∃ n, C.n = n := ⟨_, rfl⟩
  rw [hn] at hc0 hkn
  have HGG := hide hg
  clear hm m1 m2 e1 hp hN hs h hR hA hy hyk hlen hL hks hn
  rcases hK with hK | hK
  · rw [hK] at kc0 hword
    have hword2 : b1 = [108, 101, 116] := hword
    clear hword
    subst hword2
    rw [hg]
    clear hK hg
    go_enter Tryd.func61, Tryd.ntmps61
    go_upto_region 1 with (fail)
    obtain ⟨W, hW⟩ : ∃ W, w.alloc (.cells #[.int .i64 5, .string ⟨y.name.toArray⟩, .slice s.As y.str.length s.cs, .int .i64 y.nk, .int .i64 y.nn, .bool y.neg, .slice s.Am y.mag.length s.cm, .slice s.Ak L s.ck] 42) = W := ⟨_, rfl⟩
    rw [hW]
    have hb0 : Below w.heap.size w W := by rw [← hW]; exact (Below.refl _ _).alloc (Nat.le_refl _) _
    have hX1 : w.heap.size < W.heap.size := by rw [← hW]; simp
    have x0 : W.cell? ⟨w.heap.size, 0, none⟩ = some (.int .i64 5) := by rw [← hW, World.cell?_alloc_at _ _ _ _ rfl]; rfl
    have x7 : W.cell? ⟨w.heap.size, 7, none⟩ = some (.slice s.Ak L s.ck) := by rw [← hW, World.cell?_alloc_at _ _ _ _ rfl]; rfl
    have hXg : w.heap.size ≠ C.g := fun e => by have := HP.out.pn.lt; omega
    have hXv : v.ownBlock ≠ some w.heap.size := fun e => by have := (HP.out.pn.own.lt _ e).2; omega
    have HP0 := hide (HP.out.below hb0)
    have HB0 := hide hb0
    have C1 := hide (HW1.out W hb0)
    have HKW := hide (HKS.out.below (hb0.mono (by omega)))
    obtain ⟨X, hX⟩ : ∃ X, w.heap.size = X := ⟨_, rfl⟩
    rw [hX] at x0 x7 hX1 hXg hXv
    rw [hX]
    clear hW hb0 hX kc0 kc1 kc2 kc3 kc4 kc5 kc6 kc7 hc0
    rw [HGG.out] at C1
    go_wp2_with fail
    refine C1.out.mono ?_
    rintro e1 w1 ⟨rfl, v1, hp1, hk1⟩
    have x71 := (hk1.cell (p := ⟨X, 7, none⟩) hX1 hXg hXv).trans x7
    have C2 := hide (plist_node (ck := s.ck) HN.out HS.out (HKW.out.below (HP0.out.low hk1)) hp1 HLL.out hL6 M2.out)
    rw [HGG.out] at C2
    have HK1 := hide hk1
    clear hp1 hk1 x7 x0
    go_wp2_with fail
    refine C2.out.mono ?_
    rintro e2 w2 ⟨rfl, v2, hp2, hk2⟩
    have HP2 := hide hp2
    have HK2 := hide (HK1.out.trans hk2)
    clear hp2 hk2
    go_wp2_with fail
    refine bodyPost_ret (v := .tuple #[]) (by simp [results, Tryd.results61, go_sem]) rfl ?_
    refine PutQ.back HB0.out ⟨rfl, v2, ?_, HK2.out⟩
    rw [HE.out, putA_app]
    exact HP2.out
  · rw [hK] at kc0 hword
    have hword2 : b1 = [99, 111, 110, 115, 116] := hword
    clear hword
    subst hword2
    rw [hg]
    clear hK hg
    go_enter Tryd.func61, Tryd.ntmps61
    go_upto_region 1 with (fail)
    obtain ⟨W, hW⟩ : ∃ W, w.alloc (.cells #[.int .i64 6, .string ⟨y.name.toArray⟩, .slice s.As y.str.length s.cs, .int .i64 y.nk, .int .i64 y.nn, .bool y.neg, .slice s.Am y.mag.length s.cm, .slice s.Ak L s.ck] 42) = W := ⟨_, rfl⟩
    rw [hW]
    have hb0 : Below w.heap.size w W := by rw [← hW]; exact (Below.refl _ _).alloc (Nat.le_refl _) _
    have hX1 : w.heap.size < W.heap.size := by rw [← hW]; simp
    have x0 : W.cell? ⟨w.heap.size, 0, none⟩ = some (.int .i64 6) := by rw [← hW, World.cell?_alloc_at _ _ _ _ rfl]; rfl
    have x7 : W.cell? ⟨w.heap.size, 7, none⟩ = some (.slice s.Ak L s.ck) := by rw [← hW, World.cell?_alloc_at _ _ _ _ rfl]; rfl
    have hXg : w.heap.size ≠ C.g := fun e => by have := HP.out.pn.lt; omega
    have hXv : v.ownBlock ≠ some w.heap.size := fun e => by have := (HP.out.pn.own.lt _ e).2; omega
    have HP0 := hide (HP.out.below hb0)
    have HB0 := hide hb0
    have C1 := hide (HW1.out W hb0)
    have HKW := hide (HKS.out.below (hb0.mono (by omega)))
    obtain ⟨X, hX⟩ : ∃ X, w.heap.size = X := ⟨_, rfl⟩
    rw [hX] at x0 x7 hX1 hXg hXv
    rw [hX]
    clear hW hb0 hX kc0 kc1 kc2 kc3 kc4 kc5 kc6 kc7 hc0
    rw [HGG.out] at C1
    go_wp2_with fail
    refine C1.out.mono ?_
    rintro e1 w1 ⟨rfl, v1, hp1, hk1⟩
    have x71 := (hk1.cell (p := ⟨X, 7, none⟩) hX1 hXg hXv).trans x7
    have C2 := hide (plist_node (ck := s.ck) HN.out HS.out (HKW.out.below (HP0.out.low hk1)) hp1 HLL.out hL6 M2.out)
    rw [HGG.out] at C2
    have HK1 := hide hk1
    clear hp1 hk1 x7 x0
    go_wp2_with fail
    refine C2.out.mono ?_
    rintro e2 w2 ⟨rfl, v2, hp2, hk2⟩
    have HP2 := hide hp2
    have HK2 := hide (HK1.out.trans hk2)
    clear hp2 hk2
    go_wp2_with fail
    refine bodyPost_ret (v := .tuple #[]) (by simp [results, Tryd.results61, go_sem]) rfl ?_
    refine PutQ.back HB0.out ⟨rfl, v2, ?_, HK2.out⟩
    rw [HE.out, putA_app]
    exact HP2.out
/-- what is printed of a Let or a Const -/
theorem prT_let {x : Nd} {l : List Tr} (h : x.kind = 5 ∨ x.kind = 6) : prT (.mk x l) = declsP x (prs l) ++ [[59]] := by
  rw [prT_mk]
  unfold nodeP stmtP
  rw [if_pos (by omega), if_neg (by omega), if_neg (by omega), if_neg (by omega), if_neg (by omega), if_pos h]
set_option maxHeartbeats 4000000 in
set_option maxRecDepth 100000 in
theorem pclause_any {C : Cx} {m k : Nat} {us : List UInt16} {v : Value} {w : World} {t : Tr} (hN : NodeC C m) (ht : t.size ≤ m) (hm6 : m ≤ 1000000) (ha : At C.ts k t) (hp : Pe C us v w) (hm : MayPut us (clauseP (t.nd.kind, prT t))) :
    Calls Tryd.prog 77 #[.pointer (some ⟨C.g, 0, none⟩), .int .i64 (k : Int)] w (PutQ C us v w (clauseP (t.nd.kind, prT t))) := by
  obtain ⟨K, hK⟩ : ∃ K, t.nd.kind = K := ⟨_, rfl⟩
  have CK := hide (pkind_any hp ha.get)
  rw [laid_kind, hK] at CK
  rw [hK] at hm ⊢
  by_cases h : K = 5 ∨ K = 6
  · obtain ⟨x, l⟩ := t
    have hx : x.kind = K := hK
    have h1 : x.kind = 5 ∨ x.kind = 6 := by rw [hx]; exact h
    have e : clauseP (K, prT (.mk x l)) = declsP x (prs l) := by
      unfold clauseP
      rw [if_pos h]
      show (prT (.mk x l)).dropLast = _
      rw [prT_let h1, List.dropLast_concat]
    rw [e] at hm ⊢
    have hsz : ∀ t ∈ l, t.size ≤ m := by
      intro t ht'
      rw [size_mk] at ht
      have : t.size ≤ sizes l := by
        clear ht hN ha hp hm CK hK hx h1 e h
        induction l with
        | nil => cases ht'
        | cons a r ih =>
          rw [sizes_cons]
          rcases List.mem_cons.1 ht' with rfl | h2
          · omega
          · have := ih h2; omega
      omega
    have hll : l.length ≤ 1000000 := by
      rw [size_mk] at ht
      have : l.length ≤ sizes l := by
        clear ht hN ha hp hm CK hK hx h1 e h hsz
        induction l with
        | nil => exact Nat.zero_le _
        | cons a r ih => rw [sizes_cons]; have := size_pos a; simp only [List.length_cons]; omega
      omega
    have C2 := hide (pdecls_any hN hsz ha h1 hp hll hm)
    clear hm hN ha hx h1 e hsz hll ht hK hp
    rcases h with rfl | rfl
    all_goals
      go_enter Tryd.func77, Tryd.ntmps77
      go_wp2_with (go_at_call 78; refine CK.out.mono ?_; rintro e1 w1 ⟨rfl, rfl⟩)
      refine C2.out.mono ?_
      rintro e1 w1 ⟨rfl, hq⟩
      go_wp2_with fail
      refine bodyPost_ret (v := .tuple #[]) (by simp [results, Tryd.results77, go_sem]) rfl ?_
      exact ⟨rfl, hq⟩
  · have e5 : (K == 5) = false := beq_eq_false_iff_ne.2 (by omega)
    have e6 : (K == 6) = false := beq_eq_false_iff_ne.2 (by omega)
    by_cases h11 : K = 11
    · have e : clauseP (K, prT t) = [] := by unfold clauseP; rw [if_neg h, if_pos h11]
      rw [e]
      have HP := hide hp
      subst h11
      clear hm hN ha hp e h hK
      go_enter Tryd.func77, Tryd.ntmps77
      go_wp2_with (go_at_call 78; refine CK.out.mono ?_; rintro e1 w1 ⟨rfl, rfl⟩)
      refine bodyPost_ret (v := .tuple #[]) (by simp [results, Tryd.results77, go_sem]) rfl ?_
      exact PutQ.nil HP.out
    · have e : clauseP (K, prT t) = inP (prT t) := by unfold clauseP; rw [if_neg h, if_neg h11]
      rw [e] at hm ⊢
      have C2 := hide (pin_any hN ht ha hp hm)
      have e11 : (K != 11) = true := bne_iff_ne.2 h11
      have e12 : (K == 11) = false := beq_eq_false_iff_ne.2 h11
      clear hm hN ha hp e h hK h11
      go_enter Tryd.func77, Tryd.ntmps77
      go_wp2_with (go_at_call 78; refine CK.out.mono ?_; rintro e1 w1 ⟨rfl, rfl⟩)
      refine C2.out.mono ?_
      rintro e1 w1 ⟨rfl, hq⟩
      go_wp2_with fail
      refine bodyPost_ret (v := .tuple #[]) (by simp [results, Tryd.results77, go_sem]) rfl ?_
      exact ⟨rfl, hq⟩
end Go.Proofs.YtelcjdblnagdgaaDoor

namespace Go.Proofs.YtelcjdblnagdgaaDoor
open Go.RowKit

theorem KidsAt.init {C : Cx} {w : World} {b o : Nat} {l r : List Tr} (h : KidsAt C w b o (l ++ r)) : KidsAt C w b o l := fun i hi => by
  have h1 := h i (by rw [List.length_append]; omega)
  rw [List.getElem_append_left hi] at h1
  exact h1
theorem KidsAt.last {C : Cx} {w : World} {b o : Nat} {l : List Tr} {z : Tr} (h : KidsAt C w b o (l ++ [z])) : ∃ p : Nat, At C.ts p z ∧ b < C.B ∧ w.cell? ⟨b, o + l.length, none⟩ = some (.int .i64 (p : Int)) := by
  have h1 := h l.length (by rw [List.length_append]; simp)
  rw [List.getElem_append_right (Nat.le_refl _)] at h1
  simp only [Nat.sub_self, List.getElem_singleton] at h1
  exact h1
theorem KidsAt.tail {C : Cx} {w : World} {b o : Nat} {z : Tr} {r : List Tr} (h : KidsAt C w b o (z :: r)) : KidsAt C w b (o + 1) r := fun i hi => by
  obtain ⟨p, h1, h2, h3⟩ := h (i + 1) (by simp; omega)
  refine ⟨p, h1, h2, ?_⟩
  rw [show o + 1 + i = o + (i + 1) by omega]
  exact h3
theorem KidsAt.s {C : Cx} {w : World} {b o : Nat} {l : List Tr} (h : KidsAt C w b o l) : KidsS C w (some ⟨b, o, none⟩) l := fun _ => ⟨b, o, rfl, h⟩
set_option maxHeartbeats 4000000 in
set_option maxRecDepth 100000 in
theorem pfunction {C : Cx} {m n ck : Nat} {Ak : Option Addr} {us : List UInt16} {v : Value} {w : World} (kk : Int) (nm : List UInt8) (vs vm : Value) (nk nn : Int) (ng : Bool) {l : List Tr} {a0 : Tr} (hN : NodeC C m) (hs : ∀ t ∈ l, t.size ≤ m) (s0 : a0.size ≤ m) (hl : l.length = n) (hn6 : n + 1 ≤ 1000000) (hcap : n + 1 ≤ ck) (hk : KidsS C w Ak (l ++ [a0])) (hp : Pe C us v w) (hm : MayPut us ([[102, 117, 110, 99, 116, 105, 111, 110]] ++ ((namedP nm) ++ ((paramsP (prs l)) ++ (prT a0))))) :
    Calls Tryd.prog 69 #[.pointer (some ⟨C.g, 0, none⟩), .agg #[.int .i64 kk, .string ⟨nm.toArray⟩, vs, .int .i64 nk, .int .i64 nn, .bool ng, vm, .slice Ak (n + 1) ck]] w (PutQ C us v w ([[102, 117, 110, 99, 116, 105, 111, 110]] ++ ((namedP nm) ++ ((paramsP (prs l)) ++ (prT a0))))) := by
  obtain ⟨b, o, rfl, hka⟩ := hk (by simp)
  obtain ⟨W, hW⟩ : ∃ W, w.alloc (.cells #[.int .i64 kk, .string ⟨nm.toArray⟩, vs, .int .i64 nk, .int .i64 nn, .bool ng, vm, .slice (some ⟨b, o, none⟩) (n + 1) ck] 42) = W := ⟨_, rfl⟩
  have hb0 : Below w.heap.size w W := by rw [← hW]; exact (Below.refl _ _).alloc (Nat.le_refl _) _
  have hX1 : w.heap.size < W.heap.size := by rw [← hW]; simp
  have hXg : w.heap.size ≠ C.g := fun e => by have := hp.pn.lt; omega
  have hXv : v.ownBlock ≠ some w.heap.size := fun e => by have := (hp.pn.own.lt _ e).2; omega
  have x1 : W.cell? ⟨w.heap.size, 1, none⟩ = some (.string ⟨nm.toArray⟩) := by rw [← hW, World.cell?_alloc_at _ _ _ _ rfl]; rfl
  have x7 : W.cell? ⟨w.heap.size, 7, none⟩ = some (.slice (some ⟨b, o, none⟩) (n + 1) ck) := by rw [← hW, World.cell?_alloc_at _ _ _ _ rfl]; rfl
  have hkb := hka.below (hb0.mono (Nat.le_of_lt hp.blt))
  obtain ⟨p0, at0, bb0, cc0⟩ := hkb.last
  rw [hl] at cc0
  have AT0 := hide at0
  have HKI := hide hkb.init
  have HS := hide hs
  have HLL := hide hl
  have hcap2 : n ≤ ck := by omega
  have HP0 := hide (hp.below hb0)
  have HB0 := hide hb0
  have HN := hide hN
  obtain ⟨mm1, rr1⟩ := hm.two (b := [[102, 117, 110, 99, 116, 105, 111, 110]]) (c := (namedP nm) ++ ((paramsP (prs l)) ++ (prT a0))) rfl
  have M1 := hide mm1
  obtain ⟨mm2, rr2⟩ := rr1.two (b := namedP nm) (c := (paramsP (prs l)) ++ (prT a0)) rfl
  have M2 := hide mm2
  obtain ⟨mm3, rr3⟩ := rr2.two (b := paramsP (prs l)) (c := prT a0) rfl
  have M3 := hide mm3
  have M4 := hide rr3
  obtain ⟨X, hX⟩ : ∃ X, w.heap.size = X := ⟨_, rfl⟩
  go_enter Tryd.func69, Tryd.ntmps69
  go_upto_region 1 with (fail)
  clear hm hp hb0 hN hka hkb at0 hs hl mm1 rr1 mm2 rr2 mm3 rr3
  clear hW
  rw [hX] at x1
  rw [hX] at x7
  rw [hX] at hX1 hXg hXv
  clear hX
  have C1 := hide (put_lit HP0.out [[102, 117, 110, 99, 116, 105, 111, 110]] 1 rfl M1.out)
  go_wp2_with fail
  refine C1.out.mono ?_
  rintro e1 w1 ⟨rfl, v1, hp1, hk1⟩
  have HP1 := hide hp1
  have HK1 := hide (hk1)
  have cc0_1 := ((HP0.out.low HK1.out).cell (p := ⟨b, o + n, none⟩) bb0).trans cc0
  have x1_1 := (HK1.out.cell (p := ⟨X, 1, none⟩) hX1 hXg hXv).trans x1
  have x7_1 := (HK1.out.cell (p := ⟨X, 7, none⟩) hX1 hXg hXv).trans x7
  clear hp1 hk1
  have C2 := hide (pnamed_any HP1.out M2.out)
  go_wp2_with fail
  refine C2.out.mono ?_
  rintro e2 w2 ⟨rfl, v2, hp2, hk2⟩
  have HP2 := hide hp2
  have HK2 := hide (HK1.out.trans hk2)
  have cc0_2 := ((HP0.out.low HK2.out).cell (p := ⟨b, o + n, none⟩) bb0).trans cc0
  have x1_2 := (HK2.out.cell (p := ⟨X, 1, none⟩) hX1 hXg hXv).trans x1
  have x7_2 := (HK2.out.cell (p := ⟨X, 7, none⟩) hX1 hXg hXv).trans x7
  clear hp2 hk2
  have C3 := hide (pparams_any (ck := ck) HN.out HS.out (HKI.out.below (HP0.out.low HK2.out)).s HP2.out HLL.out (by omega) M3.out)
  go_wp2_with fail
  refine C3.out.mono ?_
  rintro e3 w3 ⟨rfl, v3, hp3, hk3⟩
  have HP3 := hide hp3
  have HK3 := hide (HK2.out.trans hk3)
  have cc0_3 := ((HP0.out.low HK3.out).cell (p := ⟨b, o + n, none⟩) bb0).trans cc0
  have x1_3 := (HK3.out.cell (p := ⟨X, 1, none⟩) hX1 hXg hXv).trans x1
  have x7_3 := (HK3.out.cell (p := ⟨X, 7, none⟩) hX1 hXg hXv).trans x7
  clear hp3 hk3
  have C4 := hide (HN.out a0 p0 _ v3 w3 s0 AT0.out HP3.out M4.out)
  go_wp2_with fail
  refine C4.out.mono ?_
  rintro e4 w4 ⟨rfl, v4, hp4, hk4⟩
  have HP4 := hide hp4
  have HK4 := hide (HK3.out.trans hk4)
  have cc0_4 := ((HP0.out.low HK4.out).cell (p := ⟨b, o + n, none⟩) bb0).trans cc0
  have x1_4 := (HK4.out.cell (p := ⟨X, 1, none⟩) hX1 hXg hXv).trans x1
  have x7_4 := (HK4.out.cell (p := ⟨X, 7, none⟩) hX1 hXg hXv).trans x7
  clear hp4 hk4
  go_wp2_with fail
  refine bodyPost_ret (v := .tuple #[]) (by simp [results, Tryd.results69, go_sem]) rfl ?_
  refine PutQ.back HB0.out ⟨rfl, v4, ?_, HK4.out⟩
  have := HP4.out
  simp only [← putA_app, List.append_assoc] at this
  exact this
set_option maxHeartbeats 4000000 in
set_option maxRecDepth 100000 in
theorem parrow_block {C : Cx} {m n ck : Nat} {Ak : Option Addr} {us : List UInt16} {v : Value} {w : World} (kk : Int) (nm : List UInt8) (vs vm : Value) (nk nn : Int) (ng : Bool) {l : List Tr} {a0 : Tr} (hN : NodeC C m) (hs : ∀ t ∈ l, t.size ≤ m) (s0 : a0.size ≤ m) (hl : l.length = n) (hn6 : n + 1 ≤ 1000000) (hcap : n + 1 ≤ ck) (hk : KidsS C w Ak (l ++ [a0])) (hp : Pe C us v w) (hK : a0.nd.kind = 4) (hm : MayPut us ((paramsP (prs l)) ++ ([[61, 62]] ++ (prT a0)))) :
    Calls Tryd.prog 70 #[.pointer (some ⟨C.g, 0, none⟩), .agg #[.int .i64 kk, .string ⟨nm.toArray⟩, vs, .int .i64 nk, .int .i64 nn, .bool ng, vm, .slice Ak (n + 1) ck]] w (PutQ C us v w ((paramsP (prs l)) ++ ([[61, 62]] ++ (prT a0)))) := by
  obtain ⟨b, o, rfl, hka⟩ := hk (by simp)
  obtain ⟨W, hW⟩ : ∃ W, w.alloc (.cells #[.int .i64 kk, .string ⟨nm.toArray⟩, vs, .int .i64 nk, .int .i64 nn, .bool ng, vm, .slice (some ⟨b, o, none⟩) (n + 1) ck] 42) = W := ⟨_, rfl⟩
  have hb0 : Below w.heap.size w W := by rw [← hW]; exact (Below.refl _ _).alloc (Nat.le_refl _) _
  have hX1 : w.heap.size < W.heap.size := by rw [← hW]; simp
  have hXg : w.heap.size ≠ C.g := fun e => by have := hp.pn.lt; omega
  have hXv : v.ownBlock ≠ some w.heap.size := fun e => by have := (hp.pn.own.lt _ e).2; omega
  have x1 : W.cell? ⟨w.heap.size, 1, none⟩ = some (.string ⟨nm.toArray⟩) := by rw [← hW, World.cell?_alloc_at _ _ _ _ rfl]; rfl
  have x7 : W.cell? ⟨w.heap.size, 7, none⟩ = some (.slice (some ⟨b, o, none⟩) (n + 1) ck) := by rw [← hW, World.cell?_alloc_at _ _ _ _ rfl]; rfl
  have hkb := hka.below (hb0.mono (Nat.le_of_lt hp.blt))
  obtain ⟨p0, at0, bb0, cc0⟩ := hkb.last
  rw [hl] at cc0
  have AT0 := hide at0
  have HKI := hide hkb.init
  have HS := hide hs
  have HLL := hide hl
  have hcap2 : n ≤ ck := by omega
  have HP0 := hide (hp.below hb0)
  have HB0 := hide hb0
  have HN := hide hN
  obtain ⟨mm1, rr1⟩ := hm.two (b := paramsP (prs l)) (c := [[61, 62]] ++ (prT a0)) rfl
  have M1 := hide mm1
  obtain ⟨mm2, rr2⟩ := rr1.two (b := [[61, 62]]) (c := prT a0) rfl
  have M2 := hide mm2
  have M3 := hide rr2
  have HKK := hide hK
  obtain ⟨X, hX⟩ : ∃ X, w.heap.size = X := ⟨_, rfl⟩
  go_enter Tryd.func70, Tryd.ntmps70
  go_upto_region 1 with (fail)
  clear hK hm hp hb0 hN hka hkb at0 hs hl mm1 rr1 mm2 rr2
  clear hW
  rw [hX] at x1
  rw [hX] at x7
  rw [hX] at hX1 hXg hXv
  clear hX
  have C1 := hide (pparams_any (ck := ck) HN.out HS.out HKI.out.s HP0.out HLL.out (by omega) M1.out)
  go_wp2_with fail
  refine C1.out.mono ?_
  rintro e1 w1 ⟨rfl, v1, hp1, hk1⟩
  have HP1 := hide hp1
  have HK1 := hide (hk1)
  have cc0_1 := ((HP0.out.low HK1.out).cell (p := ⟨b, o + n, none⟩) bb0).trans cc0
  have x1_1 := (HK1.out.cell (p := ⟨X, 1, none⟩) hX1 hXg hXv).trans x1
  have x7_1 := (HK1.out.cell (p := ⟨X, 7, none⟩) hX1 hXg hXv).trans x7
  clear hp1 hk1
  have C2 := hide (put_lit HP1.out [[61, 62]] 1 rfl M2.out)
  go_wp2_with fail
  refine C2.out.mono ?_
  rintro e2 w2 ⟨rfl, v2, hp2, hk2⟩
  have HP2 := hide hp2
  have HK2 := hide (HK1.out.trans hk2)
  have cc0_2 := ((HP0.out.low HK2.out).cell (p := ⟨b, o + n, none⟩) bb0).trans cc0
  have x1_2 := (HK2.out.cell (p := ⟨X, 1, none⟩) hX1 hXg hXv).trans x1
  have x7_2 := (HK2.out.cell (p := ⟨X, 7, none⟩) hX1 hXg hXv).trans x7
  clear hp2 hk2
  have CK := hide (show Calls Tryd.prog 78 #[.pointer (some ⟨C.g, 0, none⟩), .int .i64 (p0 : Int)] w2 fun e w' => e = .returned (.int .i64 4) ∧ w2 = w' from by have := pkind_any HP2.out AT0.out.get; rw [laid_kind, HKK.out] at this; exact this)
  go_wp2_with fail
  refine CK.out.mono ?_
  rintro ek wk ⟨rfl, rfl⟩
  have C3 := hide (HN.out a0 p0 _ v2 w2 s0 AT0.out HP2.out M3.out)
  go_wp2_with fail
  refine C3.out.mono ?_
  rintro e3 w3 ⟨rfl, v3, hp3, hk3⟩
  have HP3 := hide hp3
  have HK3 := hide (HK2.out.trans hk3)
  have cc0_3 := ((HP0.out.low HK3.out).cell (p := ⟨b, o + n, none⟩) bb0).trans cc0
  have x1_3 := (HK3.out.cell (p := ⟨X, 1, none⟩) hX1 hXg hXv).trans x1
  have x7_3 := (HK3.out.cell (p := ⟨X, 7, none⟩) hX1 hXg hXv).trans x7
  clear hp3 hk3
  go_wp2_with fail
  refine bodyPost_ret (v := .tuple #[]) (by simp [results, Tryd.results70, go_sem]) rfl ?_
  refine PutQ.back HB0.out ⟨rfl, v3, ?_, HK3.out⟩
  have := HP3.out
  simp only [← putA_app, List.append_assoc] at this
  exact this
set_option maxHeartbeats 4000000 in
set_option maxRecDepth 100000 in
theorem parrow_in {C : Cx} {m n ck : Nat} {Ak : Option Addr} {us : List UInt16} {v : Value} {w : World} (kk : Int) (nm : List UInt8) (vs vm : Value) (nk nn : Int) (ng : Bool) {l : List Tr} {a0 : Tr} (hN : NodeC C m) (hs : ∀ t ∈ l, t.size ≤ m) (s0 : a0.size ≤ m) (hl : l.length = n) (hn6 : n + 1 ≤ 1000000) (hcap : n + 1 ≤ ck) (hk : KidsS C w Ak (l ++ [a0])) (hp : Pe C us v w) {K2 : Int} (hK : a0.nd.kind = K2) (hK4 : K2 ≠ 4) (hm : MayPut us ((paramsP (prs l)) ++ ([[61, 62]] ++ (inP (prT a0))))) :
    Calls Tryd.prog 70 #[.pointer (some ⟨C.g, 0, none⟩), .agg #[.int .i64 kk, .string ⟨nm.toArray⟩, vs, .int .i64 nk, .int .i64 nn, .bool ng, vm, .slice Ak (n + 1) ck]] w (PutQ C us v w ((paramsP (prs l)) ++ ([[61, 62]] ++ (inP (prT a0))))) := by
  obtain ⟨b, o, rfl, hka⟩ := hk (by simp)
  obtain ⟨W, hW⟩ : ∃ W, w.alloc (.cells #[.int .i64 kk, .string ⟨nm.toArray⟩, vs, .int .i64 nk, .int .i64 nn, .bool ng, vm, .slice (some ⟨b, o, none⟩) (n + 1) ck] 42) = W := ⟨_, rfl⟩
  have hb0 : Below w.heap.size w W := by rw [← hW]; exact (Below.refl _ _).alloc (Nat.le_refl _) _
  have hX1 : w.heap.size < W.heap.size := by rw [← hW]; simp
  have hXg : w.heap.size ≠ C.g := fun e => by have := hp.pn.lt; omega
  have hXv : v.ownBlock ≠ some w.heap.size := fun e => by have := (hp.pn.own.lt _ e).2; omega
  have x1 : W.cell? ⟨w.heap.size, 1, none⟩ = some (.string ⟨nm.toArray⟩) := by rw [← hW, World.cell?_alloc_at _ _ _ _ rfl]; rfl
  have x7 : W.cell? ⟨w.heap.size, 7, none⟩ = some (.slice (some ⟨b, o, none⟩) (n + 1) ck) := by rw [← hW, World.cell?_alloc_at _ _ _ _ rfl]; rfl
  have hkb := hka.below (hb0.mono (Nat.le_of_lt hp.blt))
  obtain ⟨p0, at0, bb0, cc0⟩ := hkb.last
  rw [hl] at cc0
  have AT0 := hide at0
  have HKI := hide hkb.init
  have HS := hide hs
  have HLL := hide hl
  have hcap2 : n ≤ ck := by omega
  have HP0 := hide (hp.below hb0)
  have HB0 := hide hb0
  have HN := hide hN
  obtain ⟨mm1, rr1⟩ := hm.two (b := paramsP (prs l)) (c := [[61, 62]] ++ (inP (prT a0))) rfl
  have M1 := hide mm1
  obtain ⟨mm2, rr2⟩ := rr1.two (b := [[61, 62]]) (c := inP (prT a0)) rfl
  have M2 := hide mm2
  have M3 := hide rr2
  have HKK := hide hK
  have e4 : (K2 == 4) = false := beq_eq_false_iff_ne.2 hK4
  obtain ⟨X, hX⟩ : ∃ X, w.heap.size = X := ⟨_, rfl⟩
  go_enter Tryd.func70, Tryd.ntmps70
  go_upto_region 1 with (fail)
  clear hK hK4 hm hp hb0 hN hka hkb at0 hs hl mm1 rr1 mm2 rr2
  clear hW
  rw [hX] at x1
  rw [hX] at x7
  rw [hX] at hX1 hXg hXv
  clear hX
  have C1 := hide (pparams_any (ck := ck) HN.out HS.out HKI.out.s HP0.out HLL.out (by omega) M1.out)
  go_wp2_with fail
  refine C1.out.mono ?_
  rintro e1 w1 ⟨rfl, v1, hp1, hk1⟩
  have HP1 := hide hp1
  have HK1 := hide (hk1)
  have cc0_1 := ((HP0.out.low HK1.out).cell (p := ⟨b, o + n, none⟩) bb0).trans cc0
  have x1_1 := (HK1.out.cell (p := ⟨X, 1, none⟩) hX1 hXg hXv).trans x1
  have x7_1 := (HK1.out.cell (p := ⟨X, 7, none⟩) hX1 hXg hXv).trans x7
  clear hp1 hk1
  have C2 := hide (put_lit HP1.out [[61, 62]] 1 rfl M2.out)
  go_wp2_with fail
  refine C2.out.mono ?_
  rintro e2 w2 ⟨rfl, v2, hp2, hk2⟩
  have HP2 := hide hp2
  have HK2 := hide (HK1.out.trans hk2)
  have cc0_2 := ((HP0.out.low HK2.out).cell (p := ⟨b, o + n, none⟩) bb0).trans cc0
  have x1_2 := (HK2.out.cell (p := ⟨X, 1, none⟩) hX1 hXg hXv).trans x1
  have x7_2 := (HK2.out.cell (p := ⟨X, 7, none⟩) hX1 hXg hXv).trans x7
  clear hp2 hk2
  have CK := hide (show Calls Tryd.prog 78 #[.pointer (some ⟨C.g, 0, none⟩), .int .i64 (p0 : Int)] w2 fun e w' => e = .returned (.int .i64 K2) ∧ w2 = w' from by have := pkind_any HP2.out AT0.out.get; rw [laid_kind, HKK.out] at this; exact this)
  go_wp2_with fail
  refine CK.out.mono ?_
  rintro ek wk ⟨rfl, rfl⟩
  have C3 := hide (pin_any HN.out s0 AT0.out HP2.out M3.out)
  go_wp2_with fail
  refine C3.out.mono ?_
  rintro e3 w3 ⟨rfl, v3, hp3, hk3⟩
  have HP3 := hide hp3
  have HK3 := hide (HK2.out.trans hk3)
  have cc0_3 := ((HP0.out.low HK3.out).cell (p := ⟨b, o + n, none⟩) bb0).trans cc0
  have x1_3 := (HK3.out.cell (p := ⟨X, 1, none⟩) hX1 hXg hXv).trans x1
  have x7_3 := (HK3.out.cell (p := ⟨X, 7, none⟩) hX1 hXg hXv).trans x7
  clear hp3 hk3
  go_wp2_with fail
  refine bodyPost_ret (v := .tuple #[]) (by simp [results, Tryd.results70, go_sem]) rfl ?_
  refine PutQ.back HB0.out ⟨rfl, v3, ?_, HK3.out⟩
  have := HP3.out
  simp only [← putA_app, List.append_assoc] at this
  exact this
set_option maxHeartbeats 4000000 in
set_option maxRecDepth 100000 in
theorem pcall_more {C : Cx} {m n ck : Nat} {Ak : Option Addr} {us : List UInt16} {v : Value} {w : World} {l : List Tr} {a0 : Tr} (hN : NodeC C m) (hs : ∀ t ∈ l, t.size ≤ m) (s0 : a0.size ≤ m) (hl : l.length = n) (hn6 : n + 1 ≤ 1000000) (hcap : n + 1 ≤ ck) (hck : ck ≠ 1) (hk : KidsS C w Ak (a0 :: l)) (hp : Pe C us v w) (hm : MayPut us (partP (a0.nd.kind, prT a0) ++ ([[40]] ++ (comP partP (prs l) ++ [[41]])))) :
    Calls Tryd.prog 86 #[.pointer (some ⟨C.g, 0, none⟩), .slice Ak (n + 1) ck] w (PutQ C us v w (partP (a0.nd.kind, prT a0) ++ ([[40]] ++ (comP partP (prs l) ++ [[41]])))) := by
  obtain ⟨b, o, rfl, hka⟩ := hk (by simp)
  obtain ⟨p0, at0, bb0, cc0⟩ := hka 0 (by simp)
  have c0 : w.cell? ⟨b, o, none⟩ = some (.int .i64 (p0 : Int)) := cc0
  have AT0 := hide at0
  have HKT := hide hka.tail
  have HS := hide hs
  have HLL := hide hl
  have HP0 := hide hp
  have HN := hide hN
  have hck1 : 1 ≤ ck := by omega
  have hck2 : (1 : Int) ≤ (ck : Int) := by omega
  have hckn : ¬ ck = 1 := hck
  clear hck
  obtain ⟨mm1, rr1⟩ := hm.two (b := partP (a0.nd.kind, prT a0)) (c := [[40]] ++ (comP partP (prs l) ++ [[41]])) rfl
  obtain ⟨mm2, rr2⟩ := rr1.two (b := [[40]]) (c := comP partP (prs l) ++ [[41]]) rfl
  obtain ⟨mm3, rr3⟩ := rr2.app
  have M1 := hide mm1
  have M2 := hide mm2
  have M3 := hide mm3
  have M4 := hide rr3
  clear hm hp hN hka at0 cc0 hs hl mm1 rr1 mm2 rr2 mm3 rr3
  go_enter Tryd.func86, Tryd.ntmps86
  have C1 := hide (ppart_any HN.out s0 AT0.out HP0.out M1.out)
  go_wp2_with fail
  refine C1.out.mono ?_
  rintro e1 w1 ⟨rfl, v1, hp1, hk1⟩
  have C2 := hide (put_lit hp1 [[40]] 1 rfl M2.out)
  have HK1 := hide hk1
  clear hp1 hk1
  go_wp2_with fail
  refine C2.out.mono ?_
  rintro e2 w2 ⟨rfl, v2, hp2, hk2⟩
  have HK2 := hide (HK1.out.trans hk2)
  have C3 := hide (plist_part (ck := ck - 1) HN.out HS.out (HKT.out.below (HP0.out.low HK2.out)).s hp2 HLL.out (by omega) M3.out)
  clear hp2 hk2
  go_wp2_with fail
  refine C3.out.mono ?_
  rintro e3 w3 ⟨rfl, v3, hp3, hk3⟩
  have C4 := hide (put_lit hp3 [[41]] 1 rfl M4.out)
  have HK3 := hide (HK2.out.trans hk3)
  clear hp3 hk3
  go_wp2_with fail
  refine C4.out.mono ?_
  rintro e4 w4 ⟨rfl, v4, hp4, hk4⟩
  have HP4 := hide hp4
  have HK4 := hide (HK3.out.trans hk4)
  clear hp4 hk4
  go_wp2_with fail
  refine bodyPost_ret (v := .tuple #[]) (by simp [results, Tryd.results86, go_sem]) rfl ?_
  refine ⟨rfl, v4, ?_, HK4.out⟩
  have := HP4.out
  simp only [← putA_app, List.append_assoc] at this
  exact this
set_option maxHeartbeats 4000000 in
set_option maxRecDepth 100000 in
theorem pcall_one {C : Cx} {m n ck : Nat} {Ak : Option Addr} {us : List UInt16} {v : Value} {w : World} {l : List Tr} {a0 : Tr} (hN : NodeC C m) (hs : ∀ t ∈ l, t.size ≤ m) (s0 : a0.size ≤ m) (hl : l.length = n) (hn6 : n + 1 ≤ 1000000) (hcap : n + 1 ≤ ck) (hck : ck = 1) (hk : KidsS C w Ak (a0 :: l)) (hp : Pe C us v w) (hm : MayPut us (partP (a0.nd.kind, prT a0) ++ ([[40]] ++ (comP partP (prs l) ++ [[41]])))) :
    Calls Tryd.prog 86 #[.pointer (some ⟨C.g, 0, none⟩), .slice Ak (n + 1) ck] w (PutQ C us v w (partP (a0.nd.kind, prT a0) ++ ([[40]] ++ (comP partP (prs l) ++ [[41]])))) := by
  obtain ⟨b, o, rfl, hka⟩ := hk (by simp)
  obtain ⟨p0, at0, bb0, cc0⟩ := hka 0 (by simp)
  have c0 : w.cell? ⟨b, o, none⟩ = some (.int .i64 (p0 : Int)) := cc0
  have AT0 := hide at0
  have HKT := hide hka.tail
  have HS := hide hs
  have HLL := hide hl
  have HP0 := hide hp
  have HN := hide hN
  have hck1 : 1 ≤ ck := by omega
  have hck2 : (1 : Int) ≤ (ck : Int) := by omega
  obtain rfl := hck
  have hn0 : n = 0 := by omega
  have hl0 : l = [] := List.length_eq_zero_iff.1 (by omega)
  have HL0 := hide hl0
  subst hn0
  clear hl0
  obtain ⟨mm1, rr1⟩ := hm.two (b := partP (a0.nd.kind, prT a0)) (c := [[40]] ++ (comP partP (prs l) ++ [[41]])) rfl
  obtain ⟨mm2, rr2⟩ := rr1.two (b := [[40]]) (c := comP partP (prs l) ++ [[41]]) rfl
  obtain ⟨mm3, rr3⟩ := rr2.app
  have M1 := hide mm1
  have M2 := hide mm2
  have M3 := hide mm3
  have M4 := hide rr3
  clear hm hp hN hka at0 cc0 hs hl mm1 rr1 mm2 rr2 mm3 rr3
  go_enter Tryd.func86, Tryd.ntmps86
  have C1 := hide (ppart_any HN.out s0 AT0.out HP0.out M1.out)
  go_wp2_with fail
  refine C1.out.mono ?_
  rintro e1 w1 ⟨rfl, v1, hp1, hk1⟩
  have C2 := hide (put_lit hp1 [[40]] 1 rfl M2.out)
  have HK1 := hide hk1
  clear hp1 hk1
  go_wp2_with fail
  refine C2.out.mono ?_
  rintro e2 w2 ⟨rfl, v2, hp2, hk2⟩
  have HK2 := hide (HK1.out.trans hk2)
  have C3 := hide (plist_part (Al := some ⟨b, o, none⟩) (ck := 0) HN.out HS.out (fun h => absurd HL0.out h) hp2 HLL.out (by omega) M3.out)
  clear hp2 hk2
  go_wp2_with fail
  refine C3.out.mono ?_
  rintro e3 w3 ⟨rfl, v3, hp3, hk3⟩
  have C4 := hide (put_lit hp3 [[41]] 1 rfl M4.out)
  have HK3 := hide (HK2.out.trans hk3)
  clear hp3 hk3
  go_wp2_with fail
  refine C4.out.mono ?_
  rintro e4 w4 ⟨rfl, v4, hp4, hk4⟩
  have HP4 := hide hp4
  have HK4 := hide (HK3.out.trans hk4)
  clear hp4 hk4
  go_wp2_with fail
  refine bodyPost_ret (v := .tuple #[]) (by simp [results, Tryd.results86, go_sem]) rfl ?_
  refine ⟨rfl, v4, ?_, HK4.out⟩
  have := HP4.out
  simp only [← putA_app, List.append_assoc] at this
  exact this
theorem pcall_any {C : Cx} {m n ck : Nat} {Ak : Option Addr} {us : List UInt16} {v : Value} {w : World} {l : List Tr} {a0 : Tr} (hN : NodeC C m) (hs : ∀ t ∈ l, t.size ≤ m) (s0 : a0.size ≤ m) (hl : l.length = n) (hn6 : n + 1 ≤ 1000000) (hcap : n + 1 ≤ ck) (hk : KidsS C w Ak (a0 :: l)) (hp : Pe C us v w) (hm : MayPut us (callP (prs (a0 :: l)))) :
    Calls Tryd.prog 86 #[.pointer (some ⟨C.g, 0, none⟩), .slice Ak (n + 1) ck] w (PutQ C us v w (callP (prs (a0 :: l)))) := by
  have e : callP (prs (a0 :: l)) = partP (a0.nd.kind, prT a0) ++ ([[40]] ++ (comP partP (prs l) ++ [[41]])) := by rw [prs_cons]; rfl
  rw [e] at hm ⊢
  by_cases h : ck = 1
  · exact pcall_one hN hs s0 hl hn6 hcap h hk hp hm
  · exact pcall_more hN hs s0 hl hn6 hcap h hk hp hm
end Go.Proofs.YtelcjdblnagdgaaDoor
