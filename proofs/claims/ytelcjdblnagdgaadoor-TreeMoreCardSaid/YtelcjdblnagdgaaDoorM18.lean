/- Joined for a claim: TParam, TreeOwn, POrd, POp, PNest, TCopy. -/
import Derived.Test.YtelcjdblnagdgaaDoorM01
import Derived.ProofKit
import Derived.OpenShut
import Derived.Deep.Slices
import Derived.Test.YtelcjdblnagdgaaDoorM12
import Derived.Laws.OwnMore
import Derived.Test.YtelcjdblnagdgaaDoorM04
import Derived.Test.YtelcjdblnagdgaaDoorM02
import Derived.Test.YtelcjdblnagdgaaDoorM09
namespace Go.Proofs.YtelcjdblnagdgaaDoor
open Go.ChangeShapes Go.WideShapes Go.ChangeAt Go.RowKit

theorem cellsNode : Tryd.prog.cellsOf 42 = 8 := by kernel_rfl
theorem cellsTree : Tryd.prog.cellsOf 24 = 1 := by kernel_rfl
theorem cellsNum : Tryd.prog.cellsOf 37 = 2 := by kernel_rfl
theorem cellsBig : Tryd.prog.cellsOf 40 = 2 := by kernel_rfl
theorem cellsInt : Tryd.prog.cellsOf 3 = 1 := by kernel_rfl
theorem cellsStr : Tryd.prog.cellsOf 9 = 1 := by kernel_rfl
theorem cellsBool : Tryd.prog.cellsOf 4 = 1 := by kernel_rfl
theorem cellsU16 : Tryd.prog.cellsOf 34 = 1 := by kernel_rfl
theorem cellsU32 : Tryd.prog.cellsOf 64 = 1 := by kernel_rfl
theorem cellsU16s : Tryd.prog.cellsOf 30 = 1 := by kernel_rfl
theorem cellsU32s : Tryd.prog.cellsOf 38 = 1 := by kernel_rfl
theorem cellsInts : Tryd.prog.cellsOf 27 = 1 := by kernel_rfl
theorem cellsNodes : Tryd.prog.cellsOf 22 = 1 := by kernel_rfl
section
variable {H : Type} {enc : TypeId × Value → H} {W : World}
theorem open_reads {t e : TypeId} {k : IntKind} {fuel : Nat} {cs : List Value} {x : DataW H × List MemPlace} (ht : Tryd.prog.underlying t = some (.slice e)) (he : Tryd.prog.underlying e = some (.int k)) (hc : Tryd.prog.cellsOf e = 1)
    (h : DataW.trod enc Tryd.prog W 0 (fun _ => true) true fuel t cs = some x) :
    ∃ (A : Option Addr) (n c : Nat) (zs : List Int), cs = [.slice A n c] ∧ n ≤ c ∧ c ≤ maxLen ∧ zs.length = n ∧ (∀ z ∈ zs, (Lit.int k z).wf = true) ∧ Reads W W.heap.size 1 A n (zs.map (Value.int k)) := by
  rcases open_ints ht he hc h with ⟨hcs, _⟩ | ⟨a, len, cap, zs, hcs, _, hl, hm, hz, _, hcell, hwf⟩
  · exact ⟨none, 0, 0, [], hcs, Nat.le_refl _, Nat.zero_le _, rfl, fun z hz => (by cases hz), Reads.none_⟩
  · simp only [if_true] at hz
    have hlen : (zs.take len).length = len := by rw [List.length_take]; omega
    refine ⟨some a, len, cap, zs.take len, hcs, hl, hm, hlen, fun z hz' => hwf z (List.mem_of_mem_take hz'), by rw [List.length_map, hlen, Nat.mul_one], fun hn => ⟨a, rfl, ?_, fun j u hu => ?_⟩⟩
    · have h0 := hcell 0 (by omega)
      have := World.block_lt_of_cell? W _ h0
      rwa [block_of_add] at this
    · have hj : j < len := by
        have := (List.getElem?_eq_some_iff.1 hu).1
        rw [List.length_map, hlen] at this
        exact this
      rw [hcell j (by omega), ← hu, List.getElem?_map, List.getElem?_take, if_pos hj]
      have hzj : j < zs.length := by omega
      simp [List.getD_eq_getElem?_getD, List.getElem?_eq_getElem hzj]
theorem Num_read {fuel : Nat} {cs : List Value} {x : DataW H × List MemPlace} (h : DataW.trod enc Tryd.prog W 0 (fun _ => true) true fuel 37 cs = some x) :
    ∃ k n : Int, cs = [.int .i64 k, .int .i64 n] ∧ (Lit.int .i64 k).wf = true ∧ (Lit.int .i64 n).wf = true := by
  obtain ⟨y0, y1, m, _, hl, h0, h1⟩ := trod_struct2 Tryd.underlying37 h
  rw [cellsNum] at hl
  simp only [cellsInt] at h0 h1
  match cs, hl with
  | [a, b], _ =>
    obtain ⟨k, e0, _, w0⟩ := DataW.trod_int Tryd.underlying3 h0
    obtain ⟨n, e1, _, w1⟩ := DataW.trod_int Tryd.underlying3 h1
    simp only [List.drop_zero, List.take_succ_cons, List.take_zero, List.drop_succ_cons, List.cons.injEq, and_true] at e0 e1
    subst e0 e1
    exact ⟨k, n, rfl, w0, w1⟩
theorem Big_read {fuel : Nat} {cs : List Value} {x : DataW H × List MemPlace} (h : DataW.trod enc Tryd.prog W 0 (fun _ => true) true fuel 40 cs = some x) :
    ∃ (b : Bool) (A : Option Addr) (n c : Nat) (zs : List Int), cs = [.bool b, .slice A n c] ∧ n ≤ c ∧ c ≤ maxLen ∧ zs.length = n ∧ (∀ z ∈ zs, (Lit.int .u32 z).wf = true) ∧ Reads W W.heap.size 1 A n (zs.map (Value.int .u32)) := by
  obtain ⟨y0, y1, m, _, hl, h0, h1⟩ := trod_struct2 Tryd.underlying40 h
  rw [cellsBig] at hl
  simp only [cellsBool, cellsU32s] at h0 h1
  match cs, hl with
  | [a, b], _ =>
    obtain ⟨k, e0, _⟩ := DataW.trod_bool Tryd.underlying4 h0
    obtain ⟨A, n, c, zs, e1, h2, h3, h4, h5, h6⟩ := open_reads Tryd.underlying38 Tryd.underlying64 cellsU32 h1
    simp only [List.drop_zero, List.take_succ_cons, List.take_zero, List.drop_succ_cons, List.cons.injEq, and_true] at e0 e1
    subst e0 e1
    exact ⟨k, A, n, c, zs, rfl, h2, h3, h4, h5, h6⟩
theorem bytes_arr (s : ByteArray) : (⟨s.toList.toArray⟩ : ByteArray) = s := by
  rw [ByteArray.toList_eq]
set_option maxRecDepth 1000000 in
theorem Node_read {fuel : Nat} {cs : List Value} {d : DataW H × List MemPlace} (h : DataW.trod enc Tryd.prog W 0 (fun _ => true) true fuel 42 cs = some d) :
    ∃ x s, cs = ndV x s ∧ NdR W W.heap.size x s := by
  obtain ⟨xs, m, _, _, hl, hxl, hf⟩ := DataW.trod_struct Tryd.underlying42 h
  rw [cellsNode] at hl
  match cs, hl with
  | [a0, a1, a2, a3, a4, a5, a6, a7], _ =>
    match xs, hxl with
    | [y0, y1, y2, y3, y4, y5], _ =>
      have f0 : DataW.trod enc Tryd.prog W 0 (fun _ => true) true m 3 (([a0, a1, a2, a3, a4, a5, a6, a7].drop 0).take (Tryd.prog.cellsOf 3)) = [y0, y1, y2, y3, y4, y5][0]? := hf 0 _ rfl
      have f1 : DataW.trod enc Tryd.prog W 0 (fun _ => true) true m 9 (([a0, a1, a2, a3, a4, a5, a6, a7].drop 1).take (Tryd.prog.cellsOf 9)) = [y0, y1, y2, y3, y4, y5][1]? := hf 1 _ rfl
      have f2 : DataW.trod enc Tryd.prog W 0 (fun _ => true) true m 30 (([a0, a1, a2, a3, a4, a5, a6, a7].drop 2).take (Tryd.prog.cellsOf 30)) = [y0, y1, y2, y3, y4, y5][2]? := hf 2 _ rfl
      have f3 : DataW.trod enc Tryd.prog W 0 (fun _ => true) true m 37 (([a0, a1, a2, a3, a4, a5, a6, a7].drop 3).take (Tryd.prog.cellsOf 37)) = [y0, y1, y2, y3, y4, y5][3]? := hf 3 _ rfl
      have f4 : DataW.trod enc Tryd.prog W 0 (fun _ => true) true m 40 (([a0, a1, a2, a3, a4, a5, a6, a7].drop 5).take (Tryd.prog.cellsOf 40)) = [y0, y1, y2, y3, y4, y5][4]? := hf 4 _ rfl
      have f5 : DataW.trod enc Tryd.prog W 0 (fun _ => true) true m 27 (([a0, a1, a2, a3, a4, a5, a6, a7].drop 7).take (Tryd.prog.cellsOf 27)) = [y0, y1, y2, y3, y4, y5][5]? := hf 5 _ rfl
      simp only [cellsInt, cellsStr, cellsU16s, cellsNum, cellsBig, cellsInts, List.drop_zero, List.take_succ_cons, List.take_zero, List.drop_succ_cons, List.getElem?_cons_zero, List.getElem?_cons_succ] at f0 f1 f2 f3 f4 f5
      obtain ⟨k, e0, _, w0⟩ := DataW.trod_int Tryd.underlying3 f0
      obtain ⟨nm, e1, _, w1⟩ := DataW.trod_string Tryd.underlying9 f1
      obtain ⟨As, ns, cs', zs, e2, s1, s2, s3, s4, s5⟩ := open_reads Tryd.underlying30 Tryd.underlying34 cellsU16 f2
      obtain ⟨nk, nn, e3, w3, w4⟩ := Num_read f3
      obtain ⟨ng, Am, nm2, cm, zm, e4, m1, m2, m3, m4, m5⟩ := Big_read f4
      obtain ⟨Ak, nk2, ck, zk, e5, k1, k2, k3, k4, k5⟩ := open_reads Tryd.underlying27 Tryd.underlying3 cellsInt f5
      simp only [List.cons.injEq, and_true] at e0 e1 e2 e3 e4 e5
      obtain ⟨e3, e3'⟩ := e3
      obtain ⟨e4, e4'⟩ := e4
      subst e0 e1 e2 e3 e3' e4 e4' e5
      subst s3 m3 k3
      have hu : u16s (zs.map fun n => UInt16.ofNat n.toNat) = zs.map (Value.int .u16) := by
        unfold u16s
        rw [List.map_map]
        refine List.map_congr_left fun z hz => ?_
        have hw := bounds_u16 (s4 z hz)
        show Value.int .u16 _ = _
        have e : ((UInt16.ofNat z.toNat).toNat : Int) = z := by simp; omega
        exact congrArg _ e
      have hm : n32s (zm.map fun n => n.toNat) = zm.map (Value.int .u32) := by
        unfold n32s
        rw [List.map_map]
        refine List.map_congr_left fun z hz => ?_
        have hw := bounds_u32 (m4 z hz)
        have e : ((z.toNat : Nat) : Int) = z := by omega
        exact congrArg _ e
      refine ⟨⟨k, nm.toList, zs.map fun n => UInt16.ofNat n.toNat, nk, nn, ng, zm.map fun n => n.toNat, zk⟩, ⟨As, Am, Ak, cs', cm, ck⟩, ?_, ?_⟩
      · unfold ndV
        simp only [bytes_arr, List.length_map]
      · refine ⟨?_, ?_, ?_, ?_, ?_, ?_, fun y hy => ?_, fun y hy => bounds_i64 (k4 y hy), bounds_i64 w0, bounds_i64 w3, bounds_i64 w4, ?_⟩
        · show Reads W W.heap.size 1 As (List.map _ zs).length (u16s _)
          rw [hu, List.length_map]; exact s5
        · show Reads W W.heap.size 1 Am (List.map _ zm).length (n32s _)
          rw [hm, List.length_map]; exact m5
        · exact k5
        · show (List.map _ zs).length ≤ _ ∧ _
          rw [List.length_map]; exact ⟨s1, s2⟩
        · show (List.map _ zm).length ≤ _ ∧ _
          rw [List.length_map]; exact ⟨m1, m2⟩
        · exact ⟨k1, k2⟩
        · obtain ⟨z, hz, rfl⟩ := List.mem_map.1 hy
          have hw := bounds_u32 (m4 z hz)
          omega
        · show nm.toList.length ≤ _
          rw [ByteArray.toList_eq]
          have : nm.data.toList.length = nm.size := by simp
          rw [this]
          unfold maxLen at w1
          omega
/-- a slice of nodes -/
theorem nodes_read {fuel : Nat} {cs : List Value} {d : DataW H × List MemPlace} (h : DataW.trod enc Tryd.prog W 0 (fun _ => true) true fuel 22 cs = some d) :
    ∃ (A : Option Addr) (n c : Nat) (ts : List Nd), cs = [.slice A n c] ∧ n ≤ c ∧ c ≤ maxLen ∧ NdsR W W.heap.size A n ts := by
  rcases Go.Deep.open_slice Tryd.underlying22 h with ⟨hcs, _⟩ | ⟨a, len, cap, m, n, D, Pl, hcs, _, hl, hm, hmm, _, hx⟩
  · exact ⟨none, 0, 0, [], hcs, Nat.le_refl _, Nat.zero_le _, NdsR.nil rfl⟩
  · simp only [if_true] at hmm
    subst hmm
    have each : ∀ i, i < len → ∃ p : Nd × NdSl, W.cells? 0 (a.add (i * 8)) 8 = some (ndV p.1 p.2) ∧ NdR W W.heap.size p.1 p.2 := by
      intro i hi
      obtain ⟨cs', h1, h2⟩ := hx i (by omega)
      rw [cellsNode] at h1
      obtain ⟨x, s, rfl, hR⟩ := Node_read h2
      exact ⟨(x, s), h1, hR⟩
    obtain ⟨f, hf⟩ : ∃ f : Nat → Nd × NdSl, ∀ i, i < len → W.cells? 0 (a.add (i * 8)) 8 = some (ndV (f i).1 (f i).2) ∧ NdR W W.heap.size (f i).1 (f i).2 := by
      classical
      refine ⟨fun i => if hi : i < len then Classical.choose (each i hi) else (noNd, ⟨none, none, none, 0, 0, 0⟩), fun i hi => ?_⟩
      simp only [dif_pos hi]
      exact Classical.choose_spec (each i hi)
    refine ⟨some a, len, m, (List.range len).map fun i => (f i).1, hcs, hl, hm, by simp, fun h0 => ?_⟩
    have hat : ∀ i, i < len → ∀ j, j < 8 → W.cell? (a.add (i * 8 + j)) = (ndV (f i).1 (f i).2)[j]? := by
      intro i hi j hj
      have := (World.cells?_some (hf i hi).1).2.2 j hj
      rwa [add_of_add] at this
    have hc0 := hat 0 h0 0 (by omega)
    rw [Nat.zero_mul, Nat.zero_add, Addr.add_zero] at hc0
    have hsp : a.spot = none := by
      cases hsp : a.spot with
      | none => rfl
      | some s =>
        exfalso
        simp only [World.cell?, hsp] at hc0
        split at hc0
        · simp [ndV] at hc0
        · cases hc0
    obtain ⟨b, o, sp⟩ := a
    simp only at hsp
    subst hsp
    refine ⟨b, o, rfl, World.block_lt_of_cell? W _ hc0, fun i hi => ?_⟩
    have hi' : i < len := by simpa using hi
    have hg : ((List.range len).map fun i => (f i).1)[i] = (f i).1 := by simp
    rw [hg]
    have hk : ∀ j, j < 8 → W.cell? ⟨b, o + i * 8 + j, none⟩ = (ndV (f i).1 (f i).2)[j]? := fun j hj => by
      have := hat i hi' j hj
      rw [Addr.add_lit, ← Nat.add_assoc] at this
      exact this
    exact ⟨(f i).2, ⟨hk 0 (by omega), hk 1 (by omega), hk 2 (by omega), hk 3 (by omega), hk 4 (by omega), hk 5 (by omega), hk 6 (by omega), hk 7 (by omega)⟩, (hf i hi').2⟩
set_option maxRecDepth 1000000 in
/-- An argument that is a tree. -/
theorem param_tree {base : Nat} {v : Value} {d : DataW H} {p : List MemPlace} (hv : Value.okWide Tryd.prog W .any base 24 v) (h : DataW.Trod enc Tryd.prog W 0 (fun _ => true) true 24 v d p) :
    ∃ (A : Option Addr) (n c : Nat) (ts : List Nd), v = .agg #[.slice A n c] ∧ n ≤ c ∧ c ≤ maxLen ∧ NdsR W W.heap.size A n ts := by
  obtain ⟨cs, rfl, hs⟩ := okWide_struct Tryd.underlying24 hv
  obtain ⟨fuel, hf⟩ := h
  obtain ⟨y0, m, _, hl, h0⟩ := trod_struct1 Tryd.underlying24 hf
  rw [cellsTree] at hs
  simp only [cellsNodes] at h0
  obtain ⟨l⟩ := cs
  match l, hs with
  | [a], _ =>
    obtain ⟨A, n, c, ts, e, h1, h2, h3⟩ := nodes_read h0
    have e' : [a] = [.slice A n c] := e
    obtain rfl : a = .slice A n c := by injection e'
    exact ⟨A, n, c, ts, rfl, h1, h2, h3⟩
end
end Go.Proofs.YtelcjdblnagdgaaDoor

namespace Go.Proofs.YtelcjdblnagdgaaDoor
open Go.RowKit

theorem row_apart {w w' : World} {b1 b2 : Nat} {e1 e2 : TypeId} {s1 s2 n1 n2 : Nat} {v1 v2 : Value} {xs ys : List Value} (h1 : w.ownsRow b1 e1 s1 v1 n1 xs) (h2 : w.ownsRow b2 e2 s2 v2 n2 ys) (hne : e1 ≠ e2) (hg : w.grownBy w' v2.ownBlock) : w'.ownsRow b1 e1 s1 v1 n1 xs := by
  refine h1.kept hg ?_
  rcases h1.2 with ⟨rfl, _⟩ | ⟨g, cap, cur, rfl, _, hgg, _⟩
  · exact .inl rfl
  · right
    rcases h2.2 with ⟨rfl, _⟩ | ⟨g2, cap2, cur2, rfl, _, hgg2, _⟩
    · simp [Value.ownBlock]
    · intro e
      simp only [Value.ownBlock, Option.some.injEq] at e
      subst e
      rw [hgg] at hgg2
      injection hgg2 with hgg2
      injection hgg2 with _ h4 _
      exact hne h4
theorem row_new {w w' : World} {base : Nat} {e : TypeId} {s n : Nat} {v : Value} {xs : List Value} (h : w.ownsRow base e s v n xs) (hg : w.grownBy w' none) : w'.ownsRow base e s v n xs :=
  h.kept hg (by cases hv : v.ownBlock <;> simp)
/-- what holds of a node that lies in memory -/
structure NdP (x : Nd) : Prop where
  limb : ∀ y ∈ x.mag, y < 4294967296
  kin : ∀ y ∈ x.kids, -9223372036854775808 ≤ y ∧ y ≤ 9223372036854775807
  kb : -9223372036854775808 ≤ x.kind ∧ x.kind ≤ 9223372036854775807
  nkb : -9223372036854775808 ≤ x.nk ∧ x.nk ≤ 9223372036854775807
  nnb : -9223372036854775808 ≤ x.nn ∧ x.nn ≤ 9223372036854775807
  nm : x.name.length ≤ 9223372036854775807
theorem NdR.p {w : World} {B : Nat} {x : Nd} {s : NdSl} (h : NdR w B x s) : NdP x := ⟨h.limb, h.kin, h.kb, h.nkb, h.nnb, h.nm⟩
theorem NdsR.p {w : World} {B n : Nat} {A : Option Addr} {ts : List Nd} (h : NdsR w B A n ts) : ∀ x ∈ ts, NdP x := by
  intro x hx
  obtain ⟨i, hi, rfl⟩ := List.getElem_of_mem hx
  obtain ⟨b, o, _, _, hat⟩ := h.2 (by rw [← h.1]; omega)
  obtain ⟨s, _, h2⟩ := hat i hi
  exact h2.p
/-- a node's slices, each made, in blocks from base on -/
structure NdO (w : World) (base : Nat) (x : Nd) (s : NdSl) : Prop where
  str : w.ownsRow base 34 1 (.slice s.As x.str.length s.cs) x.str.length (u16s x.str)
  mag : w.ownsRow base 64 1 (.slice s.Am x.mag.length s.cm) x.mag.length (n32s x.mag)
  kids : w.ownsRow base 3 1 (.slice s.Ak x.kids.length s.ck) x.kids.length (i64s x.kids)
theorem own_room {w : World} {base n c : Nat} {e : TypeId} {A : Option Addr} {xs : List Value} (h : w.ownsRow base e 1 (.slice A n c) n xs) : n ≤ c ∧ c ≤ maxLen := by
  obtain ⟨A', c', hv, h1, h2⟩ := own_shape h
  injection hv with _ _ hc
  subst hc
  exact ⟨h1, h2⟩
theorem NdO.r {w : World} {base : Nat} {x : Nd} {s : NdSl} (h : NdO w base x s) (hp : NdP x) : NdR w w.heap.size x s :=
  ⟨Reads.of_own h.str, Reads.of_own h.mag, Reads.of_own h.kids, own_room h.str, own_room h.mag, own_room h.kids, hp.limb, hp.kin, hp.kb, hp.nkb, hp.nnb, hp.nm⟩
theorem NdO.map {w w' : World} {base base' : Nat} {x : Nd} {s : NdSl} (hk : ∀ (e : TypeId) (v : Value) (n : Nat) (xs : List Value), (e = 34 ∨ e = 64 ∨ e = 3) → w.ownsRow base e 1 v n xs → w'.ownsRow base' e 1 v n xs) (h : NdO w base x s) : NdO w' base' x s :=
  ⟨hk _ _ _ _ (.inl rfl) h.str, hk _ _ _ _ (.inr (.inl rfl)) h.mag, hk _ _ _ _ (.inr (.inr rfl)) h.kids⟩
def NdSl.kb (s : NdSl) : Option Nat := s.Ak.map (·.block)
theorem kb_own (s : NdSl) (n : Nat) : (Value.slice s.Ak n s.ck).ownBlock = s.kb := by
  unfold NdSl.kb Value.ownBlock
  cases s.Ak <;> rfl
/-- the cells of nodes -/
def cellsN : List Nd → List NdSl → List Value
  | x :: r, s :: q => ndV x s ++ cellsN r q
  | _, _ => []
theorem ndV_len (x : Nd) (s : NdSl) : (ndV x s).length = 8 := rfl
theorem cellsN_len : ∀ {ts : List Nd} {ss : List NdSl}, ss.length = ts.length → (cellsN ts ss).length = ts.length * 8
  | [], [], _ => rfl
  | x :: r, s :: q, h => by
    show (ndV x s ++ cellsN r q).length = _
    rw [List.length_append, ndV_len, cellsN_len (by simpa using h), List.length_cons]
    omega
  | [], _ :: _, h => by cases h
  | _ :: _, [], h => by cases h
theorem cellsN_snoc (x : Nd) (s : NdSl) : ∀ {ts : List Nd} {ss : List NdSl}, ss.length = ts.length → cellsN (ts ++ [x]) (ss ++ [s]) = cellsN ts ss ++ ndV x s
  | [], [], _ => by show ndV x s ++ [] = [] ++ ndV x s; simp
  | y :: r, t :: q, h => by
    show ndV y t ++ cellsN (r ++ [x]) (q ++ [s]) = ndV y t ++ cellsN r q ++ ndV x s
    rw [cellsN_snoc x s (by simpa using h), List.append_assoc]
  | [], _ :: _, h => by cases h
  | _ :: _, [], h => by cases h
theorem cellsN_get {j : Nat} (hj : j < 8) : ∀ {ts : List Nd} {ss : List NdSl} {i : Nat} {x : Nd} {s : NdSl}, ts[i]? = some x → ss[i]? = some s → (cellsN ts ss)[i * 8 + j]? = (ndV x s)[j]?
  | y :: r, t :: q, 0, x, s, h1, h2 => by
    obtain rfl : y = x := Option.some.inj h1
    obtain rfl : t = s := Option.some.inj h2
    show (ndV y t ++ cellsN r q)[0 * 8 + j]? = _
    rw [List.getElem?_append_left (by rw [ndV_len]; omega), Nat.zero_mul, Nat.zero_add]
  | y :: r, t :: q, i + 1, x, s, h1, h2 => by
    show (ndV y t ++ cellsN r q)[(i + 1) * 8 + j]? = _
    rw [List.getElem?_append_right (by rw [ndV_len]; omega), ndV_len, show (i + 1) * 8 + j - 8 = i * 8 + j by omega]
    exact cellsN_get hj (by simpa using h1) (by simpa using h2)
  | [], _, _, _, _, h1, _ => by cases h1
  | _ :: _, [], _, _, _, _, h2 => by cases h2
theorem cellsN_set {j : Nat} {u : Value} (hj : j < 8) {x x' : Nd} {s s' : NdSl} (hx : ndV x' s' = (ndV x s).set j u) : ∀ {ts : List Nd} {ss : List NdSl} {i : Nat}, ts[i]? = some x → ss[i]? = some s → (cellsN ts ss).set (i * 8 + j) u = cellsN (ts.set i x') (ss.set i s')
  | y :: r, t :: q, 0, h1, h2 => by
    obtain rfl : y = x := Option.some.inj h1
    obtain rfl : t = s := Option.some.inj h2
    show (ndV y t ++ cellsN r q).set (0 * 8 + j) u = ndV x' s' ++ cellsN r q
    rw [List.set_append_left _ _ (by rw [ndV_len]; omega), Nat.zero_mul, Nat.zero_add, hx]
  | y :: r, t :: q, i + 1, h1, h2 => by
    show (ndV y t ++ cellsN r q).set ((i + 1) * 8 + j) u = ndV y t ++ cellsN (r.set i x') (q.set i s')
    rw [List.set_append_right _ _ (by rw [ndV_len]; omega), ndV_len, show (i + 1) * 8 + j - 8 = i * 8 + j by omega, cellsN_set hj hx (by simpa using h1) (by simpa using h2)]
  | [], _, _, h1, _ => by cases h1
  | _ :: _, [], _, _, h2 => by cases h2
/-- a slice of nodes that is one's own, with all that lies behind it -/
structure TrO (w : World) (base : Nat) (ts : List Nd) (ss : List NdSl) (v : Value) : Prop where
  len : ss.length = ts.length
  own : w.ownsRow base 42 8 v ts.length (cellsN ts ss)
  part : ∀ (i : Nat) (x : Nd) (s : NdSl), ts[i]? = some x → ss[i]? = some s → NdO w base x s
  apart : ∀ (i j : Nat) (s r : NdSl), i < j → ss[i]? = some s → ss[j]? = some r → s.kb = none ∨ s.kb ≠ r.kb
theorem TrO.nil (w : World) (base : Nat) : TrO w base [] [] (.slice none 0 0) := ⟨rfl, World.ownsRow_nil _ _ _ _, fun _ _ _ h => (by cases h), fun _ _ _ _ _ h => (by cases h)⟩
theorem TrO.map {w w' : World} {base base' : Nat} {ts : List Nd} {ss : List NdSl} {v : Value} (hk : ∀ (e : TypeId) (n' : Nat) (v : Value) (n : Nat) (xs : List Value), w.ownsRow base e n' v n xs → w'.ownsRow base' e n' v n xs) (h : TrO w base ts ss v) : TrO w' base' ts ss v :=
  ⟨h.len, hk _ _ _ _ _ h.own, fun i x s h1 h2 => (h.part i x s h1 h2).map fun e v n xs _ ho => hk e 1 v n xs ho, h.apart⟩
theorem TrO.new {w w' : World} {base : Nat} {ts : List Nd} {ss : List NdSl} {v : Value} (h : TrO w base ts ss v) (hg : w.grownBy w' none) : TrO w' base ts ss v := h.map fun _ _ _ _ _ ho => row_new ho hg
theorem TrO.below {w w' : World} {base : Nat} {ts : List Nd} {ss : List NdSl} {v : Value} (h : TrO w base ts ss v) (hb : Below w.heap.size w w') : TrO w' base ts ss v := h.map fun _ _ _ _ _ ho => own_below ho hb
theorem TrO.less {w : World} {base base' : Nat} {ts : List Nd} {ss : List NdSl} {v : Value} (h : TrO w base ts ss v) (hb : base' ≤ base) : TrO w base' ts ss v := h.map fun _ _ _ _ _ ho => own_less ho hb
theorem TrO.grown {w w' : World} {base g : Nat} {ts : List Nd} {ss : List NdSl} {v : Value} (h : TrO w base ts ss v) (hg : w.grownBy w' (some g)) (hb : g < base) : TrO w' base ts ss v := h.map fun _ _ _ _ _ ho => own_grown ho hg hb
theorem TrO.shape {w : World} {base : Nat} {ts : List Nd} {ss : List NdSl} {v : Value} (h : TrO w base ts ss v) : ∃ A c, v = .slice A ts.length c ∧ ts.length ≤ c ∧ c ≤ maxLen := own_shape h.own
/-- read as nodes that lie in memory -/
theorem TrO.reads {w : World} {base c n : Nat} {A : Option Addr} {ts : List Nd} {ss : List NdSl} (h : TrO w base ts ss (.slice A n c)) (hn : ts.length = n) (hp : ∀ x ∈ ts, NdP x) : NdsR w w.heap.size A n ts := by
  subst hn
  refine ⟨rfl, fun h0 => ?_⟩
  obtain ⟨g, cap, hv, hb, hlt⟩ := h.own.form h0
  have hA : A = some ⟨g, 0, none⟩ := by injection hv
  have hc : c = cap := by injection hv
  subst hA hc
  refine ⟨g, 0, rfl, hlt, fun i hi => ?_⟩
  have h1 : ts[i]? = some ts[i] := List.getElem?_eq_getElem hi
  have hi2 : i < ss.length := by rw [h.len]; exact hi
  have h2 : ss[i]? = some ss[i] := List.getElem?_eq_getElem hi2
  have hat : ∀ j, j < 8 → w.cell? ⟨g, 0 + i * 8 + j, none⟩ = (ndV ts[i] ss[i])[j]? := fun j hj => by
    rw [h.own.cellAt (0 + i * 8 + j) (by omega), Nat.zero_add]
    exact cellsN_get hj h1 h2
  exact ⟨ss[i], ⟨hat 0 (by omega), hat 1 (by omega), hat 2 (by omega), hat 3 (by omega), hat 4 (by omega), hat 5 (by omega), hat 6 (by omega), hat 7 (by omega)⟩, (h.part i _ _ h1 h2).r (hp _ (List.getElem_mem hi))⟩
theorem TrO.kb_lt {w : World} {base : Nat} {ts : List Nd} {ss : List NdSl} {v : Value} (h : TrO w base ts ss v) {i g : Nat} {s : NdSl} (hs : ss[i]? = some s) (hk : s.kb = some g) : base ≤ g ∧ g < w.heap.size := by
  have hi : i < ts.length := by rw [← h.len]; exact (List.getElem?_eq_some_iff.1 hs).1
  exact (h.part i _ s (List.getElem?_eq_getElem hi) hs).kids.lt g (by rw [kb_own]; exact hk)
/-- a node more, behind an append -/
theorem TrO.snoc {w0 w1 w' : World} {base : Nat} {ts : List Nd} {ss : List NdSl} {v v' : Value} {x : Nd} {s : NdSl} (h : TrO w1 base ts ss v) (hn : NdO w1 base x s) (hfresh : ∀ g, s.kb = some g → w0.heap.size ≤ g) (hold : TrO w0 base ts ss v)
    (ho : w'.ownsRow base 42 8 v' (ts.length + 1) (cellsN ts ss ++ ndV x s)) (hg : w1.grownBy w' v.ownBlock) : TrO w' base (ts ++ [x]) (ss ++ [s]) v' := by
  have hap : ∀ (e : TypeId) (v1 : Value) (n : Nat) (xs : List Value), (e = 34 ∨ e = 64 ∨ e = 3) → w1.ownsRow base e 1 v1 n xs → w'.ownsRow base e 1 v1 n xs :=
    fun e v1 n xs he ho1 => row_apart ho1 h.own (by rcases he with rfl | rfl | rfl <;> decide) hg
  refine ⟨by simp [h.len], ?_, fun i y t hy ht => ?_, fun i j t r hij ht hr => ?_⟩
  · rw [cellsN_snoc x s h.len, List.length_append]; exact ho
  · by_cases hi : i < ts.length
    · rw [List.getElem?_append_left hi] at hy
      rw [List.getElem?_append_left (by rw [h.len]; exact hi)] at ht
      exact (h.part i y t hy ht).map hap
    · have hl := (List.getElem?_eq_some_iff.1 hy).1
      rw [List.length_append, List.length_singleton] at hl
      rw [List.getElem?_append_right (by omega), show i - ts.length = 0 by omega] at hy
      rw [List.getElem?_append_right (by rw [h.len]; omega), show i - ss.length = 0 by rw [h.len]; omega] at ht
      obtain rfl : x = y := Option.some.inj hy
      obtain rfl : s = t := Option.some.inj ht
      exact hn.map hap
  · have hl := (List.getElem?_eq_some_iff.1 hr).1
    rw [List.length_append, List.length_singleton] at hl
    rw [List.getElem?_append_left (by omega)] at ht
    by_cases hj : j < ss.length
    · rw [List.getElem?_append_left hj] at hr
      exact h.apart i j t r hij ht hr
    · rw [List.getElem?_append_right (by omega), show j - ss.length = 0 by omega] at hr
      obtain rfl : s = r := Option.some.inj hr
      cases hk : t.kb with
      | none => exact .inl rfl
      | some g =>
        refine .inr fun e => ?_
        have h1 := (hold.kb_lt ht hk).2
        have h2 := hfresh g e.symm
        omega
theorem set_same {α : Type} {l : List α} {i : Nat} {x : α} (h : l[i]? = some x) : l.set i x = l := by
  obtain ⟨hi, rfl⟩ := List.getElem?_eq_some_iff.1 h
  exact List.set_getElem_self hi
/-- a cell of a node is stored: nothing of what the node owns turns -/
theorem TrO.put {w : World} {base c : Nat} {ts : List Nd} {ss : List NdSl} {i j g : Nat} {x x' : Nd} {s : NdSl} {u : Value} (h : TrO w base ts ss (.slice (some ⟨g, 0, none⟩) ts.length c)) (hj : j < 8) (hx : ts[i]? = some x) (hs : ss[i]? = some s) (hu : ndV x' s = (ndV x s).set j u) (h1 : x'.str = x.str) (h2 : x'.mag = x.mag) (h3 : x'.kids = x.kids) :
    TrO (w.setCell ⟨g, i * 8 + j, none⟩ u) base (ts.set i x') ss (.slice (some ⟨g, 0, none⟩) ts.length c) ∧ w.grownBy (w.setCell ⟨g, i * 8 + j, none⟩ u) (some g) := by
  have st := h.own.stored (i * 8 + j) u
  refine ⟨⟨by rw [List.length_set]; exact h.len, ?_, fun k y t hy ht => ?_, h.apart⟩, st.2⟩
  · rw [List.length_set]
    have hc := cellsN_set hj hu hx hs
    rw [set_same hs] at hc
    rw [← hc]
    exact st.1
  · have hgr : w.grownBy (w.setCell ⟨g, i * 8 + j, none⟩ u) (Value.slice (some ⟨g, 0, none⟩) ts.length c).ownBlock := st.2
    have hap : ∀ (e : TypeId) (v1 : Value) (n : Nat) (xs : List Value), (e = 34 ∨ e = 64 ∨ e = 3) → w.ownsRow base e 1 v1 n xs → (w.setCell ⟨g, i * 8 + j, none⟩ u).ownsRow base e 1 v1 n xs :=
      fun e v1 n xs he ho1 => row_apart ho1 h.own (by rcases he with rfl | rfl | rfl <;> decide) hgr
    by_cases e : i = k
    · subst e
      have hil := (List.getElem?_eq_some_iff.1 hx).1
      rw [List.getElem?_set_self hil] at hy
      obtain rfl : x' = y := Option.some.inj hy
      have hp := (h.part i x t hx ht).map hap
      exact ⟨by rw [h1]; exact hp.str, by rw [h2]; exact hp.mag, by rw [h3]; exact hp.kids⟩
    · rw [List.getElem?_set_ne e] at hy
      exact (h.part k y t hy ht).map hap
theorem TrO.at_ {w : World} {base c n g : Nat} {ts : List Nd} {ss : List NdSl} {i j : Nat} {x : Nd} {s : NdSl} (h : TrO w base ts ss (.slice (some ⟨g, 0, none⟩) n c)) (hn : ts.length = n) (hj : j < 8) (hx : ts[i]? = some x) (hs : ss[i]? = some s) : w.cell? ⟨g, i * 8 + j, none⟩ = (ndV x s)[j]? := by
  subst hn
  have hi := (List.getElem?_eq_some_iff.1 hx).1
  rw [h.own.cellAt (i * 8 + j) (by omega)]
  exact cellsN_get hj hx hs
theorem grown_weak {w w' : World} {row : Option Nat} (h : w.grownBy w' none) : w.grownBy w' row := ⟨h.os, h.tape, h.output, h.size, fun k hk _ => h.block k hk (by simp)⟩
/-- other kids are laid in the place of a node's kids: in their block, or in a new one -/
theorem TrO.kids {w w1 : World} {base c g cn n' : Nat} {An : Option Addr} {ts : List Nd} {ss : List NdSl} {i : Nat} {x : Nd} {s : NdSl} {ks : List Int} (h : TrO w base ts ss (.slice (some ⟨g, 0, none⟩) ts.length c)) (hx : ts[i]? = some x) (hs : ss[i]? = some s)
    (hg : w.grownBy w1 s.kb) (ho : w1.ownsRow base 3 1 (.slice An n' cn) n' (i64s ks)) (hn : ks.length = n') (hb : An.map (·.block) = s.kb ∨ ∃ r, An.map (·.block) = some r ∧ w.heap.size ≤ r) :
    TrO (w1.setCell ⟨g, i * 8 + 7, none⟩ (.slice An n' cn)) base (ts.set i { x with kids := ks }) (ss.set i { s with Ak := An, ck := cn }) (.slice (some ⟨g, 0, none⟩) ts.length c) ∧ w1.grownBy (w1.setCell ⟨g, i * 8 + 7, none⟩ (.slice An n' cn)) (some g) := by
  subst hn
  have hi := (List.getElem?_eq_some_iff.1 hx).1
  have hi2 : i < ss.length := by rw [h.len]; exact hi
  have hgo : w.grownBy w1 (Value.slice s.Ak x.kids.length s.ck).ownBlock := by rw [kb_own]; exact hg
  have hk0 := (h.part i x s hx hs).kids
  have h1o := row_apart h.own hk0 (by decide) hgo
  have st := h1o.stored (i * 8 + 7) (.slice An ks.length cn)
  have hgr : w1.grownBy (w1.setCell ⟨g, i * 8 + 7, none⟩ (.slice An ks.length cn)) (Value.slice (some ⟨g, 0, none⟩) ts.length c).ownBlock := st.2
  have hst : ∀ (e : TypeId) (v1 : Value) (n : Nat) (xs : List Value), (e = 34 ∨ e = 64 ∨ e = 3) → w1.ownsRow base e 1 v1 n xs → (w1.setCell ⟨g, i * 8 + 7, none⟩ (.slice An ks.length cn)).ownsRow base e 1 v1 n xs :=
    fun e v1 n xs he ho1 => row_apart ho1 h1o (by rcases he with rfl | rfl | rfl <;> decide) hgr
  have hkb : ∀ {j : Nat} {r : NdSl}, i ≠ j → ss[j]? = some r → r.kb = none ∨ r.kb ≠ s.kb := by
    intro j r hij hr
    rcases Nat.lt_or_gt_of_ne hij with hlt | hlt
    · rcases h.apart i j s r hlt hs hr with e | e
      · cases hrk : r.kb with
        | none => exact .inl rfl
        | some q => exact .inr (by rw [e]; simp)
      · exact .inr (fun e2 => e e2.symm)
    · exact h.apart j i r s hlt hr hs
  refine ⟨⟨by rw [List.length_set, List.length_set]; exact h.len, ?_, fun k y t hy ht => ?_, fun j k t r hjk ht hr => ?_⟩, st.2⟩
  · rw [List.length_set]
    have hc := cellsN_set (j := 7) (u := .slice An ks.length cn) (by omega) (x := x) (s := s) (x' := { x with kids := ks }) (s' := { s with Ak := An, ck := cn }) rfl hx hs
    rw [← hc]
    exact st.1
  · by_cases e : i = k
    · subst e
      rw [List.getElem?_set_self hi] at hy
      rw [List.getElem?_set_self hi2] at ht
      obtain rfl := Option.some.inj hy
      obtain rfl := Option.some.inj ht
      have hp := h.part i x s hx hs
      exact ⟨hst _ _ _ _ (.inl rfl) (row_apart hp.str hk0 (by decide) hgo), hst _ _ _ _ (.inr (.inl rfl)) (row_apart hp.mag hk0 (by decide) hgo), hst _ _ _ _ (.inr (.inr rfl)) ho⟩
    · rw [List.getElem?_set_ne e] at hy ht
      have hp := h.part k y t hy ht
      exact ⟨hst _ _ _ _ (.inl rfl) (row_apart hp.str hk0 (by decide) hgo), hst _ _ _ _ (.inr (.inl rfl)) (row_apart hp.mag hk0 (by decide) hgo), hst _ _ _ _ (.inr (.inr rfl)) (hp.kids.kept hg (by rw [kb_own]; exact hkb e ht))⟩
  · have hnew : ∀ {m : Nat} {q : NdSl}, i ≠ m → ss[m]? = some q → An.map (·.block) = none ∨ q.kb = none ∨ An.map (·.block) ≠ q.kb := by
      intro m q him hq
      rcases hb with e | ⟨r0, e, hr0⟩
      · rcases hkb him hq with e2 | e2
        · exact .inr (.inl e2)
        · exact .inr (.inr (by rw [e]; exact fun e3 => e2 e3.symm))
      · cases hqk : q.kb with
        | none => exact .inr (.inl rfl)
        | some q0 =>
          refine .inr (.inr fun e3 => ?_)
          have := (h.kb_lt hq hqk).2
          rw [e] at e3
          injection e3 with e3
          omega
    by_cases e1 : i = j
    · subst e1
      rw [List.getElem?_set_self hi2] at ht
      obtain rfl := Option.some.inj ht
      rw [List.getElem?_set_ne (by omega)] at hr
      show An.map (·.block) = none ∨ An.map (·.block) ≠ r.kb
      rcases hnew (by omega) hr with e | e | e
      · exact .inl e
      · rw [e]
        cases hA : An.map (·.block) with
        | none => exact .inl rfl
        | some q => exact .inr (by simp)
      · exact .inr e
    · rw [List.getElem?_set_ne e1] at ht
      by_cases e2 : i = k
      · subst e2
        rw [List.getElem?_set_self hi2] at hr
        obtain rfl := Option.some.inj hr
        show t.kb = none ∨ t.kb ≠ An.map (·.block)
        rcases hnew (by omega) ht with e | e | e
        · rw [e]
          cases hA : t.kb with
          | none => exact .inl rfl
          | some q => exact .inr (by simp)
        · exact .inl e
        · exact .inr (fun e3 => e e3.symm)
      · rw [List.getElem?_set_ne e2] at hr
        exact h.apart j k t r hjk ht hr
end Go.Proofs.YtelcjdblnagdgaaDoor

namespace Go.Proofs.YtelcjdblnagdgaaDoor

theorem may_ordered {ts : List Nd} (h : mayF ts = true) : Ordered ts (deepF ts) ∧ maxL (deepF ts) ≤ 48 ∧ ts.length ≤ 4096 ∧ 0 < ts.length := by
  obtain ⟨t, ht⟩ := may_tree h
  have h1 := ordered_flat t
  have h2 : deepF ts = depsT 1 t := by rw [ht.flat, deep_flat]
  have h3 : nestD ts = depT t := by rw [ht.flat, nest_flat]
  refine ⟨?_, ?_, ht.len, ?_⟩
  · rw [h2]; rw [← ht.flat] at h1; exact h1
  · show nestD ts ≤ 48
    rw [h3]; exact ht.nest
  · rw [ht.flat, flatT_len]; exact size_pos t
theorem maxL_ge {d : List Nat} {a : Nat} (h : a ∈ d) : a ≤ maxL d := by
  induction d with
  | nil => cases h
  | cons x r ih =>
    show a ≤ max x (maxL r)
    rcases List.mem_cons.1 h with rfl | h
    · omega
    · have := ih h; omega
/-- n nodes are behind, the kids l were met -/
structure OrdS (ts : List Nd) (D : List Nat) (n : Nat) (l : List Int) (met dep : List Nat) : Prop where
  ml : met.length = ts.length
  dl : dep.length = ts.length
  met : ∀ k, k < ts.length → met[k]? = some (l.count (k : Int))
  old : ∀ k, k < n → dep[k]? = D[k]?
  kid : ∀ k d, n ≤ k → (k : Int) ∈ l → D[k]? = some (d + 1) → dep[k]? = some d
  zero : n = 0 → dep[0]? = some 0
theorem OrdS.start {ts : List Nd} {D : List Nat} (h : 0 < ts.length) : OrdS ts D 0 [] (List.replicate ts.length 0) (List.replicate ts.length 0) :=
  ⟨List.length_replicate, List.length_replicate, fun k hk => by rw [List.getElem?_replicate, if_pos hk]; rfl, fun k hk => by omega, fun k d _ hm => by simp at hm, fun _ => by rw [List.getElem?_replicate, if_pos h]⟩
theorem OrdS.go {ts : List Nd} {D : List Nat} {n : Nat} {met dep : List Nat} (h : OrdS ts D n (kidsAll (ts.take n)) met dep) (ho : Ordered ts D) (hn : n < ts.length) :
    ∃ a, dep[n]? = some a ∧ D[n]? = some (a + 1) ∧ OrdS ts D (n + 1) (kidsAll (ts.take n)) met (dep.set n (a + 1)) := by
  have key : ∃ a, dep[n]? = some a ∧ D[n]? = some (a + 1) := by
    rcases Nat.eq_zero_or_pos n with h0 | h0
    · subst h0
      exact ⟨0, h.zero rfl, ho.head⟩
    · have hc := ho.met (n := n) n h0 (Nat.le_refl _) hn
      have hm : (n : Int) ∈ kidsAll (ts.take n) := by
        rw [← List.count_pos_iff]; omega
      obtain ⟨x, hx, hk⟩ := List.mem_flatMap.1 hm
      have hx2 := List.mem_of_mem_take hx
      obtain ⟨i, hi, rfl⟩ := List.getElem_of_mem hx2
      obtain ⟨d, _, hd⟩ := ho.deep i hi n hk
      exact ⟨d, h.kid n d (Nat.le_refl _) hm hd, hd⟩
  obtain ⟨a, h1, h2⟩ := key
  refine ⟨a, h1, h2, h.ml, by rw [List.length_set]; exact h.dl, h.met, fun k hk => ?_, fun k d hk hm hd => ?_, fun h0 => by omega⟩
  · by_cases e : n = k
    · subst e
      rw [List.getElem?_set_self (by rw [h.dl]; exact hn), h2]
    · rw [List.getElem?_set_ne e]; exact h.old k (by omega)
  · rw [List.getElem?_set_ne (by omega)]; exact h.kid k d (by omega) hm hd
theorem OrdS.step {ts : List Nd} {D : List Nat} {n m v c : Nat} {l : List Int} {met dep : List Nat} (h : OrdS ts D (n + 1) l met dep) (ho : Ordered ts D) (hn : n < ts.length) (hm : (m : Int) ∈ ts[n].kids) (hv : D[n]? = some v) (hc : met[m]? = some c) :
    OrdS ts D (n + 1) (l ++ [(m : Int)]) (met.set m (c + 1)) (dep.set m v) := by
  obtain ⟨h1, h2⟩ := ho.lo n hn _ hm
  have hml : m < ts.length := by omega
  obtain ⟨d, hd1, hd2⟩ := ho.deep n hn m hm
  rw [hv] at hd1
  obtain rfl := Option.some.inj hd1
  have hc2 := h.met m hml
  rw [hc] at hc2
  have hc3 := Option.some.inj hc2
  refine ⟨by rw [List.length_set]; exact h.ml, by rw [List.length_set]; exact h.dl, fun k hk => ?_, fun k hk => ?_, fun k d' hk hkm hd' => ?_, fun h0 => by omega⟩
  · rw [List.count_append]
    by_cases e : m = k
    · subst e
      rw [List.getElem?_set_self (by rw [h.ml]; exact hml), hc3]
      simp
    · rw [List.getElem?_set_ne e, h.met k hk]
      have : List.count (k : Int) [(m : Int)] = 0 := by
        rw [List.count_eq_zero]; simp; omega
      rw [this, Nat.add_zero]
  · rw [List.getElem?_set_ne (by omega)]; exact h.old k hk
  · by_cases e : m = k
    · subst e
      rw [hd2] at hd'
      have := Option.some.inj hd'
      rw [List.getElem?_set_self (by rw [h.dl]; exact hml)]
      congr 1; omega
    · rw [List.getElem?_set_ne e]
      refine h.kid k d' hk ?_ hd'
      rcases List.mem_append.1 hkm with h3 | h3
      · exact h3
      · simp at h3; omega
theorem OrdS.end_ {ts : List Nd} {D : List Nat} {n : Nat} {met dep : List Nat} (h : OrdS ts D n (kidsAll ts) met dep) (ho : Ordered ts D) {k : Nat} (h1 : 1 ≤ k) (hk : k < ts.length) : met[k]? = some 1 := by
  rw [h.met k hk, ho.once k h1 hk]
end Go.Proofs.YtelcjdblnagdgaaDoor

namespace Go.Proofs.YtelcjdblnagdgaaDoor
theorem mod_twice (n : Int) (l : Nat) (h : 0 < l) : ∃ k : Nat, k < l ∧ (n.tmod l + l).tmod l = (k : Int) := by
  have h1 : -(l : Int) < n.tmod l := by
    have := Int.lt_tmod_of_pos n (b := (l : Int)) (by omega)
    exact this
  have h3 : 0 ≤ (n.tmod l + l).tmod l := Int.tmod_nonneg _ (by omega)
  have h4 : (n.tmod l + l).tmod l < l := Int.tmod_lt_of_pos _ (by omega)
  exact ⟨((n.tmod l + l).tmod l).toNat, by omega, by omega⟩
end Go.Proofs.YtelcjdblnagdgaaDoor

namespace Go.Proofs.YtelcjdblnagdgaaDoor

def blkNd : Nd := { noNd with kind := 4 }
def blockT : Nat → Tr
  | 0 => .mk blkNd []
  | n + 1 => .mk blkNd [blockT n]
def chainT : Nat → Tr
  | 0 => .mk { noNd with kind := 1 } []
  | n + 1 => .mk { noNd with kind := 1 } [blockT n]
/-- the blocks from place k on, as the statement's loop lays them -/
def blocksL (k : Nat) : Nat → List Nd
  | 0 => [blkNd]
  | n + 1 => { blkNd with kids := [((k + 1 : Nat) : Int)] } :: blocksL (k + 1) n
def chainL : Nat → List Nd
  | 0 => [{ noNd with kind := 1 }]
  | n + 1 => { noNd with kind := 1, kids := [((1 : Nat) : Int)] } :: blocksL 1 n
theorem block_size (n : Nat) : (blockT n).size = n + 1 := by
  induction n with
  | zero => unfold blockT; rw [size_mk, sizes_nil]
  | succ n ih => unfold blockT; rw [size_mk, sizes_cons, sizes_nil, ih]; omega
theorem block_flat (n : Nat) : ∀ k, flatT k (blockT n) = blocksL k n := by
  induction n with
  | zero => intro k; unfold blockT blocksL; rw [flatT_mk, flatL_nil]; rfl
  | succ n ih =>
    intro k
    unfold blockT blocksL
    rw [flatT_mk, flatL_cons, flatL_nil, ih, List.append_nil]
    rfl
theorem chain_flat (n : Nat) : flatT 0 (chainT n) = chainL n := by
  cases n with
  | zero => unfold chainT chainL; rw [flatT_mk, flatL_nil]; rfl
  | succ n =>
    unfold chainT chainL
    rw [flatT_mk, flatL_cons, flatL_nil, block_flat, List.append_nil]
    rfl
theorem blocks_len (n : Nat) : ∀ k, (blocksL k n).length = n + 1 := by
  induction n with
  | zero => intro k; rfl
  | succ n ih => intro k; show (blocksL (k + 1) n).length + 1 = _; rw [ih]
theorem chain_len (n : Nat) : (chainL n).length = n + 1 := by
  cases n with
  | zero => rfl
  | succ n => show (blocksL 1 n).length + 1 = _; rw [blocks_len]
/-- one block more -/
theorem blocks_more (n : Nat) : ∀ k, blocksL k (n + 1) = ((blocksL k n).set n { blkNd with kids := [((k + n + 1 : Nat) : Int)] }) ++ [blkNd] := by
  induction n with
  | zero => intro k; rfl
  | succ n ih =>
    intro k
    show _ :: blocksL (k + 1) (n + 1) = _
    rw [ih (k + 1)]
    show _ = (({ blkNd with kids := [((k + 1 : Nat) : Int)] } :: blocksL (k + 1) n).set (n + 1) _) ++ _
    rw [List.set_cons_succ, List.cons_append, show k + 1 + n + 1 = k + (n + 1) + 1 by omega]
theorem blocks_last (n : Nat) : ∀ k, (blocksL k n)[n]? = some blkNd := by
  induction n with
  | zero => intro k; rfl
  | succ n ih => intro k; show (_ :: blocksL (k + 1) n)[n + 1]? = _; rw [List.getElem?_cons_succ]; exact ih _
/-- the last node has no kid -/
theorem chain_last (n : Nat) : ∃ x, (chainL n)[n]? = some x ∧ x = { noNd with kind := x.kind } ∧ (x.kind = 1 ∨ x.kind = 4) ∧ chainL (n + 1) = ((chainL n).set n { x with kids := [((n + 1 : Nat) : Int)] }) ++ [blkNd] := by
  cases n with
  | zero => exact ⟨_, rfl, rfl, .inl rfl, rfl⟩
  | succ n =>
    refine ⟨blkNd, ?_, rfl, .inr rfl, ?_⟩
    · show (_ :: blocksL 1 n)[n + 1]? = _
      rw [List.getElem?_cons_succ]; exact blocks_last _ _
    · show _ :: blocksL 1 (n + 1) = ((_ :: blocksL 1 n).set (n + 1) _) ++ _
      rw [blocks_more, List.set_cons_succ, List.cons_append, show 1 + n + 1 = n + 1 + 1 by omega]
theorem block_dep (n : Nat) : depT (blockT n) = n + 1 := by
  induction n with
  | zero => unfold blockT; rw [depT_mk, depL_nil]
  | succ n ih => unfold blockT; rw [depT_mk, depL_cons, depL_nil, ih]; omega
theorem chain_dep (n : Nat) : depT (chainT n) = n + 1 := by
  cases n with
  | zero => unfold chainT; rw [depT_mk, depL_nil]
  | succ n => unfold chainT; rw [depT_mk, depL_cons, depL_nil, block_dep]; omega
theorem block_kind (n : Nat) : (blockT n).nd.kind = 4 := by cases n <;> rfl
theorem block_good (n : Nat) : goodT (blockT n) = true := by
  induction n with
  | zero => unfold blockT; rw [goodT_mk, goodL_nil]; decide
  | succ n ih =>
    unfold blockT
    rw [goodT_mk, goodL_cons, goodL_nil, ih]
    unfold kidsK kindsL
    rw [List.map_cons, block_kind]
    rfl
theorem chain_good (n : Nat) : goodT (chainT n) = true := by
  cases n with
  | zero => unfold chainT; rw [goodT_mk, goodL_nil]; decide
  | succ n =>
    unfold chainT
    rw [goodT_mk, goodL_cons, goodL_nil, block_good]
    unfold kidsK kindsL
    rw [List.map_cons, block_kind]
    rfl
theorem chain_size (n : Nat) : (chainT n).size = n + 1 := by rw [← flatT_len 0, chain_flat, chain_len]
theorem chain_may (n : Nat) (h : n ≤ 100) : mayF (chainL n) = decide (n + 1 ≤ 48) := by
  by_cases hn : n + 1 ≤ 48
  · rw [decide_eq_true hn]
    refine mayF_iff.2 ⟨chainT n, (chain_flat n).symm, ?_, ?_, chain_good n, by rw [chain_dep]; exact hn⟩
    · rw [chain_size]; omega
    · cases n <;> rfl
  · rw [decide_eq_false hn, Bool.eq_false_iff]
    intro hm
    obtain ⟨t, ht⟩ := may_tree hm
    have h1 : nestD (chainL n) = depT t := by rw [ht.flat, nest_flat]
    have h2 := ht.nest
    rw [← chain_flat, nest_flat, chain_dep] at h1
    omega
theorem chain_nest (n : Nat) : nestD (chainL n) = n + 1 := by rw [← chain_flat, nest_flat, chain_dep]
theorem putA_one (a : UInt8) (u : List UInt16) : (putA u [[a]]).length = u.length + (if u = [] then 1 else 2) ∧ putA u [[a]] ≠ [] := by
  rw [putA_cons, putA_nil]
  unfold putU ascii
  by_cases h : u = []
  · subst h; exact ⟨rfl, by simp⟩
  · rw [if_neg h, if_neg h]; refine ⟨by simp, by simp⟩
theorem block_prT (n : Nat) : prT (blockT n) = [[123]] ++ ((match n with | 0 => [] | m + 1 => prT (blockT m)) ++ [[125]]) := by
  cases n with
  | zero => show prT (.mk blkNd []) = _; rw [prT_mk, prs_nil]; rfl
  | succ n => show prT (.mk blkNd [blockT n]) = _; rw [prT_mk, prs_cons, prs_nil]; simp [nodeP, stmtP, blkNd, noNd]
theorem block_put (n : Nat) : ∀ u, (putA u (prT (blockT n))).length = u.length + (if u = [] then 4 * n + 3 else 4 * n + 4) ∧ putA u (prT (blockT n)) ≠ [] := by
  induction n with
  | zero =>
    intro u
    rw [block_prT, putA_app, putA_app, putA_nil]
    obtain ⟨h1, h2⟩ := putA_one 123 u
    obtain ⟨h3, h4⟩ := putA_one 125 (putA u [[123]])
    rw [h3, h1, if_neg h2]
    exact ⟨by split <;> omega, h4⟩
  | succ n ih =>
    intro u
    rw [block_prT, putA_app, putA_app]
    obtain ⟨h1, h2⟩ := putA_one 123 u
    obtain ⟨h5, h6⟩ := ih (putA u [[123]])
    obtain ⟨h3, h4⟩ := putA_one 125 (putA (putA u [[123]]) (prT (blockT n)))
    refine ⟨?_, h4⟩
    show (putA (putA (putA u [[123]]) (prT (blockT n))) [[125]]).length = _
    rw [h3, h5, h1, if_neg h2, if_neg h6]
    split <;> omega
theorem chain_print (n : Nat) : (n = 0 ∧ printF (chainT n) = []) ∨ (0 < n ∧ (printF (chainT n)).length = 4 * n - 1) := by
  cases n with
  | zero => exact .inl ⟨rfl, by unfold printF chainT; rw [prT_mk, prs_nil]; rfl⟩
  | succ n =>
    right
    refine ⟨by omega, ?_⟩
    have e : prT (chainT (n + 1)) = prT (blockT n) := by
      show prT (.mk _ [blockT n]) = _
      rw [prT_mk, prs_cons, prs_nil]
      simp [nodeP, stmtP]
    unfold printF
    rw [e, (block_put n []).1, if_pos rfl]
    show 0 + _ = _
    omega
theorem chain_tree {n : Nat} (h : n + 1 ≤ 48) : May (chainL n) (chainT n) := by
  have := (good_may (t := chainT n)).2 ⟨by rw [chain_size]; omega, by cases n <;> rfl, chain_good n, by rw [chain_dep]; exact h⟩
  rwa [chain_flat] at this
end Go.Proofs.YtelcjdblnagdgaaDoor

namespace Go.Proofs.YtelcjdblnagdgaaDoor
open Go.RowKit

section
variable {P : Program} {w0 w : World} {ops : Array Oper} {rest : List Oper} {o : Oper} {a : Act} {Q : Exit → Act → World → Prop}
theorem wpList_any8 (hgd : o.guard = none) (s x : Operand) (t : TypeId)
    (ho : o.op = .call { callee := .builtin .append, args := #[s, x], argTypes := #[t, t] })
    (e : TypeId) (i : TypeInfo) (z : Value) (bytes : Nat) (ht : P.underlying t = some (.slice e)) (hi : P.info? e = some i) (hz : i.zero = some z)
    (hsize : i.size = 1) (hby : i.bytes = bytes) (hzs : z.cells.size = 1)
    (v : Value) (xs : List Value) (hs : a.eval s = v) (hm : Made w0 w e v xs)
    (B : Nat) (A : Option Addr) (m c : Nat) (news : List Value) (hx : a.eval x = .slice A m c) (hr : Reads w B 1 A m news) (h1 : ∀ u ∈ news, u.oneCell' = true)
    (hsz : xs.length + m ≤ 17592186044416) (hb2 : bytes ≤ 8)
    (h : ∀ v' w', Made w0 w' e v' (xs ++ news) → wpList P ops Q rest (a.put o.dst v') w') : wpList P ops Q (o :: rest) a w := by
  have hl : news.length = m := by have := hr.1; omega
  subst hl
  have hby2 : (xs.length + news.length) * bytes ≤ 140737488355328 := by
    calc (xs.length + news.length) * bytes ≤ 17592186044416 * 8 := Nat.mul_le_mul hsz hb2
      _ ≤ 140737488355328 := by omega
  obtain ⟨v', w', hrun, h2, h3, _⟩ := run_append_any (P := P) w w0.heap.size t o.type e i z 1 bytes ht hi hz hsize hby hzs (by omega) v xs.length xs hm.own B A news.length c news hr h1 (by unfold maxLen; omega) hby2 hm.below.size
  refine wpList_plain hgd fun K hK => ?_
  unfold Oper.wp execOp
  simp only [ho, resolve, invoke, builtin, Sem.run_bind, Sem.run_pure, Result.andThen_ok, List.map_toArray, List.map_cons, List.map_nil, hs, hx, hrun]
  refine hK _ _ (h v' w' ⟨by rw [List.length_append]; exact h2, hm.below.grown h3 hm.below.size (fun k hk => (hm.own.lt k hk).1)⟩)
end
set_option maxRecDepth 100000 in
theorem copyInts_any {A : Option Addr} {c B n : Nat} {xs : List Int} {w : World} (hn : xs.length = n) (hB : B ≤ w.heap.size) (ha : Reads w B 1 A n (i64s xs)) (hl : n ≤ 1000000) :
    Calls Tryd.prog 32 #[.slice A n c] w fun e w' => ∃ v, e = .returned v ∧ Made w w' 3 v (i64s xs) := by
  obtain ⟨i0, hi0, hz0, hz1, hz2⟩ := info_parts Tryd.info_int
  have ha' := hide (ha.alloc hB (.cells #[] 3))
  clear ha
  subst hn
  go_enter Tryd.func32, Tryd.ntmps32
  go_wp2_with (at_builtin; refine wpList_any8 rfl _ _ 27 rfl 3 i0 _ 8 Tryd.underlying27 hi0 hz0 hz1 hz2 rfl _ _ rfl (Made.empty w _) _ _ _ c _ rfl ha'.out (i64s_one _) (by simp; omega) (by omega) ?_; intro v' w' hm')
  go_ret
  exact ⟨_, rfl, hm'⟩
end Go.Proofs.YtelcjdblnagdgaaDoor
