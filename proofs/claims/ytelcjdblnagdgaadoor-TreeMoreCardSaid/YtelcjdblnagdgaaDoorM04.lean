/- Joined for a claim: TSum, TShape, POrder, TDang, TDeep. -/
import Derived.Test.YtelcjdblnagdgaaDoorM01
import Derived.Test.YtelcjdblnagdgaaDoorM02
import Derived.Test.YtelcjdblnagdgaaDoorM03
import Derived.Deep.CutBlock
import Derived.Deep.DeepCutAuto
import Derived.Deep.LoopGhost
import Derived.OwnWalk
import Derived.Laws.OwnMore
namespace Go.Proofs.YtelcjdblnagdgaaDoor
open Go.RowKit

theorem reads_at (w : World) (e : TypeId) (cs : List Value) (n g : Nat) (hg : w.heap.size = g) (hn : cs.length = n) (h : n ≤ maxLen) : Reads (w.alloc (.cells cs.toArray e)) (g + 1) 1 (some ⟨g, 0, none⟩) n cs := by
  subst hn hg
  have := Reads.of_own (Made.lit w e cs h).own
  rwa [show (w.alloc (.cells cs.toArray e)).heap.size = w.heap.size + 1 by simp] at this
theorem reads_nil (w : World) (B : Nat) (e : List Value) (he : e = []) : Reads w B 1 none 0 e := by subst he; exact Reads.none_
theorem NdR.small {w : World} {B : Nat} {x : Nd} {s : NdSl} (h1 : x.str = []) (h2 : x.mag = []) (hs : s.As = none) (hm : s.Am = none) (hk : Reads w B 1 s.Ak x.kids.length (i64s x.kids)) (hc : x.kids.length ≤ s.ck ∧ s.ck ≤ maxLen) (h3 : s.cs = 0) (h4 : s.cm = 0)
    (hb : (x.kids.all fun y => decide (-9223372036854775808 ≤ y ∧ y ≤ 9223372036854775807)) = true) (h5 : -9223372036854775808 ≤ x.kind ∧ x.kind ≤ 9223372036854775807) (h6 : -9223372036854775808 ≤ x.nk ∧ x.nk ≤ 9223372036854775807) (h7 : -9223372036854775808 ≤ x.nn ∧ x.nn ≤ 9223372036854775807) (h8 : x.name.length ≤ 9223372036854775807) : NdR w B x s := by
  refine ⟨?_, ?_, hk, ?_, ?_, hc, ?_, fun y hy => of_decide_eq_true (List.all_eq_true.1 hb y hy), h5, h6, h7, h8⟩
  · rw [h1, hs]; exact reads_nil _ _ _ rfl
  · rw [h2, hm]; exact reads_nil _ _ _ rfl
  · rw [h1, h3]; exact ⟨Nat.le_refl _, Nat.zero_le _⟩
  · rw [h2, h4]; exact ⟨Nat.le_refl _, Nat.zero_le _⟩
  · rw [h2]; intro y hy; cases hy
set_option maxHeartbeats 2000000 in
set_option maxRecDepth 100000 in
theorem sum_any (w : World) : Calls Tryd.prog 20 #[] w fun e w' => ∃ A, e = .returned (.agg #[.slice A 5 5]) ∧ NdsR w' w'.heap.size A 5 sumL ∧ Below w.heap.size w w' := by
  go_enter Tryd.func20, Tryd.ntmps20
  go_wp2_with fail
  refine bodyPost_ret (v := .agg #[.slice (some ⟨w.heap.size + 1 + 1 + 1 + 1, 0, none⟩) 5 5]) (by simp [results, Tryd.results20, go_sem]) rfl ?_
  obtain ⟨w1, hw1⟩ : ∃ w1, w.alloc (.cells #[.slice (some ⟨w.heap.size + 1 + 1 + 1 + 1, 0, none⟩) 5 5] 24) = w1 := ⟨_, rfl⟩
  rw [hw1]
  have s1 : w1.heap.size = w.heap.size + 1 := by rw [← hw1]; simp
  have b1 : Below w.heap.size w w1 := by rw [← hw1]; exact (Below.refl _ _).alloc (Nat.le_refl _) _
  clear hw1
  obtain ⟨g, hg⟩ : ∃ g, w.heap.size = g := ⟨_, rfl⟩
  rw [hg] at s1 b1 ⊢
  have r1 := reads_at w1 3 [.int .i64 1] 1 (g + 1) s1 rfl (by decide)
  obtain ⟨w2, hw2⟩ : ∃ w2, w1.alloc (.cells [.int .i64 1].toArray 3) = w2 := ⟨_, rfl⟩
  have s2 : w2.heap.size = g + 1 + 1 := by rw [← hw2]; simp [s1]
  have b2 : Below g w w2 := by rw [← hw2]; exact b1.alloc (by omega) _
  rw [show w1.alloc (.cells #[.int .i64 1] 3) = w2 from hw2]
  rw [hw2] at r1
  clear hw2
  have r2 := reads_at w2 3 [.int .i64 2] 1 (g + 1 + 1) s2 rfl (by decide)
  obtain ⟨w3, hw3⟩ : ∃ w3, w2.alloc (.cells [.int .i64 2].toArray 3) = w3 := ⟨_, rfl⟩
  have s3 : w3.heap.size = g + 1 + 1 + 1 := by rw [← hw3]; simp [s2]
  have b3 : Below g w w3 := by rw [← hw3]; exact b2.alloc (by omega) _
  have r1' := r1.alloc (by omega) (.cells [.int .i64 2].toArray 3)
  rw [show w2.alloc (.cells #[.int .i64 2] 3) = w3 from hw3]
  rw [hw3] at r2 r1'
  clear hw3 r1
  have r3 := reads_at w3 3 [.int .i64 3, .int .i64 4] 2 (g + 1 + 1 + 1) s3 rfl (by decide)
  obtain ⟨w4, hw4⟩ : ∃ w4, w3.alloc (.cells [.int .i64 3, .int .i64 4].toArray 3) = w4 := ⟨_, rfl⟩
  have s4 : w4.heap.size = g + 1 + 1 + 1 + 1 := by rw [← hw4]; simp [s3]
  have b4 : Below g w w4 := by rw [← hw4]; exact b3.alloc (by omega) _
  have r2' := r2.alloc (by omega) (.cells [.int .i64 3, .int .i64 4].toArray 3)
  have r1'' := r1'.alloc (by omega) (.cells [.int .i64 3, .int .i64 4].toArray 3)
  rw [show w3.alloc (.cells #[.int .i64 3, .int .i64 4] 3) = w4 from hw4]
  rw [hw4] at r3 r2' r1''
  clear hw4 r1' r2
  obtain ⟨cs, hcs⟩ : ∃ cs : List Value, cs = [Value.int IntKind.i64 1, Value.string { data := #[] }, Value.slice none 0 0, Value.int IntKind.i64 0,
          Value.int IntKind.i64 0, Value.bool false, Value.slice none 0 0,
          Value.slice (some { block := g + 1, off := 0 }) 1 1, Value.int IntKind.i64 3,
          Value.string { data := #[] }, Value.slice none 0 0, Value.int IntKind.i64 0, Value.int IntKind.i64 0,
          Value.bool false, Value.slice none 0 0, Value.slice (some { block := g + 1 + 1, off := 0 }) 1 1,
          Value.int IntKind.i64 46, Value.string { data := #[43] }, Value.slice none 0 0, Value.int IntKind.i64 0,
          Value.int IntKind.i64 0, Value.bool false, Value.slice none 0 0,
          Value.slice (some { block := g + 1 + 1 + 1, off := 0 }) 2 2, Value.int IntKind.i64 30,
          Value.string { data := #[] }, Value.slice none 0 0, Value.int IntKind.i64 0, Value.int IntKind.i64 1,
          Value.bool false, Value.slice none 0 0, Value.slice none 0 0, Value.int IntKind.i64 33,
          Value.string { data := #[97] }, Value.slice none 0 0, Value.int IntKind.i64 0, Value.int IntKind.i64 0,
          Value.bool false, Value.slice none 0 0, Value.slice none 0 0] := ⟨_, rfl⟩
  obtain ⟨w5, hw5⟩ : ∃ w5, w4.alloc (.cells cs.toArray 42) = w5 := ⟨_, rfl⟩
  have hc : ∀ j u, cs[j]? = some u → w5.cell? ⟨g + 1 + 1 + 1 + 1, j, none⟩ = some u := by
    intro j u hu
    rw [← hw5, World.cell?_alloc_at _ _ _ _ s4.symm]
    simpa using hu
  have q1 := (r1''.alloc (by omega) (.cells cs.toArray 42)).more (show g + 1 + 1 ≤ g + 1 + 1 + 1 + 1 + 1 by omega)
  have q2 := (r2'.alloc (by omega) (.cells cs.toArray 42)).more (show g + 1 + 1 + 1 ≤ g + 1 + 1 + 1 + 1 + 1 by omega)
  have q3 := (r3.alloc (by omega) (.cells cs.toArray 42)).more (show g + 1 + 1 + 1 + 1 ≤ g + 1 + 1 + 1 + 1 + 1 by omega)
  have b5 : Below g w w5 := by rw [← hw5]; exact b4.alloc (by omega) _
  have s5 : w5.heap.size = g + 1 + 1 + 1 + 1 + 1 := by rw [← hw5]; simp [s4]
  rw [hw5] at q1 q2 q3
  have e5 : w4.alloc (.cells #[Value.int IntKind.i64 1, Value.string { data := #[] }, Value.slice none 0 0, Value.int IntKind.i64 0,
          Value.int IntKind.i64 0, Value.bool false, Value.slice none 0 0,
          Value.slice (some { block := g + 1, off := 0 }) 1 1, Value.int IntKind.i64 3,
          Value.string { data := #[] }, Value.slice none 0 0, Value.int IntKind.i64 0, Value.int IntKind.i64 0,
          Value.bool false, Value.slice none 0 0, Value.slice (some { block := g + 1 + 1, off := 0 }) 1 1,
          Value.int IntKind.i64 46, Value.string { data := #[43] }, Value.slice none 0 0, Value.int IntKind.i64 0,
          Value.int IntKind.i64 0, Value.bool false, Value.slice none 0 0,
          Value.slice (some { block := g + 1 + 1 + 1, off := 0 }) 2 2, Value.int IntKind.i64 30,
          Value.string { data := #[] }, Value.slice none 0 0, Value.int IntKind.i64 0, Value.int IntKind.i64 1,
          Value.bool false, Value.slice none 0 0, Value.slice none 0 0, Value.int IntKind.i64 33,
          Value.string { data := #[97] }, Value.slice none 0 0, Value.int IntKind.i64 0, Value.int IntKind.i64 0,
          Value.bool false, Value.slice none 0 0, Value.slice none 0 0] 42) = w5 := by rw [← hw5, hcs]
  rw [e5]
  clear hw5 e5 r1'' r2' r3
  refine ⟨_, rfl, ⟨rfl, fun _ => ⟨g + 1 + 1 + 1 + 1, 0, rfl, by omega, fun i hi => ?_⟩⟩, b5⟩
  subst hcs
  rw [s5]
  have hx := List.getElem?_eq_getElem hi
  have hi5 : i < 5 := hi
  generalize sumL[i] = x at hx ⊢
  clear hi
  match i, hi5 with
  | 0, _ =>
    obtain rfl := Option.some.inj hx
    exact ⟨⟨none, none, some ⟨g + 1, 0, none⟩, 0, 0, 1⟩, ⟨hc _ _ rfl, hc _ _ rfl, hc _ _ rfl, hc _ _ rfl, hc _ _ rfl, hc _ _ rfl, hc _ _ rfl, hc _ _ rfl⟩, NdR.small rfl rfl rfl rfl q1 ⟨Nat.le_refl _, by unfold maxLen; exact Nat.le_of_ble_eq_true rfl⟩ rfl rfl (by decide) (by decide) (by decide) (by decide) (by decide)⟩
  | 1, _ =>
    obtain rfl := Option.some.inj hx
    exact ⟨⟨none, none, some ⟨g + 1 + 1, 0, none⟩, 0, 0, 1⟩, ⟨hc _ _ rfl, hc _ _ rfl, hc _ _ rfl, hc _ _ rfl, hc _ _ rfl, hc _ _ rfl, hc _ _ rfl, hc _ _ rfl⟩, NdR.small rfl rfl rfl rfl q2 ⟨Nat.le_refl _, by unfold maxLen; exact Nat.le_of_ble_eq_true rfl⟩ rfl rfl (by decide) (by decide) (by decide) (by decide) (by decide)⟩
  | 2, _ =>
    obtain rfl := Option.some.inj hx
    exact ⟨⟨none, none, some ⟨g + 1 + 1 + 1, 0, none⟩, 0, 0, 2⟩, ⟨hc _ _ rfl, hc _ _ rfl, hc _ _ rfl, hc _ _ rfl, hc _ _ rfl, hc _ _ rfl, hc _ _ rfl, hc _ _ rfl⟩, NdR.small rfl rfl rfl rfl q3 ⟨Nat.le_refl _, by unfold maxLen; exact Nat.le_of_ble_eq_true rfl⟩ rfl rfl (by decide) (by decide) (by decide) (by decide) (by decide)⟩
  | 3, _ =>
    obtain rfl := Option.some.inj hx
    exact ⟨⟨none, none, none, 0, 0, 0⟩, ⟨hc _ _ rfl, hc _ _ rfl, hc _ _ rfl, hc _ _ rfl, hc _ _ rfl, hc _ _ rfl, hc _ _ rfl, hc _ _ rfl⟩, NdR.small rfl rfl rfl rfl (reads_nil _ _ _ rfl) ⟨Nat.le_refl _, by unfold maxLen; exact Nat.le_of_ble_eq_true rfl⟩ rfl rfl (by decide) (by decide) (by decide) (by decide) (by decide)⟩
  | 4, _ =>
    obtain rfl := Option.some.inj hx
    exact ⟨⟨none, none, none, 0, 0, 0⟩, ⟨hc _ _ rfl, hc _ _ rfl, hc _ _ rfl, hc _ _ rfl, hc _ _ rfl, hc _ _ rfl, hc _ _ rfl, hc _ _ rfl⟩, NdR.small rfl rfl rfl rfl (reads_nil _ _ _ rfl) ⟨Nat.le_refl _, by unfold maxLen; exact Nat.le_of_ble_eq_true rfl⟩ rfl rfl (by decide) (by decide) (by decide) (by decide) (by decide)⟩
end Go.Proofs.YtelcjdblnagdgaaDoor

namespace Go.Proofs.YtelcjdblnagdgaaDoor
open Go.RowKit

def n64s (l : List Nat) : List Value := l.map fun n : Nat => Value.int .i64 (n : Int)
theorem n64s_len (l : List Nat) : (n64s l).length = l.length := by simp [n64s]
/-- a list of sorts that a call tells, and the sort of all behind them -/
def ShapeP (w : World) (q : List Nat × Nat) (e : Ending) (w' : World) : Prop :=
  ∃ A c, e = .returned (.tuple #[.slice A q.1.length c, .int .i64 (q.2 : Int)]) ∧ q.1.length ≤ c ∧ Reads w' w'.heap.size 1 A q.1.length (n64s q.1) ∧ Below w.heap.size w w'
theorem shape_nil (w : World) (r : Nat) {q : List Nat × Nat} (hq : q = ([], r)) : ShapeP w q (.returned (.tuple #[.slice none 0 0, .int .i64 (r : Int)])) w := by
  subst hq
  exact ⟨none, 0, rfl, Nat.le_refl _, Reads.none_, Below.refl _ _⟩
theorem lit_reads (w : World) (cs : List Value) (T : TypeId) : Reads (w.alloc (.cells cs.toArray T)) (w.heap.size + 1) 1 (some ⟨w.heap.size, 0, none⟩) cs.length cs := by
  refine ⟨by simp, fun _ => ⟨_, rfl, by show w.heap.size < _; omega, fun j u hu => ?_⟩⟩
  rw [Addr.add_lit, World.cell?_alloc_at _ _ _ _ rfl]
  simpa using hu
theorem shape_lit (w : World) (l : List Nat) (r m : Nat) {T : TypeId} {q : List Nat × Nat} (hq : q = (l.take m, r)) (hm : m ≤ l.length) : ShapeP w q (.returned (.tuple #[.slice (some ⟨w.heap.size, 0, none⟩) m l.length, .int .i64 (r : Int)])) (w.alloc (.cells (n64s l).toArray T)) := by
  subst hq
  have hl : (l.take m).length = m := by rw [List.length_take]; omega
  refine ⟨some ⟨w.heap.size, 0, none⟩, l.length, by show _ = Ending.returned (.tuple #[.slice _ (l.take m).length _, _]); rw [hl], by show (l.take m).length ≤ _; omega, ?_, (Below.refl _ _).alloc (Nat.le_refl _) _⟩
  have h := (lit_reads w (n64s l) T)
  rw [n64s_len] at h
  have h2 := h.take (k := m) hm
  show Reads _ _ 1 _ (l.take m).length (n64s (l.take m))
  rw [hl]
  have e : n64s (l.take m) = (n64s l).take (m * 1) := by rw [Nat.mul_one]; simp [n64s]
  rw [e]
  exact h2.more (by simp)
def ParP (w : World) (l : List Nat) (e : Ending) (w' : World) : Prop :=
  ∃ A c, e = .returned (.slice A l.length c) ∧ l.length ≤ c ∧ Reads w' w'.heap.size 1 A l.length (n64s l) ∧ Below w.heap.size w w'
structure PrS (w wr : World) (v : Value) (l : List Nat) : Prop where
  own : wr.ownsRow w.heap.size 3 1 v l.length (n64s l)
  below : Below w.heap.size w wr
theorem n64s_app (a b : List Nat) : n64s a ++ n64s b = n64s (a ++ b) := by simp [n64s]
set_option maxHeartbeats 4000000 in
set_option maxRecDepth 100000 in
theorem params_any (n last : Nat) (hn : n ≤ 1000000) (w : World) : Calls Tryd.prog 54 #[.int .i64 (n : Int), .int .i64 (last : Int)] w (ParP w (paramsF n last)) := by
  obtain ⟨i0, hi, hz0, hz1, hz2⟩ := info_parts Tryd.info_int
  have HI := hide (And.intro hi (And.intro hz0 (And.intro hz1 hz2)))
  clear hi hz0 hz1 hz2
  go_enter Tryd.func54, Tryd.ntmps54
  go_wp2_with fail
  go_loopw [5, 8] (fun v i wr => ∃ k : Nat, k ≤ n - 1 ∧ i = .int .i64 k ∧ Hid (PrS w wr v (List.replicate k 6))) (fun _ i _ => n - (intOf i).toNat)
  case atStart => exact ⟨0, Nat.zero_le _, rfl, ⟨World.ownsRow_nil _ _ _ _, Below.refl _ _⟩⟩
  case round =>
    obtain ⟨k, hk, rfl, hS⟩ := hrel
    obtain ⟨hi, hz0, hz1, hz2⟩ := HI.out
    by_cases hlt : k < n - 1
    · have e0 : (k : Int) < (n : Int) - 1 := by omega
      go_wp2_with (at_builtin; refine wpList_litK rfl _ _ 27 rfl w.heap.size 3 i0 (.int .i64 0) 1 8 Tryd.underlying27 hi hz0 hz1 hz2 rfl (by decide) u5 _ _ rfl (by exact hS.out.own) hS.out.below.size [.int .i64 6] 1 1 rfl rfl rfl (by rw [List.length_replicate]; omega) (by decide) ?_; intro v' w' ho' hk')
      have HO := hide ho'
      have HK := hide hk'
      clear ho' hk' hi hz0 hz1 hz2
      go_wp2_with fail
      go_roundw
      case rel =>
        refine ⟨k + 1, by omega, by go_num, ⟨?_, hS.out.below.trans (HK.out.below (own_ge hS.out.own) hS.out.below.size)⟩⟩
        have := HO.out
        rw [show n64s (List.replicate k 6) ++ [Value.int .i64 6] = n64s (List.replicate (k + 1) 6) by rw [List.replicate_succ']; simp [n64s]] at this
        simpa using this
      case measure => simp [intOf]; omega
    · have e0 : ¬ (k : Int) < (n : Int) - 1 := by omega
      obtain rfl : k = n - 1 := by omega
      obtain ⟨K, hK⟩ : ∃ K, n - 1 = K := ⟨_, rfl⟩
      rw [hK] at hS e0
      rw [hK]
      have HKK := hide hK
      clear hK hk hlt
      go_wp2_with (at_builtin; refine wpList_litK rfl _ _ 27 rfl w.heap.size 3 i0 (.int .i64 0) 1 8 Tryd.underlying27 hi hz0 hz1 hz2 rfl (by decide) u5 _ _ rfl (by exact hS.out.own) hS.out.below.size [.int .i64 (last : Int)] 1 1 rfl rfl rfl (by rw [List.length_replicate]; have := HKK.out; omega) (by decide) ?_; intro v' w' ho' hk')
      have e : n64s (List.replicate K 6) ++ [Value.int .i64 (last : Int)] = n64s (paramsF n last) := by unfold paramsF; rw [HKK.out]; simp [n64s]
      have e2 : (List.replicate K 6).length + 1 = (paramsF n last).length := by unfold paramsF; rw [HKK.out]; simp
      rw [e, e2] at ho'
      have HB := hide (hS.out.below.trans (hk'.below (own_ge hS.out.own) hS.out.below.size))
      obtain ⟨A, c, rfl, hc, _⟩ := own_shape ho'
      have HO := hide (Reads.of_own ho')
      clear ho' hk' e e2 hi hz0 hz1 hz2
      go_wp2_with fail
      go_ret
      exact ⟨A, c, rfl, hc, HO.out, HB.out⟩
theorem shape_case (k : Nat) (n : Nat) {q : List Nat × Nat} (hq : shapeF (k : Int) n = q) (w : World) {e : Ending} {w' : World} (h : ShapeP w q e w') : ShapeP w (shapeF (k : Int) n) e w' := by rw [hq]; exact h
set_option maxHeartbeats 4000000 in
set_option maxRecDepth 100000 in
theorem shape_3 (n : Nat) (w : World) : Calls Tryd.prog 42 #[.int .i64 3, .int .i64 (n : Int)] w (ShapeP w (shapeF 3 n)) := by
  go_enter Tryd.func42, Tryd.ntmps42
  go_wp2_with fail
  go_ret2
  exact shape_lit w [3] 0 1 rfl (by decide)
set_option maxHeartbeats 4000000 in
set_option maxRecDepth 100000 in
theorem shape_15 (n : Nat) (w : World) : Calls Tryd.prog 42 #[.int .i64 15, .int .i64 (n : Int)] w (ShapeP w (shapeF 15 n)) := by
  go_enter Tryd.func42, Tryd.ntmps42
  go_wp2_with fail
  go_ret2
  exact shape_lit w [3] 0 1 rfl (by decide)
set_option maxHeartbeats 4000000 in
set_option maxRecDepth 100000 in
theorem shape_40 (n : Nat) (w : World) : Calls Tryd.prog 42 #[.int .i64 40, .int .i64 (n : Int)] w (ShapeP w (shapeF 40 n)) := by
  go_enter Tryd.func42, Tryd.ntmps42
  go_wp2_with fail
  go_ret2
  exact shape_lit w [3] 0 1 rfl (by decide)
set_option maxHeartbeats 4000000 in
set_option maxRecDepth 100000 in
theorem shape_43 (n : Nat) (w : World) : Calls Tryd.prog 42 #[.int .i64 43, .int .i64 (n : Int)] w (ShapeP w (shapeF 43 n)) := by
  go_enter Tryd.func42, Tryd.ntmps42
  go_wp2_with fail
  go_ret2
  exact shape_lit w [3] 0 1 rfl (by decide)
set_option maxHeartbeats 4000000 in
set_option maxRecDepth 100000 in
theorem shape_52 (n : Nat) (w : World) : Calls Tryd.prog 42 #[.int .i64 52, .int .i64 (n : Int)] w (ShapeP w (shapeF 52 n)) := by
  go_enter Tryd.func42, Tryd.ntmps42
  go_wp2_with fail
  go_ret2
  exact shape_lit w [3] 0 1 rfl (by decide)
set_option maxHeartbeats 4000000 in
set_option maxRecDepth 100000 in
theorem shape_9 (n : Nat) (w : World) : Calls Tryd.prog 42 #[.int .i64 9, .int .i64 (n : Int)] w (ShapeP w (shapeF 9 n)) := by
  go_enter Tryd.func42, Tryd.ntmps42
  go_wp2_with fail
  go_ret2
  exact shape_lit w [3, 2] 0 2 rfl (by decide)
set_option maxHeartbeats 4000000 in
set_option maxRecDepth 100000 in
theorem shape_10 (n : Nat) (w : World) : Calls Tryd.prog 42 #[.int .i64 10, .int .i64 (n : Int)] w (ShapeP w (shapeF 10 n)) := by
  go_enter Tryd.func42, Tryd.ntmps42
  go_wp2_with fail
  go_ret2
  exact shape_lit w [10, 9, 9, 2] 0 4 rfl (by decide)
set_option maxHeartbeats 4000000 in
set_option maxRecDepth 100000 in
theorem shape_16 (n : Nat) (w : World) : Calls Tryd.prog 42 #[.int .i64 16, .int .i64 (n : Int)] w (ShapeP w (shapeF 16 n)) := by
  go_enter Tryd.func42, Tryd.ntmps42
  go_wp2_with fail
  go_ret2
  exact shape_lit w [8, 11, 12] 0 3 rfl (by decide)
set_option maxHeartbeats 4000000 in
set_option maxRecDepth 100000 in
theorem shape_17 (n : Nat) (w : World) : Calls Tryd.prog 42 #[.int .i64 17, .int .i64 (n : Int)] w (ShapeP w (shapeF 17 n)) := by
  go_enter Tryd.func42, Tryd.ntmps42
  go_wp2_with fail
  go_ret2
  exact shape_lit w [8] 0 1 rfl (by decide)
set_option maxHeartbeats 4000000 in
set_option maxRecDepth 100000 in
theorem shape_18 (n : Nat) (w : World) : Calls Tryd.prog 42 #[.int .i64 18, .int .i64 (n : Int)] w (ShapeP w (shapeF 18 n)) := by
  go_enter Tryd.func42, Tryd.ntmps42
  go_wp2_with fail
  go_ret2
  exact shape_lit w [2] 0 1 rfl (by decide)
set_option maxHeartbeats 4000000 in
set_option maxRecDepth 100000 in
theorem shape_44 (n : Nat) (w : World) : Calls Tryd.prog 42 #[.int .i64 44, .int .i64 (n : Int)] w (ShapeP w (shapeF 44 n)) := by
  go_enter Tryd.func42, Tryd.ntmps42
  go_wp2_with fail
  go_ret2
  exact shape_lit w [4] 0 1 rfl (by decide)
set_option maxHeartbeats 4000000 in
set_option maxRecDepth 100000 in
theorem shape_45 (n : Nat) (w : World) : Calls Tryd.prog 42 #[.int .i64 45, .int .i64 (n : Int)] w (ShapeP w (shapeF 45 n)) := by
  go_enter Tryd.func42, Tryd.ntmps42
  go_wp2_with fail
  go_ret2
  exact shape_lit w [4] 0 1 rfl (by decide)
set_option maxHeartbeats 4000000 in
set_option maxRecDepth 100000 in
theorem shape_46 (n : Nat) (w : World) : Calls Tryd.prog 42 #[.int .i64 46, .int .i64 (n : Int)] w (ShapeP w (shapeF 46 n)) := by
  go_enter Tryd.func42, Tryd.ntmps42
  go_wp2_with fail
  go_ret2
  exact shape_lit w [3, 3] 0 2 rfl (by decide)
set_option maxHeartbeats 4000000 in
set_option maxRecDepth 100000 in
theorem shape_47 (n : Nat) (w : World) : Calls Tryd.prog 42 #[.int .i64 47, .int .i64 (n : Int)] w (ShapeP w (shapeF 47 n)) := by
  go_enter Tryd.func42, Tryd.ntmps42
  go_wp2_with fail
  go_ret2
  exact shape_lit w [3, 3] 0 2 rfl (by decide)
set_option maxHeartbeats 4000000 in
set_option maxRecDepth 100000 in
theorem shape_53 (n : Nat) (w : World) : Calls Tryd.prog 42 #[.int .i64 53, .int .i64 (n : Int)] w (ShapeP w (shapeF 53 n)) := by
  go_enter Tryd.func42, Tryd.ntmps42
  go_wp2_with fail
  go_ret2
  exact shape_lit w [3, 3] 0 2 rfl (by decide)
set_option maxHeartbeats 4000000 in
set_option maxRecDepth 100000 in
theorem shape_48 (n : Nat) (w : World) : Calls Tryd.prog 42 #[.int .i64 48, .int .i64 (n : Int)] w (ShapeP w (shapeF 48 n)) := by
  go_enter Tryd.func42, Tryd.ntmps42
  go_wp2_with fail
  go_ret2
  exact shape_lit w [3, 3, 3] 0 3 rfl (by decide)
set_option maxHeartbeats 4000000 in
set_option maxRecDepth 100000 in
theorem shape_49 (n : Nat) (w : World) : Calls Tryd.prog 42 #[.int .i64 49, .int .i64 (n : Int)] w (ShapeP w (shapeF 49 n)) := by
  go_enter Tryd.func42, Tryd.ntmps42
  go_wp2_with fail
  go_ret2
  exact shape_lit w [4, 3] 0 2 rfl (by decide)
set_option maxHeartbeats 4000000 in
set_option maxRecDepth 100000 in
theorem shape_5 (n : Nat) (w : World) : Calls Tryd.prog 42 #[.int .i64 5, .int .i64 (n : Int)] w (ShapeP w (shapeF 5 n)) := by
  go_enter Tryd.func42, Tryd.ntmps42
  go_wp2_with fail
  go_ret2
  exact shape_lit w [5] 5 1 rfl (by decide)
set_option maxHeartbeats 4000000 in
set_option maxRecDepth 100000 in
theorem shape_6 (n : Nat) (w : World) : Calls Tryd.prog 42 #[.int .i64 6, .int .i64 (n : Int)] w (ShapeP w (shapeF 6 n)) := by
  go_enter Tryd.func42, Tryd.ntmps42
  go_wp2_with fail
  go_ret2
  exact shape_lit w [5] 5 1 rfl (by decide)
set_option maxHeartbeats 4000000 in
set_option maxRecDepth 100000 in
theorem shape_50 (n : Nat) (w : World) : Calls Tryd.prog 42 #[.int .i64 50, .int .i64 (n : Int)] w (ShapeP w (shapeF 50 n)) := by
  go_enter Tryd.func42, Tryd.ntmps42
  go_wp2_with fail
  go_ret2
  exact shape_lit w [3] 3 1 rfl (by decide)
set_option maxHeartbeats 4000000 in
set_option maxRecDepth 100000 in
theorem shape_51 (n : Nat) (w : World) : Calls Tryd.prog 42 #[.int .i64 51, .int .i64 (n : Int)] w (ShapeP w (shapeF 51 n)) := by
  go_enter Tryd.func42, Tryd.ntmps42
  go_wp2_with fail
  go_ret2
  exact shape_lit w [3] 3 1 rfl (by decide)
set_option maxHeartbeats 4000000 in
set_option maxRecDepth 100000 in
theorem shape_1 (n : Nat) (w : World) : Calls Tryd.prog 42 #[.int .i64 1, .int .i64 (n : Int)] w (ShapeP w (shapeF 1 n)) := by
  go_enter Tryd.func42, Tryd.ntmps42
  go_wp2_with fail
  go_ret2
  exact shape_nil w 1 rfl
set_option maxHeartbeats 4000000 in
set_option maxRecDepth 100000 in
theorem shape_4 (n : Nat) (w : World) : Calls Tryd.prog 42 #[.int .i64 4, .int .i64 (n : Int)] w (ShapeP w (shapeF 4 n)) := by
  go_enter Tryd.func42, Tryd.ntmps42
  go_wp2_with fail
  go_ret2
  exact shape_nil w 1 rfl
set_option maxHeartbeats 4000000 in
set_option maxRecDepth 100000 in
theorem shape_38 (n : Nat) (w : World) : Calls Tryd.prog 42 #[.int .i64 38, .int .i64 (n : Int)] w (ShapeP w (shapeF 38 n)) := by
  go_enter Tryd.func42, Tryd.ntmps42
  go_wp2_with fail
  go_ret2
  exact shape_nil w 3 rfl
set_option maxHeartbeats 4000000 in
set_option maxRecDepth 100000 in
theorem shape_39 (n : Nat) (w : World) : Calls Tryd.prog 42 #[.int .i64 39, .int .i64 (n : Int)] w (ShapeP w (shapeF 39 n)) := by
  go_enter Tryd.func42, Tryd.ntmps42
  go_wp2_with fail
  go_ret2
  exact shape_nil w 7 rfl
set_option maxHeartbeats 4000000 in
set_option maxRecDepth 100000 in
theorem shape_7_lo (n : Nat) (h : n ≤ 1) (w : World) : Calls Tryd.prog 42 #[.int .i64 7, .int .i64 (n : Int)] w (ShapeP w (shapeF 7 n)) := by
  have e : (n : Int) ≤ 1 := by omega
  go_enter Tryd.func42, Tryd.ntmps42
  go_wp2_with fail
  go_ret2
  exact shape_lit w [3] 0 n (q := shapeF 7 n) (by show ([3].take (min n 1), 0) = _; rw [show min n 1 = n by omega]) (by show n ≤ 1; omega)
set_option maxHeartbeats 4000000 in
set_option maxRecDepth 100000 in
theorem shape_7_hi (n : Nat) (h : 2 ≤ n) (w : World) : Calls Tryd.prog 42 #[.int .i64 7, .int .i64 (n : Int)] w (ShapeP w (shapeF 7 n)) := by
  have e : ¬ (n : Int) ≤ 1 := by omega
  go_enter Tryd.func42, Tryd.ntmps42
  go_wp2_with fail
  go_ret2
  exact shape_lit w [3] 0 1 (q := shapeF 7 n) (by show ([3].take (min n 1), 0) = _; rw [show min n 1 = 1 by omega]) (by decide)
set_option maxHeartbeats 4000000 in
set_option maxRecDepth 100000 in
theorem shape_14_lo (n : Nat) (h : n ≤ 1) (w : World) : Calls Tryd.prog 42 #[.int .i64 14, .int .i64 (n : Int)] w (ShapeP w (shapeF 14 n)) := by
  have e : (n : Int) ≤ 1 := by omega
  go_enter Tryd.func42, Tryd.ntmps42
  go_wp2_with fail
  go_ret2
  exact shape_lit w [3] 0 n (q := shapeF 14 n) (by show ([3].take (min n 1), 0) = _; rw [show min n 1 = n by omega]) (by show n ≤ 1; omega)
set_option maxHeartbeats 4000000 in
set_option maxRecDepth 100000 in
theorem shape_14_hi (n : Nat) (h : 2 ≤ n) (w : World) : Calls Tryd.prog 42 #[.int .i64 14, .int .i64 (n : Int)] w (ShapeP w (shapeF 14 n)) := by
  have e : ¬ (n : Int) ≤ 1 := by omega
  go_enter Tryd.func42, Tryd.ntmps42
  go_wp2_with fail
  go_ret2
  exact shape_lit w [3] 0 1 (q := shapeF 14 n) (by show ([3].take (min n 1), 0) = _; rw [show min n 1 = 1 by omega]) (by decide)
set_option maxHeartbeats 4000000 in
set_option maxRecDepth 100000 in
theorem shape_8_one (n : Nat) (h : n ≤ 1) (w : World) : Calls Tryd.prog 42 #[.int .i64 8, .int .i64 (n : Int)] w (ShapeP w (shapeF 8 n)) := by
  have e : (n : Int) ≤ 2 := by omega
  have e2 : ¬ 2 ≤ (n : Int) := by omega
  go_enter Tryd.func42, Tryd.ntmps42
  go_wp2_with fail
  go_ret2
  exact shape_lit w [3, 2, 2] 0 2 (q := shapeF 8 n) (by show ([3, 2, 2].take (min (max n 2) 3), 0) = _; rw [show min (max n 2) 3 = 2 by omega]) (by decide)
set_option maxHeartbeats 4000000 in
set_option maxRecDepth 100000 in
theorem shape_8_two (n : Nat) (h : n = 2) (w : World) : Calls Tryd.prog 42 #[.int .i64 8, .int .i64 (n : Int)] w (ShapeP w (shapeF 8 n)) := by
  have e : (n : Int) ≤ 2 := by omega
  have e2 : 2 ≤ (n : Int) := by omega
  have e3 : (n : Int) ≤ 3 := by omega
  have H := hide h
  clear h
  go_enter Tryd.func42, Tryd.ntmps42
  go_wp2_with fail
  go_ret2
  exact shape_lit w [3, 2, 2] 0 n (q := shapeF 8 n) (by show ([3, 2, 2].take (min (max n 2) 3), 0) = _; rw [show min (max n 2) 3 = n by have := H.out; omega]) (by have := H.out; show n ≤ 3; omega)
set_option maxHeartbeats 4000000 in
set_option maxRecDepth 100000 in
theorem shape_8_three (n : Nat) (h : n = 3) (w : World) : Calls Tryd.prog 42 #[.int .i64 8, .int .i64 (n : Int)] w (ShapeP w (shapeF 8 n)) := by
  have e : ¬ (n : Int) ≤ 2 := by omega
  have e2 : (n : Int) ≤ 3 := by omega
  have H := hide h
  clear h
  go_enter Tryd.func42, Tryd.ntmps42
  go_wp2_with fail
  go_ret2
  exact shape_lit w [3, 2, 2] 0 n (q := shapeF 8 n) (by show ([3, 2, 2].take (min (max n 2) 3), 0) = _; rw [show min (max n 2) 3 = n by omega]) (by show n ≤ 3; omega)
set_option maxHeartbeats 4000000 in
set_option maxRecDepth 100000 in
theorem shape_8_four (n : Nat) (h : 4 ≤ n) (w : World) : Calls Tryd.prog 42 #[.int .i64 8, .int .i64 (n : Int)] w (ShapeP w (shapeF 8 n)) := by
  have e : ¬ (n : Int) ≤ 2 := by omega
  have e2 : ¬ (n : Int) ≤ 3 := by omega
  go_enter Tryd.func42, Tryd.ntmps42
  go_wp2_with fail
  go_ret2
  exact shape_lit w [3, 2, 2] 0 3 (q := shapeF 8 n) (by show ([3, 2, 2].take (min (max n 2) 3), 0) = _; rw [show min (max n 2) 3 = 3 by omega]) (by decide)
set_option maxHeartbeats 4000000 in
set_option maxRecDepth 100000 in
theorem shape_19 (n : Nat) (h : n ≤ 1000000) (w : World) : Calls Tryd.prog 42 #[.int .i64 19, .int .i64 (n : Int)] w (ShapeP w (shapeF 19 n)) := by
  go_enter Tryd.func42, Tryd.ntmps42
  go_wp2_with (go_at_call 54; refine (params_any n 8 h w).mono ?_; rintro e w' ⟨A, c, rfl, hc, hr, hb⟩)
  go_ret2
  exact ⟨A, c, rfl, hc, hr, hb⟩
set_option maxHeartbeats 4000000 in
set_option maxRecDepth 100000 in
theorem shape_41 (n : Nat) (h : n ≤ 1000000) (w : World) : Calls Tryd.prog 42 #[.int .i64 41, .int .i64 (n : Int)] w (ShapeP w (shapeF 41 n)) := by
  go_enter Tryd.func42, Tryd.ntmps42
  go_wp2_with (go_at_call 54; refine (params_any n 8 h w).mono ?_; rintro e w' ⟨A, c, rfl, hc, hr, hb⟩)
  go_ret2
  exact ⟨A, c, rfl, hc, hr, hb⟩
set_option maxHeartbeats 4000000 in
set_option maxRecDepth 100000 in
theorem shape_42 (n : Nat) (h : n ≤ 1000000) (w : World) : Calls Tryd.prog 42 #[.int .i64 42, .int .i64 (n : Int)] w (ShapeP w (shapeF 42 n)) := by
  go_enter Tryd.func42, Tryd.ntmps42
  go_wp2_with (go_at_call 54; refine (params_any n 13 h w).mono ?_; rintro e w' ⟨A, c, rfl, hc, hr, hb⟩)
  go_ret2
  exact ⟨A, c, rfl, hc, hr, hb⟩
set_option maxHeartbeats 4000000 in
set_option maxRecDepth 100000 in
theorem shape_none (k : Int) (n : Nat) (h : ∀ j ∈ ([1, 3, 4, 5, 6, 7, 8, 9, 10, 14, 15, 16, 17, 18, 19, 38, 39, 40, 41, 42, 43, 44, 45, 46, 47, 48, 49, 50, 51, 52, 53] : List Int), k ≠ j) (w : World) : Calls Tryd.prog 42 #[.int .i64 k, .int .i64 (n : Int)] w (ShapeP w (shapeF k n)) := by
  have e1 : (k == 1) = false := beq_eq_false_iff_ne.2 (h 1 (by decide))
  have e3 : (k == 3) = false := beq_eq_false_iff_ne.2 (h 3 (by decide))
  have e4 : (k == 4) = false := beq_eq_false_iff_ne.2 (h 4 (by decide))
  have e5 : (k == 5) = false := beq_eq_false_iff_ne.2 (h 5 (by decide))
  have e6 : (k == 6) = false := beq_eq_false_iff_ne.2 (h 6 (by decide))
  have e7 : (k == 7) = false := beq_eq_false_iff_ne.2 (h 7 (by decide))
  have e8 : (k == 8) = false := beq_eq_false_iff_ne.2 (h 8 (by decide))
  have e9 : (k == 9) = false := beq_eq_false_iff_ne.2 (h 9 (by decide))
  have e10 : (k == 10) = false := beq_eq_false_iff_ne.2 (h 10 (by decide))
  have e14 : (k == 14) = false := beq_eq_false_iff_ne.2 (h 14 (by decide))
  have e15 : (k == 15) = false := beq_eq_false_iff_ne.2 (h 15 (by decide))
  have e16 : (k == 16) = false := beq_eq_false_iff_ne.2 (h 16 (by decide))
  have e17 : (k == 17) = false := beq_eq_false_iff_ne.2 (h 17 (by decide))
  have e18 : (k == 18) = false := beq_eq_false_iff_ne.2 (h 18 (by decide))
  have e19 : (k == 19) = false := beq_eq_false_iff_ne.2 (h 19 (by decide))
  have e38 : (k == 38) = false := beq_eq_false_iff_ne.2 (h 38 (by decide))
  have e39 : (k == 39) = false := beq_eq_false_iff_ne.2 (h 39 (by decide))
  have e40 : (k == 40) = false := beq_eq_false_iff_ne.2 (h 40 (by decide))
  have e41 : (k == 41) = false := beq_eq_false_iff_ne.2 (h 41 (by decide))
  have e42 : (k == 42) = false := beq_eq_false_iff_ne.2 (h 42 (by decide))
  have e43 : (k == 43) = false := beq_eq_false_iff_ne.2 (h 43 (by decide))
  have e44 : (k == 44) = false := beq_eq_false_iff_ne.2 (h 44 (by decide))
  have e45 : (k == 45) = false := beq_eq_false_iff_ne.2 (h 45 (by decide))
  have e46 : (k == 46) = false := beq_eq_false_iff_ne.2 (h 46 (by decide))
  have e47 : (k == 47) = false := beq_eq_false_iff_ne.2 (h 47 (by decide))
  have e48 : (k == 48) = false := beq_eq_false_iff_ne.2 (h 48 (by decide))
  have e49 : (k == 49) = false := beq_eq_false_iff_ne.2 (h 49 (by decide))
  have e50 : (k == 50) = false := beq_eq_false_iff_ne.2 (h 50 (by decide))
  have e51 : (k == 51) = false := beq_eq_false_iff_ne.2 (h 51 (by decide))
  have e52 : (k == 52) = false := beq_eq_false_iff_ne.2 (h 52 (by decide))
  have e53 : (k == 53) = false := beq_eq_false_iff_ne.2 (h 53 (by decide))
  have HQ : Hid (shapeF k n = ([], 0)) := by
    have h2 : ∀ {p : Prop} [Decidable p] {a b : List Nat × Nat}, ¬ p → b = ([], 0) → (if p then a else b) = ([], 0) := fun h1 h2 => by rw [if_neg h1, h2]
    have g : k ≠ 1 ∧ k ≠ 3 ∧ k ≠ 4 ∧ k ≠ 5 ∧ k ≠ 6 ∧ k ≠ 7 ∧ k ≠ 8 ∧ k ≠ 9 ∧ k ≠ 10 ∧ k ≠ 14 ∧ k ≠ 15 ∧ k ≠ 16 ∧ k ≠ 17 ∧ k ≠ 18 ∧ k ≠ 19 ∧ k ≠ 38 ∧ k ≠ 39 ∧ k ≠ 40 ∧ k ≠ 41 ∧ k ≠ 42 ∧ k ≠ 43 ∧ k ≠ 44 ∧ k ≠ 45 ∧ k ≠ 46 ∧ k ≠ 47 ∧ k ≠ 48 ∧ k ≠ 49 ∧ k ≠ 50 ∧ k ≠ 51 ∧ k ≠ 52 ∧ k ≠ 53 := by refine ⟨h 1 (by decide), h 3 (by decide), h 4 (by decide), h 5 (by decide), h 6 (by decide), h 7 (by decide), h 8 (by decide), h 9 (by decide), h 10 (by decide), h 14 (by decide), h 15 (by decide), h 16 (by decide), h 17 (by decide), h 18 (by decide), h 19 (by decide), h 38 (by decide), h 39 (by decide), h 40 (by decide), h 41 (by decide), h 42 (by decide), h 43 (by decide), h 44 (by decide), h 45 (by decide), h 46 (by decide), h 47 (by decide), h 48 (by decide), h 49 (by decide), h 50 (by decide), h 51 (by decide), h 52 (by decide), h 53 (by decide)⟩
    clear h
    unfold shapeF
    repeat' refine h2 (by omega) ?_
    rfl
  clear h
  go_enter Tryd.func42, Tryd.ntmps42
  go_wp2_with fail
  go_ret2
  exact shape_nil w 0 HQ.out
theorem shape_any (k : Int) (n : Nat) (hn : n ≤ 1000000) (w : World) : Calls Tryd.prog 42 #[.int .i64 k, .int .i64 (n : Int)] w (ShapeP w (shapeF k n)) := by
  by_cases h1 : k = 1
  · subst h1
    exact shape_1 n w
  by_cases h3 : k = 3
  · subst h3
    exact shape_3 n w
  by_cases h4 : k = 4
  · subst h4
    exact shape_4 n w
  by_cases h5 : k = 5
  · subst h5
    exact shape_5 n w
  by_cases h6 : k = 6
  · subst h6
    exact shape_6 n w
  by_cases h7 : k = 7
  · subst h7
    by_cases h : n ≤ 1
    · exact shape_7_lo n h w
    · exact shape_7_hi n (by omega) w
  by_cases h8 : k = 8
  · subst h8
    by_cases h0 : n ≤ 1
    · exact shape_8_one n h0 w
    by_cases h : n = 2
    · exact shape_8_two n h w
    · by_cases h2 : n = 3
      · exact shape_8_three n h2 w
      · exact shape_8_four n (by omega) w
  by_cases h9 : k = 9
  · subst h9
    exact shape_9 n w
  by_cases h10 : k = 10
  · subst h10
    exact shape_10 n w
  by_cases h14 : k = 14
  · subst h14
    by_cases h : n ≤ 1
    · exact shape_14_lo n h w
    · exact shape_14_hi n (by omega) w
  by_cases h15 : k = 15
  · subst h15
    exact shape_15 n w
  by_cases h16 : k = 16
  · subst h16
    exact shape_16 n w
  by_cases h17 : k = 17
  · subst h17
    exact shape_17 n w
  by_cases h18 : k = 18
  · subst h18
    exact shape_18 n w
  by_cases h19 : k = 19
  · subst h19
    exact shape_19 n hn w
  by_cases h38 : k = 38
  · subst h38
    exact shape_38 n w
  by_cases h39 : k = 39
  · subst h39
    exact shape_39 n w
  by_cases h40 : k = 40
  · subst h40
    exact shape_40 n w
  by_cases h41 : k = 41
  · subst h41
    exact shape_41 n hn w
  by_cases h42 : k = 42
  · subst h42
    exact shape_42 n hn w
  by_cases h43 : k = 43
  · subst h43
    exact shape_43 n w
  by_cases h44 : k = 44
  · subst h44
    exact shape_44 n w
  by_cases h45 : k = 45
  · subst h45
    exact shape_45 n w
  by_cases h46 : k = 46
  · subst h46
    exact shape_46 n w
  by_cases h47 : k = 47
  · subst h47
    exact shape_47 n w
  by_cases h48 : k = 48
  · subst h48
    exact shape_48 n w
  by_cases h49 : k = 49
  · subst h49
    exact shape_49 n w
  by_cases h50 : k = 50
  · subst h50
    exact shape_50 n w
  by_cases h51 : k = 51
  · subst h51
    exact shape_51 n w
  by_cases h52 : k = 52
  · subst h52
    exact shape_52 n w
  by_cases h53 : k = 53
  · subst h53
    exact shape_53 n w
  exact shape_none k n (fun j hj => by simp only [List.mem_cons, List.mem_nil_iff, or_false] at hj; omega) w
end Go.Proofs.YtelcjdblnagdgaaDoor

namespace Go.Proofs.YtelcjdblnagdgaaDoor

/-- all kids of nodes, one behind the other -/
def kidsAll (ts : List Nd) : List Int := ts.flatMap (·.kids)
theorem kidsAll_cons (x : Nd) (r : List Nd) : kidsAll (x :: r) = x.kids ++ kidsAll r := rfl
theorem kidsAll_app (a b : List Nd) : kidsAll (a ++ b) = kidsAll a ++ kidsAll b := List.flatMap_append ..
theorem places_count {l : List Tr} {n i : Nat} (h : i < n ∨ n + sizes l ≤ i) : (places n l).count (i : Int) = 0 := by
  rw [List.count_eq_zero]
  intro hm
  have := places_in hm
  omega
mutual
theorem countT (n : Nat) (t : Tr) (i : Nat) : (kidsAll (flatT n t)).count (i : Int) = if n < i ∧ i < n + t.size then 1 else 0 := by
  cases t with
  | mk x l =>
    rw [flatT_mk, kidsAll_cons, List.count_append, size_mk]
    have := countL (n + 1) l i
    show (places (n + 1) l).count (i : Int) + _ = _
    rw [this]
    congr 1
    rw [eq_iff_iff]
    omega
theorem countL (n : Nat) (l : List Tr) (i : Nat) : (places n l).count (i : Int) + (kidsAll (flatL n l)).count (i : Int) = if n ≤ i ∧ i < n + sizes l then 1 else 0 := by
  cases l with
  | nil =>
    rw [flatL_nil, sizes_nil, if_neg (by omega)]
    rfl
  | cons t r =>
    rw [flatL_cons, kidsAll_app, List.count_append, sizes_cons]
    have h1 := countT n t i
    have h2 := countL (n + t.size) r i
    have h3 := size_pos t
    show ((n : Int) :: places (n + t.size) r).count (i : Int) + _ = _
    rw [List.count_cons, h1]
    by_cases e : i = n
    · subst e
      have h4 : ¬ (i + t.size ≤ i ∧ i < i + t.size + sizes r) := by omega
      rw [if_neg h4] at h2
      rw [if_pos (by simp), if_neg (by omega), if_pos (by omega)]
      omega
    · have h5 : ((n : Int) == (i : Int)) = false := beq_eq_false_iff_ne.2 (by omega)
      rw [h5, if_neg (by simp)]
      by_cases h6 : n < i ∧ i < n + t.size
      · rw [if_neg (by omega)] at h2
        rw [if_pos h6, if_pos (by omega)]
        omega
      · by_cases h7 : n + t.size ≤ i ∧ i < n + t.size + sizes r
        · rw [if_pos h7] at h2
          rw [if_neg h6, if_pos (by omega)]
          omega
        · rw [if_neg h7] at h2
          rw [if_neg h6, if_neg (by omega)]
          omega
end
theorem deps_root (v : Nat) : ∀ (l : List Tr) (n k : Nat), (k : Int) ∈ places n l → (depsL v l)[k - n]? = some v := by
  intro l
  induction l with
  | nil => intro n k h; cases h
  | cons t r ih =>
    intro n k h
    have hp := size_pos t
    rw [depsL_cons]
    rcases List.mem_cons.1 h with h | h
    · obtain rfl : k = n := by omega
      rw [Nat.sub_self, List.getElem?_append_left (by rw [depsT_len]; omega)]
      cases t; rw [depsT_mk]; rfl
    · have h2 := places_in h
      rw [List.getElem?_append_right (by rw [depsT_len]; omega), depsT_len, Nat.sub_sub]
      exact ih (n + t.size) k h
mutual
theorem kidsT (n v : Nat) (t : Tr) (i : Nat) (x : Nd) (h : (flatT n t)[i]? = some x) :
    (∀ k ∈ x.kids, ((n + i : Nat) : Int) < k ∧ k < ((n + t.size : Nat) : Int)) ∧ (∀ k, x.kids[0]? = some k → k = ((n + i + 1 : Nat) : Int)) ∧ (∀ k : Nat, (k : Int) ∈ x.kids → ∃ d, (depsT v t)[i]? = some d ∧ (depsT v t)[k - n]? = some (d + 1)) := by
  cases t with
  | mk y l =>
    rw [flatT_mk] at h
    rw [depsT_mk, size_mk]
    cases i with
    | zero =>
      obtain rfl : { y with kids := places (n + 1) l } = x := Option.some.inj h
      refine ⟨fun k hk => by have := places_in hk; omega, fun k hk => ?_, fun k hk => ⟨v, rfl, ?_⟩⟩
      · cases l with
        | nil => cases hk
        | cons t r => obtain rfl : ((n + 1 : Nat) : Int) = k := Option.some.inj hk; omega
      · have h2 := places_in hk
        rw [show k - n = (k - (n + 1)) + 1 by omega, List.getElem?_cons_succ]
        exact deps_root (v + 1) l (n + 1) k hk
    | succ i =>
      rw [List.getElem?_cons_succ] at h
      obtain ⟨h1, h2, h3⟩ := kidsL (n + 1) (v + 1) l i x h
      refine ⟨fun k hk => by have := h1 k hk; omega, fun k hk => by have := h2 k hk; omega, fun k hk => ?_⟩
      obtain ⟨d, h4, h5⟩ := h3 k hk
      have := (h1 k hk).1
      exact ⟨d, by rw [List.getElem?_cons_succ]; exact h4, by rw [show k - n = (k - (n + 1)) + 1 by omega, List.getElem?_cons_succ]; exact h5⟩
theorem kidsL (n v : Nat) (l : List Tr) (i : Nat) (x : Nd) (h : (flatL n l)[i]? = some x) :
    (∀ k ∈ x.kids, ((n + i : Nat) : Int) < k ∧ k < ((n + sizes l : Nat) : Int)) ∧ (∀ k, x.kids[0]? = some k → k = ((n + i + 1 : Nat) : Int)) ∧ (∀ k : Nat, (k : Int) ∈ x.kids → ∃ d, (depsL v l)[i]? = some d ∧ (depsL v l)[k - n]? = some (d + 1)) := by
  cases l with
  | nil => rw [flatL_nil] at h; cases h
  | cons t r =>
    rw [flatL_cons] at h
    rw [depsL_cons, sizes_cons]
    by_cases hi : i < t.size
    · rw [List.getElem?_append_left (by rw [flatT_len]; exact hi)] at h
      obtain ⟨h1, h2, h3⟩ := kidsT n v t i x h
      refine ⟨fun k hk => by have := h1 k hk; omega, h2, fun k hk => ?_⟩
      obtain ⟨d, h4, h5⟩ := h3 k hk
      have := h1 k hk
      exact ⟨d, by rw [List.getElem?_append_left (by rw [depsT_len]; omega)]; exact h4, by rw [List.getElem?_append_left (by rw [depsT_len]; omega)]; exact h5⟩
    · rw [List.getElem?_append_right (by rw [flatT_len]; omega), flatT_len] at h
      obtain ⟨h1, h2, h3⟩ := kidsL (n + t.size) v r (i - t.size) x h
      refine ⟨fun k hk => by have := h1 k hk; omega, fun k hk => by have := h2 k hk; omega, fun k hk => ?_⟩
      obtain ⟨d, h4, h5⟩ := h3 k hk
      have := h1 k hk
      exact ⟨d, by rw [List.getElem?_append_right (by rw [depsT_len]; omega), depsT_len]; exact h4, by rw [List.getElem?_append_right (by rw [depsT_len]; omega), depsT_len, Nat.sub_sub]; exact h5⟩
end
/-- what the statement's loops count: behind the first n nodes -/
structure Ordered (ts : List Nd) (D : List Nat) : Prop where
  len : D.length = ts.length
  head : D[0]? = some 1
  lo : ∀ (n : Nat) (h : n < ts.length), ∀ k ∈ ts[n].kids, (n : Int) < k ∧ k < (ts.length : Int)
  first : ∀ (n : Nat) (h : n < ts.length) (k : Int), ts[n].kids[0]? = some k → k = (n : Int) + 1
  deep : ∀ (n : Nat) (h : n < ts.length) (k : Nat), (k : Int) ∈ ts[n].kids → ∃ d, D[n]? = some d ∧ D[k]? = some (d + 1)
  once : ∀ k : Nat, 1 ≤ k → k < ts.length → (kidsAll ts).count (k : Int) = 1
theorem ordered_flat (t : Tr) : Ordered (flatT 0 t) (depsT 1 t) := by
  have hl := flatT_len 0 t
  refine ⟨by rw [depsT_len, hl], by cases t; rw [depsT_mk]; rfl, fun n h k hk => ?_, fun n h k hk => ?_, fun n h k hk => ?_, fun k h1 h2 => ?_⟩
  · have := (kidsT 0 1 t n _ (List.getElem?_eq_getElem h)).1 k hk
    rw [hl]; omega
  · have := (kidsT 0 1 t n _ (List.getElem?_eq_getElem h)).2.1 k hk
    omega
  · have := (kidsT 0 1 t n _ (List.getElem?_eq_getElem h)).2.2 k hk
    simpa using this
  · rw [countT, if_pos (by omega)]
/-- a node is a kid of one ahead of it -/
theorem Ordered.met {ts : List Nd} {D : List Nat} (h : Ordered ts D) {n : Nat} (k : Nat) (hk : 1 ≤ k) (hkn : k ≤ n) (hkl : k < ts.length) : (kidsAll (ts.take n)).count (k : Int) = 1 := by
  have h3 := h.once k hk hkl
  have e : kidsAll ts = kidsAll (ts.take n) ++ kidsAll (ts.drop n) := by rw [← kidsAll_app, List.take_append_drop]
  rw [e, List.count_append] at h3
  have h4 : (kidsAll (ts.drop n)).count (k : Int) = 0 := by
    rw [List.count_eq_zero]
    intro hm
    obtain ⟨x, hx, hkx⟩ := List.mem_flatMap.1 hm
    obtain ⟨i, hi, rfl⟩ := List.getElem_of_mem hx
    rw [List.length_drop] at hi
    rw [List.getElem_drop] at hkx
    have := (h.lo (n + i) (by omega) _ hkx).1
    omega
  omega
end Go.Proofs.YtelcjdblnagdgaaDoor

namespace Go.Proofs.YtelcjdblnagdgaaDoor
open Go.RowKit

/-- kids stand behind their node, in the list -/
def Fwd (ts : List Nd) : Prop := ∀ (n : Nat) (x : Nd), ts[n]? = some x → ∀ k ∈ x.kids, (n : Int) < k ∧ k < (ts.length : Int)
theorem fwd_order {ts : List Nd} (h : orderF ts = true) : Fwd ts := by
  obtain ⟨t, rfl⟩ := order_tree h
  intro n x hx k hk
  obtain ⟨hl, rfl⟩ := List.getElem?_eq_some_iff.1 hx
  exact (ordered_flat t).lo n hl k hk
theorem atN_some {ts : List Nd} {m : Nat} {x : Nd} (h : ts[m]? = some x) : atN ts (m : Int) = x := by
  unfold atN
  rw [List.getD_eq_getElem?_getD, Int.toNat_natCast, h]; rfl
/-- where the chain of last kids stands -/
def DanAt (ts : List Nd) (n m : Nat) (q : Bool) : Prop := ∃ f, n - m ≤ f ∧ dangN f ts (m : Int) = q
theorem DanAt.step {ts : List Nd} {n m : Nat} {q : Bool} {x : Nd} (h : DanAt ts n m q) (hm : m < n) (hx : ts[m]? = some x) :
    (if x.kind = 8 ∧ x.kids.length = 2 then true = q else if x.kind = 8 ∨ x.kind = 9 ∨ x.kind = 10 ∨ x.kind = 18 then (x.kids = [] → false = q) ∧ (∀ k : Nat, x.kids.getLast? = some (k : Int) → m < k → DanAt ts n k q) else false = q) := by
  obtain ⟨f, hf, hd⟩ := h
  obtain ⟨g, rfl⟩ : ∃ g, f = g + 1 := ⟨f - 1, by omega⟩
  unfold dangN at hd
  rw [atN_some hx] at hd
  split
  · rename_i h1; rw [if_pos h1] at hd; exact hd
  · rename_i h1
    rw [if_neg h1] at hd
    split
    · rename_i h2
      rw [if_pos h2] at hd
      refine ⟨fun e => by rw [e] at hd; exact hd, fun k hk hmk => ?_⟩
      rw [hk] at hd
      exact ⟨g, by omega, hd⟩
    · rename_i h2; rw [if_neg h2] at hd; exact hd
set_option maxHeartbeats 8000000 in
set_option maxRecDepth 100000 in
theorem dangles_any {A : Option Addr} {c B n m : Nat} {ts : List Nd} {w : World} (hN : NdsR w B A n ts) (hB : B ≤ w.heap.size) (hf : Fwd ts) (hkl : ∀ x ∈ ts, x.kids.length ≤ 1000000) (hmn : m < n) {q : Bool} (hq : dangles ts (m : Int) = q) :
    Calls Tryd.prog 45 #[.agg #[.slice A n c], .int .i64 (m : Int)] w fun e w' => e = .returned (.bool q) ∧ Below w.heap.size w w' := by
  obtain ⟨W, hW⟩ : ∃ W, w.alloc (.cells #[.slice A n c] 24) = W := ⟨_, rfl⟩
  have hbW : Below w.heap.size w W := by rw [← hW]; exact (Below.refl _ _).alloc (Nat.le_refl _) _
  have hsW : W.heap.size = w.heap.size + 1 := by rw [← hW]; simp
  have hNW := hide ((hN.below (hbW.mono hB)))
  have hcW : W.cell? ⟨w.heap.size, 0, none⟩ = some (.slice A n c) := by rw [← hW, World.cell?_alloc_at _ _ _ _ rfl]; rfl
  have HD := hide (show DanAt ts n m q from ⟨ts.length, by rw [hN.1]; omega, hq⟩)
  have HBW := hide hbW
  have HF := hide hf
  have HKL := hide hkl
  have HLN := hide hN.1
  have HB := hide hB
  clear hq hbW hN hf hkl
  go_enter Tryd.func45, Tryd.ntmps45
  go_upto_region 1 with (fail)
  have HW := hide hW
  clear hW
  go_loopw [1] (fun v wr => ∃ k : Nat, k < n ∧ v = .int .i64 k ∧ Hid (DanAt ts n k q) ∧ Hid (Below W.heap.size W wr)) (fun v _ => n - (intOf v).toNat)
  case atStart => exact ⟨m, hmn, rfl, HD.out, Below.refl _ _⟩
  case round =>
    obtain ⟨k, hk, rfl, hd, hbr⟩ := hrel
    obtain ⟨b, o, x, s, rfl, hbB, hx, hC, hR⟩ := (hNW.out.below (hbr.out.mono (by omega))).get hk
    obtain ⟨kc0, kc1, kc2, kc3, kc4, kc5, kc6, kc7⟩ := hC
    have hbx : wr.cell? ⟨w.heap.size, 0, none⟩ = some (.slice (some ⟨b, o, none⟩) n c) := (hbr.out.cell (p := ⟨w.heap.size, 0, none⟩) (show w.heap.size < W.heap.size by omega)).trans hcW
    have hst := hd.out.step hk hx
    have hfw := HF.out k x hx
    have hxl := HKL.out x (List.mem_of_getElem? hx)
    rw [HLN.out] at hfw
    have hsz := hbr.out.size
    obtain ⟨K, hK⟩ : ∃ K, x.kind = K := ⟨_, rfl⟩
    rw [hK] at kc0 hst
    clear hx hd hK hmn
    go_upto_region 2 with (fail)
    obtain ⟨W1, hW1⟩ : ∃ W1, wr.alloc (.cells #[.int .i64 K, .string ⟨x.name.toArray⟩, .slice s.As x.str.length s.cs, .int .i64 x.nk, .int .i64 x.nn, .bool x.neg, .slice s.Am x.mag.length s.cm, .slice s.Ak x.kids.length s.ck] 42) = W1 := ⟨_, rfl⟩
    rw [hW1]
    have hb1 : Below W.heap.size W W1 := by rw [← hW1]; exact hbr.out.alloc hsz _
    have hs1 : W1.heap.size = wr.heap.size + 1 := by rw [← hW1]; simp
    have p0 : W1.cell? ⟨wr.heap.size, 0, none⟩ = some (.int .i64 K) := by rw [← hW1, World.cell?_alloc_at _ _ _ _ rfl]; rfl
    have p7 : W1.cell? ⟨wr.heap.size, 7, none⟩ = some (.slice s.Ak x.kids.length s.ck) := by rw [← hW1, World.cell?_alloc_at _ _ _ _ rfl]; rfl
    have hR1 : NdR W1 B x s := hR.below (by rw [← hW1]; exact (Below.refl _ _).alloc (by omega) _)
    have HB1 := hide hb1
    clear hW1 hb1 kc0 kc1 kc2 kc3 kc4 kc5 kc6 kc7 hbx hR
    by_cases h1 : K = 8 ∧ x.kids.length = 2
    · rw [if_pos h1] at hst
      have HQ := hide hst
      obtain ⟨h8, h2⟩ := h1
      subst h8
      rw [h2] at p7
      clear hst hfw hR1 h2
      go_wp2_with fail
      (try rw [Exit.noGoto_ret])
      go_ret
      exact ⟨ret_bool HQ.out, HBW.out.trans (HB1.out.mono (by omega))⟩
    · rw [if_neg h1] at hst
      by_cases h2 : K = 8 ∨ K = 9 ∨ K = 10 ∨ K = 18
      · rw [if_pos h2] at hst
        obtain ⟨ha, hb⟩ := hst
        have h3 : K = 8 → ((x.kids.length : Int) == 2) = false := fun e => beq_eq_false_iff_ne.2 (fun e2 => h1 ⟨e, by omega⟩)
        by_cases hke : x.kids = []
        · have HQ := hide (ha hke)
          rw [hke] at p7 h3
          clear ha hb hfw hR1 h1 hke
          rcases h2 with rfl | rfl | rfl | rfl
          all_goals
            clear h3
            go_wp2_with fail
            (try rw [Exit.noGoto_ret])
            go_ret
            exact ⟨ret_bool HQ.out, HBW.out.trans (HB1.out.mono (by omega))⟩
        · obtain ⟨L, hL⟩ : ∃ L, x.kids.length = L + 1 := ⟨x.kids.length - 1, by have := List.length_pos_iff.2 hke; omega⟩
          obtain ⟨bk, ok, hak, hbk, hck⟩ := hR1.kids.spotK (by omega)
          have hcl := hck L (by omega)
          have hkl := hfw x.kids[L] (List.getElem_mem (by omega))
          have hmax := hR1.ck
          have hgl : x.kids.getLast? = some x.kids[L] := by
            rw [List.getLast?_eq_getElem?, show x.kids.length - 1 = L by omega, List.getElem?_eq_getElem (by omega)]
          obtain ⟨y, hy⟩ : ∃ y, x.kids[L]'(by omega) = y := ⟨_, rfl⟩
          rw [hy] at hcl hkl hgl
          obtain ⟨j, rfl⟩ : ∃ j : Nat, y = (j : Int) := ⟨y.toNat, by omega⟩
          have HN := hide (hb j hgl (by omega))
          rw [hak, hL] at p7
          rw [hL] at h3 hmax
          have hLm : L + 1 ≤ 1000000 := by omega
          have hjn : j < n := by omega
          have hkj : k < j := by omega
          clear ha hb hfw hR1 h1 hke hak hck hL hgl hy hmax hkl hxl
          rcases h2 with rfl | rfl | rfl | rfl
          · have h4 := h3 rfl
            clear h3
            go_wp2_with fail
            go_roundw
            case rel => exact ⟨j, hjn, rfl, HN.out, HB1.out⟩
            case measure => simp [intOf]; omega
          all_goals
            clear h3
            go_wp2_with fail
            go_roundw
            case rel => exact ⟨j, hjn, rfl, HN.out, HB1.out⟩
            case measure => simp [intOf]; omega
      · rw [if_neg h2] at hst
        have HQ := hide hst
        have e1 : (K == 8) = false := beq_eq_false_iff_ne.2 (by omega)
        have e2 : (K == 9) = false := beq_eq_false_iff_ne.2 (by omega)
        have e3 : (K == 10) = false := beq_eq_false_iff_ne.2 (by omega)
        have e4 : (K == 18) = false := beq_eq_false_iff_ne.2 (by omega)
        clear hst hfw hR1 h1 h2
        go_wp2_with fail
        (try rw [Exit.noGoto_ret])
        go_ret
        exact ⟨ret_bool HQ.out, HBW.out.trans (HB1.out.mono (by omega))⟩
end Go.Proofs.YtelcjdblnagdgaaDoor

namespace Go.Proofs.YtelcjdblnagdgaaDoor
open Go.RowKit

/-- the loop's memory: the row of depths -/
structure DpS (W wr : World) (v : Value) (n : Nat) (d : List Nat) : Prop where
  own : wr.ownsRow W.heap.size 3 1 v n (n64s d)
  below : Below W.heap.size W wr
theorem made_zero (n : Nat) : (madeCells (Value.int .i64 0).cells (n * 1)).toList = n64s (List.replicate n 0) := by
  rw [Nat.mul_one]
  show (madeCells #[Value.int .i64 0] n).toList = _
  rw [toList_madeCells_one]
  simp [n64s]
def DeepAt (ts : List Nd) (k : Nat) (d q : List Nat) : Prop := deepGo k (ts.drop k) d = q ∧ d.length = ts.length ∧ ∀ y ∈ d, y ≤ k + 1
theorem DeepAt.start {ts : List Nd} {q : List Nat} (h : deepF ts = q) : DeepAt ts 0 (List.replicate ts.length 0) q :=
  ⟨h, List.length_replicate, fun y hy => by have := List.eq_of_mem_replicate hy; omega⟩
theorem DeepAt.done {ts : List Nd} {d q : List Nat} (h : DeepAt ts ts.length d q) : d = q := by
  have := h.1
  rw [List.drop_of_length_le (Nat.le_refl _)] at this
  exact this
/-- in the midst of a node's kids -/
def DeepIn (ts : List Nd) (k v : Nat) (ks : List Int) (d q : List Nat) : Prop := deepGo (k + 1) (ts.drop (k + 1)) (setAll d (v + 1) ks) = q ∧ d[k]? = some v ∧ d.length = ts.length ∧ v ≤ k + 1 ∧ ∀ y ∈ d, y ≤ k + 2
theorem mem_set_le {d : List Nat} {i v b : Nat} (h : ∀ y ∈ d, y ≤ b) (hv : v ≤ b) : ∀ y ∈ d.set i v, y ≤ b := by
  intro y hy
  rcases List.mem_or_eq_of_mem_set hy with h1 | h1
  · exact h y h1
  · rw [h1]; exact hv
theorem DeepAt.go {ts : List Nd} {k a : Nat} {x : Nd} {d q : List Nat} (h : DeepAt ts k d q) (hx : ts[k]? = some x) (ha : d[k]? = some a) : DeepIn ts k (max a 1) x.kids (d.set k (max a 1)) q := by
  obtain ⟨hl, rfl⟩ := List.getElem?_eq_some_iff.1 hx
  have hb := h.2.2 a (List.mem_of_getElem? ha)
  refine ⟨?_, List.getElem?_set_self (by rw [h.2.1]; exact hl), by rw [List.length_set]; exact h.2.1, by omega, mem_set_le (fun y hy => by have := h.2.2 y hy; omega) (by omega)⟩
  have := h.1
  rw [List.drop_eq_getElem_cons hl, deepGo_cons, List.getD_eq_getElem?_getD, ha] at this
  exact this
theorem DeepIn.step {ts : List Nd} {k v m : Nat} {ks : List Int} {d q : List Nat} (h : DeepIn ts k v ((m : Int) :: ks) d q) (hm : k < m) : DeepIn ts k v ks (d.set m (v + 1)) q := by
  refine ⟨h.1, ?_, by rw [List.length_set]; exact h.2.2.1, h.2.2.2.1, mem_set_le h.2.2.2.2 (by have := h.2.2.2.1; omega)⟩
  rw [List.getElem?_set_ne (by omega)]
  exact h.2.1
theorem DeepIn.done {ts : List Nd} {k v : Nat} {d q : List Nat} (h : DeepIn ts k v [] d q) : DeepAt ts (k + 1) d q := ⟨h.1, h.2.2.1, h.2.2.2.2⟩
theorem n64s_set (l : List Nat) (k x : Nat) : (n64s l).set k (.int .i64 (x : Int)) = n64s (l.set k x) := by
  unfold n64s
  rw [List.map_set]
theorem DpS.cell {W wr : World} {g n k a : Nat} {d : List Nat} (h : DpS W wr (.slice (some ⟨g, 0, none⟩) n n) n d) (ha : d[k]? = some a) : wr.cell? ⟨g, k, none⟩ = some (.int .i64 (a : Int)) := by
  have hl : k < n := by
    have h1 := (List.getElem?_eq_some_iff.1 ha).1
    have h2 := h.own.1
    rw [n64s_len] at h2
    omega
  rw [h.own.cellAt k (by omega)]
  simp [n64s, ha]
theorem DpS.store {W wr : World} {g n k a : Nat} {d : List Nat} (h : DpS W wr (.slice (some ⟨g, 0, none⟩) n n) n d) (hg : W.heap.size ≤ g) {z : Int} (hz : z = (a : Int)) : DpS W (wr.setCell ⟨g, k, none⟩ (.int .i64 z)) (.slice (some ⟨g, 0, none⟩) n n) n (d.set k a) := by
  subst hz
  have h1 := h.own.stored k (.int .i64 (a : Int))
  rw [n64s_set] at h1
  exact ⟨h1.1, h.below.setCell hg _⟩
theorem DpS.below' {W wr w' : World} {v : Value} {n : Nat} {d : List Nat} (h : DpS W wr v n d) (hb : Below wr.heap.size wr w') : DpS W w' v n d := ⟨own_below h.own hb, h.below.trans (hb.mono h.below.size)⟩
set_option maxHeartbeats 8000000 in
set_option maxRecDepth 100000 in
theorem deep_any {A : Option Addr} {c B n : Nat} {ts : List Nd} {w : World} (hN : NdsR w B A n ts) (hB : B ≤ w.heap.size) (h0 : 0 < n) (hl : n ≤ 4096) (hf : Fwd ts) (hkl : ∀ x ∈ ts, x.kids.length ≤ 1000000) {q : List Nat} (hq : deepF ts = q) :
    Calls Tryd.prog 28 #[.agg #[.slice A n c]] w fun e w' => ∃ A' c', e = .returned (.slice A' n c') ∧ q.length = n ∧ n ≤ c' ∧ Reads w' w'.heap.size 1 A' n (n64s q) ∧ Below w.heap.size w w' := by
  obtain ⟨W, hW⟩ : ∃ W, w.alloc (.cells #[.slice A n c] 24) = W := ⟨_, rfl⟩
  have hbW : Below w.heap.size w W := by rw [← hW]; exact (Below.refl _ _).alloc (Nat.le_refl _) _
  have hsW : W.heap.size = w.heap.size + 1 := by rw [← hW]; simp
  have hNW := hide ((hN.below (hbW.mono hB)))
  have hcW : W.cell? ⟨w.heap.size, 0, none⟩ = some (.slice A n c) := by rw [← hW, World.cell?_alloc_at _ _ _ _ rfl]; rfl
  have HBW := hide hbW
  have HF := hide hf
  have HKL := hide hkl
  have HLN := hide hN.1
  have HQ := hide hq
  have HB := hide hB
  clear hq hbW hN hf hkl
  go_enter Tryd.func28, Tryd.ntmps28
  go_upto_region 1 with (fail)
  have HW := hide hW
  clear hW
  obtain ⟨i0, hi, hz0, hz1, hz2⟩ := info_parts Tryd.info_int
  have hb8 : i0.bytes * n ≤ 281474976710656 := by rw [hz2]; omega
  have hnm : n ≤ maxLen := by unfold maxLen; omega
  have hltW : w.heap.size < W.heap.size := by omega
  have HSW := hide hsW
  obtain ⟨G, hG⟩ : ∃ G, W.heap.size = G := ⟨_, rfl⟩
  clear hsW
  go_wp2_with (refine wpList_make_full _ rfl _ _ 27 rfl W.heap.size 3 i0 (.int .i64 0) 1 Tryd.underlying27 hi hz0 hz1 .i64 .i64 (n : Int) (n : Int) n rfl rfl rfl rfl hb8 hnm (Nat.le_refl _) ?_; intro w1 ho1 hg1; have hcx : w1.cell? ⟨w.heap.size, 0, none⟩ = some (.slice A n c) := hg1.cell hcW (by simp))
  have HG := hide hG
  have hS1 := hide (show DpS W w1 (.slice (some ⟨G, 0, none⟩) n n) n (List.replicate n 0) from ⟨by have := ho1; rw [made_zero] at this; rw [← hG]; exact this, ⟨hg1.os, hg1.tape, hg1.output, hg1.size, fun i hi => hg1.block i hi (by simp)⟩⟩)
  clear ho1 hg1 hi hz0 hz1 hz2 hb8 hnm hG
  go_loopw [15] (fun i wr => ∃ (k : Nat) (d : List Nat), k ≤ n ∧ i = .int .i64 k ∧ Hid (DeepAt ts k d q) ∧ Hid (DpS W wr (.slice (some ⟨G, 0, none⟩) n n) n d)) (fun i _ => n - (intOf i).toNat)
  case atStart => exact ⟨0, _, Nat.zero_le _, rfl, by have := DeepAt.start HQ.out; rw [HLN.out] at this; exact this, hS1.out⟩
  case round =>
    clear hcx hS1
    obtain ⟨k, d, hk, rfl, hda, hS⟩ := hrel
    by_cases hlt : k < n
    · have hsz := hS.out.below.size
      obtain ⟨b, o, x, s, rfl, hbB, hx, hC, hR⟩ := (hNW.out.below (hS.out.below.mono (by omega))).get hlt
      obtain ⟨kc0, kc1, kc2, kc3, kc4, kc5, kc6, kc7⟩ := hC
      have hfw := hide (show ∀ y ∈ x.kids, (k : Int) < y ∧ y < (n : Int) from by have := HF.out k x hx; rw [HLN.out] at this; exact this)
      have hxl := HKL.out x (List.mem_of_getElem? hx)
      have hdl : k < d.length := by rw [hda.out.2.1, HLN.out]; exact hlt
      obtain ⟨a, ha⟩ : ∃ a, d[k]? = some a := ⟨_, List.getElem?_eq_getElem hdl⟩
      have hgo := hide (hda.out.go hx ha)
      have hab : a ≤ k + 1 := hda.out.2.2 a (List.mem_of_getElem? ha)
      have HA := hide ha
      clear hx hdl ha
      go_upto_region 5 with (fail)
      obtain ⟨W1, hW1⟩ : ∃ W1, wr.alloc (.cells #[.int .i64 x.kind, .string ⟨x.name.toArray⟩, .slice s.As x.str.length s.cs, .int .i64 x.nk, .int .i64 x.nn, .bool x.neg, .slice s.Am x.mag.length s.cm, .slice s.Ak x.kids.length s.ck] 42) = W1 := ⟨_, rfl⟩
      rw [hW1]
      have hs1 : wr.heap.size < W1.heap.size := by rw [← hW1]; simp
      have p7 : W1.cell? ⟨wr.heap.size, 7, none⟩ = some (.slice s.Ak x.kids.length s.ck) := by rw [← hW1, World.cell?_alloc_at _ _ _ _ rfl]; rfl
      have hbb : Below wr.heap.size wr W1 := by rw [← hW1]; exact (Below.refl _ _).alloc (Nat.le_refl _) _
      have HS1 := hide (hS.out.below' hbb)
      have hGl : G < wr.heap.size := by have := (hS.out.own.lt G rfl).2; exact this
      have HRW := hide (hR.back (hS.out.below.mono (by omega)))
      obtain ⟨X, hX⟩ : ∃ X, wr.heap.size = X := ⟨_, rfl⟩
      rw [hX] at p7 hs1 hGl
      rw [hX]
      have hcell := HS1.out.cell HA.out
      have hfr := HS1.out.own.frozenAt k
      have hGX : G ≠ X := by omega
      have hGW : W.heap.size ≤ G := by rw [HG.out]; omega
      have hWW := HS1.out.below.size
      clear hW1 hbb kc0 kc1 kc2 kc3 kc4 kc5 kc6 kc7 hR hS hX hsz hda
      go_cut [3] (fun v3 wx => v3 = .slice (some ⟨G, 0, none⟩) n n ∧ Hid (DpS W wx (.slice (some ⟨G, 0, none⟩) n n) n (d.set k (max a 1))) ∧ wx.cell? ⟨X, 7, none⟩ = some (.slice s.Ak x.kids.length s.ck) ∧ X < wx.heap.size)
      case first =>
        by_cases ha0 : a ≤ 1
        · have hv : max a 1 = 1 := by omega
          have HV := hide hv
          have hmx : max (a : Int) 1 = 1 := by omega
          clear hv
          rcases (show a = 0 ∨ a = 1 by omega) with rfl | rfl
          all_goals
            clear hmx ha0 hab
            go_wp2_with fail
            go_meet
            exact ⟨rfl, HS1.out.store hGW (by rw [HV.out]; rfl), grown_cell (grown_set _ _ _ _) p7 (show X ≠ G by omega), by simpa using hs1⟩
        · have hv : max a 1 = a := by omega
          have HV := hide hv
          have e1 : ¬ (a : Int) ≤ 1 := by omega
          have e2 : (1 : Int) ≤ a := by omega
          clear hv ha0
          go_wp2_with fail
          go_meet
          exact ⟨rfl, HS1.out.store hGW (by rw [HV.out]), grown_cell (grown_set _ _ _ _) p7 (show X ≠ G by omega), by simpa using hs1⟩
      case rest =>
        obtain ⟨rfl, hS2, hp7, hX2⟩ := hcut
        clear HS1 p7 hs1 hcell hfr hWW
        obtain ⟨v, hv⟩ : ∃ v, max a 1 = v := ⟨_, rfl⟩
        rw [hv] at hgo hS2
        have hvb : v ≤ 4097 := by omega
        obtain ⟨d2, hd2⟩ : ∃ d2, d.set k v = d2 := ⟨_, rfl⟩
        rw [hd2] at hgo hS2
        clear hv hd2 HA
        by_cases hke : x.kids = []
        · have hdn := hide (show DeepAt ts (k + 1) d2 q from by have := hgo.out; rw [hke] at this; exact this.done)
          rw [hke] at hp7
          clear hke hgo hxl hfw
          go_wp2_with fail
          go_loopw [31] (fun i wx => i = .int .i64 0 ∧ wx = wc) (fun _ _ => 0)
          case atStart => exact ⟨rfl, rfl⟩
          case round =>
            obtain ⟨rfl, rfl⟩ := hrel
            go_wp2_with fail
            go_roundw
            case rel => exact ⟨k + 1, d2, by omega, by go_num, hdn.out, hS2.out⟩
            case measure => simp [intOf]; omega
        have hkp := List.length_pos_iff.2 hke
        obtain ⟨bk, ok, hak, hbk, hck⟩ := HRW.out.kids.spotK hkp
        have hckb := HRW.out.ck.1
        have HCK := hide hck
        clear hke hck hkp
        go_wp2_with fail
        go_loopw [31] (fun i wr => ∃ (j : Nat) (e : List Nat), j ≤ x.kids.length ∧ i = .int .i64 j ∧ Hid (DeepIn ts k v (x.kids.drop j) e q) ∧ Hid (DpS W wr (.slice (some ⟨G, 0, none⟩) n n) n e)) (fun i _ => x.kids.length - (intOf i).toNat)
        case atStart => exact ⟨0, d2, Nat.zero_le _, rfl, hgo.out, hS2.out⟩
        case round =>
          clear hS2 hp7 hX2
          obtain ⟨j, e, hj, rfl, hin, hSe⟩ := hrel
          by_cases hjl : j < x.kids.length
          · have hcj := (hSe.out.below.cell (p := ⟨bk, ok + j, none⟩) (show bk < W.heap.size by omega)).trans (HCK.out j hjl)
            have hyb := hfw.out x.kids[j] (List.getElem_mem hjl)
            have hin2 := hin.out
            rw [List.drop_eq_getElem_cons hjl] at hin2
            obtain ⟨y, hy⟩ : ∃ y, x.kids[j] = y := ⟨_, rfl⟩
            rw [hy] at hcj hyb hin2
            obtain ⟨m, rfl⟩ : ∃ m : Nat, y = (m : Int) := ⟨y.toNat, by omega⟩
            have hkm : k < m := by omega
            have hmn : m < n := by omega
            have hstep := hide (hin2.step hkm)
            have hcv := hSe.out.cell hin2.2.1
            obtain ⟨z, hz⟩ : ∃ z, e[m]? = some z := ⟨_, List.getElem?_eq_getElem (by rw [hin2.2.2.1, HLN.out]; exact hmn)⟩
            have hcz := hSe.out.cell hz
            have hfr := hSe.out.own.frozenAt m
            have hSZ := hSe.out.below.size
            clear hyb hin2 hy hz hin
            go_wp2_with fail
            go_roundw
            case rel => exact ⟨j + 1, e.set m (v + 1), by omega, by go_num, hstep.out, hSe.out.store hGW (by omega)⟩
            case measure => simp [intOf]; omega
          · obtain rfl : j = x.kids.length := by omega
            have hdn := hide (show DeepAt ts (k + 1) e q from by have := hin.out; rw [List.drop_length] at this; exact this.done)
            clear hin
            go_wp2_with fail
            go_roundw
            case rel => exact ⟨k + 1, e, by omega, by go_num, hdn.out, hSe.out⟩
            case measure => simp [intOf]; omega
    · obtain rfl : k = n := by omega
      have hdn := hide (show d = q from by have := hda.out; rw [← HLN.out] at this; exact this.done)
      have hlen := hide (show q.length = k from by rw [← hdn.out, hda.out.2.1, HLN.out])
      clear hda
      go_wp2_with fail
      go_ret
      refine ⟨_, _, rfl, hlen.out, Nat.le_refl _, ?_, HBW.out.trans (hS.out.below.mono (by omega))⟩
      rw [← hdn.out]
      exact Reads.of_own hS.out.own
theorem maxL_snoc (l : List Nat) (x : Nat) : maxL (l ++ [x]) = max (maxL l) x := by
  rw [maxL_app]
  simp [maxL]
set_option maxHeartbeats 4000000 in
set_option maxRecDepth 100000 in
theorem max_any {A : Option Addr} {c B n : Nat} {d : List Nat} {w : World} (hn : d.length = n) (h0 : 0 < n) (hl : n ≤ 100000) (hr : Reads w B 1 A n (n64s d)) {q : Nat} (hq : maxL d = q) :
    Calls Tryd.prog 27 #[.slice A n c] w fun e w' => e = .returned (.int .i64 (q : Int)) ∧ w = w' := by
  obtain ⟨b, o, rfl, hb, hcell⟩ := hr.spotR h0
  have hcl : ∀ (j : Nat) (x : Nat), d[j]? = some x → w.cell? ⟨b, o + j, none⟩ = some (.int .i64 (x : Int)) := fun j x hx => hcell j _ (by simp [n64s, hx])
  have HCL := hide hcl
  obtain ⟨x0, hx0⟩ : ∃ x0, d[0]? = some x0 := ⟨_, List.getElem?_eq_getElem (by omega)⟩
  have hc0 : w.cell? ⟨b, o, none⟩ = some (.int .i64 (x0 : Int)) := hcl 0 x0 hx0
  have H1 := hide (show maxL (d.take 1) = x0 by
    cases d with
    | nil => cases hx0
    | cons y r => obtain rfl := Option.some.inj hx0; simp [maxL])
  have HN := hide hn
  have HQ := hide hq
  have h1 : (1 : Int) ≤ (n : Int) := by omega
  clear hcl hcell hx0 hr hn hq
  go_enter Tryd.func27, Tryd.ntmps27
  go_wp2_with fail
  go_loop [3, 4] (fun m i => ∃ k z : Nat, 1 ≤ k ∧ k ≤ n ∧ i = .int .i64 k ∧ m = .int .i64 z ∧ Hid (maxL (d.take k) = z)) (fun _ i => n - (intOf i).toNat)
  case atStart => exact ⟨1, x0, Nat.le_refl _, h0, rfl, rfl, H1.out⟩
  case round =>
    clear hc0
    obtain ⟨k, z, hk1, hk, rfl, rfl, hz⟩ := hrel
    by_cases hlt : k < n
    · have hkd : k < d.length := by rw [HN.out]; exact hlt
      obtain ⟨y, hy⟩ : ∃ y, d[k]? = some y := ⟨_, List.getElem?_eq_getElem hkd⟩
      have hcy := HCL.out k y hy
      have HS := hide (show maxL (d.take (k + 1)) = max z y by
        rw [List.take_add_one, hy]
        show maxL (d.take k ++ [y]) = _
        rw [maxL_snoc, hz.out])
      clear hkd hy
      rcases Nat.lt_trichotomy z y with hzy | hzy | hzy
      · have e1 : (z : Int) ≤ (y : Int) := by omega
        have e2 : ¬ (y : Int) ≤ (z : Int) := by omega
        have e3 : (z : Int) < (y : Int) := by omega
        go_wp2_with fail
        go_round
        case rel => exact ⟨k + 1, y, by omega, by omega, by go_num, rfl, HS.out.trans (by omega)⟩
        case measure => simp [intOf]; omega
      · subst hzy
        go_wp2_with fail
        all_goals go_round
        case rel => exact ⟨k + 1, z, by omega, by omega, by go_num, rfl, HS.out.trans (by omega)⟩
        case measure => simp [intOf]; omega
      · have e1 : ¬ (z : Int) ≤ (y : Int) := by omega
        have e2 : (y : Int) ≤ (z : Int) := by omega
        have e3 : (y : Int) < (z : Int) := by omega
        go_wp2_with fail
        go_round
        case rel => exact ⟨k + 1, z, by omega, by omega, by go_num, rfl, HS.out.trans (by omega)⟩
        case measure => simp [intOf]; omega
    · obtain rfl : k = n := by omega
      have HF := hide (show z = q by rw [← hz.out, ← HQ.out, List.take_of_length_le (by rw [HN.out]; omega)])
      go_wp2_with fail
      go_ret
      exact ⟨ret_int (by rw [HF.out]), rfl⟩
end Go.Proofs.YtelcjdblnagdgaaDoor
