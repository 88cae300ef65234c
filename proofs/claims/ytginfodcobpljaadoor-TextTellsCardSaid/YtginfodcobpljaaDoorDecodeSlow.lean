/- utf8.DecodeRune over a slice of bytes that is not empty: its contract (the library's own text is walked; turned from the shelf's worked proof). The two tables of unicode/utf8 read as their initialisers lay them. -/
import Derived.Test.YtginfodcobpljaaDoorBase0
import Derived.Shelf.Unicode.DecodeSlow
namespace Go.Proofs.YtginfodcobpljaaDoor
open Go.RowKit Go.Lib

def Tabs (w : World) : Prop := Lib.Utf8Tabs 0 1 w
theorem Tabs.below {B : Nat} {w w' : World} (h : Tabs w) (hb : Below B w w') (h1 : 0 < B) (h2 : 1 < B) : Tabs w' := by
  refine ⟨fun c hc => ?_, fun i hi => ⟨?_, ?_⟩⟩
  · rw [hb.cell (p := ⟨_, c, none⟩) h1]; exact h.1 c hc
  · rw [hb.cell (p := ⟨_, 2 * i, none⟩) h2]; exact (h.2 i hi).1
  · rw [hb.cell (p := ⟨_, 2 * i + 1, none⟩) h2]; exact (h.2 i hi).2
theorem Tabs.lt {w : World} (h : Tabs w) : 0 < w.heap.size ∧ 1 < w.heap.size :=
  ⟨World.block_lt_of_cell? w _ (h.1 0 (by omega)), World.block_lt_of_cell? w _ (h.2 0 (by omega)).1⟩
theorem Tabs.grow {w w' : World} (h : Tabs w) (hb : Below w.heap.size w w') : Tabs w' := h.below hb h.lt.1 h.lt.2

set_option maxHeartbeats 4000000 in
set_option maxRecDepth 1000000 in
theorem slow_any (n b off cap : Nat) (x0 x1 x2 x3 : UInt8) (w : World) (hT : Tabs w) (hn0 : 0 < n)
    (hs0 : w.cell? ⟨b, off, none⟩ = some (.int .u8 x0.toNat)) (hq1 : 1 < n → w.cell? ⟨b, off + 1, none⟩ = some (.int .u8 x1.toNat))
    (hq2 : 2 < n → w.cell? ⟨b, off + 2, none⟩ = some (.int .u8 x2.toNat)) (hq3 : 3 < n → w.cell? ⟨b, off + 3, none⟩ = some (.int .u8 x3.toNat)) :
    Calls Tryd.prog 53 #[.slice (some ⟨b, off, none⟩) n cap] w fun e w' => e = .returned (.tuple #[.int .i32 (decodeN n x0.toNat x1.toNat x2.toNat x3.toNat).1, .int .i64 (decodeN n x0.toNat x1.toNat x2.toNat x3.toNat).2]) ∧ Below w.heap.size w w' := by
  have hz0 : (0 : Int) < (n : Int) := by omega
  have hz0' : ¬ ((n : Int) < 1) := by omega
  have hb : b < w.heap.size := World.block_lt_of_cell? w _ hs0
  have l0 := x0.toNat_lt; have l1 := x1.toNat_lt; have l2 := x2.toNat_lt; have l3 := x3.toNat_lt
  have hc0 := hT.1 x0.toNat (by omega)
  have hres : firstT x0.toNat < 240 → decodeN n x0.toNat x1.toNat x2.toNat x3.toNat = slowN n x0.toNat x1.toNat x2.toNat x3.toNat (firstT x0.toNat % 8) (accLo (firstT x0.toNat / 16)) (accHi (firstT x0.toNat / 16)) :=
    fun h => (Lib.slow_eq _ _ _ _ _ (by omega) (by omega) (by omega) (by omega) h).symm
  rcases Lib.firstT_cases x0.toNat with hX | hX | hX | hX | hX | hX | hX | hX | hX
  · rw [Lib.ascii_eq _ _ _ _ _ hX]
    rw [hX] at hc0
    clear hres hT hX
    clear hq1 hq2 hq3
    go_enter Tryd.func53, Tryd.ntmps53
    go_wp2
    rw [Utf8W.mask240, Utf8W.keep_byte ⟨x0.toNat, l0⟩]
    go_ret2
    exact ⟨rfl, Below.refl _ _⟩
  · rw [Lib.bad_eq _ _ _ _ _ (by omega) hX]
    rw [hX] at hc0
    clear hres hT hX
    clear hq1 hq2 hq3
    go_enter Tryd.func53, Tryd.ntmps53
    go_wp2
    rw [Utf8W.mask241, Utf8W.drop_byte ⟨x0.toNat, l0⟩]
    go_ret2
    exact ⟨rfl, Below.refl _ _⟩
  all_goals replace hres := hres (by omega)
  · rw [hX] at hc0 hres
    have ha0 := (hT.2 0 (by omega)).1
    have ha1 := (hT.2 0 (by omega)).2
    simp only [accLo, accHi, Nat.reduceMul, Nat.reduceAdd, Nat.reduceEqDiff, if_true, if_false, Nat.reduceMod, Nat.reduceDiv] at ha0 ha1 hres
    rw [hres]
    clear hres hT hX
    by_cases hn : n < 2
    · have hnz : (n : Int) < 2 := by omega
      clear hq1 hq2 hq3
      go_enter Tryd.func53, Tryd.ntmps53
      go_wp2
      all_goals (go_ret2; refine ⟨?_, (Below.refl _ _).alloc (Nat.le_refl _) _⟩; utf8_leaf)
    · have hz1 : (1 : Int) < (n : Int) := by omega
      have hs1 := hq1 (by omega)
      clear hq1 hq2 hq3
      go_enter Tryd.func53, Tryd.ntmps53
      go_wp2
      all_goals (go_ret2; refine ⟨?_, (Below.refl _ _).alloc (Nat.le_refl _) _⟩; utf8_leaf)
  · rw [hX] at hc0 hres
    have ha0 := (hT.2 1 (by omega)).1
    have ha1 := (hT.2 1 (by omega)).2
    simp only [accLo, accHi, Nat.reduceMul, Nat.reduceAdd, Nat.reduceEqDiff, if_true, if_false, Nat.reduceMod, Nat.reduceDiv] at ha0 ha1 hres
    rw [hres]
    clear hres hT hX
    by_cases hn : n < 3
    · have hnz : (n : Int) < 3 := by omega
      clear hq1 hq2 hq3
      go_enter Tryd.func53, Tryd.ntmps53
      go_wp2
      all_goals (go_ret2; refine ⟨?_, (Below.refl _ _).alloc (Nat.le_refl _) _⟩; utf8_leaf)
    · have hz1 : (1 : Int) < (n : Int) := by omega
      have hs1 := hq1 (by omega)
      have hz2 : (2 : Int) < (n : Int) := by omega
      have hs2 := hq2 (by omega)
      clear hq1 hq2 hq3
      go_enter Tryd.func53, Tryd.ntmps53
      go_wp2
      all_goals (go_ret2; refine ⟨?_, (Below.refl _ _).alloc (Nat.le_refl _) _⟩; utf8_leaf)
  · rw [hX] at hc0 hres
    have ha0 := (hT.2 0 (by omega)).1
    have ha1 := (hT.2 0 (by omega)).2
    simp only [accLo, accHi, Nat.reduceMul, Nat.reduceAdd, Nat.reduceEqDiff, if_true, if_false, Nat.reduceMod, Nat.reduceDiv] at ha0 ha1 hres
    rw [hres]
    clear hres hT hX
    by_cases hn : n < 3
    · have hnz : (n : Int) < 3 := by omega
      clear hq1 hq2 hq3
      go_enter Tryd.func53, Tryd.ntmps53
      go_wp2
      all_goals (go_ret2; refine ⟨?_, (Below.refl _ _).alloc (Nat.le_refl _) _⟩; utf8_leaf)
    · have hz1 : (1 : Int) < (n : Int) := by omega
      have hs1 := hq1 (by omega)
      have hz2 : (2 : Int) < (n : Int) := by omega
      have hs2 := hq2 (by omega)
      clear hq1 hq2 hq3
      go_enter Tryd.func53, Tryd.ntmps53
      go_wp2
      all_goals (go_ret2; refine ⟨?_, (Below.refl _ _).alloc (Nat.le_refl _) _⟩; utf8_leaf)
  · rw [hX] at hc0 hres
    have ha0 := (hT.2 2 (by omega)).1
    have ha1 := (hT.2 2 (by omega)).2
    simp only [accLo, accHi, Nat.reduceMul, Nat.reduceAdd, Nat.reduceEqDiff, if_true, if_false, Nat.reduceMod, Nat.reduceDiv] at ha0 ha1 hres
    rw [hres]
    clear hres hT hX
    by_cases hn : n < 3
    · have hnz : (n : Int) < 3 := by omega
      clear hq1 hq2 hq3
      go_enter Tryd.func53, Tryd.ntmps53
      go_wp2
      all_goals (go_ret2; refine ⟨?_, (Below.refl _ _).alloc (Nat.le_refl _) _⟩; utf8_leaf)
    · have hz1 : (1 : Int) < (n : Int) := by omega
      have hs1 := hq1 (by omega)
      have hz2 : (2 : Int) < (n : Int) := by omega
      have hs2 := hq2 (by omega)
      clear hq1 hq2 hq3
      go_enter Tryd.func53, Tryd.ntmps53
      go_wp2
      all_goals (go_ret2; refine ⟨?_, (Below.refl _ _).alloc (Nat.le_refl _) _⟩; utf8_leaf)
  · rw [hX] at hc0 hres
    have ha0 := (hT.2 3 (by omega)).1
    have ha1 := (hT.2 3 (by omega)).2
    simp only [accLo, accHi, Nat.reduceMul, Nat.reduceAdd, Nat.reduceEqDiff, if_true, if_false, Nat.reduceMod, Nat.reduceDiv] at ha0 ha1 hres
    rw [hres]
    clear hres hT hX
    by_cases hn : n < 4
    · have hnz : (n : Int) < 4 := by omega
      clear hq1 hq2 hq3
      go_enter Tryd.func53, Tryd.ntmps53
      go_wp2
      all_goals (go_ret2; refine ⟨?_, (Below.refl _ _).alloc (Nat.le_refl _) _⟩; utf8_leaf)
    · have hz1 : (1 : Int) < (n : Int) := by omega
      have hs1 := hq1 (by omega)
      have hz2 : (2 : Int) < (n : Int) := by omega
      have hs2 := hq2 (by omega)
      have hz3 : (3 : Int) < (n : Int) := by omega
      have hs3 := hq3 (by omega)
      clear hq1 hq2 hq3
      go_enter Tryd.func53, Tryd.ntmps53
      go_wp2
      all_goals (go_ret2; refine ⟨?_, (Below.refl _ _).alloc (Nat.le_refl _) _⟩; utf8_leaf)
  · rw [hX] at hc0 hres
    have ha0 := (hT.2 0 (by omega)).1
    have ha1 := (hT.2 0 (by omega)).2
    simp only [accLo, accHi, Nat.reduceMul, Nat.reduceAdd, Nat.reduceEqDiff, if_true, if_false, Nat.reduceMod, Nat.reduceDiv] at ha0 ha1 hres
    rw [hres]
    clear hres hT hX
    by_cases hn : n < 4
    · have hnz : (n : Int) < 4 := by omega
      clear hq1 hq2 hq3
      go_enter Tryd.func53, Tryd.ntmps53
      go_wp2
      all_goals (go_ret2; refine ⟨?_, (Below.refl _ _).alloc (Nat.le_refl _) _⟩; utf8_leaf)
    · have hz1 : (1 : Int) < (n : Int) := by omega
      have hs1 := hq1 (by omega)
      have hz2 : (2 : Int) < (n : Int) := by omega
      have hs2 := hq2 (by omega)
      have hz3 : (3 : Int) < (n : Int) := by omega
      have hs3 := hq3 (by omega)
      clear hq1 hq2 hq3
      go_enter Tryd.func53, Tryd.ntmps53
      go_wp2
      all_goals (go_ret2; refine ⟨?_, (Below.refl _ _).alloc (Nat.le_refl _) _⟩; utf8_leaf)
  · rw [hX] at hc0 hres
    have ha0 := (hT.2 4 (by omega)).1
    have ha1 := (hT.2 4 (by omega)).2
    simp only [accLo, accHi, Nat.reduceMul, Nat.reduceAdd, Nat.reduceEqDiff, if_true, if_false, Nat.reduceMod, Nat.reduceDiv] at ha0 ha1 hres
    rw [hres]
    clear hres hT hX
    by_cases hn : n < 4
    · have hnz : (n : Int) < 4 := by omega
      clear hq1 hq2 hq3
      go_enter Tryd.func53, Tryd.ntmps53
      go_wp2
      all_goals (go_ret2; refine ⟨?_, (Below.refl _ _).alloc (Nat.le_refl _) _⟩; utf8_leaf)
    · have hz1 : (1 : Int) < (n : Int) := by omega
      have hs1 := hq1 (by omega)
      have hz2 : (2 : Int) < (n : Int) := by omega
      have hs2 := hq2 (by omega)
      have hz3 : (3 : Int) < (n : Int) := by omega
      have hs3 := hq3 (by omega)
      clear hq1 hq2 hq3
      go_enter Tryd.func53, Tryd.ntmps53
      go_wp2
      all_goals (go_ret2; refine ⟨?_, (Below.refl _ _).alloc (Nat.le_refl _) _⟩; utf8_leaf)
end Go.Proofs.YtginfodcobpljaaDoor
