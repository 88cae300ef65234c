/- The law TextBlanks, walked: blanks at both ends change no number. -/
import Derived.Test.YtginfodcobpljaaDoorKit3
import Derived.Test.YtginfodcobpljaaDoorPlainLaw
namespace Go.Proofs.YtginfodcobpljaaDoor
open Go.RowKit

def blankA (i : Nat) : UInt16 := if i % 4 = 0 then 32 else if i % 4 = 1 then 9 else if i % 4 = 2 then 10 else 13
def blankB (i : Nat) : UInt16 := if i % 4 = 0 then 13 else if i % 4 = 1 then 32 else if i % 4 = 2 then 10 else 9
def blanksA (k : Nat) : List UInt16 := (List.range k).map blankA
def blanksB (k : Nat) : List UInt16 := (List.range k).map blankB
theorem blanksA_all (k : Nat) : ∀ x ∈ blanksA k, isBlank x = true := by
  intro x hx
  simp only [blanksA, List.mem_map] at hx
  obtain ⟨i, _, rfl⟩ := hx
  unfold blankA
  repeat' split
  all_goals rfl
theorem blanksB_all (k : Nat) : ∀ x ∈ blanksB k, isBlank x = true := by
  intro x hx
  simp only [blanksB, List.mem_map] at hx
  obtain ⟨i, _, rfl⟩ := hx
  unfold blankB
  repeat' split
  all_goals rfl
theorem blanksA_len (k : Nat) : (blanksA k).length = k := by simp [blanksA]
theorem blanksB_len (k : Nat) : (blanksB k).length = k := by simp [blanksB]
theorem u16s_snoc (l : List UInt16) (x : UInt16) : u16s l ++ [.int .u16 (x.toNat : Int)] = u16s (l ++ [x]) := by simp [u16s, u16v]
theorem blanksA_next (k : Nat) : blanksA (k + 1) = blanksA k ++ [blankA k] := by simp [blanksA, List.range_succ]
theorem blanksB_next (k : Nat) : blanksB (k + 1) = blanksB k ++ [blankB k] := by simp [blanksB, List.range_succ]

theorem blanksA_step (k : Nat) (x : UInt16) (n : Int) (h : blankA k = x) (hx : (x.toNat : Int) = n) : u16s (blanksA k) ++ [.int .u16 n] = u16s (blanksA (k + 1)) := by
  rw [blanksA_next, h, ← u16s_snoc, hx]
theorem blanksB_step (l : List UInt16) (k : Nat) (x : UInt16) (n : Int) (h : blankB k = x) (hx : (x.toNat : Int) = n) : u16s (l ++ blanksB k) ++ [.int .u16 n] = u16s (l ++ blanksB (k + 1)) := by
  rw [blanksB_next, h, ← List.append_assoc, ← u16s_snoc, hx]
theorem wpList_lit2 {P : Program} {w0 w : World} {ops : Array Oper} {rest : List Oper} {o : Oper} {a : Act} {Q : Exit → Act → World → Prop} (hgd : o.guard = none) (s x : Operand) (t : TypeId)
    (ho : o.op = .call { callee := .builtin .append, args := #[s, x], argTypes := #[t, t] })
    (e : TypeId) (i : TypeInfo) (z : Value) (bytes : Nat) (ht : P.underlying t = some (.slice e)) (hi : P.info? e = some i) (hz : i.zero = some z)
    (hsize : i.size = 1) (hby : i.bytes = bytes) (hzs : z.cells.size = 1)
    (v : Value) (xs : List Value) (hs : a.eval s = v) (hm : Made w0 w e v xs)
    (cs : List Value) (m c b : Nat) (hb : b = w.heap.size) (hx : a.eval x = .slice (some ⟨b, 0, none⟩) m c) (hl : cs.length = m) (h1 : (cs.all fun u => u.oneCell') = true)
    (hsz : xs.length + m ≤ 70368744177664) (hb2 : bytes ≤ 2)
    (h : ∀ v' w', Made w0 w' e v' (xs ++ cs) → wpList P ops Q rest (a.put o.dst v') w') : wpList P ops Q (o :: rest) a (w.alloc (.cells cs.toArray e)) := by
  subst hb
  exact wpList_lit hgd s x t ho e i z bytes ht hi hz hsize hby hzs v xs hs hm cs m c hx hl h1 hsz hb2 h

set_option maxHeartbeats 8000000 in
set_option maxRecDepth 100000 in
theorem textBlanks_law (A : Option Addr) (c : Nat) (u : List UInt16) (hc : u.length ≤ c) (hm : c ≤ maxLen) (x1 : Int) (hx1 : -9223372036854775808 ≤ x1 ∧ x1 ≤ 9223372036854775807) (x2 : Int) (hx2 : -9223372036854775808 ≤ x2 ∧ x2 ≤ 9223372036854775807) (w : World)
    (hr : Reads w w.heap.size 1 A u.length (u16s u)) (hT : Tabs w) :
    Calls Tryd.prog 6 #[.slice A u.length c, .int .i64 x1, .int .i64 x2] w fun e w' => e = .returned (.bool true) ∧ Below w.heap.size w w' := by
  have HT := hide hT
  clear hT
  obtain ⟨i0, hi0, hz0, hz1, hz2⟩ := info_parts Tryd.info_u16
  go_enter Tryd.func6, Tryd.ntmps6
  go_wp2_with fail
  refine (first_any w HT.out).mono ?_
  rintro e w1 ⟨rfl, hb1⟩
  have hs1 := hb1.size
  have hr1 := hr.below hb1
  have HT1 := hide (HT.out.grow hb1)
  by_cases hl : 2000 < u.length
  · go_wp2_with fail
    refine (first_any _ HT1.out).mono ?_
    rintro e w2 ⟨rfl, hb2⟩
    go_wp2
    go_ret
    exact ⟨rfl, bthen hb1 hb2⟩
  by_cases h2 : x1 < 0
  · go_wp2_with fail
    refine (first_any _ HT1.out).mono ?_
    rintro e w2 ⟨rfl, hb2⟩
    go_wp2
    go_ret
    exact ⟨rfl, bthen hb1 hb2⟩
  by_cases h3 : 100 < x1
  · go_wp2_with fail
    refine (first_any _ HT1.out).mono ?_
    rintro e w2 ⟨rfl, hb2⟩
    go_wp2
    go_ret
    exact ⟨rfl, bthen hb1 hb2⟩
  by_cases h4 : x2 < 0
  · go_wp2_with fail
    refine (first_any _ HT1.out).mono ?_
    rintro e w2 ⟨rfl, hb2⟩
    go_wp2
    go_ret
    exact ⟨rfl, bthen hb1 hb2⟩
  by_cases h5 : 100 < x2
  · go_wp2_with fail
    refine (first_any _ HT1.out).mono ?_
    rintro e w2 ⟨rfl, hb2⟩
    go_wp2
    go_ret
    exact ⟨rfl, bthen hb1 hb2⟩
  obtain ⟨n, rfl⟩ : ∃ k : Nat, x1 = k := ⟨x1.toNat, by omega⟩
  obtain ⟨m, rfl⟩ : ∃ k : Nat, x2 = k := ⟨x2.toNat, by omega⟩
  clear hx1 hx2
  have hn : n ≤ 100 := by omega
  have hmm : m ≤ 100 := by omega
  have hlA := blanksA_len n
  go_wp2
  go_loopw [7, 8] (fun v i wr => ∃ k, k ≤ n ∧ i = .int .i64 (k : Nat) ∧ Made w1 wr 42 v (u16s (blanksA k))) (fun _ i _ => n - (intOf i).toNat)
  case atStart => exact ⟨0, Nat.zero_le _, rfl, Made.nil _ _⟩
  case round =>
    obtain ⟨k, hk, rfl, hmr⟩ := hrel
    have hla := blanksA_len k
    by_cases hlt : k < n
    · rcases (show k % 4 = 0 ∨ k % 4 = 1 ∨ k % 4 = 2 ∨ k % 4 = 3 by omega) with h6 | h6 | h6 | h6
      · have e1 : ((k : Int) % 4) = 0 := by omega
        have e2 : blankA k = 32 := by simp [blankA, h6]
        go_wp2_with (at_builtin; refine wpList_lit2 rfl _ _ 24 rfl 42 i0 _ 2 Tryd.underlying24 hi0 hz0 hz1 hz2 rfl _ _ rfl (hmr.alloc _) _ 1 1 _ (by simp) rfl rfl rfl (by rw [u16s_len]; omega) (by omega) ?_; intro v' w' hm')
        go_roundw
        case rel => exact ⟨k + 1, by omega, by go_num, hm'.cells (blanksA_step k 32 32 e2 rfl)⟩
        case measure => simp [intOf]; omega
      · have e1 : ((k : Int) % 4) = 1 := by omega
        have e2 : blankA k = 9 := by simp [blankA, h6]
        go_wp2_with (at_builtin; refine wpList_lit2 rfl _ _ 24 rfl 42 i0 _ 2 Tryd.underlying24 hi0 hz0 hz1 hz2 rfl _ _ rfl (hmr.alloc _) _ 1 1 _ (by simp) rfl rfl rfl (by rw [u16s_len]; omega) (by omega) ?_; intro v' w' hm')
        go_roundw
        case rel => exact ⟨k + 1, by omega, by go_num, hm'.cells (blanksA_step k 9 9 e2 rfl)⟩
        case measure => simp [intOf]; omega
      · have e1 : ((k : Int) % 4) = 2 := by omega
        have e2 : blankA k = 10 := by simp [blankA, h6]
        go_wp2_with (at_builtin; refine wpList_lit2 rfl _ _ 24 rfl 42 i0 _ 2 Tryd.underlying24 hi0 hz0 hz1 hz2 rfl _ _ rfl (hmr.alloc _) _ 1 1 _ (by simp) rfl rfl rfl (by rw [u16s_len]; omega) (by omega) ?_; intro v' w' hm')
        go_roundw
        case rel => exact ⟨k + 1, by omega, by go_num, hm'.cells (blanksA_step k 10 10 e2 rfl)⟩
        case measure => simp [intOf]; omega
      · have e1 : ((k : Int) % 4) = 3 := by omega
        have e2 : blankA k = 13 := by simp [blankA, h6]
        go_wp2_with (at_builtin; refine wpList_lit2 rfl _ _ 24 rfl 42 i0 _ 2 Tryd.underlying24 hi0 hz0 hz1 hz2 rfl _ _ rfl (hmr.alloc _) _ 1 1 _ (by simp) rfl rfl rfl (by rw [u16s_len]; omega) (by omega) ?_; intro v' w' hm')
        go_roundw
        case rel => exact ⟨k + 1, by omega, by go_num, hm'.cells (blanksA_step k 13 13 e2 rfl)⟩
        case measure => simp [intOf]; omega
    · obtain rfl : k = n := by omega
      have hr2 := hr1.below (hmr.below.mono hs1)
      go_wp2_with (at_builtin; refine wpList_any rfl _ _ 24 rfl 42 i0 _ 2 Tryd.underlying24 hi0 hz0 hz1 hz2 rfl _ _ rfl hmr _ _ _ _ _ rfl hr2 (u16s_one _) (by rw [u16s_len]; omega) (by omega) ?_; intro v2 w2 hm2)
      clear hmr hr2
      rw [show u16s (blanksA k) ++ u16s u = u16s (blanksA k ++ u ++ blanksB 0) by simp [u16s, blanksB]] at hm2
      go_loopw [7, 9] (fun v i wr => ∃ j, j ≤ m ∧ i = .int .i64 (j : Nat) ∧ Made w1 wr 42 v (u16s (blanksA k ++ u ++ blanksB j))) (fun _ i _ => m - (intOf i).toNat)
      case atStart => exact ⟨0, Nat.zero_le _, rfl, hm2⟩
      case round =>
        obtain ⟨j, hj, rfl, hmr⟩ := hrel
        have hlb := blanksB_len j
        by_cases hlt2 : j < m
        · rcases (show j % 4 = 0 ∨ j % 4 = 1 ∨ j % 4 = 2 ∨ j % 4 = 3 by omega) with h6 | h6 | h6 | h6
          · have e1 : ((j : Int) % 4) = 0 := by omega
            have e2 : blankB j = 13 := by simp [blankB, h6]
            go_wp2_with (at_builtin; refine wpList_lit2 rfl _ _ 24 rfl 42 i0 _ 2 Tryd.underlying24 hi0 hz0 hz1 hz2 rfl _ _ rfl (hmr.alloc _) _ 1 1 _ (by simp) rfl rfl rfl (by rw [u16s_len]; rw [List.length_append, List.length_append, hlA, hlb]; omega) (by omega) ?_; intro v' w' hm')
            go_roundw
            case rel => exact ⟨j + 1, by omega, by go_num, hm'.cells (blanksB_step (blanksA k ++ u) j 13 13 e2 rfl)⟩
            case measure => simp [intOf]; omega
          · have e1 : ((j : Int) % 4) = 1 := by omega
            have e2 : blankB j = 32 := by simp [blankB, h6]
            go_wp2_with (at_builtin; refine wpList_lit2 rfl _ _ 24 rfl 42 i0 _ 2 Tryd.underlying24 hi0 hz0 hz1 hz2 rfl _ _ rfl (hmr.alloc _) _ 1 1 _ (by simp) rfl rfl rfl (by rw [u16s_len]; rw [List.length_append, List.length_append, hlA, hlb]; omega) (by omega) ?_; intro v' w' hm')
            go_roundw
            case rel => exact ⟨j + 1, by omega, by go_num, hm'.cells (blanksB_step (blanksA k ++ u) j 32 32 e2 rfl)⟩
            case measure => simp [intOf]; omega
          · have e1 : ((j : Int) % 4) = 2 := by omega
            have e2 : blankB j = 10 := by simp [blankB, h6]
            go_wp2_with (at_builtin; refine wpList_lit2 rfl _ _ 24 rfl 42 i0 _ 2 Tryd.underlying24 hi0 hz0 hz1 hz2 rfl _ _ rfl (hmr.alloc _) _ 1 1 _ (by simp) rfl rfl rfl (by rw [u16s_len]; rw [List.length_append, List.length_append, hlA, hlb]; omega) (by omega) ?_; intro v' w' hm')
            go_roundw
            case rel => exact ⟨j + 1, by omega, by go_num, hm'.cells (blanksB_step (blanksA k ++ u) j 10 10 e2 rfl)⟩
            case measure => simp [intOf]; omega
          · have e1 : ((j : Int) % 4) = 3 := by omega
            have e2 : blankB j = 9 := by simp [blankB, h6]
            go_wp2_with (at_builtin; refine wpList_lit2 rfl _ _ 24 rfl 42 i0 _ 2 Tryd.underlying24 hi0 hz0 hz1 hz2 rfl _ _ rfl (hmr.alloc _) _ 1 1 _ (by simp) rfl rfl rfl (by rw [u16s_len]; rw [List.length_append, List.length_append, hlA, hlb]; omega) (by omega) ?_; intro v' w' hm')
            go_roundw
            case rel => exact ⟨j + 1, by omega, by go_num, hm'.cells (blanksB_step (blanksA k ++ u) j 9 9 e2 rfl)⟩
            case measure => simp [intOf]; omega
        · obtain rfl : j = m := by omega
          have hr3 := hr1.below (hmr.below.mono hs1)
          have hb3 := hmr.below
          have hs3 := hb3.size
          have HT3 := hide (HT1.out.grow hb3)
          obtain ⟨A3, c3, rfl, h31, h32, hrv⟩ := hmr.u16
          obtain ⟨L, hL⟩ : ∃ L, (blanksA k ++ u ++ blanksB j).length = L := ⟨_, rfl⟩
          have hL4 : L ≤ 4000 := by rw [← hL, List.length_append, List.length_append]; omega
          rw [hL] at h31 hrv ⊢
          obtain ⟨z, hz⟩ : ∃ z, numF u = z := ⟨_, rfl⟩
          have hz' := blanks_num (u := u) (blanksA_all k) (blanksB_all j)
          rw [hz] at hz'
          obtain ⟨⟨kd, nn⟩, ok⟩ := z
          have HZ := hide hz
          have HW := hide hz'
          have HL := hide hL
          clear hz hz' hL hla hlb hlA hmr
          go_wp2_with fail
          refine (num_is (B := w.heap.size) (by omega) rfl hr3 hc hm (by omega) HZ.out).mono ?_
          rintro e w4 ⟨rfl, hb4⟩
          have hs4 := hb4.size
          have hrv4 := hrv.below (balloc hb4 (.cells #[.int .i64 kd, .int .i64 nn] 33))
          go_wp2_with fail
          refine (num_is (by go_simp; omega) HL.out hrv4 h31 h32 (by omega) HW.out).mono ?_
          rintro e w5 ⟨rfl, hb5⟩
          have hs5 := hb5.size
          have hs5' : w4.heap.size < w5.heap.size := by simp at hs5; omega
          have C0 : w5.cell? ⟨w4.heap.size, 0, none⟩ = some (.int .i64 kd) := (hb5.cell (p := ⟨w4.heap.size, 0, none⟩) (by simp)).trans (by go_simp)
          have C1 : w5.cell? ⟨w4.heap.size, 1, none⟩ = some (.int .i64 nn) := (hb5.cell (p := ⟨w4.heap.size, 1, none⟩) (by simp)).trans (by go_simp)
          have HT5 : Hid (Tabs (w5.alloc (.cells #[.int .i64 kd, .int .i64 nn] 33))) := hide ((HT3.out.grow (balloc hb4 _)).grow (balloc hb5 _))
          have eok : (ok == ok) = true := by simp
          go_wp2_with fail
          refine (first_any _ HT5.out).mono ?_
          rintro e w9 ⟨rfl, hb9⟩
          have hs9 := hb9.size
          have E0 : w9.cell? ⟨w4.heap.size, 0, none⟩ = some (.int .i64 kd) := (hb9.cell (p := ⟨w4.heap.size, 0, none⟩) (by simp; omega)).trans (by go_simp)
          have E1 : w9.cell? ⟨w4.heap.size, 1, none⟩ = some (.int .i64 nn) := (hb9.cell (p := ⟨w4.heap.size, 1, none⟩) (by simp; omega)).trans (by go_simp)
          have F0 : w9.cell? ⟨w5.heap.size, 0, none⟩ = some (.int .i64 kd) := (hb9.cell (p := ⟨w5.heap.size, 0, none⟩) (by simp)).trans (by go_simp)
          have F1 : w9.cell? ⟨w5.heap.size, 1, none⟩ = some (.int .i64 nn) := (hb9.cell (p := ⟨w5.heap.size, 1, none⟩) (by simp)).trans (by go_simp)
          go_wp2_with fail
          refine (rnum_any kd nn kd nn w9).mono ?_
          rintro e w10 ⟨rfl, hb10⟩
          rw [decide_eq_true ⟨rfl, rfl⟩]
          go_wp2
          go_ret
          exact ⟨rfl, bthen (bthen (bthen (bthen (bthen hb1 hb3) (balloc hb4 _)) (balloc hb5 _)) hb9) hb10⟩
end Go.Proofs.YtginfodcobpljaaDoor
