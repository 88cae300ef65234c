/- The statements' own 'first': it returns true. The tables of unicode/utf8 read as their initialisers lay them. -/
import Derived.Test.YtginfodcobpljaaDoorUnits
import Derived.Test.YtginfodcobpljaaDoorNumber
import Derived.Test.YtginfodcobpljaaDoorAppendAny
namespace Go.Proofs.YtginfodcobpljaaDoor
open Go.RowKit

theorem bthen {a b c : World} (h : Below a.heap.size a b) (k : Below b.heap.size b c) : Below a.heap.size a c := h.trans (k.mono h.size)
theorem balloc {a b : World} (h : Below a.heap.size a b) (o : Obj) : Below a.heap.size a (b.alloc o) := h.alloc h.size o
theorem units_lit (l : List UInt8) (w : World) (hT : Tabs w) (n : Nat) (hn : l.length = n) (hl : l.length ≤ 4096) :
    Calls Tryd.prog 14 #[.slice (some ⟨w.heap.size, 0, none⟩) n n] (w.alloc (.cells (u8s l).toArray 5)) fun e w' =>
      ∃ v, e = .returned (.tuple #[v, .int .i64 (uAt l : Int), .int .i64 (uErr l : Int)]) ∧ Made (w.alloc (.cells (u8s l).toArray 5)) w' 42 v (u16s (uOut l)) ∧ Below w.heap.size w w' := by
  subst hn
  have hm := Made.lit w 5 (u8s l) (by rw [u8s_len]; unfold maxLen; omega)
  obtain ⟨A, c, hv, h1, h2, hr⟩ := hm.u8
  rw [u8s_len] at hv
  injection hv with ha hb hc
  subst ha hc
  have hT2 : Tabs (w.alloc (.cells (u8s l).toArray 5)) := hT.grow hm.below
  refine (units_any hT2 (Nat.le_refl _) hr (Nat.le_refl _)).mono ?_
  rintro e w' ⟨v, rfl, hm'⟩
  exact ⟨v, rfl, hm', hm.below.trans (hm'.below.mono hm.below.size)⟩
theorem ascii_lit (s : ByteArray) (l : List UInt16) (n : Nat) (hs : ascii s.data.toList = l) (hn : l.length = n) (hl : s.size ≤ 4096) (w : World) :
    Calls Tryd.prog 23 #[.string s] w fun e w' => ∃ A c, e = .returned (.slice A n c) ∧ Reads w' w'.heap.size 1 A n (u16s l) ∧ n ≤ c ∧ c ≤ maxLen ∧ Below w.heap.size w w' := by
  subst hn
  refine (ascii_any s w (by omega)).mono ?_
  rintro e w' ⟨v, rfl, hm⟩
  rw [hs] at hm
  obtain ⟨A, c, rfl, h1, h2, hr⟩ := hm.u16
  exact ⟨A, c, rfl, hr, h1, h2, hm.below⟩
theorem Reads.spot16 {w : World} {B n : Nat} {A : Option Addr} {l : List UInt16} (h : Reads w B 1 A n (u16s l)) (h0 : 0 < l.length) :
    ∃ b off, A = some ⟨b, off, none⟩ ∧ b < B ∧ ∀ j (hj : j < l.length), w.cell? ⟨b, off + j, none⟩ = some (.int .u16 (l[j].toNat : Int)) := by
  obtain ⟨ad, e, hb, hc⟩ := h.u16_0 h0
  have hs : ad.spot = none := by
    cases hsp : ad.spot with
    | none => rfl
    | some s =>
      exfalso
      simp only [World.cell?, hsp] at hc
      split at hc
      · simp at hc
      · cases hc
  obtain ⟨b, off, sp⟩ := ad
  simp only at hs
  subst hs
  refine ⟨b, off, e, hb, fun j hj => ?_⟩
  obtain ⟨ad', e', _, h1⟩ := h.u16 hj
  rw [e] at e'
  injection e' with e'
  subst e'
  rw [Addr.add_lit] at h1
  exact h1

theorem val_a : uOut [240, 159, 152, 128] = [55357, 56832] ∧ uAt [240, 159, 152, 128] = 0 ∧ uErr [240, 159, 152, 128] = 0 := by decide
theorem val_b : uAt [97, 192, 128] = 1 ∧ uErr [97, 192, 128] = 2 := by decide
theorem val_c : numF [32, 49, 50, 32] = (⟨0, 12⟩, true) := by decide
theorem val_d : numF [49, 46, 53] = (⟨2, 0⟩, false) := by decide
theorem val_e : keyF [52, 50, 57, 52, 57, 54, 55, 50, 57, 52] = 4294967294 ∧ keyOk [52, 50, 57, 52, 57, 54, 55, 50, 57, 52] = true := by decide
theorem val_f : keyF [48, 55] = 0 ∧ keyOk [48, 55] = false := by decide

theorem units_1 (w : World) (hT : Tabs w) : Calls Tryd.prog 14 #[.slice (some ⟨w.heap.size, 0, none⟩) 4 4] (w.alloc (.cells #[.int .u8 240, .int .u8 159, .int .u8 152, .int .u8 128] 5)) fun e w' =>
    ∃ b off c, e = .returned (.tuple #[.slice (some ⟨b, off, none⟩) 2 c, .int .i64 0, .int .i64 0]) ∧ w'.cell? ⟨b, off, none⟩ = some (.int .u16 55357) ∧ w'.cell? ⟨b, off + 1, none⟩ = some (.int .u16 56832) ∧ b < w'.heap.size ∧ Below w.heap.size w w' := by
  have h := units_lit [240, 159, 152, 128] w hT 4 rfl (by decide)
  obtain ⟨e1, e2, e3⟩ := val_a
  rw [e1, e2, e3] at h
  refine h.mono ?_
  rintro e w' ⟨v, rfl, hm, hb⟩
  obtain ⟨A, c, rfl, _, _, hr⟩ := hm.u16
  obtain ⟨b, off, rfl, hlt, hc⟩ := hr.spot16 (by decide)
  exact ⟨b, off, c, rfl, hc 0 (by decide), hc 1 (by decide), hlt, hb⟩
theorem units_2 (w : World) (hT : Tabs w) : Calls Tryd.prog 14 #[.slice (some ⟨w.heap.size, 0, none⟩) 3 3] (w.alloc (.cells #[.int .u8 97, .int .u8 192, .int .u8 128] 5)) fun e w' =>
    ∃ v, e = .returned (.tuple #[v, .int .i64 1, .int .i64 2]) ∧ Below w.heap.size w w' := by
  have h := units_lit [97, 192, 128] w hT 3 rfl (by decide)
  obtain ⟨e1, e2⟩ := val_b
  rw [e1, e2] at h
  refine h.mono ?_
  rintro e w' ⟨v, rfl, hm, hb⟩
  exact ⟨v, rfl, hb⟩
theorem number_lit {A : Option Addr} {c : Nat} {w : World} (l : List UInt16) (m : Nat) (hm : l.length = m) (hr : Reads w w.heap.size 1 A m (u16s l)) (hc : m ≤ c) (hc2 : c ≤ maxLen) (hl : m ≤ 4096) (k n : Int) (ok : Bool) (hv : numF l = (⟨k, n⟩, ok)) :
    Calls Tryd.prog 17 #[.slice A m c] w fun e w' => e = .returned (.tuple #[.agg #[.int .i64 k, .int .i64 n], .bool ok]) ∧ Below w.heap.size w w' := by
  subst hm
  have h := number_any (Nat.le_refl _) hr hc hc2 (by omega)
  rw [hv] at h
  exact h
theorem key_lit {A : Option Addr} {c : Nat} {w : World} (l : List UInt16) (m : Nat) (hm : l.length = m) (hr : Reads w w.heap.size 1 A m (u16s l)) (hl : m ≤ 4096) (n : Nat) (ok : Bool) (h1 : keyF l = n) (h2 : keyOk l = ok) :
    Calls Tryd.prog 16 #[.slice A m c] w fun e w' => e = .returned (.tuple #[.int .i64 (n : Int), .bool ok]) ∧ w = w' := by
  subst hm
  have h := key_any (c := c) hr (by omega)
  rw [h1, h2] at h
  exact h

set_option maxHeartbeats 4000000 in
set_option maxRecDepth 100000 in
theorem first_any (w : World) (hT : Tabs w) : Calls Tryd.prog 13 #[] w fun e w' => e = .returned (.bool true) ∧ Below w.heap.size w w' := by
  have HT := hide hT
  clear hT
  go_enter Tryd.func13, Tryd.ntmps13
  go_wp2_with fail
  refine (units_1 w HT.out).mono ?_
  rintro e w1 ⟨b, off, c, rfl, hc0, hc1, hlt, hb1⟩
  have hs1 := hb1.size
  go_wp2_with fail
  refine (units_2 w1 (HT.out.grow hb1)).mono ?_
  rintro e w2 ⟨v, rfl, hb2⟩
  have hs2 := hb2.size
  go_wp2_with fail
  refine (ascii_lit _ [32, 49, 50, 32] 4 rfl rfl (by decide) _).mono ?_
  rintro e w3 ⟨A3, c3, rfl, hr3, hl3, hm3, hb3⟩
  have hs3 := hb3.size
  go_wp2_with fail
  refine (number_lit [32, 49, 50, 32] 4 rfl hr3 hl3 hm3 (by omega) 0 12 true val_c).mono ?_
  rintro e w4 ⟨rfl, hb4⟩
  have hs4 := hb4.size
  go_wp2_with fail
  refine (ascii_lit _ [49, 46, 53] 3 rfl rfl (by decide) _).mono ?_
  rintro e w5 ⟨A5, c5, rfl, hr5, hl5, hm5, hb5⟩
  have hs5 := hb5.size
  have Q5 : Hid (w5.cell? ⟨w4.heap.size, 1, none⟩ = some (.int .i64 12)) := (hb5.cell (p := ⟨w4.heap.size, 1, none⟩) (by simp)).trans (by go_simp)
  have hs5' : w4.heap.size < w5.heap.size := by simp at hs5; omega
  go_wp2_with fail
  refine (number_lit [49, 46, 53] 3 rfl hr5 hl5 hm5 (by omega) 2 0 false val_d).mono ?_
  rintro e w6 ⟨rfl, hb6⟩
  have hs6 := hb6.size
  go_wp2_with fail
  refine (ascii_lit _ [52, 50, 57, 52, 57, 54, 55, 50, 57, 52] 10 rfl rfl (by decide) _).mono ?_
  rintro e w7 ⟨A7, c7, rfl, hr7, hl7, hm7, hb7⟩
  have hs7 := hb7.size
  go_wp2_with fail
  refine (key_lit [52, 50, 57, 52, 57, 54, 55, 50, 57, 52] 10 rfl hr7 (by omega) 4294967294 true val_e.1 val_e.2).mono ?_
  rintro e w8 ⟨rfl, rfl⟩
  go_wp2_with fail
  refine (ascii_lit _ [48, 55] 2 rfl rfl (by decide) _).mono ?_
  rintro e w9 ⟨A9, c9, rfl, hr9, hl9, hm9, hb9⟩
  have hs9 := hb9.size
  go_wp2_with fail
  refine (key_lit [48, 55] 2 rfl hr9 (by omega) 0 false val_f.1 val_f.2).mono ?_
  rintro e w10 ⟨rfl, rfl⟩
  have B57 : Below w5.heap.size w5 w9 := bthen (bthen (balloc hb6 _) hb7) hb9
  have B14 : Below w1.heap.size w1 w4 := bthen (bthen hb2 hb3) hb4
  have B19 : Below w1.heap.size w1 w9 := bthen (bthen (balloc B14 _) hb5) B57
  have HF := hide (bthen hb1 B19)
  have q12 := (B57.cell (p := ⟨w4.heap.size, 1, none⟩) hs5').trans Q5.out
  have q0 := (B19.cell (p := ⟨b, off, none⟩) hlt).trans hc0
  have q1 := (B19.cell (p := ⟨b, off + 1, none⟩) hlt).trans hc1
  clear hc0 hc1 hr3 hr5 hr7 hr9 hb2 hb3 hb4 hb5 hb6 hb7 hb9 B57 B14 B19
  go_wp2_with fail
  go_ret
  exact ⟨rfl, HF.out⟩
end Go.Proofs.YtginfodcobpljaaDoor
