/- The law TextTells, walked: any units: plain, compared, as numbers, as keys. -/
import Derived.Test.YtginfodcobpljaaDoorKit3
import Derived.Test.YtginfodcobpljaaDoorWTextAsciis
import Derived.Test.YtginfodcobpljaaDoorRNumber
import Derived.Test.YtginfodcobpljaaDoorRKey
namespace Go.Proofs.YtginfodcobpljaaDoor
open Go.RowKit

theorem less_is {A A' : Option Addr} {c d B n m : Nat} {xs ys : List UInt16} {w : World} (hn : xs.length = n) (hm : ys.length = m) (ha : Reads w B 1 A n (u16s xs)) (hb : Reads w B 1 A' m (u16s ys)) (hl : n ≤ 70368744177664) (r : Bool) (hr : decide (cmpF xs ys < 0) = r) :
    Calls Tryd.prog 28 #[.slice A n c, .slice A' m d] w fun e w' => e = .returned (.bool r) ∧ w = w' := by
  subst hn hm hr
  exact less_any ha hb hl
theorem same_is {A A' : Option Addr} {c d B n m : Nat} {xs ys : List UInt16} {w : World} (hB : B ≤ w.heap.size) (hn : xs.length = n) (hm : ys.length = m) (ha : Reads w B 1 A n (u16s xs)) (hb : Reads w B 1 A' m (u16s ys)) (hl : n ≤ 70368744177664) (hl2 : m ≤ 70368744177664) (r : Bool) (hr : decide (xs = ys) = r) :
    Calls Tryd.prog 29 #[.slice A n c, .slice A' m d] w fun e w' => e = .returned (.bool r) ∧ Below w.heap.size w w' := by
  subst hn hm hr
  exact same_any hB ha hb hl hl2

theorem r3plain_is {A : Option Addr} {c B n : Nat} {xs : List UInt16} {w : World} (hB : B ≤ w.heap.size) (hn : xs.length = n) (ha : Reads w B 1 A n (u16s xs)) (hl : n ≤ 70368744177664) {t : ByteArray} {b : Bool} (h1 : plainF xs = t) (h2 : plainOk xs = b) :
    Calls Tryd.prog 31 #[.slice A n c] w fun e w' => e = .returned (.tuple #[.string t, .bool b]) ∧ Below w.heap.size w w' := by
  subst hn h1 h2
  exact r3plain_any hB ha hl
theorem r3num_is {A : Option Addr} {c B m : Nat} {xs : List UInt16} {w : World} (hB : B ≤ w.heap.size) (hm : xs.length = m) (ha : Reads w B 1 A m (u16s xs)) (hc : m ≤ c) (hc2 : c ≤ maxLen) (hl : m ≤ 70368744177664) {k n : Int} {ok : Bool} (h : numF xs = (⟨k, n⟩, ok)) :
    Calls Tryd.prog 32 #[.slice A m c] w fun e w' => e = .returned (.tuple #[.agg #[.int .i64 k, .int .i64 n], .bool ok]) ∧ Below w.heap.size w w' := by
  subst hm
  have := r3number_any hB ha hc hc2 hl
  rw [h] at this
  exact this
theorem r3key_is {A : Option Addr} {c B m : Nat} {xs : List UInt16} {w : World} (hm : xs.length = m) (hr : Reads w B 1 A m (u16s xs)) (hl : m ≤ 70368744177664) (n : Nat) (ok : Bool) (h1 : keyF xs = n) (h2 : keyOk xs = ok) :
    Calls Tryd.prog 33 #[.slice A m c] w fun e w' => e = .returned (.tuple #[.int .i64 (n : Int), .bool ok]) ∧ w = w' := by
  subst hm h1 h2
  exact r3key_any hr hl
theorem r3less_is {A A' : Option Addr} {c d B n m : Nat} {xs ys : List UInt16} {w : World} (hB : B ≤ w.heap.size) (hn : xs.length = n) (hm : ys.length = m) (ha : Reads w B 1 A n (u16s xs)) (hb : Reads w B 1 A' m (u16s ys)) (hl : n ≤ 70368744177664) (r : Bool) (hr : decide (cmpF xs ys < 0) = r) :
    Calls Tryd.prog 34 #[.slice A n c, .slice A' m d] w fun e w' => e = .returned (.bool r) ∧ Below w.heap.size w w' := by
  subst hn hm hr
  exact r3less_any hB ha hb hl
theorem runits_eq {A A' : Option Addr} {c d B n m : Nat} {xs ys : List UInt16} {w : World} (hB : B ≤ w.heap.size) (hn : xs.length = n) (hm : ys.length = m) (ha : Reads w B 1 A n (u16s xs)) (hb : Reads w B 1 A' m (u16s ys)) (hl : n ≤ 70368744177664) (hl2 : m ≤ 70368744177664) (r : Bool) (hr : decide (xs = ys) = r) :
    Calls Tryd.prog 15 #[.slice A n c, .slice A' m d] w fun e w' => e = .returned (.bool r) ∧ Below w.heap.size w w' := by
  subst hn hm hr
  exact runits_any hB ha hb hl hl2
theorem rnum_same (k n : Int) (w : World) :
    Calls Tryd.prog 22 #[.agg #[.int .i64 k, .int .i64 n], .agg #[.int .i64 k, .int .i64 n]] w fun e w' => e = .returned (.bool true) ∧ Below w.heap.size w w' := by
  have h := rnum_any k n k n w
  rw [show (decide (k = k ∧ n = n)) = true from decide_eq_true ⟨rfl, rfl⟩] at h
  exact h
theorem ascii_at {s : ByteArray} {n : Nat} (hn : s.size = n) (w : World) (hs : n ≤ 70368744177664) :
    Calls Tryd.prog 23 #[.string s] w fun e w' => ∃ A c, e = .returned (.slice A n c) ∧ Reads w' w'.heap.size 1 A n (u16s (ascii s.data.toList)) ∧ Below w.heap.size w w' := by
  subst hn
  refine (ascii_any s w hs).mono ?_
  rintro e w' ⟨v, rfl, hm⟩
  obtain ⟨A, c, rfl, _, _, hr⟩ := hm.u16
  have hl : (ascii s.data.toList).length = s.size := by simp [ascii]
  rw [hl] at hr ⊢
  exact ⟨A, c, rfl, hr, hm.below⟩
theorem rascii_at {s : ByteArray} {n : Nat} (hn : s.size = n) (w : World) (hs : n ≤ 70368744177664) :
    Calls Tryd.prog 18 #[.string s] w fun e w' => ∃ A c, e = .returned (.slice A n c) ∧ Reads w' w'.heap.size 1 A n (u16s (ascii s.data.toList)) ∧ Below w.heap.size w w' := by
  subst hn
  refine (rascii_any s w hs).mono ?_
  rintro e w' ⟨v, rfl, hm⟩
  obtain ⟨A, c, rfl, _, _, hr⟩ := hm.u16
  have hl : (ascii s.data.toList).length = s.size := by simp [ascii]
  rw [hl] at hr ⊢
  exact ⟨A, c, rfl, hr, hm.below⟩

theorem numAt_new {W w' : World} {a b : Value} {T : TypeId} {D : Nat} (hb : Below D (W.alloc (.cells #[a, b] T)) w') (hD : W.heap.size < D) :
    w'.cell? ⟨W.heap.size, 0, none⟩ = some a ∧ w'.cell? ⟨W.heap.size, 1, none⟩ = some b :=
  ⟨(hb.cell (p := ⟨W.heap.size, 0, none⟩) hD).trans (by go_simp), (hb.cell (p := ⟨W.heap.size, 1, none⟩) hD).trans (by go_simp)⟩
theorem size_alloc (W : World) (o : Obj) : W.heap.size < (W.alloc o).heap.size := by simp

set_option maxHeartbeats 8000000 in
set_option maxRecDepth 100000 in
theorem textTells_law (A : Option Addr) (c : Nat) (a : List UInt16) (hc : a.length ≤ c) (hm : c ≤ maxLen) (A' : Option Addr) (c' : Nat) (b : List UInt16) (_hc' : b.length ≤ c') (_hm' : c' ≤ maxLen) (s : ByteArray) (_hs : s.size ≤ maxLen) (w : World)
    (hr : Reads w w.heap.size 1 A a.length (u16s a)) (hr' : Reads w w.heap.size 1 A' b.length (u16s b)) (hT : Tabs w) :
    Calls Tryd.prog 12 #[.slice A a.length c, .slice A' b.length c', .string s] w fun e w' => e = .returned (.bool true) ∧ Below w.heap.size w w' := by
  have HT := hide hT
  clear hT
  go_enter Tryd.func12, Tryd.ntmps12
  go_wp2_with fail
  refine (first_any w HT.out).mono ?_
  rintro e w1 ⟨rfl, hb1⟩
  have hs1 := hb1.size
  have HT1 := hide (HT.out.grow hb1)
  by_cases hin : a.length ≤ 5000 ∧ b.length ≤ 5000 ∧ s.size ≤ 5000
  · obtain ⟨hla, hlb, hls⟩ := hin
    obtain ⟨t, ht⟩ : ∃ t, plainF a = t := ⟨_, rfl⟩
    obtain ⟨p, hp⟩ : ∃ p, plainOk a = p := ⟨_, rfl⟩
    obtain ⟨⟨⟨k, n⟩, q⟩, hq⟩ : ∃ z, numF a = z := ⟨_, rfl⟩
    obtain ⟨kf, hkf⟩ : ∃ k, keyF a = k := ⟨_, rfl⟩
    obtain ⟨ko, hko⟩ : ∃ k, keyOk a = k := ⟨_, rfl⟩
    obtain ⟨r, hrr⟩ : ∃ r, decide (cmpF a b < 0) = r := ⟨_, rfl⟩
    obtain ⟨d, hd⟩ : ∃ r, decide (a = b) = r := ⟨_, rfl⟩
    obtain ⟨l, hl⟩ : ∃ l, ascii s.data.toList = l := ⟨_, rfl⟩
    obtain ⟨m, hsm⟩ : ∃ m, s.size = m := ⟨_, rfl⟩
    have hlm : l.length = m := by rw [← hl, ← hsm]; simp [ascii]
    have HP := hide (And.intro ht hp)
    have HQ := hide hq
    have HK := hide (And.intro hkf hko)
    have HR := hide hrr
    have HD := hide hd
    have HL := hide hl
    have HLM := hide hlm
    have HSM := hide hsm
    clear ht hp hq hkf hko hrr hd hl hlm
    rw [hsm] at hls
    go_wp2_with fail
    have hra1 := hr.below hb1
    refine (plain_is (B := w.heap.size) hs1 rfl hra1 (by omega) HP.out.1 HP.out.2).mono ?_
    rintro e w2 ⟨rfl, hb2⟩
    have HB2 := hide (bthen hb1 hb2)
    have hs2 := HB2.out.size
    go_wp2_with fail
    refine (r3plain_is (B := w.heap.size) hs2 rfl (hr.below HB2.out) (by omega) HP.out.1 HP.out.2).mono ?_
    rintro e w3 ⟨rfl, hb3⟩
    have HB3 := hide (bthen HB2.out hb3)
    have hs3 := HB3.out.size
    go_wp2_with fail
    refine (num_is (B := w.heap.size) hs3 rfl (hr.below HB3.out) hc hm (by omega) HQ.out).mono ?_
    rintro e w4 ⟨rfl, hb4⟩
    have HB4 := hide (balloc (bthen HB3.out hb4) (.cells #[.int .i64 k, .int .i64 n] 33))
    have hs4 := HB4.out.size
    go_wp2_with fail
    refine (r3num_is (B := w.heap.size) hs4 rfl (hr.below HB4.out) hc hm (by omega) HQ.out).mono ?_
    rintro e w5 ⟨rfl, hb5⟩
    have HB5 := hide (balloc (bthen HB4.out hb5) (.cells #[.int .i64 k, .int .i64 n] 33))
    have H5 := hide hb5
    have hra5 := hr.below HB5.out
    clear hb1 hb2 hb3 hb4 hb5 hra1 hs1 hs2 hs3 hs4
    go_wp2_with fail
    refine (key_is rfl hra5 (by omega) kf ko HK.out.1 HK.out.2).mono ?_
    rintro e w6 ⟨rfl, hw6⟩
    subst hw6
    go_wp2_with fail
    refine (r3key_is rfl hra5 (by omega) kf ko HK.out.1 HK.out.2).mono ?_
    rintro e w6 ⟨rfl, hw6⟩
    subst hw6
    go_wp2_with fail
    refine (first_any _ (HT.out.grow HB5.out)).mono ?_
    rintro e w6 ⟨rfl, hb6⟩
    have HB6 := hide (bthen HB5.out hb6)
    have hs6 := HB6.out.size
    obtain ⟨f0, f1⟩ := numAt_new (bthen (balloc H5.out _) hb6) (size_alloc _ _)
    obtain ⟨g0, g1⟩ := numAt_new hb6 (size_alloc _ _)
    clear hb6 hra5
    go_wp2_with fail
    refine (rnum_same k n _).mono ?_
    rintro e w7 ⟨rfl, hb7⟩
    have HB7 := hide (bthen HB6.out hb7)
    have hs7 := HB7.out.size
    have hra7 := hr.below HB7.out
    have hrb7 := hr'.below HB7.out
    clear f0 f1 g0 g1 hb7
    go_wp2_with fail
    refine (less_is (B := w.heap.size) rfl rfl hra7 hrb7 (by omega) r HR.out).mono ?_
    rintro e w8 ⟨rfl, hw8⟩
    subst hw8
    go_wp2_with fail
    refine (r3less_is (B := w.heap.size) hs7 rfl rfl hra7 hrb7 (by omega) r HR.out).mono ?_
    rintro e w8 ⟨rfl, hb8⟩
    have HB8 := hide (bthen HB7.out hb8)
    have hs8 := HB8.out.size
    clear hra7 hrb7 hb8
    go_wp2_with fail
    refine (same_is (B := w.heap.size) hs8 rfl rfl (hr.below HB8.out) (hr'.below HB8.out) (by omega) (by omega) d HD.out).mono ?_
    rintro e w9 ⟨rfl, hb9⟩
    have HB9 := hide (bthen HB8.out hb9)
    have hs9 := HB9.out.size
    clear hb9
    go_wp2_with fail
    refine (runits_eq (B := w.heap.size) hs9 rfl rfl (hr.below HB9.out) (hr'.below HB9.out) (by omega) (by omega) d HD.out).mono ?_
    rintro e w10 ⟨rfl, hb10⟩
    have HB10 := hide (bthen HB9.out hb10)
    clear hb10
    go_wp2_with fail
    refine (ascii_at HSM.out _ (by omega)).mono ?_
    rintro e w11 ⟨A11, c11, rfl, hr11, hb11⟩
    have hs11 := hb11.size
    rw [HL.out] at hr11
    go_wp2_with fail
    refine (rascii_at HSM.out _ (by omega)).mono ?_
    rintro e w12 ⟨A12, c12, rfl, hr12, hb12⟩
    have hs12 := hb12.size
    rw [HL.out] at hr12
    have HB12 := hide (bthen (bthen HB10.out hb11) hb12)
    have hr11' := (hr11.below hb12).more (B' := w12.heap.size) hs12
    go_wp2_with fail
    refine (runits_is (B := w12.heap.size) (Nat.le_refl _) HLM.out HLM.out hr11' hr12 (by omega) (by omega) rfl).mono ?_
    rintro e w13 ⟨rfl, hb13⟩
    go_wp2
    go_ret
    exact ⟨rfl, bthen HB12.out hb13⟩
  · have hcase : 5000 < a.length ∨ (¬ 5000 < a.length ∧ 5000 < b.length) ∨ (¬ 5000 < a.length ∧ ¬ 5000 < b.length ∧ 5000 < s.size) := by omega
    clear hin
    rcases hcase with h1 | ⟨h1, h2⟩ | ⟨h1, h2, h3⟩
    all_goals
      go_wp2_with fail
      refine (first_any _ HT1.out).mono ?_
      rintro e w2 ⟨rfl, hb2⟩
      go_wp2
      go_ret
      exact ⟨rfl, bthen hb1 hb2⟩
end Go.Proofs.YtginfodcobpljaaDoor
