/- Bytes as units and back, in plain Lean: there and back is the same. No program. -/
import Derived.Test.YtginfodcobpljaaDoorSpecB
namespace Go.Proofs.YtginfodcobpljaaDoor
open Go.Lib

theorem u8n (n : Nat) (h : n < 256) : (UInt8.ofNat n).toNat = n := by simp; omega
theorem u16n (n : Nat) (h : n < 65536) : (UInt16.ofNat n).toNat = n := by simp; omega
theorem run1_enc16 {r : Nat} (l : List UInt16) (h : r ≤ 1114111) (h2 : r < 55296 ∨ 57344 ≤ r) : run1 (enc16 r ++ l) = some (r, (enc16 r).length) := by
  unfold enc16
  by_cases h3 : r < 65536
  · rw [if_pos h3]
    have e : (([UInt16.ofNat r] ++ l).getD 0 0).toNat = r := by simp; omega
    unfold run1
    rw [e, if_pos h2]
    rfl
  · rw [if_neg h3]
    have e0 : (([UInt16.ofNat (55296 + (r - 65536) / 1024), UInt16.ofNat (56320 + (r - 65536) % 1024)] ++ l).getD 0 0).toNat = 55296 + (r - 65536) / 1024 := by simp; omega
    have e1 : (([UInt16.ofNat (55296 + (r - 65536) / 1024), UInt16.ofNat (56320 + (r - 65536) % 1024)] ++ l).getD 1 0).toNat = 56320 + (r - 65536) % 1024 := by simp; omega
    unfold run1
    rw [e0, e1, if_neg (by omega), if_pos ⟨by omega, by simp, by omega, by omega⟩]
    simp only [Option.some.injEq, Prod.mk.injEq]
    exact ⟨by omega, rfl⟩
theorem enc8_pos (r : Nat) : 1 ≤ (enc8 r).length := by
  unfold enc8
  repeat' split
  all_goals simp
theorem dec_enc8 {r : Nat} (l : List UInt8) (h : r ≤ 1114111) (h2 : r < 55296 ∨ 57344 ≤ r) : dec (enc8 r ++ l) = (r, (enc8 r).length) := by
  unfold enc8
  by_cases h3 : r < 128
  · rw [if_pos h3]
    have e : (([UInt8.ofNat r] ++ l).getD 0 0).toNat = r := by simp; omega
    unfold dec
    rw [e]
    unfold decodeN
    rw [if_pos h3]
    rfl
  rw [if_neg h3]
  by_cases h4 : r < 2048
  · rw [if_pos h4]
    have e0 : (([UInt8.ofNat (192 + r / 64), UInt8.ofNat (128 + r % 64)] ++ l).getD 0 0).toNat = 192 + r / 64 := by simp; omega
    have e1 : (([UInt8.ofNat (192 + r / 64), UInt8.ofNat (128 + r % 64)] ++ l).getD 1 0).toNat = 128 + r % 64 := by simp; omega
    unfold dec
    rw [e0, e1]
    unfold decodeN
    rw [if_neg (by omega), if_pos ⟨by omega, by simp, by omega⟩, if_pos (by omega)]
    simp only [Prod.mk.injEq]
    exact ⟨by omega, rfl⟩
  rw [if_neg h4]
  by_cases h5 : r < 65536
  · rw [if_pos h5]
    have e0 : (([UInt8.ofNat (224 + r / 4096), UInt8.ofNat (128 + r / 64 % 64), UInt8.ofNat (128 + r % 64)] ++ l).getD 0 0).toNat = 224 + r / 4096 := by simp; omega
    have e1 : (([UInt8.ofNat (224 + r / 4096), UInt8.ofNat (128 + r / 64 % 64), UInt8.ofNat (128 + r % 64)] ++ l).getD 1 0).toNat = 128 + r / 64 % 64 := by simp; omega
    have e2 : (([UInt8.ofNat (224 + r / 4096), UInt8.ofNat (128 + r / 64 % 64), UInt8.ofNat (128 + r % 64)] ++ l).getD 2 0).toNat = 128 + r % 64 := by simp; omega
    unfold dec
    rw [e0, e1, e2]
    unfold decodeN
    rw [if_neg (by omega), if_neg (by omega), if_pos ⟨by omega, ⟨by simp, by omega⟩, by simp, by omega⟩, if_pos ⟨by omega, by omega⟩]
    simp only [Prod.mk.injEq]
    exact ⟨by omega, rfl⟩
  · rw [if_neg h5]
    have e0 : (([UInt8.ofNat (240 + r / 262144), UInt8.ofNat (128 + r / 4096 % 64), UInt8.ofNat (128 + r / 64 % 64), UInt8.ofNat (128 + r % 64)] ++ l).getD 0 0).toNat = 240 + r / 262144 := by simp; omega
    have e1 : (([UInt8.ofNat (240 + r / 262144), UInt8.ofNat (128 + r / 4096 % 64), UInt8.ofNat (128 + r / 64 % 64), UInt8.ofNat (128 + r % 64)] ++ l).getD 1 0).toNat = 128 + r / 4096 % 64 := by simp; omega
    have e2 : (([UInt8.ofNat (240 + r / 262144), UInt8.ofNat (128 + r / 4096 % 64), UInt8.ofNat (128 + r / 64 % 64), UInt8.ofNat (128 + r % 64)] ++ l).getD 2 0).toNat = 128 + r / 64 % 64 := by simp; omega
    have e3 : (([UInt8.ofNat (240 + r / 262144), UInt8.ofNat (128 + r / 4096 % 64), UInt8.ofNat (128 + r / 64 % 64), UInt8.ofNat (128 + r % 64)] ++ l).getD 3 0).toNat = 128 + r % 64 := by simp; omega
    unfold dec
    rw [e0, e1, e2, e3]
    unfold decodeN
    rw [if_neg (by omega), if_neg (by omega), if_neg (by omega), if_pos ⟨by omega, ⟨by simp, by omega⟩, ⟨by simp, by omega⟩, by simp, by omega⟩, if_pos ⟨by omega, by omega⟩]
    simp only [Prod.mk.injEq]
    exact ⟨by omega, rfl⟩
theorem enc8_good (r : Nat) : isBad (r, (enc8 r).length) = false := by
  by_cases h : r = 65533
  · subst h; rfl
  · simp [isBad, h]
theorem take_at {α : Type} [Inhabited α] (l : List α) (d : α) : (1 ≤ l.length → l.take 1 = [l.getD 0 d]) ∧ (2 ≤ l.length → l.take 2 = [l.getD 0 d, l.getD 1 d]) ∧ (3 ≤ l.length → l.take 3 = [l.getD 0 d, l.getD 1 d, l.getD 2 d]) ∧ (4 ≤ l.length → l.take 4 = [l.getD 0 d, l.getD 1 d, l.getD 2 d, l.getD 3 d]) := by
  match l with
  | [] => simp
  | [a] => simp
  | [a, b] => simp
  | [a, b, c] => simp
  | a :: b :: c :: e :: r => simp
theorem u8_of {x : UInt8} {n : Nat} (h : n = x.toNat) : UInt8.ofNat n = x := by subst h; simp
theorem u16_of {x : UInt16} {n : Nat} (h : n = x.toNat) : UInt16.ofNat n = x := by subst h; simp
theorem enc8_dec {b : List UInt8} (h0 : 0 < b.length) (hg : isBad (dec b) = false) : enc8 (dec b).1 = b.take (dec b).2 := by
  obtain ⟨t1, t2, t3, t4⟩ := take_at b 0
  have k0 := (b.getD 0 0).toNat_lt
  have k1 := (b.getD 1 0).toNat_lt
  have k2 := (b.getD 2 0).toNat_lt
  have k3 := (b.getD 3 0).toNat_lt
  have hg' : ¬ ((dec b).1 = 65533 ∧ (dec b).2 ≤ 1) := by
    intro h
    rw [show isBad (dec b) = true by simp [isBad, h.1, h.2]] at hg
    cases hg
  unfold dec at hg' ⊢
  generalize b.getD 0 0 = x0 at *
  generalize b.getD 1 0 = x1 at *
  generalize b.getD 2 0 = x2 at *
  generalize b.getD 3 0 = x3 at *
  revert hg'
  unfold decodeN
  split
  · rename_i h
    intro _
    rw [t1 (by omega), enc8, if_pos h, u8_of rfl]
  · split
    · split
      · rename_i h1 h2 h3
        intro _
        rw [t2 (by omega), enc8, if_neg (by omega), if_pos (by omega), u8_of (x := x0) (by omega), u8_of (x := x1) (by omega)]
      · intro h; exact absurd ⟨rfl, Nat.le_refl _⟩ h
    · split
      · split
        · rename_i h1 h2 h3 h4
          intro _
          rw [t3 (by omega), enc8, if_neg (by omega), if_neg (by omega), if_pos (by omega), u8_of (x := x0) (by omega), u8_of (x := x1) (by omega), u8_of (x := x2) (by omega)]
        · intro h; exact absurd ⟨rfl, Nat.le_refl _⟩ h
      · split
        · split
          · rename_i h1 h2 h3 h4 h5
            intro _
            rw [t4 (by omega), enc8, if_neg (by omega), if_neg (by omega), if_neg (by omega), u8_of (x := x0) (by omega), u8_of (x := x1) (by omega), u8_of (x := x2) (by omega), u8_of (x := x3) (by omega)]
          · intro h; exact absurd ⟨rfl, Nat.le_refl _⟩ h
        · intro h; exact absurd ⟨rfl, Nat.le_refl _⟩ h
theorem enc16_run1 {u : List UInt16} {r n : Nat} (h0 : 0 < u.length) (h : run1 u = some (r, n)) : enc16 r = u.take n := by
  obtain ⟨t1, t2, _, _⟩ := take_at u 0
  have k0 := (u.getD 0 0).toNat_lt
  have k1 := (u.getD 1 0).toNat_lt
  revert h
  unfold run1
  generalize u.getD 0 0 = x0 at *
  generalize u.getD 1 0 = x1 at *
  split
  · intro h
    simp only [Option.some.injEq, Prod.mk.injEq] at h
    obtain ⟨rfl, rfl⟩ := h
    rw [t1 (by omega), enc16, if_pos (by omega), u16_of rfl]
  · split
    · intro h
      simp only [Option.some.injEq, Prod.mk.injEq] at h
      obtain ⟨rfl, rfl⟩ := h
      rw [t2 (by omega), enc16, if_neg (by omega), u16_of (x := x0) (by omega), u16_of (x := x1) (by omega)]
    · intro h; cases h
/-- Well formed bytes, as units, as bytes. -/
theorem back_bytes : ∀ (n : Nat) (b : List UInt8), b.length = n → (unitsF b).2 = none → bytesF (unitsF b).1 = some b := by
  intro n
  induction n using Nat.strongRecOn with
  | _ n ih =>
    intro b hn hb
    by_cases h0 : b.length = 0
    · have := List.eq_nil_of_length_eq_zero h0
      subst this
      rw [unitsF_nil]; rfl
    · have hl : 0 < b.length := by omega
      by_cases hbad : isBad (dec b) = true
      · rw [unitsF_bad hl hbad] at hb
        simp at hb
      · have hg : isBad (dec b) = false := by simpa using hbad
        have hok := dec_ok hl
        rw [unitsF_good hl hg] at hb ⊢
        simp only [Option.map_eq_none_iff] at hb
        have hi := ih (b.drop (dec b).2).length (by rw [List.length_drop]; omega) (b.drop (dec b).2) rfl hb
        have hr := run1_enc16 (unitsF (b.drop (dec b).2)).1 hok.2.2.2.1 hok.2.2.2.2.1
        have hp : 0 < (enc16 (dec b).1).length := by unfold enc16; split <;> simp
        rw [bytesF_good (by simp; omega) hr, List.drop_left, hi, enc8_dec hl hg]
        simp
/-- Well formed units, as bytes, as units. -/
theorem back_units : ∀ (n : Nat) (u : List UInt16) (g : List UInt8), u.length = n → bytesF u = some g → unitsF g = (u, none) := by
  intro n
  induction n using Nat.strongRecOn with
  | _ n ih =>
    intro u g hn hb
    by_cases h0 : u.length = 0
    · have := List.eq_nil_of_length_eq_zero h0
      subst this
      rw [bytesF_nil] at hb
      injection hb with hb
      subst hb
      rfl
    · have hl : 0 < u.length := by omega
      cases hr : run1 u with
      | none => rw [bytesF_bad hl hr] at hb; cases hb
      | some p =>
        obtain ⟨r, k⟩ := p
        have hok := run1_ok hl hr
        rw [bytesF_good hl hr] at hb
        simp only [Option.map_eq_some_iff] at hb
        obtain ⟨g', hg', rfl⟩ := hb
        have hi := ih (u.drop k).length (by rw [List.length_drop]; omega) (u.drop k) g' rfl hg'
        have hd := dec_enc8 g' hok.2.2.2.1 hok.2.2.2.2.1
        have hp := enc8_pos r
        rw [unitsF_good (by simp; omega) (by rw [hd]; exact enc8_good r), hd, List.drop_left, hi, enc16_run1 hl hr]
        simp
theorem bErr_cases (u : List UInt16) : bErr u = 0 ∨ bErr u = 2 := by unfold bErr; split <;> simp
theorem bErr_ok {u : List UInt16} (h : bErr u = 0) : bytesF u = some (bOut u) := by
  unfold bErr at h
  unfold bOut
  cases hb : bytesF u with
  | none => rw [hb] at h; simp at h
  | some g => rfl
theorem bErr_bad {u : List UInt16} (h : bErr u = 2) : bOut u = [] := by
  unfold bErr at h
  unfold bOut
  cases hb : bytesF u with
  | none => rfl
  | some g => rw [hb] at h; simp at h
end Go.Proofs.YtginfodcobpljaaDoor
