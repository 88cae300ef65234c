/- Bytes as units, in plain Lean. No program. -/
import Derived.Test.YtginfodcobpljaaDoorSpec
namespace Go.Proofs.YtginfodcobpljaaDoor
open Go.Lib

/-- What the bytes' head decodes to: the rune and its width. -/
def dec (l : List UInt8) : Nat × Nat := decodeN l.length (l.getD 0 0).toNat (l.getD 1 0).toNat (l.getD 2 0).toNat (l.getD 3 0).toNat
theorem decodeN_ok (n b0 b1 b2 b3 : Nat) (h0 : b0 < 256) (hn : 0 < n) : 1 ≤ (decodeN n b0 b1 b2 b3).2 ∧ (decodeN n b0 b1 b2 b3).2 ≤ 4 ∧ (decodeN n b0 b1 b2 b3).2 ≤ n ∧ (decodeN n b0 b1 b2 b3).1 ≤ 1114111 ∧
    ((decodeN n b0 b1 b2 b3).1 < 55296 ∨ 57344 ≤ (decodeN n b0 b1 b2 b3).1) ∧ (65536 ≤ (decodeN n b0 b1 b2 b3).1 → (decodeN n b0 b1 b2 b3).2 = 4) := by
  unfold decodeN
  repeat' split
  all_goals refine ⟨?_, ?_, ?_, ?_, ?_, ?_⟩
  all_goals try simp only
  all_goals first | omega | (intro _; trivial)
theorem dec_ok {l : List UInt8} (h : 0 < l.length) : 1 ≤ (dec l).2 ∧ (dec l).2 ≤ 4 ∧ (dec l).2 ≤ l.length ∧ (dec l).1 ≤ 1114111 ∧ ((dec l).1 < 55296 ∨ 57344 ≤ (dec l).1) ∧ (65536 ≤ (dec l).1 → (dec l).2 = 4) :=
  decodeN_ok _ _ _ _ _ (UInt8.toNat_lt _) h

def enc16 (r : Nat) : List UInt16 := if r < 65536 then [UInt16.ofNat r] else [UInt16.ofNat (55296 + (r - 65536) / 1024), UInt16.ofNat (56320 + (r - 65536) % 1024)]
def isBad (p : Nat × Nat) : Bool := p.1 == 65533 && decide (p.2 ≤ 1)
def unitsN : Nat → List UInt8 → List UInt16 × Option Nat
  | 0, _ => ([], none)
  | f + 1, b =>
    if b = [] then ([], none) else if isBad (dec b) = true then ([], some 0)
    else (enc16 (dec b).1 ++ (unitsN f (b.drop (dec b).2)).1, (unitsN f (b.drop (dec b).2)).2.map (· + (dec b).2))
def unitsF (b : List UInt8) : List UInt16 × Option Nat := unitsN b.length b
theorem unitsN_fuel : ∀ (f g : Nat) (b : List UInt8), b.length ≤ f → b.length ≤ g → unitsN f b = unitsN g b := by
  intro f
  induction f with
  | zero =>
    intro g b hf _
    have hb : b = [] := List.eq_nil_of_length_eq_zero (by omega)
    subst hb
    cases g <;> rfl
  | succ f ih =>
    intro g b hf hg
    cases g with
    | zero =>
      have hb : b = [] := List.eq_nil_of_length_eq_zero (by omega)
      subst hb; rfl
    | succ g =>
      unfold unitsN
      by_cases hb : b = []
      · rw [if_pos hb, if_pos hb]
      · rw [if_neg hb, if_neg hb]
        by_cases hbad : isBad (dec b) = true
        · rw [if_pos hbad, if_pos hbad]
        · rw [if_neg hbad, if_neg hbad]
          have h1 := dec_ok (List.length_pos_iff.2 hb)
          rw [ih g (b.drop (dec b).2) (by rw [List.length_drop]; omega) (by rw [List.length_drop]; omega)]
theorem unitsF_nil : unitsF [] = ([], none) := rfl
theorem unitsF_bad {b : List UInt8} (h : 0 < b.length) (hb : isBad (dec b) = true) : unitsF b = ([], some 0) := by
  unfold unitsF
  obtain ⟨n, hn⟩ : ∃ n, b.length = n + 1 := ⟨b.length - 1, by omega⟩
  rw [hn, unitsN, if_neg (List.ne_nil_of_length_pos h), if_pos hb]
theorem unitsF_good {b : List UInt8} (h : 0 < b.length) (hb : isBad (dec b) = false) :
    unitsF b = (enc16 (dec b).1 ++ (unitsF (b.drop (dec b).2)).1, (unitsF (b.drop (dec b).2)).2.map (· + (dec b).2)) := by
  have h1 := dec_ok h
  unfold unitsF
  obtain ⟨n, hn⟩ : ∃ n, b.length = n + 1 := ⟨b.length - 1, by omega⟩
  rw [hn, unitsN, if_neg (List.ne_nil_of_length_pos h), if_neg (by rw [hb]; simp)]
  rw [unitsN_fuel n (b.drop (dec b).2).length (b.drop (dec b).2) (by rw [List.length_drop]; omega) (Nat.le_refl _)]

/-- What Units answers: the units, the place, the error. -/
def uOut (b : List UInt8) : List UInt16 := if 4096 < b.length then [] else match (unitsF b).2 with | none => (unitsF b).1 | some _ => []
def uAt (b : List UInt8) : Nat := if 4096 < b.length then 0 else ((unitsF b).2).getD 0
def uErr (b : List UInt8) : Nat := if 4096 < b.length then 3 else match (unitsF b).2 with | none => 0 | some _ => 2
end Go.Proofs.YtginfodcobpljaaDoor
