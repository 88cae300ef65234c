/- Units as bytes, in plain Lean. No program is walked here. -/
import Derived.Test.YtginfodcobpljaaDoorEnc8
import Derived.Test.YtginfodcobpljaaDoorSpecU
namespace Go.Proofs.YtginfodcobpljaaDoor

/-- The rune at the head of units, and how many units it has; none: a half alone. -/
def run1 (l : List UInt16) : Option (Nat × Nat) :=
  if (l.getD 0 0).toNat < 55296 ∨ 57344 ≤ (l.getD 0 0).toNat then some ((l.getD 0 0).toNat, 1)
  else if (l.getD 0 0).toNat < 56320 ∧ 1 < l.length ∧ 56320 ≤ (l.getD 1 0).toNat ∧ (l.getD 1 0).toNat < 57344 then
    some (65536 + ((l.getD 0 0).toNat - 55296) * 1024 + ((l.getD 1 0).toNat - 56320), 2)
  else none
theorem run1_ok {l : List UInt16} {r n : Nat} (h0 : 0 < l.length) (h : run1 l = some (r, n)) :
    1 ≤ n ∧ n ≤ 2 ∧ n ≤ l.length ∧ r ≤ 1114111 ∧ (r < 55296 ∨ 57344 ≤ r) ∧ (n = 1 ∧ r < 65536 ∨ n = 2 ∧ 65536 ≤ r) := by
  have hb := (l.getD 0 0).toNat_lt
  unfold run1 at h
  split at h
  · simp only [Option.some.injEq, Prod.mk.injEq] at h
    omega
  · split at h
    · simp only [Option.some.injEq, Prod.mk.injEq] at h
      omega
    · simp at h
def bytesN : Nat → List UInt16 → Option (List UInt8)
  | 0, _ => some []
  | f + 1, u => if u = [] then some [] else (run1 u).bind fun p => (bytesN f (u.drop p.2)).map (enc8 p.1 ++ ·)
def bytesF (u : List UInt16) : Option (List UInt8) := bytesN u.length u
theorem bytesN_fuel : ∀ (f g : Nat) (u : List UInt16), u.length ≤ f → u.length ≤ g → bytesN f u = bytesN g u := by
  intro f
  induction f with
  | zero =>
    intro g u hf _
    have hu : u = [] := List.eq_nil_of_length_eq_zero (by omega)
    subst hu
    cases g <;> rfl
  | succ f ih =>
    intro g u hf hg
    cases g with
    | zero =>
      have hu : u = [] := List.eq_nil_of_length_eq_zero (by omega)
      subst hu; rfl
    | succ g =>
      unfold bytesN
      by_cases hu : u = []
      · rw [if_pos hu, if_pos hu]
      · rw [if_neg hu, if_neg hu]
        cases hr : run1 u with
        | none => rfl
        | some p =>
          obtain ⟨r, n⟩ := p
          have h1 := run1_ok (List.length_pos_iff.2 hu) hr
          simp only [Option.bind_some]
          rw [ih g (u.drop n) (by rw [List.length_drop]; omega) (by rw [List.length_drop]; omega)]
theorem bytesF_nil : bytesF [] = some [] := rfl
theorem bytesF_at {u : List UInt16} (h : 0 < u.length) : bytesF u = (run1 u).bind fun p => (bytesF (u.drop p.2)).map (enc8 p.1 ++ ·) := by
  unfold bytesF
  obtain ⟨m, hm⟩ : ∃ m, u.length = m + 1 := ⟨u.length - 1, by omega⟩
  rw [hm, bytesN, if_neg (List.ne_nil_of_length_pos h)]
  cases hr : run1 u with
  | none => rfl
  | some p =>
    obtain ⟨r, n⟩ := p
    have h1 := run1_ok h hr
    simp only [Option.bind_some]
    rw [bytesN_fuel m (u.drop n).length (u.drop n) (by rw [List.length_drop]; omega) (Nat.le_refl _)]
theorem bytesF_bad {u : List UInt16} (h : 0 < u.length) (hr : run1 u = none) : bytesF u = none := by rw [bytesF_at h, hr]; rfl
theorem bytesF_good {u : List UInt16} {r n : Nat} (h : 0 < u.length) (hr : run1 u = some (r, n)) : bytesF u = (bytesF (u.drop n)).map (enc8 r ++ ·) := by rw [bytesF_at h, hr]; rfl
def bOut (u : List UInt16) : List UInt8 := (bytesF u).getD []
def bErr (u : List UInt16) : Nat := if (bytesF u).isSome then 0 else 2

theorem enc8_len (r : Nat) : (enc8 r).length ≤ 4 := by
  unfold enc8
  repeat' split
  all_goals simp
/-- How far the walk is: the units behind, the bytes that they are. -/
def AtB (u : List UInt16) (k : Nat) (bs : List UInt8) : Prop := bs.length ≤ 4 * k ∧ bytesF u = (bytesF (u.drop k)).map (bs ++ ·)
theorem AtB.start (u : List UInt16) : AtB u 0 [] := by
  refine ⟨Nat.zero_le _, ?_⟩
  simp
theorem AtB.bad {u : List UInt16} {k : Nat} {bs : List UInt8} (h : AtB u k bs) (hk : k < u.length) (hr : run1 (u.drop k) = none) : bErr u = 2 ∧ bOut u = [] := by
  have h2 := h.2
  rw [bytesF_bad (by rw [List.length_drop]; omega) hr] at h2
  unfold bErr bOut
  rw [h2]
  exact ⟨rfl, rfl⟩
theorem AtB.good {u : List UInt16} {k r n : Nat} {bs : List UInt8} (h : AtB u k bs) (hk : k < u.length) (hr : run1 (u.drop k) = some (r, n)) : AtB u (k + n) (bs ++ enc8 r) := by
  have hl : 0 < (u.drop k).length := by rw [List.length_drop]; omega
  have hn := run1_ok hl hr
  have he := enc8_len r
  refine ⟨by rw [List.length_append]; have := h.1; omega, ?_⟩
  rw [h.2, bytesF_good hl hr, List.drop_drop, Option.map_map]
  congr 1
  funext ys
  simp
theorem AtB.stop {u : List UInt16} {bs : List UInt8} (h : AtB u u.length bs) : bErr u = 0 ∧ bOut u = bs := by
  have h2 := h.2
  rw [List.drop_length, bytesF_nil] at h2
  simp only [Option.map_some, List.append_nil] at h2
  unfold bErr bOut
  rw [h2]
  exact ⟨rfl, rfl⟩
theorem run1_at {u : List UInt16} {k : Nat} (h : k < u.length) : ((u.drop k).getD 0 0) = u[k] := by
  simp [List.getD_eq_getElem?_getD, List.getElem?_drop, List.getElem?_eq_getElem h]
theorem run1_at1 {u : List UInt16} {k : Nat} (h : k + 1 < u.length) : ((u.drop k).getD 1 0) = u[k + 1] := by
  simp [List.getD_eq_getElem?_getD, List.getElem?_drop, List.getElem?_eq_getElem h]
theorem run1_one {u : List UInt16} {k : Nat} (h : k < u.length) (hx : u[k].toNat < 55296 ∨ 57344 ≤ u[k].toNat) : run1 (u.drop k) = some (u[k].toNat, 1) := by
  unfold run1
  rw [run1_at h, if_pos hx]
theorem run1_two {u : List UInt16} {k : Nat} (h : k + 1 < u.length) (h1 : 55296 ≤ u[k].toNat) (h2 : u[k].toNat < 56320) (h3 : 56320 ≤ u[k + 1].toNat) (h4 : u[k + 1].toNat < 57344) :
    run1 (u.drop k) = some (65536 + (u[k].toNat - 55296) * 1024 + (u[k + 1].toNat - 56320), 2) := by
  unfold run1
  rw [run1_at (by omega), run1_at1 h, if_neg (by omega), if_pos ⟨h2, by rw [List.length_drop]; omega, h3, h4⟩]
theorem run1_none {u : List UInt16} {k : Nat} (h : k < u.length) (h1 : 55296 ≤ u[k].toNat) (h2 : u[k].toNat < 57344) (h3 : 56320 ≤ u[k].toNat ∨ u.length ≤ k + 1 ∨ (∃ h : k + 1 < u.length, u[k + 1].toNat < 56320 ∨ 57344 ≤ u[k + 1].toNat)) : run1 (u.drop k) = none := by
  unfold run1
  rw [run1_at h, if_neg (by omega), if_neg]
  rintro ⟨g1, g2, g3, g4⟩
  rw [List.length_drop] at g2
  rcases h3 with h3 | h3 | ⟨h3, h5⟩
  · omega
  · omega
  · rw [run1_at1 h3] at g3 g4
    omega
end Go.Proofs.YtginfodcobpljaaDoor
