/- Blanks and orders, in plain Lean: blanks at both ends change no number; the order of units is one. No program is walked here. -/
import Derived.Test.YtginfodcobpljaaDoorSpec
import Derived.Test.YtginfodcobpljaaDoorSearch
namespace Go.Proofs.YtginfodcobpljaaDoor

theorem dropW_all {p u : List UInt16} (h : ∀ x ∈ p, isBlank x = true) : (p ++ u).dropWhile isBlank = u.dropWhile isBlank := by
  induction p with
  | nil => rfl
  | cons x r ih => simp only [List.cons_append, List.dropWhile, h x (by simp)]; exact ih (fun y hy => h y (by simp [hy]))
theorem trimR_all {u q : List UInt16} (h : ∀ x ∈ q, isBlank x = true) : trimR (u ++ q) = trimR u := by
  unfold trimR
  rw [List.reverse_append, dropW_all (fun x hx => h x (by simpa using hx))]
theorem blanks_num {p u q : List UInt16} (hp : ∀ x ∈ p, isBlank x = true) (hq : ∀ x ∈ q, isBlank x = true) : numF (p ++ u ++ q) = numF u := by
  have : trimF (p ++ u ++ q) = trimF u := by
    unfold trimF
    rw [List.append_assoc, dropW_all hp, List.dropWhile_append]
    split
    · rename_i he
      have hu : u.dropWhile isBlank = [] := by simpa using he
      have hqq : q.dropWhile isBlank = [] := by
        have := dropW_all (u := []) hq
        simpa using this
      rw [hu, hqq]
    · exact trimR_all hq
  unfold numF
  rw [this]

theorem cmp1_zero (x y : UInt16) : cmp1 x y = 0 ↔ x = y := by
  have := UInt16.toNat_inj (a := x) (b := y)
  unfold cmp1
  split
  · constructor
    · intro h; omega
    · intro h; subst h; omega
  · split
    · constructor
      · intro h; omega
      · intro h; subst h; omega
    · constructor
      · intro _; exact this.1 (by omega)
      · intro _; rfl
theorem cmp1_neg (x y : UInt16) : cmp1 x y < 0 ↔ x.toNat < y.toNat := by
  unfold cmp1
  repeat' split
  all_goals omega
theorem cmp1_pos (x y : UInt16) : 0 < cmp1 x y ↔ y.toNat < x.toNat := by
  unfold cmp1
  repeat' split
  all_goals omega
theorem cmpF_cons (x y : UInt16) (xs ys : List UInt16) : (x = y ∧ cmpF (x :: xs) (y :: ys) = cmpF xs ys) ∨ (x.toNat < y.toNat ∧ cmpF (x :: xs) (y :: ys) < 0) ∨ (y.toNat < x.toNat ∧ 0 < cmpF (x :: xs) (y :: ys)) := by
  by_cases h : cmp1 x y = 0
  · exact Or.inl ⟨(cmp1_zero x y).1 h, by rw [cmpF, if_pos h]⟩
  · have e : cmpF (x :: xs) (y :: ys) = cmp1 x y := by rw [cmpF, if_neg h]
    rw [e]
    by_cases h2 : cmp1 x y < 0
    · exact Or.inr (Or.inl ⟨(cmp1_neg x y).1 h2, h2⟩)
    · have h3 : 0 < cmp1 x y := by omega
      exact Or.inr (Or.inr ⟨(cmp1_pos x y).1 h3, h3⟩)
theorem cmpF_self (xs : List UInt16) : cmpF xs xs = 0 := by
  induction xs with
  | nil => rfl
  | cons x xs ih =>
    rcases cmpF_cons x x xs xs with ⟨_, h⟩ | ⟨h, _⟩ | ⟨h, _⟩
    · rw [h, ih]
    · omega
    · omega
theorem cmpF_swap (xs ys : List UInt16) : (cmpF xs ys < 0 ↔ 0 < cmpF ys xs) ∧ (cmpF xs ys = 0 ↔ xs = ys) := by
  induction xs generalizing ys with
  | nil => cases ys <;> simp [cmpF]
  | cons x xs ih =>
    cases ys with
    | nil => simp [cmpF]
    | cons y ys =>
      obtain ⟨i1, i2⟩ := ih ys
      rcases cmpF_cons x y xs ys with ⟨h, e⟩ | ⟨h, e⟩ | ⟨h, e⟩ <;> rcases cmpF_cons y x ys xs with ⟨h', e'⟩ | ⟨h', e'⟩ | ⟨h', e'⟩
      · rw [e, e']; subst h; simp [i1, i2]
      · subst h; omega
      · subst h; omega
      · subst h'; omega
      · omega
      · exact ⟨⟨fun _ => e', fun _ => e⟩, ⟨fun h2 => by omega, fun h2 => by injection h2 with h3 h4; subst h3; omega⟩⟩
      · subst h'; omega
      · exact ⟨⟨fun h2 => by omega, fun h2 => by omega⟩, ⟨fun h2 => by omega, fun h2 => by injection h2 with h3 h4; subst h3; omega⟩⟩
      · omega
theorem cmpF_trans (xs ys zs : List UInt16) (h1 : cmpF xs ys < 0) (h2 : cmpF ys zs < 0) : cmpF xs zs < 0 := by
  induction xs generalizing ys zs with
  | nil =>
    cases zs with
    | nil => cases ys <;> simp [cmpF] at h1 h2
    | cons z zs => simp [cmpF]
  | cons x xs ih =>
    cases ys with
    | nil => simp [cmpF] at h1
    | cons y ys =>
      cases zs with
      | nil => simp [cmpF] at h2
      | cons z zs =>
        rcases cmpF_cons x y xs ys with ⟨h, e⟩ | ⟨h, e⟩ | ⟨h, e⟩
        · rcases cmpF_cons y z ys zs with ⟨h', e'⟩ | ⟨h', e'⟩ | ⟨h', e'⟩
          · subst h h'
            rcases cmpF_cons x x xs zs with ⟨_, e3⟩ | ⟨h3, _⟩ | ⟨h3, _⟩
            · rw [e3]; exact ih ys zs (by omega) (by omega)
            · omega
            · omega
          · subst h
            rcases cmpF_cons x z xs zs with ⟨h3, e3⟩ | ⟨h3, e3⟩ | ⟨h3, e3⟩
            · subst h3; omega
            · exact e3
            · omega
          · omega
        · rcases cmpF_cons y z ys zs with ⟨h', e'⟩ | ⟨h', e'⟩ | ⟨h', e'⟩
          · subst h'
            rcases cmpF_cons x y xs zs with ⟨h3, e3⟩ | ⟨h3, e3⟩ | ⟨h3, e3⟩
            · subst h3; omega
            · exact e3
            · omega
          · rcases cmpF_cons x z xs zs with ⟨h3, e3⟩ | ⟨h3, e3⟩ | ⟨h3, e3⟩
            · subst h3; omega
            · exact e3
            · omega
          · omega
        · omega
theorem cmpF_more (xs : List UInt16) (y : UInt16) : cmpF xs (xs ++ [y]) < 0 := by
  induction xs with
  | nil => simp [cmpF]
  | cons x xs ih =>
    rcases cmpF_cons x x xs (xs ++ [y]) with ⟨_, h⟩ | ⟨h, _⟩ | ⟨h, _⟩
    · rw [List.cons_append, h]; exact ih
    · omega
    · omega
end Go.Proofs.YtginfodcobpljaaDoor
