/- Limbs: noughts at the end taken off; a list times ten and a digit more. Plain Lean, no program. -/
import Derived.Test.YtngcikgjdeomdaaLexSpec
namespace Go.Proofs.Ytngcikgjdeomdaa

def trimL : List Nat → List Nat
  | [] => []
  | x :: r => if trimL r = [] ∧ x = 0 then [] else x :: trimL r
theorem trimL_zero (l : List Nat) : trimL (l ++ [0]) = trimL l := by
  induction l with
  | nil => rfl
  | cons x r ih => rw [List.cons_append, trimL, trimL, ih]
theorem trimL_stop {x : Nat} (h : x ≠ 0) (l : List Nat) : trimL (l ++ [x]) = l ++ [x] := by
  induction l with
  | nil => simp [trimL, h]
  | cons y r ih => rw [List.cons_append, trimL, ih, if_neg (by simp)]
theorem trimL_take (l : List Nat) : trimL l = l.take (trimL l).length := by
  induction l with
  | nil => rfl
  | cons x r ih =>
    by_cases h : trimL r = [] ∧ x = 0
    · simp [trimL, h]
    · rw [trimL, if_neg h, List.length_cons, List.take_succ_cons, ← ih]
theorem trimL_len (l : List Nat) : (trimL l).length ≤ l.length := by
  have := congrArg List.length (trimL_take l)
  rw [List.length_take] at this
  omega
def valL : List Nat → Nat
  | [] => 0
  | x :: r => x + 4294967296 * valL r
theorem valL_app (l r : List Nat) : valL (l ++ r) = valL l + 4294967296 ^ l.length * valL r := by
  induction l with
  | nil => simp [valL]
  | cons x l ih =>
    rw [List.cons_append, valL, valL, ih, List.length_cons, Nat.pow_succ, Nat.mul_add, Nat.mul_comm (4294967296 ^ l.length) 4294967296, Nat.mul_assoc]
    omega
theorem trimL_nil {l : List Nat} : trimL l = [] ↔ valL l = 0 := by
  induction l with
  | nil => simp [trimL, valL]
  | cons x r ih =>
    rw [trimL, valL]
    by_cases h : trimL r = [] ∧ x = 0
    · rw [if_pos h]
      have := ih.1 h.1
      simp [this, h.2]
    · rw [if_neg h]
      constructor
      · intro h2; cases h2
      · intro h2
        exact absurd ⟨ih.2 (by omega), by omega⟩ h
theorem trimL_limbsN : ∀ (f : Nat) (l : List Nat), l.length ≤ f → (∀ x ∈ l, x < 4294967296) → trimL l = limbsN f (valL l) := by
  intro f
  induction f with
  | zero =>
    intro l hl _
    have : l = [] := List.eq_nil_of_length_eq_zero (by omega)
    subst this; rfl
  | succ f ih =>
    intro l hl hx
    cases l with
    | nil => rfl
    | cons x r =>
      have h1 := hx x (by simp)
      have h2 := ih r (by simp at hl; omega) (fun y hy => hx y (by simp [hy]))
      rw [limbsN, trimL]
      by_cases h : trimL r = [] ∧ x = 0
      · rw [if_pos h, if_pos (by rw [valL, trimL_nil.1 h.1, h.2])]
      · have hv : valL (x :: r) ≠ 0 := fun h3 => h (by
          rw [valL] at h3
          exact ⟨trimL_nil.2 (by omega), by omega⟩)
        rw [if_neg h, if_neg hv, valL, h2]
        congr 1
        · omega
        · congr 1; omega
theorem limbsN_le : ∀ (k f v : Nat), v < 4294967296 ^ k → (limbsN f v).length ≤ k := by
  intro k
  induction k with
  | zero =>
    intro f v hv
    have : v = 0 := by simpa using hv
    subst this
    cases f <;> simp [limbsN]
  | succ k ih =>
    intro f v hv
    cases f with
    | zero => simp [limbsN]
    | succ f =>
      rw [limbsN]
      by_cases h : v = 0
      · rw [if_pos h]; simp
      · rw [if_neg h, List.length_cons]
        have := ih f (v / 4294967296) (Nat.div_lt_of_lt_mul (by rw [Nat.pow_succ, Nat.mul_comm] at hv; exact hv))
        omega
theorem limbsN_gt : ∀ (k f v : Nat), k < f → 4294967296 ^ k ≤ v → k < (limbsN f v).length := by
  intro k
  induction k with
  | zero =>
    intro f v hf hv
    obtain ⟨f, rfl⟩ : ∃ m, f = m + 1 := ⟨f - 1, by omega⟩
    have hv1 : 1 ≤ v := hv
    rw [limbsN, if_neg (by omega)]; simp
  | succ k ih =>
    intro f v hf hv
    obtain ⟨f, rfl⟩ : ∃ m, f = m + 1 := ⟨f - 1, by omega⟩
    have h1 : 4294967296 ^ k ≤ v / 4294967296 := (Nat.le_div_iff_mul_le (by omega)).2 (by rw [← Nat.pow_succ]; exact hv)
    have h2 : 0 < 4294967296 ^ k := Nat.pow_pos (by omega)
    rw [limbsN, if_neg (by intro h; subst h; simp at h1), List.length_cons]
    have := ih f _ (by omega) h1
    omega
theorem limbsN_lt : ∀ (f v : Nat), ∀ x ∈ limbsN f v, x < 4294967296 := by
  intro f
  induction f with
  | zero => intro v x hx; simp [limbsN] at hx
  | succ f ih =>
    intro v x hx
    rw [limbsN] at hx
    split at hx
    · simp at hx
    · rcases List.mem_cons.1 hx with h | h
      · rw [h]; exact Nat.mod_lt _ (by omega)
      · exact ih _ x h
theorem limbsN_val : ∀ (f v : Nat), v < 4294967296 ^ f → valL (limbsN f v) = v := by
  intro f
  induction f with
  | zero => intro v hv; simp at hv; subst hv; rfl
  | succ f ih =>
    intro v hv
    rw [limbsN]
    by_cases h : v = 0
    · rw [if_pos h, h]; rfl
    · rw [if_neg h, valL, ih _ (Nat.div_lt_of_lt_mul (by rw [Nat.pow_succ, Nat.mul_comm] at hv; exact hv))]
      exact Nat.mod_add_div _ _
def mulGo : List Nat → Nat → List Nat × Nat
  | [], c => ([], c)
  | x :: r, c => ((c + 10 * x) % 4294967296 :: (mulGo r ((c + 10 * x) / 4294967296)).1, (mulGo r ((c + 10 * x) / 4294967296)).2)
theorem mulGo_len : ∀ (l : List Nat) (c : Nat), (mulGo l c).1.length = l.length := by
  intro l
  induction l with
  | nil => intro c; rfl
  | cons x r ih => intro c; simp [mulGo, ih]
theorem mulGo_lt : ∀ (l : List Nat) (c : Nat), ∀ x ∈ (mulGo l c).1, x < 4294967296 := by
  intro l
  induction l with
  | nil => intro c x hx; simp [mulGo] at hx
  | cons y r ih =>
    intro c x hx
    rw [mulGo] at hx
    rcases List.mem_cons.1 hx with h | h
    · rw [h]; exact Nat.mod_lt _ (by omega)
    · exact ih _ x h
theorem mulGo_val : ∀ (l : List Nat) (c : Nat), valL (mulGo l c).1 + 4294967296 ^ l.length * (mulGo l c).2 = 10 * valL l + c := by
  intro l
  induction l with
  | nil => intro c; simp [mulGo, valL]
  | cons x r ih =>
    intro c
    have h := ih ((c + 10 * x) / 4294967296)
    have h2 := Nat.mod_add_div (c + 10 * x) 4294967296
    simp only [mulGo, valL, List.length_cons]
    rw [Nat.pow_succ, Nat.mul_comm (4294967296 ^ r.length) 4294967296, Nat.mul_assoc]
    omega
theorem mulGo_carry : ∀ (l : List Nat) (c : Nat), c ≤ 9 → (∀ x ∈ l, x < 4294967296) → (mulGo l c).2 ≤ 9 := by
  intro l
  induction l with
  | nil => intro c hc _; exact hc
  | cons x r ih =>
    intro c hc hx
    have := hx x (by simp)
    exact ih _ (by omega) (fun y hy => hx y (by simp [hy]))
theorem big8_pos : big8 = 4294967296 ^ 8 := rfl
theorem limbs_le {v : Nat} (h : v < big8) : (limbs v).length ≤ 8 := limbsN_le 8 9 v h
theorem limbs_gt {v : Nat} (h : big8 ≤ v) : 8 < (limbs v).length := limbsN_gt 8 9 v (by omega) h
theorem limbs_lt (v : Nat) : ∀ x ∈ limbs v, x < 4294967296 := limbsN_lt 9 v
theorem big89 {v : Nat} (h : v < big8) : v < 4294967296 ^ 9 := Nat.lt_of_lt_of_le h (by rw [big8_pos]; exact Nat.pow_le_pow_right (by omega) (by omega))
/-- one digit more -/
theorem limbs_step {v d : Nat} (h : v < big8) (hd : d ≤ 9) : trimL ((mulGo (limbs v) d).1 ++ [(mulGo (limbs v) d).2]) = limbs (10 * v + d) := by
  have hc := mulGo_carry (limbs v) d hd (limbs_lt v)
  have hv := mulGo_val (limbs v) d
  have h1 : valL (limbs v) = v := limbsN_val 9 v (big89 h)
  rw [trimL_limbsN 9 _ (by rw [List.length_append, mulGo_len]; have := limbs_le h; simp; omega) (by
    intro x hx
    rcases List.mem_append.1 hx with h2 | h2
    · exact mulGo_lt _ _ x h2
    · simp at h2; omega)]
  rw [valL_app, mulGo_len, show valL [(mulGo (limbs v) d).2] = (mulGo (limbs v) d).2 by simp [valL], hv, h1]
  rfl
theorem limbs_trim {v : Nat} (h : v < big8) : trimL (limbs v) = limbs v := by
  rw [trimL_limbsN 9 _ (by have := limbs_le h; omega) (limbs_lt v), show valL (limbs v) = v from limbsN_val 9 v (big89 h)]
  rfl
theorem limbs_zero : limbs 0 = [] := rfl
end Go.Proofs.Ytngcikgjdeomdaa
