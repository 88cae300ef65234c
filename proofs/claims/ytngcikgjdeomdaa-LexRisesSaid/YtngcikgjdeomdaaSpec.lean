/- What the text layer computes, in plain Lean. No program. -/
import Derived.Lib.DecodeN
namespace Go.Proofs.Ytngcikgjdeomdaa

def isDigit (x : UInt16) : Bool := decide (48 ≤ x.toNat) && decide (x.toNat ≤ 57)
def isBlank (x : UInt16) : Bool := x.toNat == 32 || x.toNat == 9 || x.toNat == 10 || x.toNat == 13

theorem isDigit_iff {x : UInt16} : isDigit x = true ↔ 48 ≤ x.toNat ∧ x.toNat ≤ 57 := by simp [isDigit]

/-- the number of digits -/
def decGo (n : Nat) : List UInt16 → Nat
  | [] => n
  | x :: r => decGo (10 * n + (x.toNat - 48)) r
def decVal (l : List UInt16) : Nat := decGo 0 l
theorem decGo_append (n : Nat) (l r : List UInt16) : decGo n (l ++ r) = decGo (decGo n l) r := by
  induction l generalizing n with
  | nil => rfl
  | cons x l ih => exact ih _
theorem decVal_snoc (l : List UInt16) (x : UInt16) : decVal (l ++ [x]) = 10 * decVal l + (x.toNat - 48) := by
  unfold decVal; rw [decGo_append]; rfl
theorem decGo_ge (n : Nat) (l : List UInt16) : n ≤ decGo n l := by
  induction l generalizing n with
  | nil => exact Nat.le_refl _
  | cons x l ih => exact Nat.le_trans (by omega) (ih _)
theorem decGo_mono {n m : Nat} (h : n ≤ m) (l : List UInt16) : decGo n l ≤ decGo m l := by
  induction l generalizing n m with
  | nil => exact h
  | cons x l ih => exact ih (by omega)
theorem decVal_split (l r : List UInt16) : decVal (l ++ r) = decGo (decVal l) r := decGo_append 0 l r
theorem decVal_take_le (l : List UInt16) (k : Nat) : decVal (l.take k) ≤ decVal l := by
  conv => rhs; rw [← List.take_append_drop k l]
  rw [decVal_split]; exact decGo_ge _ _
theorem decVal_take_lt (l : List UInt16) (k : Nat) (h : k < l.length) : 10 * decVal (l.take k) ≤ decVal l := by
  have h1 := decVal_take_le l (k + 1)
  rw [List.take_succ_eq_append_getElem h, decVal_snoc] at h1
  omega
theorem decVal_take_succ (l : List UInt16) (k : Nat) (h : k < l.length) : decVal (l.take (k + 1)) = 10 * decVal (l.take k) + (l[k].toNat - 48) := by
  rw [List.take_succ_eq_append_getElem h, decVal_snoc]
/-- a bound on the number of so many digits -/
theorem decGo_lt {l : List UInt16} (h : ∀ x ∈ l, isDigit x = true) : ∀ n, decGo n l < (n + 1) * 10 ^ l.length := by
  induction l with
  | nil => intro n; show n < (n + 1) * 1; omega
  | cons x l ih =>
    intro n
    have hx := isDigit_iff.1 (h x (by simp))
    have h2 := ih (fun y hy => h y (by simp [hy])) (10 * n + (x.toNat - 48))
    have h3 : 10 * n + (x.toNat - 48) + 1 ≤ (n + 1) * 10 := by omega
    have h4 : (n + 1) * 10 ^ (x :: l).length = ((n + 1) * 10) * 10 ^ l.length := by
      show (n + 1) * 10 ^ (l.length + 1) = _
      rw [Nat.pow_succ, Nat.mul_assoc, Nat.mul_comm 10]
    rw [h4]
    exact Nat.lt_of_lt_of_le h2 (Nat.mul_le_mul_right _ h3)
theorem decVal_lt {l : List UInt16} (h : ∀ x ∈ l, isDigit x = true) : decVal l < 10 ^ l.length := by
  have := decGo_lt h 0
  simpa [decVal] using this

/-- text.Key: the place, and whether there is one -/
def keyOk (u : List UInt16) : Bool := !(u.isEmpty) && decide (u.length ≤ 10) && !(decide (u[0]? = some 48) && decide (1 < u.length)) && u.all isDigit && decide (decVal u ≤ 4294967294)
theorem keyOk_len {u : List UInt16} (h : keyOk u = true) : 0 < u.length ∧ u.length ≤ 10 := by
  simp only [keyOk, Bool.and_eq_true, decide_eq_true_eq, Bool.not_eq_true'] at h
  exact ⟨by cases u <;> simp_all, h.1.1.1.2⟩
theorem keyOk_long {u : List UInt16} (h : ¬ (0 < u.length ∧ u.length ≤ 10)) : keyOk u = false := by
  by_cases h1 : keyOk u = true
  · exact absurd (keyOk_len h1) h
  · simpa using h1
theorem keyOk_lead {u : List UInt16} (h : 0 < u.length) (h1 : u[0] = 48) (h2 : 1 < u.length) : keyOk u = false := by
  simp [keyOk, List.getElem?_eq_getElem h, h1, h2]
theorem keyOk_odd {u : List UInt16} {x : UInt16} (h : x ∈ u) (h1 : isDigit x = false) : keyOk u = false := by
  have : u.all isDigit = false := by
    rw [List.all_eq_false]
    exact ⟨x, h, by simp [h1]⟩
  simp [keyOk, this]
theorem keyOk_at {u : List UInt16} (h : 0 < u.length) (h10 : u.length ≤ 10) (h1 : ¬ (u[0] = 48 ∧ 1 < u.length)) (h2 : ∀ x ∈ u, isDigit x = true) : keyOk u = decide (decVal u ≤ 4294967294) := by
  have e1 : u.all isDigit = true := List.all_eq_true.2 h2
  have e2 : (decide (u[0]? = some 48) && decide (1 < u.length)) = false := by
    rw [List.getElem?_eq_getElem h]
    simpa using h1
  have e3 : u.isEmpty = false := by
    rw [List.isEmpty_eq_false_iff]
    exact List.ne_nil_of_length_pos h
  simp only [keyOk, e1, e2, e3, decide_eq_true h10, Bool.not_false, Bool.true_and]
def keyF (u : List UInt16) : Nat := if keyOk u then decVal u else 0

/-- units of numbers of forms that are not taken -/
def oddUnits : List UInt16 := [120, 88, 111, 79, 46, 43, 45, 95]
def okUnit (x : UInt16) : Bool := isDigit x || (decide (97 ≤ x.toNat) && decide (x.toNat ≤ 102)) || (decide (65 ≤ x.toNat) && decide (x.toNat ≤ 70)) || decide (x ∈ oddUnits)
def strangeF (u : List UInt16) : Bool := u.all okUnit && u.any isDigit

theorem okUnit_digit {x : UInt16} (h : isDigit x = true) : okUnit x = true := by simp [okUnit, h]

/-- a number: its kind and its whole part -/
structure Nm where
  kind : Int
  n : Int
deriving DecidableEq

def trimR (u : List UInt16) : List UInt16 := (u.reverse.dropWhile isBlank).reverse
def trimF (u : List UInt16) : List UInt16 := trimR (u.dropWhile isBlank)
def infinity : List UInt16 := [73, 110, 102, 105, 110, 105, 116, 121]
def signOf (t : List UInt16) : Bool := t.headD 0 == 45
def restOf (t : List UInt16) : List UInt16 := if t.headD 0 = 45 ∨ t.headD 0 = 43 then t.tail else t
/-- the number without its sign -/
def baseT (t : List UInt16) : Nm × Bool :=
  if restOf t = infinity then (⟨3, 0⟩, true)
  else if restOf t ≠ [] ∧ (restOf t).all isDigit = true then
    (if decVal (restOf t) ≤ 9007199254740991 then (⟨0, decVal (restOf t)⟩, true) else (⟨2, 0⟩, false))
  else (⟨2, 0⟩, !strangeF t)
def negNm (a : Nm) : Nm := if a.kind = 2 then a else if a.kind = 3 then ⟨4, 0⟩ else if a.n = 0 then ⟨1, 0⟩ else ⟨0, -a.n⟩
def numT (t : List UInt16) : Nm × Bool :=
  if t = [] then (⟨0, 0⟩, true) else (if signOf t = true then negNm (baseT t).1 else (baseT t).1, (baseT t).2)
theorem strange_inf {t : List UInt16} (h : restOf t = infinity) : strangeF t = false := by
  have hm : (73 : UInt16) ∈ t := by
    have h1 : (73 : UInt16) ∈ restOf t := by rw [h]; decide
    unfold restOf at h1
    split at h1
    · exact List.mem_of_mem_tail h1
    · exact h1
  have : t.all okUnit = false := List.all_eq_false.2 ⟨73, hm, by decide⟩
  simp [strangeF, this]
def numF (u : List UInt16) : Nm × Bool := numT (trimF u)
end Go.Proofs.Ytngcikgjdeomdaa
