/- Joined for a claim: Spec, LexSpec, LTat, Base0, Base, Base2. -/
import Derived.Lib.DecodeN
import Derived.Test.YtbljbmeifmpfoaaProg
import Derived.WalkKit
import Derived.WalkSpells
import Derived.WalkLawsBesides
import Derived.Deep.AppendLies
import Derived.Deep.Draws
import Derived.Deep.QuietTactic
import Derived.BigQuiet
import Derived.Maps.AppendAt
import Derived.RegionTactic
import Derived.Lib.Hide
import Derived.Handy
namespace Go.Proofs.Ytbljbmeifmpfoaa

def isDigit (x : UInt16) : Bool := decide (48 ≤ x.toNat) && decide (x.toNat ≤ 57)
def isBlank (x : UInt16) : Bool := x.toNat == 32 || x.toNat == 9 || x.toNat == 10 || x.toNat == 13

theorem isDigit_iff {x : UInt16} : isDigit x = true ↔ 48 ≤ x.toNat ∧ x.toNat ≤ 57 := by simp [isDigit]

/-- the number of digits -/
def decGo (n : Nat) : List UInt16 → Nat
  | [] => n
  | x :: r => decGo (10 * n + (x.toNat - 48)) r
def decVal (l : List UInt16) : Nat := decGo 0 l
theorem decGo_append (n : Nat) (l r : List UInt16) : decGo n (l ++ r) = decGo (decGo n l) r := by
  induction l generalizing n with
  | nil => rfl
  | cons x l ih => exact ih _
theorem decVal_snoc (l : List UInt16) (x : UInt16) : decVal (l ++ [x]) = 10 * decVal l + (x.toNat - 48) := by
  unfold decVal; rw [decGo_append]; rfl
theorem decGo_ge (n : Nat) (l : List UInt16) : n ≤ decGo n l := by
  induction l generalizing n with
  | nil => exact Nat.le_refl _
  | cons x l ih => exact Nat.le_trans (by omega) (ih _)
theorem decGo_mono {n m : Nat} (h : n ≤ m) (l : List UInt16) : decGo n l ≤ decGo m l := by
  induction l generalizing n m with
  | nil => exact h
  | cons x l ih => exact ih (by omega)
theorem decVal_split (l r : List UInt16) : decVal (l ++ r) = decGo (decVal l) r := decGo_append 0 l r
theorem decVal_take_le (l : List UInt16) (k : Nat) : decVal (l.take k) ≤ decVal l := by
  conv => rhs; rw [← List.take_append_drop k l]
  rw [decVal_split]; exact decGo_ge _ _
theorem decVal_take_lt (l : List UInt16) (k : Nat) (h : k < l.length) : 10 * decVal (l.take k) ≤ decVal l := by
  have h1 := decVal_take_le l (k + 1)
  rw [List.take_succ_eq_append_getElem h, decVal_snoc] at h1
  omega
theorem decVal_take_succ (l : List UInt16) (k : Nat) (h : k < l.length) : decVal (l.take (k + 1)) = 10 * decVal (l.take k) + (l[k].toNat - 48) := by
  rw [List.take_succ_eq_append_getElem h, decVal_snoc]
/-- a bound on the number of so many digits -/
theorem decGo_lt {l : List UInt16} (h : ∀ x ∈ l, isDigit x = true) : ∀ n, decGo n l < (n + 1) * 10 ^ l.length := by
  induction l with
  | nil => intro n; show n < (n + 1) * 1; omega
  | cons x l ih =>
    intro n
    have hx := isDigit_iff.1 (h x (by simp))
    have h2 := ih (fun y hy => h y (by simp [hy])) (10 * n + (x.toNat - 48))
    have h3 : 10 * n + (x.toNat - 48) + 1 ≤ (n + 1) * 10 := by omega
    have h4 : (n + 1) * 10 ^ (x :: l).length = ((n + 1) * 10) * 10 ^ l.length := by
      show (n + 1) * 10 ^ (l.length + 1) = _
      rw [Nat.pow_succ, Nat.mul_assoc, Nat.mul_comm 10]
    rw [h4]
    exact Nat.lt_of_lt_of_le h2 (Nat.mul_le_mul_right _ h3)
theorem decVal_lt {l : List UInt16} (h : ∀ x ∈ l, isDigit x = true) : decVal l < 10 ^ l.length := by
  have := decGo_lt h 0
  simpa [decVal] using this

/-- text.Key: the place, and whether there is one -/
def keyOk (u : List UInt16) : Bool := !(u.isEmpty) && decide (u.length ≤ 10) && !(decide (u[0]? = some 48) && decide (1 < u.length)) && u.all isDigit && decide (decVal u ≤ 4294967294)
theorem keyOk_len {u : List UInt16} (h : keyOk u = true) : 0 < u.length ∧ u.length ≤ 10 := by
  simp only [keyOk, Bool.and_eq_true, decide_eq_true_eq, Bool.not_eq_true'] at h
  exact ⟨by cases u <;> simp_all, h.1.1.1.2⟩
theorem keyOk_long {u : List UInt16} (h : ¬ (0 < u.length ∧ u.length ≤ 10)) : keyOk u = false := by
  by_cases h1 : keyOk u = true
  · exact absurd (keyOk_len h1) h
  · simpa using h1
theorem keyOk_lead {u : List UInt16} (h : 0 < u.length) (h1 : u[0] = 48) (h2 : 1 < u.length) : keyOk u = false := by
  simp [keyOk, List.getElem?_eq_getElem h, h1, h2]
theorem keyOk_odd {u : List UInt16} {x : UInt16} (h : x ∈ u) (h1 : isDigit x = false) : keyOk u = false := by
  have : u.all isDigit = false := by
    rw [List.all_eq_false]
    exact ⟨x, h, by simp [h1]⟩
  simp [keyOk, this]
theorem keyOk_at {u : List UInt16} (h : 0 < u.length) (h10 : u.length ≤ 10) (h1 : ¬ (u[0] = 48 ∧ 1 < u.length)) (h2 : ∀ x ∈ u, isDigit x = true) : keyOk u = decide (decVal u ≤ 4294967294) := by
  have e1 : u.all isDigit = true := List.all_eq_true.2 h2
  have e2 : (decide (u[0]? = some 48) && decide (1 < u.length)) = false := by
    rw [List.getElem?_eq_getElem h]
    simpa using h1
  have e3 : u.isEmpty = false := by
    rw [List.isEmpty_eq_false_iff]
    exact List.ne_nil_of_length_pos h
  simp only [keyOk, e1, e2, e3, decide_eq_true h10, Bool.not_false, Bool.true_and]
def keyF (u : List UInt16) : Nat := if keyOk u then decVal u else 0

/-- units of numbers of forms that are not taken -/
def oddUnits : List UInt16 := [120, 88, 111, 79, 46, 43, 45, 95]
def okUnit (x : UInt16) : Bool := isDigit x || (decide (97 ≤ x.toNat) && decide (x.toNat ≤ 102)) || (decide (65 ≤ x.toNat) && decide (x.toNat ≤ 70)) || decide (x ∈ oddUnits)
def strangeF (u : List UInt16) : Bool := u.all okUnit && u.any isDigit

theorem okUnit_digit {x : UInt16} (h : isDigit x = true) : okUnit x = true := by simp [okUnit, h]

/-- a number: its kind and its whole part -/
structure Nm where
  kind : Int
  n : Int
deriving DecidableEq

def trimR (u : List UInt16) : List UInt16 := (u.reverse.dropWhile isBlank).reverse
def trimF (u : List UInt16) : List UInt16 := trimR (u.dropWhile isBlank)
def infinity : List UInt16 := [73, 110, 102, 105, 110, 105, 116, 121]
def signOf (t : List UInt16) : Bool := t.headD 0 == 45
def restOf (t : List UInt16) : List UInt16 := if t.headD 0 = 45 ∨ t.headD 0 = 43 then t.tail else t
/-- the number without its sign -/
def baseT (t : List UInt16) : Nm × Bool :=
  if restOf t = infinity then (⟨3, 0⟩, true)
  else if restOf t ≠ [] ∧ (restOf t).all isDigit = true then
    (if decVal (restOf t) ≤ 9007199254740991 then (⟨0, decVal (restOf t)⟩, true) else (⟨2, 0⟩, false))
  else (⟨2, 0⟩, !strangeF t)
def negNm (a : Nm) : Nm := if a.kind = 2 then a else if a.kind = 3 then ⟨4, 0⟩ else if a.n = 0 then ⟨1, 0⟩ else ⟨0, -a.n⟩
def numT (t : List UInt16) : Nm × Bool :=
  if t = [] then (⟨0, 0⟩, true) else (if signOf t = true then negNm (baseT t).1 else (baseT t).1, (baseT t).2)
theorem strange_inf {t : List UInt16} (h : restOf t = infinity) : strangeF t = false := by
  have hm : (73 : UInt16) ∈ t := by
    have h1 : (73 : UInt16) ∈ restOf t := by rw [h]; decide
    unfold restOf at h1
    split at h1
    · exact List.mem_of_mem_tail h1
    · exact h1
  have : t.all okUnit = false := List.all_eq_false.2 ⟨73, hm, by decide⟩
  simp [strangeF, this]
def numF (u : List UInt16) : Nm × Bool := numT (trimF u)
end Go.Proofs.Ytbljbmeifmpfoaa

namespace Go.Proofs.Ytbljbmeifmpfoaa

/-- a token -/
structure Tok where
  kind : Nat
  text : List UInt8
  str : List UInt16
  nk : Int
  nn : Int
  mag : List Nat
  pos : Nat
  nl : Bool
deriving DecidableEq
def noTok : Tok := ⟨0, [], [], 0, 0, [], 0, false⟩

def isLet (x : UInt16) : Bool := (decide (97 ≤ x.toNat) && decide (x.toNat ≤ 122)) || (decide (65 ≤ x.toNat) && decide (x.toNat ≤ 90)) || x.toNat == 95 || x.toNat == 36
def isBl (x : UInt16) : Bool := x.toNat == 9 || x.toNat == 11 || x.toNat == 12 || x.toNat == 32
def isLine (x : UInt16) : Bool := x.toNat == 10 || x.toNat == 13
def isFar (x : UInt16) : Bool := x.toNat == 8232 || x.toNat == 8233
def isRun (x : UInt16) : Bool := isLet x || isDigit x
/-- does a unit of such a kind stand there? -/
def isAt (k : Nat) (p : UInt16 → Bool) (l : List UInt16) : Bool := (l[k]?).any p
/-- do these bytes stand ahead? -/
def starts (s : List UInt8) (l : List UInt16) : Bool := (s.map (·.toUInt16)).isPrefixOf l
def asc (l : List UInt16) : List UInt8 := l.map (·.toUInt8)
def plus (n : Nat) (p : Nat × Bool × Nat) : Nat × Bool × Nat := (n + p.1, p.2)

/-- an error of what is left out -/
def leftF (st : Bool) : Nat := if st = true then 6 else 0
/-- a remark behind its two signs: how many units, whether a line ends, an error -/
def remGo (long : Bool) : List UInt16 → Bool → Bool → Nat × Bool × Nat
  | [], _, st => (0, false, if long = true then 5 else leftF st)
  | x :: r, nl, st =>
    if (long && starts [42, 47] (x :: r)) = true then (2, nl, leftF st)
    else if (!long && isLine x) = true then (0, false, leftF st)
    else plus 1 (remGo long r (nl || isLine x) (st || isFar x))
def remarkF (l : List UInt16) : Nat × Bool × Nat := plus 2 (remGo (starts [47, 42] l) (l.drop 2) false false)
/-- what stands between tokens: how many units (an error: where), whether a line ends, an error -/
def passN : Nat → List UInt16 → Bool → Nat × Bool × Nat
  | 0, _, nl => (0, nl, 0)
  | _ + 1, [], nl => (0, nl, 0)
  | f + 1, x :: r, nl =>
    if (isBl x || isLine x) = true then plus 1 (passN f r (nl || isLine x))
    else if (starts [47, 47] (x :: r) || starts [47, 42] (x :: r)) = true then
      (if (remarkF (x :: r)).2.2 ≠ 0 then (0, false, (remarkF (x :: r)).2.2)
       else plus (remarkF (x :: r)).1 (passN f ((x :: r).drop (remarkF (x :: r)).1) (nl || (remarkF (x :: r)).2.1)))
    else (0, nl, 0)
def passF (l : List UInt16) : Nat × Bool × Nat := passN l.length l false

/-- the words -/
def wordsIn : List (List UInt8) := [[98, 114, 101, 97, 107], [99, 97, 116, 99, 104], [99, 111, 110, 115, 116], [99, 111, 110, 116, 105, 110, 117, 101], [101, 108, 115, 101], [102, 97, 108, 115, 101], [102, 105, 110, 97, 108, 108, 121], [102, 111, 114], [102, 117, 110, 99, 116, 105, 111, 110], [105, 102], [105, 110], [108, 101, 116], [110, 101, 119], [110, 117, 108, 108], [114, 101, 116, 117, 114, 110], [116, 104, 105, 115], [116, 104, 114, 111, 119], [116, 114, 117, 101], [116, 114, 121], [116, 121, 112, 101, 111, 102], [118, 111, 105, 100], [119, 104, 105, 108, 101]]
def wordsOut : List (List UInt8) := [[97, 114, 103, 117, 109, 101, 110, 116, 115], [97, 115, 121, 110, 99], [97, 119, 97, 105, 116], [99, 97, 115, 101], [99, 108, 97, 115, 115], [100, 101, 98, 117, 103, 103, 101, 114], [100, 101, 102, 97, 117, 108, 116], [100, 101, 108, 101, 116, 101], [100, 111], [101, 110, 117, 109], [101, 118, 97, 108], [101, 120, 112, 111, 114, 116], [101, 120, 116, 101, 110, 100, 115], [105, 109, 112, 108, 101, 109, 101, 110, 116, 115], [105, 109, 112, 111, 114, 116], [105, 110, 115, 116, 97, 110, 99, 101, 111, 102], [105, 110, 116, 101, 114, 102, 97, 99, 101], [112, 97, 99, 107, 97, 103, 101], [112, 114, 105, 118, 97, 116, 101], [112, 114, 111, 116, 101, 99, 116, 101, 100], [112, 117, 98, 108, 105, 99], [115, 116, 97, 116, 105, 99], [115, 117, 112, 101, 114], [115, 119, 105, 116, 99, 104], [118, 97, 114], [119, 105, 116, 104], [121, 105, 101, 108, 100]]
def signsIn : List (List UInt8) := [[123], [125], [40], [41], [91], [93], [59], [44], [46], [63], [58], [126], [60], [62], [60, 61], [62, 61], [61, 61], [33, 61], [61, 61, 61], [33, 61, 61], [43], [45], [42], [47], [37], [38], [124], [94], [33], [38, 38], [124, 124], [63, 63], [61], [43, 61], [45, 61], [42, 61], [47, 61], [37, 61], [38, 61], [124, 61], [94, 61], [60, 60, 61], [62, 62, 61], [62, 62, 62, 61], [43, 43], [45, 45], [60, 60], [62, 62], [62, 62, 62], [61, 62]]
def signsOut : List (List UInt8) := [[46, 46, 46], [63, 46], [42, 42], [42, 42, 61], [38, 38, 61], [124, 124, 61], [63, 63, 61]]
def wordF (s : List UInt8) : Nat := if s ∈ wordsIn then 1 else if s ∈ wordsOut then 2 else 0
def signF (s : List UInt8) : Nat := if s ∈ signsIn then 1 else if s ∈ signsOut then 2 else 0
def runF (s : List UInt8) : Bool := match s with | [] => false | b :: r => isLet b.toUInt16 && r.all fun c => isRun c.toUInt16
def nameF (s : List UInt8) : Bool := runF s && wordF s == 0

/-- a token's answer: an error, the token, how many units -/
abbrev Ans := Nat × Tok × Nat
def bad (e : Nat) : Ans := (e, noTok, 0)
def wordT (l : List UInt16) : Ans :=
  if starts [92] (l.drop (l.takeWhile isRun).length) = true then bad 6
  else (0, { noTok with kind := if 0 < wordF (asc (l.takeWhile isRun)) then 6 else 1, text := asc (l.takeWhile isRun) }, (l.takeWhile isRun).length)
def limbsN : Nat → Nat → List Nat
  | 0, _ => []
  | f + 1, v => if v = 0 then [] else v % 4294967296 :: limbsN f (v / 4294967296)
def limbs (v : Nat) : List Nat := limbsN 9 v
def big8 : Nat := 4294967296 ^ 8
def oddAfter (zero : Bool) (x : UInt16) : Bool :=
  x.toNat == 46 || x.toNat == 101 || x.toNat == 69 || x.toNat == 95 || (zero && (x.toNat == 120 || x.toNat == 88 || x.toNat == 111 || x.toNat == 79 || x.toNat == 98 || x.toNat == 66))
def bigT (v n : Nat) (r : List UInt16) : Ans :=
  if big8 ≤ v then bad 6
  else if (isAt 0 isLet r || isAt 0 isDigit r) = true then bad 5
  else (0, { noTok with kind := 3, mag := limbs v }, n + 1)
/-- d: the digits; r: what stands behind them -/
def numT' (d r : List UInt16) : Ans :=
  if (isAt 0 (fun x => x.toNat == 48) d && !decide (d = [48])) = true then bad 5
  else if starts [110] r = true then bigT (decVal d) d.length (r.drop 1)
  else if isAt 0 (oddAfter (decide (d = [48]))) r = true then bad 6
  else if isAt 0 isLet r = true then bad 5
  else if 9007199254740991 < decVal d then bad 6
  else (0, { noTok with kind := 2, nn := decVal d }, d.length)
def numberT (l : List UInt16) : Ans := numT' (l.takeWhile isDigit) (l.drop (l.takeWhile isDigit).length)

def hexF (x : UInt16) : Nat :=
  if isDigit x = true then x.toNat - 48 else if 97 ≤ x.toNat ∧ x.toNat ≤ 102 then x.toNat - 87 else if 65 ≤ x.toNat ∧ x.toNat ≤ 70 then x.toNat - 55 else 16
def hexVal (v : Nat) : List UInt16 → Nat
  | [] => v
  | x :: r => hexVal (16 * v + hexF x) r
def isHex (x : UInt16) : Bool := decide (hexF x < 16)
/-- a unit of so many digits of sixteen: an error, the unit, how many units -/
def codeF (n : Nat) (l : List UInt16) : Nat × UInt16 × Nat :=
  if (decide (n ≤ l.length) && (l.take n).all isHex) = true then (0, UInt16.ofNat (hexVal 0 (l.take n)), n) else (5, 0, 0)
def simpleF (x : UInt16) : Option UInt16 :=
  if x = 110 then some 10 else if x = 116 then some 9 else if x = 114 then some 13 else if x = 98 then some 8 else if x = 118 then some 11 else if x = 102 then some 12 else none
def more (n : Nat) (p : Nat × UInt16 × Nat) : Nat × UInt16 × Nat := if p.1 = 0 then (0, p.2.1, n + p.2.2) else p
def escR (x : UInt16) (r : List UInt16) : Nat × UInt16 × Nat :=
  if (x.toNat == 48 && !isAt 0 isDigit r) = true then (0, 0, 1)
  else if isDigit x = true then (5, 0, 0)
  else if (isLine x || isFar x || (x.toNat == 117 && starts [123] r)) = true then (6, 0, 0)
  else if x.toNat = 120 then more 1 (codeF 2 r)
  else if x.toNat = 117 then more 1 (codeF 4 r)
  else (0, x, 1)
def escF : List UInt16 → Nat × UInt16 × Nat
  | [] => (5, 0, 0)
  | x :: r => if (simpleF x).isSome = true then (0, (simpleF x).getD 0, 1) else escR x r
/-- what stands behind a quote: an error, the units, how many units -/
def quoN (q : UInt16) : Nat → List UInt16 → List UInt16 → Nat × List UInt16 × Nat
  | 0, _, _ => (5, [], 0)
  | _ + 1, [], _ => (5, [], 0)
  | f + 1, x :: r, acc =>
    if isLine x = true then (5, [], 0)
    else if x = q then (0, acc, 1)
    else if x.toNat = 92 then
      (if (escF r).1 ≠ 0 then ((escF r).1, [], 0)
       else ((quoN q f (r.drop (escF r).2.2) (acc ++ [(escF r).2.1])).1, (quoN q f (r.drop (escF r).2.2) (acc ++ [(escF r).2.1])).2.1, 1 + (escF r).2.2 + (quoN q f (r.drop (escF r).2.2) (acc ++ [(escF r).2.1])).2.2))
    else ((quoN q f r (acc ++ [x])).1, (quoN q f r (acc ++ [x])).2.1, 1 + (quoN q f r (acc ++ [x])).2.2)
def quoF (q : UInt16) (l : List UInt16) : Nat × List UInt16 × Nat := quoN q (l.length + 1) l []
def quotedT (q : UInt16) (r : List UInt16) : Ans :=
  if (quoF q r).1 ≠ 0 then bad (quoF q r).1 else (0, { noTok with kind := 4, str := (quoF q r).2.1 }, 1 + (quoF q r).2.2)

/-- the sign of so many units that stands ahead -/
def signAt (l : List UInt16) (n : Nat) : Nat :=
  if (decide (n ≤ l.length) && (l.take n).all (fun x => decide (x.toNat ≤ 127)) && !(decide (asc (l.take n) = [63, 46]) && isAt 2 isDigit l)) = true then signF (asc (l.take n)) else 0
def signN (l : List UInt16) : Nat → Option Nat
  | 0 => none
  | n + 1 => if signAt l (n + 1) ≠ 0 then some (n + 1) else signN l n
def signT (z : Bool) (l : List UInt16) : Ans :=
  match signN l 4 with
  | some n => if signAt l n = 2 then bad 6 else (0, { noTok with kind := 5, text := asc (l.take n) }, n)
  | none => if (isAt 0 (fun x => decide (128 ≤ x.toNat) || x.toNat == 96 || x.toNat == 92) l || (z && starts [35, 33] l)) = true then bad 6 else bad 5
/-- the token that stands ahead -/
def tokenT (z : Bool) : List UInt16 → Ans
  | [] => bad 5
  | x :: r =>
    if isLet x = true then wordT (x :: r)
    else if isDigit x = true then numberT (x :: r)
    else if (x.toNat == 39 || x.toNat == 34) = true then quotedT x r
    else if (x.toNat == 46 && isAt 0 isDigit r) = true then bad 6
    else signT z (x :: r)

/-- a token ahead of what comes behind it -/
def consT (t : Tok) (p : List Tok × Nat × Nat) : List Tok × Nat × Nat := if p.2.2 ≠ 0 then ([], p.2) else (t :: p.1, 0, 0)
/-- the token at place k, behind what was passed -/
def tokAt (k : Nat) (l : List UInt16) : Ans := tokenT (k + (passF l).1 == 0) (l.drop (passF l).1)
def setAt (t : Tok) (k : Nat) (nl : Bool) : Tok := { t with pos := k, nl := nl }
/-- tokens, where an error is, the error; k: the place -/
def lexN : Nat → Nat → List UInt16 → List Tok × Nat × Nat
  | 0, _, _ => ([], 0, 0)
  | f + 1, k, l =>
    if (passF l).2.2 ≠ 0 then ([], k + (passF l).1, (passF l).2.2)
    else if l.drop (passF l).1 = [] then ([setAt noTok (k + (passF l).1) (passF l).2.1], 0, 0)
    else if (tokAt k l).1 ≠ 0 then ([], k + (passF l).1, (tokAt k l).1)
    else consT (setAt (tokAt k l).2.1 (k + (passF l).1) (passF l).2.1) (lexN f (k + (passF l).1 + (tokAt k l).2.2) (l.drop ((passF l).1 + (tokAt k l).2.2)))
def lexF (u : List UInt16) : List Tok × Nat × Nat := if 4096 < u.length then ([], 0, 3) else lexN (u.length + 1) 0 u
end Go.Proofs.Ytbljbmeifmpfoaa

namespace Go.Proofs.Ytbljbmeifmpfoaa

def atU (u : List UInt16) (i : Nat) : UInt16 := u.getD i 0
theorem atU_in {u : List UInt16} {i : Nat} (h : i < u.length) : atU u i = u[i] := by simp [atU, List.getD_eq_getElem?_getD, List.getElem?_eq_getElem h]
theorem atU_out {u : List UInt16} {i : Nat} (h : ¬ i < u.length) : atU u i = 0 := by simp [atU, List.getD_eq_getElem?_getD, List.getElem?_eq_none (Nat.le_of_not_lt h)]
theorem isAt_atU {p : UInt16 → Bool} (h0 : p 0 = false) (u : List UInt16) (i k : Nat) : isAt k p (u.drop i) = p (atU u (i + k)) := by
  unfold isAt
  rw [List.getElem?_drop]
  by_cases h : i + k < u.length
  · rw [List.getElem?_eq_getElem h, atU_in h]; rfl
  · rw [List.getElem?_eq_none (Nat.le_of_not_lt h), atU_out h, h0]; rfl
theorem u8_16 (c : UInt8) : c.toUInt16.toNat = c.toNat := rfl
theorem starts_one {c : UInt8} (hc : c.toNat ≠ 0) (u : List UInt16) (i : Nat) : starts [c] (u.drop i) = ((atU u i).toNat == c.toNat) := by
  unfold starts
  by_cases h : i < u.length
  · rw [List.drop_eq_getElem_cons h, atU_in h]
    simp only [List.map_cons, List.map_nil, List.isPrefixOf, Bool.and_true]
    rw [Bool.eq_iff_iff, beq_iff_eq, beq_iff_eq, ← UInt16.toNat_inj, u8_16]
    exact eq_comm
  · rw [List.drop_of_length_le (Nat.le_of_not_lt h), atU_out h]
    simp only [List.map_cons, List.map_nil, List.isPrefixOf]
    exact (beq_eq_false_iff_ne.2 (fun e => hc e.symm)).symm
theorem starts_two {a b : UInt8} (hb : b.toNat ≠ 0) {u : List UInt16} {p : Nat} (hp : p < u.length) : starts [a, b] (u.drop p) = (((atU u p).toNat == a.toNat) && ((atU u (p + 1)).toNat == b.toNat)) := by
  rw [← starts_one hb, atU_in hp]
  unfold starts
  rw [List.drop_eq_getElem_cons hp]
  simp only [List.map_cons, List.map_nil, List.isPrefixOf]
  congr 1
  rw [Bool.eq_iff_iff, beq_iff_eq, beq_iff_eq, ← UInt16.toNat_inj, u8_16]
  exact eq_comm
theorem line_of {x : UInt16} (h : x.toNat = 10 ∨ x.toNat = 13) : isLine x = true ∧ isFar x = false := by
  unfold isLine isFar
  rcases h with h | h <;> (rw [h]; decide)
theorem line_not {x : UInt16} (h : x.toNat ≠ 10) (h2 : x.toNat ≠ 13) : isLine x = false := by
  unfold isLine
  rw [beq_eq_false_iff_ne.2 h, beq_eq_false_iff_ne.2 h2]
  rfl
end Go.Proofs.Ytbljbmeifmpfoaa

namespace Go.Proofs.Ytbljbmeifmpfoaa
open Go.RowKit
theorem hide {p : Prop} (h : p) : Hid p := h
theorem ret_bool {a b : Bool} (h : a = b) : Ending.returned (.bool a) = .returned (.bool b) := by rw [h]
theorem ret_int {k : IntKind} {a b : Int} (h : a = b) : Ending.returned (.int k a) = .returned (.int k b) := by rw [h]
theorem below_drewN {B : Nat} {a w : World} (h : Below B a w) (n : Nat) : Below B a (w.drewN n) := ⟨h.os, h.tape, h.output, h.size, h.block⟩
end Go.Proofs.Ytbljbmeifmpfoaa

namespace Go.Proofs.Ytbljbmeifmpfoaa
open Go.RowKit

theorem block_of_add (a : Addr) (n : Nat) : (a.add n).block = a.block := by unfold Addr.add; split <;> rfl
theorem add_of_add (a : Addr) (i j : Nat) : (a.add i).add j = a.add (i + j) := by
  unfold Addr.add
  by_cases hi : i = 0 <;> by_cases hj : j = 0 <;> simp [hi, hj, Nat.add_assoc]

/-- The slice at address A of n elements (of size cells each) holds the cells xs, below block B. -/
def Reads (w : World) (B size : Nat) (A : Option Addr) (n : Nat) (xs : List Value) : Prop :=
  xs.length = n * size ∧ (0 < n → ∃ ad, A = some ad ∧ ad.block < B ∧ ∀ j u, xs[j]? = some u → w.cell? (ad.add j) = some u)

section
variable {w w' : World} {B B' size n : Nat} {A : Option Addr} {xs : List Value}
theorem Reads.none_ : Reads w B size A 0 [] := ⟨by simp, fun h => absurd h (by omega)⟩
theorem Reads.at_ {k : Nat} (h : Reads w B 1 A n xs) (hk : k < n) : ∃ ad u, A = some ad ∧ ad.block < B ∧ xs[k]? = some u ∧ w.cell? (ad.add k) = some u := by
  obtain ⟨ad, e, hb, hc⟩ := h.2 (by omega)
  have hl : k < xs.length := by have := h.1; omega
  exact ⟨ad, xs[k], e, hb, List.getElem?_eq_getElem hl, hc k _ (List.getElem?_eq_getElem hl)⟩
theorem Reads.keep (h : Reads w B size A n xs) (hk : ∀ p : Addr, p.block < B → w'.cell? p = w.cell? p) : Reads w' B size A n xs :=
  ⟨h.1, fun hn => by
    obtain ⟨ad, e, hb, hc⟩ := h.2 hn
    exact ⟨ad, e, hb, fun j u hu => (hk _ (by rw [block_of_add]; exact hb)).trans (hc j u hu)⟩⟩
theorem Reads.more (h : Reads w B size A n xs) (hB : B ≤ B') : Reads w B' size A n xs :=
  ⟨h.1, fun hn => by
    obtain ⟨ad, e, hb, hc⟩ := h.2 hn
    exact ⟨ad, e, by omega, hc⟩⟩
theorem Reads.below (h : Reads w B size A n xs) (hb : Below B w w') : Reads w' B size A n xs := h.keep fun _ hp => hb.cell hp
theorem Reads.drew (h : Reads w B size A n xs) : Reads w.drew B size A n xs := h
theorem Reads.drewN (h : Reads w B size A n xs) (k : Nat) : Reads (w.drewN k) B size A n xs := h
theorem Reads.alloc (h : Reads w B size A n xs) (hB : B ≤ w.heap.size) (o : Obj) : Reads (w.alloc o) B size A n xs := h.keep fun p hp => World.cell?_alloc_lt w o p (by omega)
theorem Reads.cut (h : Reads w B size A n xs) {k cap : Nat} (hk : k ≤ n) (hc : n ≤ cap) :
    Reads w B size (if cap = k then A else A.map (·.add (k * size))) (n - k) (xs.drop (k * size)) := by
  refine ⟨by rw [List.length_drop, h.1, Nat.sub_mul], fun hn => ?_⟩
  obtain ⟨ad, rfl, hb, hcell⟩ := h.2 (by omega)
  rw [if_neg (by omega)]
  refine ⟨ad.add (k * size), rfl, by rw [block_of_add]; exact hb, fun j u hu => ?_⟩
  rw [add_of_add]
  exact hcell _ u (by rw [← hu, List.getElem?_drop])
theorem Reads.take (h : Reads w B size A n xs) {k : Nat} (hk : k ≤ n) : Reads w B size A k (xs.take (k * size)) := by
  refine ⟨by rw [List.length_take, h.1]; exact Nat.min_eq_left (Nat.mul_le_mul_right _ hk), fun hn => ?_⟩
  obtain ⟨ad, rfl, hb, hcell⟩ := h.2 (by omega)
  refine ⟨ad, rfl, hb, fun j u hu => hcell j u ?_⟩
  rw [List.getElem?_take] at hu
  split at hu
  · exact hu
  · cases hu
theorem Reads.of_own {base : Nat} {e : TypeId} {c : Nat} (h : w.ownsRow base e size (.slice A n c) n xs) : Reads w w.heap.size size A n xs := by
  refine ⟨h.1, fun hn => ?_⟩
  obtain ⟨g, cap, hv, _, hlt⟩ := h.form hn
  have hA : A = some ⟨g, 0, none⟩ := by injection hv
  subst hA
  exact ⟨_, rfl, hlt, h.cells (g := g) rfl⟩
end

/-- What a call has made for itself: a slice of one-cell elements of type e in blocks from base on; it holds xs. -/
theorem own_shape {w : World} {base : Nat} {e : TypeId} {size n : Nat} {v : Value} {xs : List Value} (h : w.ownsRow base e size v n xs) :
    ∃ A c, v = .slice A n c ∧ n ≤ c ∧ c ≤ maxLen := by
  rcases h.2 with ⟨rfl, rfl⟩ | ⟨g, cap, cur, rfl, _, _, hnc, hm, _⟩
  · exact ⟨none, 0, rfl, Nat.le_refl _, by unfold maxLen; omega⟩
  · exact ⟨_, cap, rfl, hnc, hm⟩

def u8v (x : UInt8) : Value := .int .u8 (x.toNat : Int)
def u16v (x : UInt16) : Value := .int .u16 (x.toNat : Int)
def u8s (l : List UInt8) : List Value := l.map u8v
def u16s (l : List UInt16) : List Value := l.map u16v
theorem u8s_one (l : List UInt8) : ∀ u ∈ u8s l, u.oneCell' = true := by
  intro u hu
  obtain ⟨_, _, rfl⟩ := List.mem_map.1 hu
  rfl
theorem u16s_one (l : List UInt16) : ∀ u ∈ u16s l, u.oneCell' = true := by
  intro u hu
  obtain ⟨_, _, rfl⟩ := List.mem_map.1 hu
  rfl
theorem u16s_len (l : List UInt16) : (u16s l).length = l.length := by simp [u16s]
theorem u8s_len (l : List UInt8) : (u8s l).length = l.length := by simp [u8s]

/-- A call that began in w0 has made the slice v, of one-cell elements xs of type e, in new blocks; what lay before is as it was. -/
structure Made (w0 w : World) (e : TypeId) (v : Value) (xs : List Value) : Prop where
  own : w.ownsRow w0.heap.size e 1 v xs.length xs
  below : Below w0.heap.size w0 w

theorem Made.nil (w0 : World) (e : TypeId) : Made w0 w0 e (.slice none 0 0) [] := ⟨World.ownsRow_nil _ _ _ _, Below.refl _ _⟩
theorem Made.of_below {w0 w : World} (h : Below w0.heap.size w0 w) (e : TypeId) : Made w0 w e (.slice none 0 0) [] := ⟨World.ownsRow_nil _ _ _ _, h⟩
theorem Made.shape {w0 w : World} {e : TypeId} {v : Value} {xs : List Value} (h : Made w0 w e v xs) :
    ∃ A c, v = .slice A xs.length c ∧ xs.length ≤ c ∧ c ≤ maxLen ∧ Reads w w.heap.size 1 A xs.length xs := by
  obtain ⟨A, c, hv, h1, h2⟩ := own_shape h.own
  have h' := h.own
  rw [hv] at h'
  exact ⟨A, c, hv, h1, h2, Reads.of_own h'⟩
theorem Made.alloc {w0 w : World} {e : TypeId} {v : Value} {xs : List Value} (h : Made w0 w e v xs) (o : Obj) : Made w0 (w.alloc o) e v xs :=
  ⟨h.own.alloc o, h.below.alloc h.below.size o⟩
theorem Made.drew {w0 w : World} {e : TypeId} {v : Value} {xs : List Value} (h : Made w0 w e v xs) : Made w0 w.drew e v xs := ⟨h.own.drew, h.below.drew⟩
theorem Made.cells {w0 w : World} {e : TypeId} {v : Value} {xs ys : List Value} (h : Made w0 w e v xs) (e1 : xs = ys) : Made w0 w e v ys := e1 ▸ h

section
variable {P : Program} {w0 w : World} {ops : Array Oper} {rest : List Oper} {o : Oper} {a : Act} {Q : Exit → Act → World → Prop}
/-- append of the elements of a slice that lies in memory, onto what the call has made. -/
theorem wpList_app (hgd : o.guard = none) (s x : Operand) (t : TypeId)
    (ho : o.op = .call { callee := .builtin .append, args := #[s, x], argTypes := #[t, t] })
    (e : TypeId) (i : TypeInfo) (z : Value) (bytes : Nat) (ht : P.underlying t = some (.slice e)) (hi : P.info? e = some i) (hz : i.zero = some z)
    (hsize : i.size = 1) (hby : i.bytes = bytes) (hzs : z.cells.size = 1)
    (v : Value) (xs : List Value) (hs : a.eval s = v) (hm : Made w0 w e v xs)
    (ad : Addr) (m c : Nat) (news : List Value) (hx : a.eval x = .slice (some ad) m c) (hl : news.length = m) (hnews : ∀ j u, news[j]? = some u → w.cell? (ad.add j) = some u) (h1 : ∀ u ∈ news, u.oneCell' = true)
    (hsz : xs.length + m ≤ 70368744177664) (hb2 : bytes ≤ 2)
    (h : ∀ v' w', Made w0 w' e v' (xs ++ news) → w.grownBy w' v.ownBlock → wpList P ops Q rest (a.put o.dst v') w') : wpList P ops Q (o :: rest) a w := by
  subst hl
  refine wpList_append_own w hgd s x t ho w0.heap.size e i z 1 bytes ht hi hz hsize hby hzs (by omega) v xs.length xs hs hm.own ad _ c news hx (by omega) hnews h1 (by unfold maxLen; omega) ?_ hm.below.size ?_
  · calc (xs.length + news.length) * bytes ≤ 70368744177664 * 2 := Nat.mul_le_mul hsz hb2
      _ ≤ 140737488355328 := by omega
  · intro v' w' h1 h2 _
    refine h v' w' ⟨by rw [List.length_append]; exact h1, hm.below.grown h2 hm.below.size (fun k hk => (hm.own.lt k hk).1)⟩ h2
/-- append of the elements that the operation ahead has laid in a block of their own. -/
theorem wpList_lit (hgd : o.guard = none) (s x : Operand) (t : TypeId)
    (ho : o.op = .call { callee := .builtin .append, args := #[s, x], argTypes := #[t, t] })
    (e : TypeId) (i : TypeInfo) (z : Value) (bytes : Nat) (ht : P.underlying t = some (.slice e)) (hi : P.info? e = some i) (hz : i.zero = some z)
    (hsize : i.size = 1) (hby : i.bytes = bytes) (hzs : z.cells.size = 1)
    (v : Value) (xs : List Value) (hs : a.eval s = v) (hm : Made w0 w e v xs)
    (cs : List Value) (m c : Nat) (hx : a.eval x = .slice (some ⟨w.heap.size, 0, none⟩) m c) (hl : cs.length = m) (h1 : (cs.all fun u => u.oneCell') = true)
    (hsz : xs.length + m ≤ 70368744177664) (hb2 : bytes ≤ 2)
    (h : ∀ v' w', Made w0 w' e v' (xs ++ cs) → wpList P ops Q rest (a.put o.dst v') w') : wpList P ops Q (o :: rest) a (w.alloc (.cells cs.toArray e)) := by
  refine wpList_app hgd s x t ho e i z bytes ht hi hz hsize hby hzs v xs hs (hm.alloc _) ⟨w.heap.size, 0, none⟩ m c cs hx hl ?_ (fun u hu => List.all_eq_true.1 h1 u hu) hsz hb2 (fun v' w' h' _ => h v' w' h')
  intro j u hu
  rw [Addr.add_lit, World.cell?_alloc_at _ _ _ _ rfl]
  simpa using hu
end

theorem Try.info_u16 : (Try.prog.info? 41).map (fun i => (i.zero, i.size, i.bytes)) = some (some (.int .u16 0), 1, 2) := by kernel_rfl
theorem Try.info_u8 : (Try.prog.info? 5).map (fun i => (i.zero, i.size, i.bytes)) = some (some (.int .u8 0), 1, 1) := by kernel_rfl
end Go.Proofs.Ytbljbmeifmpfoaa

namespace Go.Proofs.Ytbljbmeifmpfoaa
open Go.RowKit

theorem Made.call {w0 w w' : World} {e : TypeId} {v : Value} {xs : List Value} (h : Made w0 w e v xs) (hb : Below w.heap.size w w') : Made w0 w' e v xs :=
  ⟨h.own.kept (row := none) ⟨hb.os, hb.tape, hb.output, hb.size, fun k hk _ => hb.block k hk⟩ (by cases hv : v.ownBlock <;> simp), h.below.trans (hb.mono h.below.size)⟩
theorem Made.u16 {w0 w : World} {e : TypeId} {v : Value} {xs : List UInt16} (h : Made w0 w e v (u16s xs)) :
    ∃ A c, v = .slice A xs.length c ∧ xs.length ≤ c ∧ c ≤ maxLen ∧ Reads w w.heap.size 1 A xs.length (u16s xs) := by
  obtain ⟨A, c, hv, h1, h2, h3⟩ := h.shape
  have e : (u16s xs).length = xs.length := by simp [u16s]
  rw [e] at hv h1 h3
  exact ⟨A, c, hv, h1, h2, h3⟩
theorem Made.u8 {w0 w : World} {e : TypeId} {v : Value} {xs : List UInt8} (h : Made w0 w e v (u8s xs)) :
    ∃ A c, v = .slice A xs.length c ∧ xs.length ≤ c ∧ c ≤ maxLen ∧ Reads w w.heap.size 1 A xs.length (u8s xs) := by
  obtain ⟨A, c, hv, h1, h2, h3⟩ := h.shape
  have e : (u8s xs).length = xs.length := by simp [u8s]
  rw [e] at hv h1 h3
  exact ⟨A, c, hv, h1, h2, h3⟩
theorem Reads.u16 {w : World} {B n : Nat} {A : Option Addr} {xs : List UInt16} (h : Reads w B 1 A n (u16s xs)) {k : Nat} (hk : k < xs.length) :
    ∃ ad, A = some ad ∧ ad.block < B ∧ w.cell? (ad.add k) = some (.int .u16 (xs[k].toNat : Int)) := by
  have hl : xs.length = n := by have := h.1; simpa [u16s] using this
  obtain ⟨ad, u, e, hb, hx, hc⟩ := h.at_ (k := k) (by omega)
  refine ⟨ad, e, hb, ?_⟩
  rw [hc]
  simp [u16s, hk] at hx
  rw [← hx]; rfl
theorem Reads.u8 {w : World} {B n : Nat} {A : Option Addr} {xs : List UInt8} (h : Reads w B 1 A n (u8s xs)) {k : Nat} (hk : k < xs.length) :
    ∃ ad, A = some ad ∧ ad.block < B ∧ w.cell? (ad.add k) = some (.int .u8 (xs[k].toNat : Int)) := by
  have hl : xs.length = n := by have := h.1; simpa [u8s] using this
  obtain ⟨ad, u, e, hb, hx, hc⟩ := h.at_ (k := k) (by omega)
  refine ⟨ad, e, hb, ?_⟩
  rw [hc]
  simp [u8s, hk] at hx
  rw [← hx]; rfl
theorem Addr.add_zero (a : Addr) : a.add 0 = a := by simp [Addr.add]
theorem Reads.u16_0 {w : World} {B n : Nat} {A : Option Addr} {xs : List UInt16} (h : Reads w B 1 A n (u16s xs)) (hk : 0 < xs.length) :
    ∃ ad, A = some ad ∧ ad.block < B ∧ w.cell? ad = some (.int .u16 (xs[0].toNat : Int)) := by
  obtain ⟨ad, h1, h2, h3⟩ := h.u16 hk
  rw [Addr.add_zero] at h3
  exact ⟨ad, h1, h2, h3⟩
/-- A cut from k on. -/
theorem Reads.cut16 {w : World} {B c : Nat} {A : Option Addr} {xs : List UInt16} (h : Reads w B 1 A xs.length (u16s xs)) {k : Nat} (hk : k ≤ xs.length) (hc : xs.length ≤ c) :
    Reads w B 1 (if c = k then A else A.map (·.add k)) (xs.drop k).length (u16s (xs.drop k)) := by
  have h1 := h.cut (k := k) (cap := c) hk hc
  simp only [Nat.mul_one] at h1
  rw [List.length_drop]
  simpa [u16s, List.map_drop] using h1
theorem Reads.cut8 {w : World} {B c : Nat} {A : Option Addr} {xs : List UInt8} (h : Reads w B 1 A xs.length (u8s xs)) {k : Nat} (hk : k ≤ xs.length) (hc : xs.length ≤ c) :
    Reads w B 1 (if c = k then A else A.map (·.add k)) (xs.drop k).length (u8s (xs.drop k)) := by
  have h1 := h.cut (k := k) (cap := c) hk hc
  simp only [Nat.mul_one] at h1
  rw [List.length_drop]
  simpa [u8s, List.map_drop] using h1
theorem Reads.take16 {w : World} {B n : Nat} {A : Option Addr} {xs : List UInt16} (h : Reads w B 1 A n (u16s xs)) {k : Nat} (hk : k ≤ xs.length) :
    Reads w B 1 A (xs.take k).length (u16s (xs.take k)) := by
  have hl : xs.length = n := by have := h.1; simpa [u16s] using this
  have h1 := h.take (k := k) (by omega)
  rw [List.length_take, Nat.min_eq_left hk]
  simpa [u16s, List.map_take] using h1
theorem Reads.take8 {w : World} {B n : Nat} {A : Option Addr} {xs : List UInt8} (h : Reads w B 1 A n (u8s xs)) {k : Nat} (hk : k ≤ xs.length) :
    Reads w B 1 A (xs.take k).length (u8s (xs.take k)) := by
  have hl : xs.length = n := by have := h.1; simpa [u8s] using this
  have h1 := h.take (k := k) (by omega)
  rw [List.length_take, Nat.min_eq_left hk]
  simpa [u8s, List.map_take] using h1
theorem ret_ib {k : IntKind} {n m : Int} {a b : Bool} (h : n = m) (h2 : a = b) : Ending.returned (.tuple #[.int k n, .bool a]) = .returned (.tuple #[.int k m, .bool b]) := by rw [h, h2]
end Go.Proofs.Ytbljbmeifmpfoaa
