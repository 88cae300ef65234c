/- What the lexer computes, in plain Lean: tokens of units, on what is left of the source. No program. -/
import Derived.Test.YtngcikgjdeomdaaSpec
namespace Go.Proofs.Ytngcikgjdeomdaa

/-- a token -/
structure Tok where
  kind : Nat
  text : List UInt8
  str : List UInt16
  nk : Int
  nn : Int
  mag : List Nat
  pos : Nat
  nl : Bool
deriving DecidableEq
def noTok : Tok := ⟨0, [], [], 0, 0, [], 0, false⟩

def isLet (x : UInt16) : Bool := (decide (97 ≤ x.toNat) && decide (x.toNat ≤ 122)) || (decide (65 ≤ x.toNat) && decide (x.toNat ≤ 90)) || x.toNat == 95 || x.toNat == 36
def isBl (x : UInt16) : Bool := x.toNat == 9 || x.toNat == 11 || x.toNat == 12 || x.toNat == 32
def isLine (x : UInt16) : Bool := x.toNat == 10 || x.toNat == 13
def isFar (x : UInt16) : Bool := x.toNat == 8232 || x.toNat == 8233
def isRun (x : UInt16) : Bool := isLet x || isDigit x
/-- does a unit of such a kind stand there? -/
def isAt (k : Nat) (p : UInt16 → Bool) (l : List UInt16) : Bool := (l[k]?).any p
/-- do these bytes stand ahead? -/
def starts (s : List UInt8) (l : List UInt16) : Bool := (s.map (·.toUInt16)).isPrefixOf l
def asc (l : List UInt16) : List UInt8 := l.map (·.toUInt8)
def plus (n : Nat) (p : Nat × Bool × Nat) : Nat × Bool × Nat := (n + p.1, p.2)

/-- an error of what is left out -/
def leftF (st : Bool) : Nat := if st = true then 6 else 0
/-- a remark behind its two signs: how many units, whether a line ends, an error -/
def remGo (long : Bool) : List UInt16 → Bool → Bool → Nat × Bool × Nat
  | [], _, st => (0, false, if long = true then 5 else leftF st)
  | x :: r, nl, st =>
    if (long && starts [42, 47] (x :: r)) = true then (2, nl, leftF st)
    else if (!long && isLine x) = true then (0, false, leftF st)
    else plus 1 (remGo long r (nl || isLine x) (st || isFar x))
def remarkF (l : List UInt16) : Nat × Bool × Nat := plus 2 (remGo (starts [47, 42] l) (l.drop 2) false false)
/-- what stands between tokens: how many units (an error: where), whether a line ends, an error -/
def passN : Nat → List UInt16 → Bool → Nat × Bool × Nat
  | 0, _, nl => (0, nl, 0)
  | _ + 1, [], nl => (0, nl, 0)
  | f + 1, x :: r, nl =>
    if (isBl x || isLine x) = true then plus 1 (passN f r (nl || isLine x))
    else if (starts [47, 47] (x :: r) || starts [47, 42] (x :: r)) = true then
      (if (remarkF (x :: r)).2.2 ≠ 0 then (0, false, (remarkF (x :: r)).2.2)
       else plus (remarkF (x :: r)).1 (passN f ((x :: r).drop (remarkF (x :: r)).1) (nl || (remarkF (x :: r)).2.1)))
    else (0, nl, 0)
def passF (l : List UInt16) : Nat × Bool × Nat := passN l.length l false

/-- the words -/
def wordsIn : List (List UInt8) := [[98, 114, 101, 97, 107], [99, 97, 116, 99, 104], [99, 111, 110, 115, 116], [99, 111, 110, 116, 105, 110, 117, 101], [101, 108, 115, 101], [102, 97, 108, 115, 101], [102, 105, 110, 97, 108, 108, 121], [102, 111, 114], [102, 117, 110, 99, 116, 105, 111, 110], [105, 102], [105, 110], [108, 101, 116], [110, 101, 119], [110, 117, 108, 108], [114, 101, 116, 117, 114, 110], [116, 104, 105, 115], [116, 104, 114, 111, 119], [116, 114, 117, 101], [116, 114, 121], [116, 121, 112, 101, 111, 102], [118, 111, 105, 100], [119, 104, 105, 108, 101]]
def wordsOut : List (List UInt8) := [[97, 114, 103, 117, 109, 101, 110, 116, 115], [97, 115, 121, 110, 99], [97, 119, 97, 105, 116], [99, 97, 115, 101], [99, 108, 97, 115, 115], [100, 101, 98, 117, 103, 103, 101, 114], [100, 101, 102, 97, 117, 108, 116], [100, 101, 108, 101, 116, 101], [100, 111], [101, 110, 117, 109], [101, 118, 97, 108], [101, 120, 112, 111, 114, 116], [101, 120, 116, 101, 110, 100, 115], [105, 109, 112, 108, 101, 109, 101, 110, 116, 115], [105, 109, 112, 111, 114, 116], [105, 110, 115, 116, 97, 110, 99, 101, 111, 102], [105, 110, 116, 101, 114, 102, 97, 99, 101], [112, 97, 99, 107, 97, 103, 101], [112, 114, 105, 118, 97, 116, 101], [112, 114, 111, 116, 101, 99, 116, 101, 100], [112, 117, 98, 108, 105, 99], [115, 116, 97, 116, 105, 99], [115, 117, 112, 101, 114], [115, 119, 105, 116, 99, 104], [118, 97, 114], [119, 105, 116, 104], [121, 105, 101, 108, 100]]
def signsIn : List (List UInt8) := [[123], [125], [40], [41], [91], [93], [59], [44], [46], [63], [58], [126], [60], [62], [60, 61], [62, 61], [61, 61], [33, 61], [61, 61, 61], [33, 61, 61], [43], [45], [42], [47], [37], [38], [124], [94], [33], [38, 38], [124, 124], [63, 63], [61], [43, 61], [45, 61], [42, 61], [47, 61], [37, 61], [38, 61], [124, 61], [94, 61], [60, 60, 61], [62, 62, 61], [62, 62, 62, 61], [43, 43], [45, 45], [60, 60], [62, 62], [62, 62, 62], [61, 62]]
def signsOut : List (List UInt8) := [[46, 46, 46], [63, 46], [42, 42], [42, 42, 61], [38, 38, 61], [124, 124, 61], [63, 63, 61]]
def wordF (s : List UInt8) : Nat := if s ∈ wordsIn then 1 else if s ∈ wordsOut then 2 else 0
def signF (s : List UInt8) : Nat := if s ∈ signsIn then 1 else if s ∈ signsOut then 2 else 0
def runF (s : List UInt8) : Bool := match s with | [] => false | b :: r => isLet b.toUInt16 && r.all fun c => isRun c.toUInt16
def nameF (s : List UInt8) : Bool := runF s && wordF s == 0

/-- a token's answer: an error, the token, how many units -/
abbrev Ans := Nat × Tok × Nat
def bad (e : Nat) : Ans := (e, noTok, 0)
def wordT (l : List UInt16) : Ans :=
  if starts [92] (l.drop (l.takeWhile isRun).length) = true then bad 6
  else (0, { noTok with kind := if 0 < wordF (asc (l.takeWhile isRun)) then 6 else 1, text := asc (l.takeWhile isRun) }, (l.takeWhile isRun).length)
def limbsN : Nat → Nat → List Nat
  | 0, _ => []
  | f + 1, v => if v = 0 then [] else v % 4294967296 :: limbsN f (v / 4294967296)
def limbs (v : Nat) : List Nat := limbsN 9 v
def big8 : Nat := 4294967296 ^ 8
def oddAfter (zero : Bool) (x : UInt16) : Bool :=
  x.toNat == 46 || x.toNat == 101 || x.toNat == 69 || x.toNat == 95 || (zero && (x.toNat == 120 || x.toNat == 88 || x.toNat == 111 || x.toNat == 79 || x.toNat == 98 || x.toNat == 66))
def bigT (v n : Nat) (r : List UInt16) : Ans :=
  if big8 ≤ v then bad 6
  else if (isAt 0 isLet r || isAt 0 isDigit r) = true then bad 5
  else (0, { noTok with kind := 3, mag := limbs v }, n + 1)
/-- d: the digits; r: what stands behind them -/
def numT' (d r : List UInt16) : Ans :=
  if (isAt 0 (fun x => x.toNat == 48) d && !decide (d = [48])) = true then bad 5
  else if starts [110] r = true then bigT (decVal d) d.length (r.drop 1)
  else if isAt 0 (oddAfter (decide (d = [48]))) r = true then bad 6
  else if isAt 0 isLet r = true then bad 5
  else if 9007199254740991 < decVal d then bad 6
  else (0, { noTok with kind := 2, nn := decVal d }, d.length)
def numberT (l : List UInt16) : Ans := numT' (l.takeWhile isDigit) (l.drop (l.takeWhile isDigit).length)

def hexF (x : UInt16) : Nat :=
  if isDigit x = true then x.toNat - 48 else if 97 ≤ x.toNat ∧ x.toNat ≤ 102 then x.toNat - 87 else if 65 ≤ x.toNat ∧ x.toNat ≤ 70 then x.toNat - 55 else 16
def hexVal (v : Nat) : List UInt16 → Nat
  | [] => v
  | x :: r => hexVal (16 * v + hexF x) r
def isHex (x : UInt16) : Bool := decide (hexF x < 16)
/-- a unit of so many digits of sixteen: an error, the unit, how many units -/
def codeF (n : Nat) (l : List UInt16) : Nat × UInt16 × Nat :=
  if (decide (n ≤ l.length) && (l.take n).all isHex) = true then (0, UInt16.ofNat (hexVal 0 (l.take n)), n) else (5, 0, 0)
def simpleF (x : UInt16) : Option UInt16 :=
  if x = 110 then some 10 else if x = 116 then some 9 else if x = 114 then some 13 else if x = 98 then some 8 else if x = 118 then some 11 else if x = 102 then some 12 else none
def more (n : Nat) (p : Nat × UInt16 × Nat) : Nat × UInt16 × Nat := if p.1 = 0 then (0, p.2.1, n + p.2.2) else p
def escR (x : UInt16) (r : List UInt16) : Nat × UInt16 × Nat :=
  if (x.toNat == 48 && !isAt 0 isDigit r) = true then (0, 0, 1)
  else if isDigit x = true then (5, 0, 0)
  else if (isLine x || isFar x || (x.toNat == 117 && starts [123] r)) = true then (6, 0, 0)
  else if x.toNat = 120 then more 1 (codeF 2 r)
  else if x.toNat = 117 then more 1 (codeF 4 r)
  else (0, x, 1)
def escF : List UInt16 → Nat × UInt16 × Nat
  | [] => (5, 0, 0)
  | x :: r => if (simpleF x).isSome = true then (0, (simpleF x).getD 0, 1) else escR x r
/-- what stands behind a quote: an error, the units, how many units -/
def quoN (q : UInt16) : Nat → List UInt16 → List UInt16 → Nat × List UInt16 × Nat
  | 0, _, _ => (5, [], 0)
  | _ + 1, [], _ => (5, [], 0)
  | f + 1, x :: r, acc =>
    if isLine x = true then (5, [], 0)
    else if x = q then (0, acc, 1)
    else if x.toNat = 92 then
      (if (escF r).1 ≠ 0 then ((escF r).1, [], 0)
       else ((quoN q f (r.drop (escF r).2.2) (acc ++ [(escF r).2.1])).1, (quoN q f (r.drop (escF r).2.2) (acc ++ [(escF r).2.1])).2.1, 1 + (escF r).2.2 + (quoN q f (r.drop (escF r).2.2) (acc ++ [(escF r).2.1])).2.2))
    else ((quoN q f r (acc ++ [x])).1, (quoN q f r (acc ++ [x])).2.1, 1 + (quoN q f r (acc ++ [x])).2.2)
def quoF (q : UInt16) (l : List UInt16) : Nat × List UInt16 × Nat := quoN q (l.length + 1) l []
def quotedT (q : UInt16) (r : List UInt16) : Ans :=
  if (quoF q r).1 ≠ 0 then bad (quoF q r).1 else (0, { noTok with kind := 4, str := (quoF q r).2.1 }, 1 + (quoF q r).2.2)

/-- the sign of so many units that stands ahead -/
def signAt (l : List UInt16) (n : Nat) : Nat :=
  if (decide (n ≤ l.length) && (l.take n).all (fun x => decide (x.toNat ≤ 127)) && !(decide (asc (l.take n) = [63, 46]) && isAt 2 isDigit l)) = true then signF (asc (l.take n)) else 0
def signN (l : List UInt16) : Nat → Option Nat
  | 0 => none
  | n + 1 => if signAt l (n + 1) ≠ 0 then some (n + 1) else signN l n
def signT (z : Bool) (l : List UInt16) : Ans :=
  match signN l 4 with
  | some n => if signAt l n = 2 then bad 6 else (0, { noTok with kind := 5, text := asc (l.take n) }, n)
  | none => if (isAt 0 (fun x => decide (128 ≤ x.toNat) || x.toNat == 96 || x.toNat == 92) l || (z && starts [35, 33] l)) = true then bad 6 else bad 5
/-- the token that stands ahead -/
def tokenT (z : Bool) : List UInt16 → Ans
  | [] => bad 5
  | x :: r =>
    if isLet x = true then wordT (x :: r)
    else if isDigit x = true then numberT (x :: r)
    else if (x.toNat == 39 || x.toNat == 34) = true then quotedT x r
    else if (x.toNat == 46 && isAt 0 isDigit r) = true then bad 6
    else signT z (x :: r)

/-- a token ahead of what comes behind it -/
def consT (t : Tok) (p : List Tok × Nat × Nat) : List Tok × Nat × Nat := if p.2.2 ≠ 0 then ([], p.2) else (t :: p.1, 0, 0)
/-- the token at place k, behind what was passed -/
def tokAt (k : Nat) (l : List UInt16) : Ans := tokenT (k + (passF l).1 == 0) (l.drop (passF l).1)
def setAt (t : Tok) (k : Nat) (nl : Bool) : Tok := { t with pos := k, nl := nl }
/-- tokens, where an error is, the error; k: the place -/
def lexN : Nat → Nat → List UInt16 → List Tok × Nat × Nat
  | 0, _, _ => ([], 0, 0)
  | f + 1, k, l =>
    if (passF l).2.2 ≠ 0 then ([], k + (passF l).1, (passF l).2.2)
    else if l.drop (passF l).1 = [] then ([setAt noTok (k + (passF l).1) (passF l).2.1], 0, 0)
    else if (tokAt k l).1 ≠ 0 then ([], k + (passF l).1, (tokAt k l).1)
    else consT (setAt (tokAt k l).2.1 (k + (passF l).1) (passF l).2.1) (lexN f (k + (passF l).1 + (tokAt k l).2.2) (l.drop ((passF l).1 + (tokAt k l).2.2)))
def lexF (u : List UInt16) : List Tok × Nat × Nat := if 4096 < u.length then ([], 0, 3) else lexN (u.length + 1) 0 u
end Go.Proofs.Ytngcikgjdeomdaa
