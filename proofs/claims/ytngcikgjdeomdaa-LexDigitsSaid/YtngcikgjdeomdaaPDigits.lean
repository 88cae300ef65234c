/- A number's digits as tokens. Plain Lean, no program. -/
import Derived.Test.YtngcikgjdeomdaaPSmall
import Derived.Test.YtngcikgjdeomdaaLexNum
namespace Go.Proofs.Ytngcikgjdeomdaa

theorem digit_let {x : UInt16} (h : isDigit x = true) : isLet x = false ∧ (isBl x || isLine x) = false ∧ x ≠ 47 := by
  have h1 := isDigit_iff.1 h
  refine ⟨?_, ?_, ?_⟩
  · unfold isLet
    simp only [Bool.or_eq_false_iff, Bool.and_eq_false_iff, decide_eq_false_iff_not, beq_eq_false_iff_ne]
    omega
  · unfold isBl isLine
    simp only [Bool.or_eq_false_iff, beq_eq_false_iff_ne]
    omega
  · rintro rfl
    revert h
    decide
theorem digits_first {d : List UInt16} (h0 : d ≠ []) (hd : ∀ x ∈ d, isDigit x = true) (r : List UInt16) : passF (d ++ r) = (0, false, 0) ∧ ∀ z, tokenT z (d ++ r) = numberT (d ++ r) := by
  cases d with
  | nil => exact absurd rfl h0
  | cons x s =>
    have hx := hd x (by simp)
    obtain ⟨h1, h2, h3⟩ := digit_let hx
    refine ⟨pass_stop h2 h3, fun z => ?_⟩
    rw [List.cons_append, tokenT_cons, if_neg (by rw [h1]; simp), if_pos hx]
theorem numberT_app {d r : List UInt16} (hd : ∀ x ∈ d, isDigit x = true) (hr : isAt 0 isDigit r = false) : numberT (d ++ r) = numT' d r := by
  have h1 : (d ++ r).takeWhile isDigit = d := by
    induction d with
    | nil =>
      cases r with
      | nil => rfl
      | cons y s =>
        rw [List.nil_append, List.takeWhile_cons_of_neg]
        have : isAt 0 isDigit (y :: s) = isDigit y := rfl
        rw [this] at hr
        rw [hr]; simp
    | cons x s ih => rw [List.cons_append, List.takeWhile_cons_of_pos (hd x (by simp)), ih (fun y hy => hd y (by simp [hy]))]
  unfold numberT
  rw [h1, List.drop_left]
theorem lexL_one {k : Nat} {l : List UInt16} {t : Tok} (hp : passF l = (0, false, 0)) (hne : l ≠ []) (ht : tokAt k l = (0, t, l.length)) : lexL k l = ([setAt t k false, setAt noTok (k + l.length) false], 0, 0) := by
  rw [lexL_more (by rw [hp]) (by rw [hp]; exact hne) (by rw [ht]), hp, ht]
  simp only [Nat.add_zero, Nat.zero_add]
  rw [List.drop_length, lexL_end (by rw [pass_nil]) (by rw [pass_nil]; rfl), pass_nil]
  rfl
theorem lexL_none {k : Nat} {l : List UInt16} {t : Tok} {e n : Nat} (hp : passF l = (0, false, 0)) (hne : l ≠ []) (ht : tokAt k l = (e, t, n)) (he : e ≠ 0) : lexL k l = ([], k, e) := by
  rw [lexL_bad (by rw [hp]) (by rw [hp]; exact hne) (by rw [ht]; exact he), hp, ht]
  rfl
def dec16 (n : Nat) : List UInt16 := ascii (decS n)
theorem dec16_pos (n : Nat) : dec16 n ≠ [] := by
  intro h
  have h1 := congrArg List.length h
  have h2 := decS_pos n
  unfold dec16 at h1
  rw [ascii_len] at h1
  simp only [List.length_nil] at h1
  omega
theorem dec16_lead (n : Nat) : (isAt 0 (fun x => x.toNat == 48) (dec16 n) && !decide (dec16 n = [48])) = false := by
  have h0 : 0 < (dec16 n).length := List.length_pos_iff.2 (dec16_pos n)
  have hh := decS_head n h0
  by_cases h1 : 1 < (dec16 n).length
  · have h2 := hh h1
    rw [Bool.and_eq_false_iff]
    left
    unfold isAt
    rw [List.getElem?_eq_getElem h0]
    show ((dec16 n)[0].toNat == 48) = false
    rw [beq_eq_false_iff_ne]
    intro h3
    exact h2 (UInt16.toNat_inj.1 h3)
  · obtain ⟨x, hx⟩ : ∃ x, dec16 n = [x] := List.length_eq_one_iff.1 (by omega)
    rw [hx]
    by_cases h3 : x = 48
    · rw [h3]; decide
    · rw [Bool.and_eq_false_iff]
      left
      show (x.toNat == 48) = false
      rw [beq_eq_false_iff_ne]
      intro h4
      exact h3 (UInt16.toNat_inj.1 h4)
theorem tokAt_dec (k n : Nat) (r : List UInt16) (hr : isAt 0 isDigit r = false) : passF (dec16 n ++ r) = (0, false, 0) ∧ tokAt k (dec16 n ++ r) = numT' (dec16 n) r := by
  obtain ⟨h1, h2⟩ := digits_first (dec16_pos n) (decS_all n) r
  refine ⟨h1, ?_⟩
  unfold tokAt
  rw [h1, List.drop_zero, h2]
  exact numberT_app (d := dec16 n) (decS_all n) hr
theorem lex_num (k n : Nat) : lexL k (dec16 n) = if n ≤ 9007199254740991 then ([setAt { noTok with kind := 2, nn := n } k false, setAt noTok (k + (dec16 n).length) false], 0, 0) else ([], k, 6) := by
  obtain ⟨h1, h2⟩ := tokAt_dec k n [] rfl
  rw [List.append_nil] at h1 h2
  have hv : decVal (dec16 n) = n := decS_val n
  unfold numT' at h2
  rw [if_neg (by rw [dec16_lead]; simp), if_neg (by simp [starts]), if_neg (by simp [isAt]), if_neg (by simp [isAt]), hv] at h2
  by_cases h : n ≤ 9007199254740991
  · rw [if_pos h]
    rw [if_neg (by omega)] at h2
    exact lexL_one h1 (dec16_pos n) h2
  · rw [if_neg h]
    rw [if_pos (by omega)] at h2
    exact lexL_none h1 (dec16_pos n) h2 (by simp)
theorem lex_bign {n : Nat} (h : n < big8) : lexL 0 (dec16 n ++ [110]) = ([setAt { noTok with kind := 3, mag := limbs n } 0 false, setAt noTok (0 + (dec16 n ++ [110]).length) false], 0, 0) := by
  obtain ⟨h1, h2⟩ := tokAt_dec 0 n [110] (by decide)
  have hv : decVal (dec16 n) = n := decS_val n
  unfold numT' at h2
  rw [if_neg (by rw [dec16_lead]; simp), if_pos (by decide), hv] at h2
  unfold bigT at h2
  rw [if_neg (Nat.not_le.2 h), if_neg (by simp [isAt])] at h2
  exact lexL_one h1 (by simp) (by rw [h2]; simp)
theorem lex_lead (n : Nat) : lexL 0 ([48] ++ dec16 n) = ([], 0, 5) := by
  have hall : ∀ x ∈ 48 :: dec16 n, isDigit x = true := by
    intro x hx
    rcases List.mem_cons.1 hx with h | h
    · rw [h]; decide
    · exact decS_all n x h
  obtain ⟨h1, h2⟩ := digits_first (d := 48 :: dec16 n) (by simp) hall []
  rw [List.append_nil] at h1 h2
  have ht : tokAt 0 (48 :: dec16 n) = (5, noTok, 0) := by
    unfold tokAt
    rw [h1, List.drop_zero, h2]
    have := numberT_app (d := 48 :: dec16 n) (r := []) hall rfl
    rw [List.append_nil] at this
    rw [this]
    unfold numT'
    rw [if_pos]
    · rfl
    · have : (48 :: dec16 n = [48]) = False := by
        simp [dec16_pos n]
      simp [isAt, dec16_pos n]
  exact lexL_none h1 (by simp) ht (by simp)
theorem signs_second : ∀ b ∈ signsIn ++ signsOut, ∀ c ∈ b[1]?, ¬ (48 ≤ c.toNat ∧ c.toNat ≤ 57) := by decide +kernel
theorem signF_digit {a c : UInt8} {r : List UInt8} (h : 48 ≤ c.toNat ∧ c.toNat ≤ 57) : signF (a :: c :: r) = 0 := by
  unfold signF
  rw [if_neg, if_neg]
  · intro hm
    exact signs_second _ (List.mem_append_right _ hm) c rfl h
  · intro hm
    exact signs_second _ (List.mem_append_left _ hm) c rfl h
theorem neg_sign (z : Bool) (n : Nat) : signT z (45 :: dec16 n) = (0, { noTok with kind := 5, text := [45] }, 1) := by
  obtain ⟨x, r, hx⟩ := List.exists_cons_of_ne_nil (dec16_pos n)
  have hd : isDigit x = true := decS_all n x (by show x ∈ dec16 n; rw [hx]; simp)
  have hd2 := isDigit_iff.1 hd
  rw [hx]
  have h2 : ∀ m, signAt (45 :: x :: r) (m + 2) = 0 := by
    intro m
    unfold signAt
    split
    · rw [List.take_succ_cons, List.take_succ_cons]
      unfold asc
      rw [List.map_cons, List.map_cons]
      refine signF_digit ?_
      have : x.toUInt8.toNat = x.toNat % 256 := rfl
      rw [this]
      omega
    · rfl
  have h1 : signAt (45 :: x :: r) 1 = 1 := by
    unfold signAt
    rw [if_pos (by simp [asc])]
    show signF [45] = 1
    decide
  have hs : signN (45 :: x :: r) 4 = some 1 := by
    rw [signN_skip (h2 2), signN_skip (h2 1), signN_skip (h2 0), signN_hit (by rw [h1]; decide)]
  unfold signT
  rw [hs]
  simp only
  rw [if_neg (by rw [h1]; decide)]
  rfl
theorem lex_neg (n : Nat) : lexL 0 ([45] ++ dec16 n) = consT { noTok with kind := 5, text := [45] } (lexL 1 (dec16 n)) := by
  have hp : passF (45 :: dec16 n) = (0, false, 0) := pass_stop (by decide) (by decide)
  have ht : tokAt 0 (45 :: dec16 n) = (0, { noTok with kind := 5, text := [45] }, 1) := by
    unfold tokAt
    rw [hp, List.drop_zero, tokenT_cons, if_neg (by decide), if_neg (by decide), if_neg (by decide), if_neg (by simp), neg_sign]
  show lexL 0 (45 :: dec16 n) = _
  rw [lexL_more (by rw [hp]) (by rw [hp]; simp) (by rw [ht]), hp, ht]
  rfl
theorem dec_short {n : Nat} (h : n ≤ 9223372036854775808) : (decS n).length ≤ 19 := decS_len_le (k := 18) (by omega)
end Go.Proofs.Ytngcikgjdeomdaa
