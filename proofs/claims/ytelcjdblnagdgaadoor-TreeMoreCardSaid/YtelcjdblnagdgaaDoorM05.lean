/- Joined for a claim: LexFacts. -/
import Derived.Test.YtelcjdblnagdgaaDoorM01
namespace Go.Proofs.YtelcjdblnagdgaaDoor

theorem starts_len {s : List UInt8} {l : List UInt16} (h : starts s l = true) : s.length ≤ l.length := by
  unfold starts at h
  rw [List.isPrefixOf_iff_prefix] at h
  simpa using h.length_le
theorem starts_iff {s : List UInt8} {l : List UInt16} : starts s l = true ↔ s.map (·.toUInt16) = l.take s.length := by
  unfold starts
  rw [List.isPrefixOf_iff_prefix, List.prefix_iff_eq_take]
  simp
theorem rem_le (long : Bool) : ∀ (l : List UInt16) (nl st : Bool), (remGo long l nl st).1 ≤ l.length := by
  intro l
  induction l with
  | nil => intro nl st; simp [remGo]
  | cons x r ih =>
    intro nl st
    unfold remGo
    split
    · rename_i h
      have := starts_len (Bool.and_eq_true _ _ ▸ h).2
      simpa using this
    · split
      · simp
      · have := ih (nl || isLine x) (st || isFar x)
        simp only [plus, List.length_cons]
        omega
theorem remark_le {l : List UInt16} (h : 2 ≤ l.length) : 2 ≤ (remarkF l).1 ∧ (remarkF l).1 ≤ l.length := by
  have := rem_le (starts [47, 42] l) (l.drop 2) false false
  rw [List.length_drop] at this
  simp only [remarkF, plus]
  omega
theorem rem_starts {l : List UInt16} (h : (starts [47, 47] l || starts [47, 42] l) = true) : 2 ≤ l.length := by
  rw [Bool.or_eq_true] at h
  rcases h with h | h
  · exact starts_len h
  · exact starts_len h
theorem passN_le : ∀ (f : Nat) (l : List UInt16) (nl : Bool), (passN f l nl).1 ≤ l.length := by
  intro f
  induction f with
  | zero => intro l nl; simp [passN]
  | succ f ih =>
    intro l nl
    cases l with
    | nil => simp [passN]
    | cons x r =>
      unfold passN
      split
      · have := ih r (nl || isLine x)
        simp only [plus, List.length_cons]
        omega
      · split
        · rename_i h
          have h2 := remark_le (rem_starts h)
          split
          · simp
          · have := ih ((x :: r).drop (remarkF (x :: r)).1) (nl || (remarkF (x :: r)).2.1)
            rw [List.length_drop] at this
            simp only [plus]
            omega
        · simp
theorem pass_le (l : List UInt16) : (passF l).1 ≤ l.length := passN_le _ _ _
theorem passN_fuel : ∀ (f g : Nat) (l : List UInt16) (nl : Bool), l.length ≤ f → l.length ≤ g → passN f l nl = passN g l nl := by
  intro f
  induction f with
  | zero =>
    intro g l nl hf _
    have : l = [] := List.eq_nil_of_length_eq_zero (by omega)
    subst this
    cases g <;> rfl
  | succ f ih =>
    intro g l nl hf hg
    cases l with
    | nil => cases g <;> rfl
    | cons x r =>
      obtain ⟨g, rfl⟩ : ∃ k, g = k + 1 := ⟨g - 1, by simp at hg; omega⟩
      simp only [List.length_cons] at hf hg
      unfold passN
      rw [ih g r (nl || isLine x) (by omega) (by omega)]
      split
      · rfl
      · split
        · rename_i h
          have h2 := remark_le (rem_starts h)
          rw [ih g ((x :: r).drop (remarkF (x :: r)).1) _ (by rw [List.length_drop, List.length_cons]; omega) (by rw [List.length_drop, List.length_cons]; omega)]
        · rfl
/-- pass, with what has been seen of a line end so far -/
def passL (l : List UInt16) (nl : Bool) : Nat × Bool × Nat := passN l.length l nl
theorem passL_nil (nl : Bool) : passL [] nl = (0, nl, 0) := rfl
theorem passL_blank {x : UInt16} {r : List UInt16} (h : (isBl x || isLine x) = true) (nl : Bool) : passL (x :: r) nl = plus 1 (passL r (nl || isLine x)) := by
  unfold passL
  rw [List.length_cons, passN, if_pos h]
theorem passL_remark {x : UInt16} {r : List UInt16} (h : (isBl x || isLine x) = false) (h2 : (starts [47, 47] (x :: r) || starts [47, 42] (x :: r)) = true) (nl : Bool) :
    passL (x :: r) nl = if (remarkF (x :: r)).2.2 ≠ 0 then (0, false, (remarkF (x :: r)).2.2) else plus (remarkF (x :: r)).1 (passL ((x :: r).drop (remarkF (x :: r)).1) (nl || (remarkF (x :: r)).2.1)) := by
  have h3 := remark_le (rem_starts h2)
  unfold passL
  rw [List.length_cons, passN, if_neg (by rw [h]; simp), if_pos h2]
  rw [passN_fuel r.length ((x :: r).drop (remarkF (x :: r)).1).length _ _ (by rw [List.length_drop, List.length_cons]; omega) (Nat.le_refl _)]
theorem passL_stop {x : UInt16} {r : List UInt16} (h : (isBl x || isLine x) = false) (h2 : (starts [47, 47] (x :: r) || starts [47, 42] (x :: r)) = false) (nl : Bool) : passL (x :: r) nl = (0, nl, 0) := by
  unfold passL
  rw [List.length_cons, passN, if_neg (by rw [h]; simp), if_neg (by rw [h2]; simp)]

/-- How far a token goes. -/
theorem takeWhile_le {α : Type} (p : α → Bool) (l : List α) : (l.takeWhile p).length ≤ l.length := (List.takeWhile_sublist p).length_le
theorem code_len {n : Nat} {l : List UInt16} (h : (codeF n l).1 = 0) : (codeF n l).2.2 = n ∧ n ≤ l.length := by
  unfold codeF at h ⊢
  split
  · rename_i h2
    simp only [Bool.and_eq_true, decide_eq_true_eq] at h2
    exact ⟨rfl, h2.1⟩
  · rename_i h2
    rw [if_neg h2] at h
    cases h
theorem escF_cons (x : UInt16) (r : List UInt16) : escF (x :: r) = if (simpleF x).isSome = true then (0, (simpleF x).getD 0, 1) else escR x r := rfl
theorem tokenT_cons (z : Bool) (x : UInt16) (r : List UInt16) : tokenT z (x :: r) = if isLet x = true then wordT (x :: r) else if isDigit x = true then numberT (x :: r) else if (x.toNat == 39 || x.toNat == 34) = true then quotedT x r
    else if (x.toNat == 46 && isAt 0 isDigit r) = true then bad 6 else signT z (x :: r) := rfl
theorem esc_len {l : List UInt16} (h : (escF l).1 = 0) : 1 ≤ (escF l).2.2 ∧ (escF l).2.2 ≤ l.length := by
  cases l with
  | nil => simp [escF] at h
  | cons x r =>
    rw [escF_cons] at h ⊢
    have hm : ∀ k, (more 1 (codeF k r)).1 = 0 → 1 ≤ (more 1 (codeF k r)).2.2 ∧ (more 1 (codeF k r)).2.2 ≤ (x :: r).length := by
      intro k hk
      unfold more at hk ⊢
      split
      · rename_i h3
        have := code_len h3
        simp only [List.length_cons]
        omega
      · rename_i h3
        rw [if_neg h3] at hk
        exact absurd hk h3
    split
    · simp
    · rename_i hs
      rw [if_neg hs] at h
      unfold escR at h ⊢
      by_cases h1 : (x.toNat == 48 && !isAt 0 isDigit r) = true
      · rw [if_pos h1]; simp
      rw [if_neg h1] at h ⊢
      by_cases h2 : isDigit x = true
      · rw [if_pos h2] at h; cases h
      rw [if_neg h2] at h ⊢
      by_cases h3 : (isLine x || isFar x || (x.toNat == 117 && starts [123] r)) = true
      · rw [if_pos h3] at h; cases h
      rw [if_neg h3] at h ⊢
      by_cases h4 : x.toNat = 120
      · rw [if_pos h4] at h ⊢; exact hm 2 h
      rw [if_neg h4] at h ⊢
      by_cases h5 : x.toNat = 117
      · rw [if_pos h5] at h ⊢; exact hm 4 h
      rw [if_neg h5]; simp
theorem quo_len (q : UInt16) : ∀ (f : Nat) (l : List UInt16) (acc : List UInt16), (quoN q f l acc).1 = 0 → 1 ≤ (quoN q f l acc).2.2 ∧ (quoN q f l acc).2.2 ≤ l.length := by
  intro f
  induction f with
  | zero => intro l acc h; simp [quoN] at h
  | succ f ih =>
    intro l acc h
    cases l with
    | nil => simp [quoN] at h
    | cons x r =>
      unfold quoN at h ⊢
      by_cases h1 : isLine x = true
      · rw [if_pos h1] at h; cases h
      rw [if_neg h1] at h ⊢
      by_cases h2 : x = q
      · rw [if_pos h2]; simp
      rw [if_neg h2] at h ⊢
      by_cases h3 : x.toNat = 92
      · rw [if_pos h3] at h ⊢
        by_cases h4 : (escF r).1 ≠ 0
        · rw [if_pos h4] at h
          exact absurd h h4
        · rw [if_neg h4] at h ⊢
          have h5 := esc_len (Decidable.not_not.1 h4)
          have h6 := ih _ _ h
          rw [List.length_drop] at h6
          simp only [List.length_cons]
          omega
      · rw [if_neg h3] at h ⊢
        have h6 := ih _ _ h
        simp only [List.length_cons]
        omega
theorem signN_some {l : List UInt16} : ∀ {m n : Nat}, signN l m = some n → 1 ≤ n ∧ n ≤ m ∧ signAt l n ≠ 0 := by
  intro m
  induction m with
  | zero => intro n h; simp [signN] at h
  | succ m ih =>
    intro n h
    unfold signN at h
    split at h
    · injection h with h
      subst h
      exact ⟨by omega, by omega, by assumption⟩
    · have := ih h
      exact ⟨this.1, by omega, this.2.2⟩
theorem signAt_len {l : List UInt16} {n : Nat} (h : signAt l n ≠ 0) : n ≤ l.length := by
  unfold signAt at h
  split at h
  · rename_i h2
    simp only [Bool.and_eq_true, decide_eq_true_eq] at h2
    exact h2.1.1
  · exact absurd rfl h
theorem bad_err {e : Nat} (h : e ≠ 0) : (bad e).1 ≠ 0 := h
theorem takeWhile_pos {α : Type} {p : α → Bool} {x : α} {r : List α} (h : p x = true) : 1 ≤ ((x :: r).takeWhile p).length := by
  rw [List.takeWhile_cons_of_pos h]; simp
theorem numT_len {d r : List UInt16} (h : (numT' d r).1 = 0) (hd : 1 ≤ d.length) : 1 ≤ (numT' d r).2.2 ∧ (numT' d r).2.2 ≤ d.length + r.length := by
  unfold numT' at h ⊢
  split
  · rename_i h1; rw [if_pos h1] at h; cases h
  · rename_i h1
    rw [if_neg h1] at h
    split
    · rename_i h2
      rw [if_pos h2] at h
      have hl := starts_len h2
      unfold bigT at h ⊢
      split
      · rename_i h3; rw [if_pos h3] at h; cases h
      · rename_i h3
        rw [if_neg h3] at h
        split
        · rename_i h4; rw [if_pos h4] at h; cases h
        · simp at hl
          show 1 ≤ d.length + 1 ∧ d.length + 1 ≤ _
          omega
    · rename_i h2
      rw [if_neg h2] at h
      split
      · rename_i h3; rw [if_pos h3] at h; cases h
      · rename_i h3
        rw [if_neg h3] at h
        split
        · rename_i h4; rw [if_pos h4] at h; cases h
        · rename_i h4
          rw [if_neg h4] at h
          split
          · rename_i h5; rw [if_pos h5] at h; cases h
          · show 1 ≤ d.length ∧ d.length ≤ _
            omega
theorem token_len {z : Bool} {l : List UInt16} (h : (tokenT z l).1 = 0) : 1 ≤ (tokenT z l).2.2 ∧ (tokenT z l).2.2 ≤ l.length := by
  cases l with
  | nil => cases h
  | cons x r =>
    rw [tokenT_cons] at h ⊢
    by_cases h1 : isLet x = true
    · rw [if_pos h1] at h ⊢
      unfold wordT at h ⊢
      split
      · rename_i h2; rw [if_pos h2] at h; cases h
      · exact ⟨takeWhile_pos (by simp [isRun, h1]), takeWhile_le _ _⟩
    rw [if_neg h1] at h ⊢
    by_cases h2 : isDigit x = true
    · rw [if_pos h2] at h ⊢
      unfold numberT at h ⊢
      have := numT_len h (takeWhile_pos h2)
      have h3 := takeWhile_le isDigit (x :: r)
      rw [List.length_drop] at this
      omega
    rw [if_neg h2] at h ⊢
    by_cases h3 : (x.toNat == 39 || x.toNat == 34) = true
    · rw [if_pos h3] at h ⊢
      unfold quotedT at h ⊢
      split
      · rename_i h4; rw [if_pos h4] at h; exact absurd h h4
      · rename_i h4
        have := quo_len x _ _ _ (Decidable.not_not.1 h4)
        simp only [List.length_cons, quoF]
        omega
    rw [if_neg h3] at h ⊢
    by_cases h4 : (x.toNat == 46 && isAt 0 isDigit r) = true
    · rw [if_pos h4] at h; cases h
    rw [if_neg h4] at h ⊢
    unfold signT at h ⊢
    cases hs : signN (x :: r) 4 with
    | none =>
      rw [hs] at h
      simp only at h
      split at h <;> cases h
    | some n =>
      rw [hs] at h
      have h5 := signN_some hs
      have h6 := signAt_len h5.2.2
      simp only at h ⊢
      split
      · rename_i h7; rw [if_pos h7] at h; cases h
      · exact ⟨h5.1, h6⟩
theorem tokAt_len {k : Nat} {l : List UInt16} (h : (tokAt k l).1 = 0) : 1 ≤ (tokAt k l).2.2 ∧ (passF l).1 + (tokAt k l).2.2 ≤ l.length := by
  have h1 := token_len h
  have h2 := pass_le l
  rw [List.length_drop] at h1
  unfold tokAt
  omega
theorem lexN_fuel : ∀ (f g k : Nat) (l : List UInt16), l.length < f → l.length < g → lexN f k l = lexN g k l := by
  intro f
  induction f with
  | zero => intro g k l hf _; omega
  | succ f ih =>
    intro g k l hf hg
    obtain ⟨g, rfl⟩ : ∃ m, g = m + 1 := ⟨g - 1, by omega⟩
    unfold lexN
    split
    · rfl
    · split
      · rfl
      · split
        · rfl
        · rename_i h3
          have h4 := tokAt_len (Decidable.not_not.1 h3)
          rw [ih g _ (l.drop ((passF l).1 + (tokAt k l).2.2)) (by rw [List.length_drop]; omega) (by rw [List.length_drop]; omega)]
/-- tokens from a place on -/
def lexL (k : Nat) (l : List UInt16) : List Tok × Nat × Nat := lexN (l.length + 1) k l
theorem lexL_pass {k : Nat} {l : List UInt16} (h : (passF l).2.2 ≠ 0) : lexL k l = ([], k + (passF l).1, (passF l).2.2) := by
  unfold lexL; rw [lexN, if_pos h]
theorem lexL_end {k : Nat} {l : List UInt16} (h : (passF l).2.2 = 0) (h2 : l.drop (passF l).1 = []) : lexL k l = ([setAt noTok (k + (passF l).1) (passF l).2.1], 0, 0) := by
  unfold lexL; rw [lexN, if_neg (by rw [h]; simp), if_pos h2]
theorem lexL_bad {k : Nat} {l : List UInt16} (h : (passF l).2.2 = 0) (h2 : l.drop (passF l).1 ≠ []) (h3 : (tokAt k l).1 ≠ 0) : lexL k l = ([], k + (passF l).1, (tokAt k l).1) := by
  unfold lexL; rw [lexN, if_neg (by rw [h]; simp), if_neg h2, if_pos h3]
theorem lexL_more {k : Nat} {l : List UInt16} (h : (passF l).2.2 = 0) (h2 : l.drop (passF l).1 ≠ []) (h3 : (tokAt k l).1 = 0) :
    lexL k l = consT (setAt (tokAt k l).2.1 (k + (passF l).1) (passF l).2.1) (lexL (k + (passF l).1 + (tokAt k l).2.2) (l.drop ((passF l).1 + (tokAt k l).2.2))) := by
  have h4 := tokAt_len h3
  unfold lexL
  rw [lexN, if_neg (by rw [h]; simp), if_neg h2, if_neg (by rw [h3]; simp)]
  rw [lexN_fuel l.length ((l.drop ((passF l).1 + (tokAt k l).2.2)).length + 1) _ _ (by rw [List.length_drop]; omega) (by omega)]
theorem lexF_short {u : List UInt16} (h : ¬ 4096 < u.length) : lexF u = lexL 0 u := by unfold lexF lexL; rw [if_neg h]
end Go.Proofs.YtelcjdblnagdgaaDoor
