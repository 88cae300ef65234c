/- Two sources with a line end, or a blank, between: the first one's tokens stay. Plain Lean, no program. -/
import Derived.Test.YtngcikgjdeomdaaPSmall
import Derived.Test.YtngcikgjdeomdaaLexSignW
namespace Go.Proofs.Ytngcikgjdeomdaa

section
variable {x : UInt16} {v : List UInt16}
theorem takeWhile_app {p : UInt16 → Bool} (hp : p x = false) (l : List UInt16) : (l ++ x :: v).takeWhile p = l.takeWhile p := by
  induction l with
  | nil => rw [List.nil_append, List.takeWhile_cons_of_neg (by rw [hp]; simp)]; rfl
  | cons c r ih =>
    rw [List.cons_append]
    by_cases h : p c = true
    · rw [List.takeWhile_cons_of_pos h, List.takeWhile_cons_of_pos h, ih]
    · rw [List.takeWhile_cons_of_neg h, List.takeWhile_cons_of_neg h]
theorem isAt_app {k : Nat} {p : UInt16 → Bool} (hp : p x = false) {l : List UInt16} (hk : k ≤ l.length) : isAt k p (l ++ x :: v) = isAt k p l := by
  unfold isAt
  by_cases h : k < l.length
  · rw [List.getElem?_append_left h]
  · obtain rfl : k = l.length := by omega
    rw [List.getElem?_append_right (Nat.le_refl _), Nat.sub_self, List.getElem?_eq_none (Nat.le_refl _)]
    simp [hp]
theorem starts_one (c : UInt8) (y : UInt16) (s : List UInt16) : starts [c] (y :: s) = (c.toUInt16 == y) := by simp [starts, List.isPrefixOf]
theorem starts1_app {c : UInt8} (hc : x ≠ c.toUInt16) (l : List UInt16) : starts [c] (l ++ x :: v) = starts [c] l := by
  cases l with
  | nil => rw [List.nil_append, starts_cons_ne hc]; rfl
  | cons y r => rw [List.cons_append, starts_one, starts_one]
theorem starts2_app {a c : UInt8} (hc : x ≠ c.toUInt16) (y : UInt16) (r : List UInt16) : starts [a, c] (y :: r ++ x :: v) = starts [a, c] (y :: r) := by
  cases r with
  | nil =>
    simp only [starts, List.map_cons, List.map_nil, List.cons_append, List.nil_append, List.isPrefixOf]
    rw [show (c.toUInt16 == x) = false from beq_eq_false_iff_ne.2 (fun e => hc e.symm)]
    simp
  | cons z s => simp [starts, List.isPrefixOf]
theorem wordT_app (hx : x = 10 ∨ x = 32) (l : List UInt16) : wordT (l ++ x :: v) = wordT l := by
  have h1 : isRun x = false := by rcases hx with rfl | rfl <;> decide
  have h2 : x ≠ (92 : UInt8).toUInt16 := by rcases hx with rfl | rfl <;> decide
  unfold wordT
  rw [takeWhile_app h1, List.drop_append_of_le_length (takeWhile_le _ _), starts1_app h2]
theorem numT_app (hx : x = 10 ∨ x = 32) (d r : List UInt16) : numT' d (r ++ x :: v) = numT' d r := by
  have h1 : x ≠ (110 : UInt8).toUInt16 := by rcases hx with rfl | rfl <;> decide
  have h2 : ∀ z, oddAfter z x = false := by intro z; rcases hx with rfl | rfl <;> cases z <;> decide
  have h3 : isLet x = false := by rcases hx with rfl | rfl <;> decide
  have h4 : isDigit x = false := by rcases hx with rfl | rfl <;> decide
  unfold numT'
  rw [starts1_app h1, isAt_app (h2 _) (Nat.zero_le _), isAt_app h3 (Nat.zero_le _)]
  cases r with
  | nil => rfl
  | cons y s =>
    have hb : ∀ a b, bigT a b ((y :: s ++ x :: v).drop 1) = bigT a b ((y :: s).drop 1) := by
      intro a b
      unfold bigT
      simp only [List.cons_append, List.drop_succ_cons, List.drop_zero]
      rw [isAt_app h3 (Nat.zero_le _), isAt_app h4 (Nat.zero_le _)]
    rw [hb]
theorem numberT_app2 (hx : x = 10 ∨ x = 32) (l : List UInt16) : numberT (l ++ x :: v) = numberT l := by
  have h1 : isDigit x = false := by rcases hx with rfl | rfl <;> decide
  unfold numberT
  rw [takeWhile_app h1, List.drop_append_of_le_length (takeWhile_le _ _), numT_app hx]
theorem codeF_app {n : Nat} {l : List UInt16} (h : (codeF n l).1 = 0) (y : List UInt16) : codeF n (l ++ y) = codeF n l := by
  have hl := code_len h
  unfold codeF
  rw [List.take_append_of_le_length hl.2, decide_eq_true hl.2, decide_eq_true (by rw [List.length_append]; omega)]
theorem escF_app (hx : x = 10 ∨ x = 32) {l : List UInt16} (h : (escF l).1 = 0) : escF (l ++ x :: v) = escF l := by
  have h1 : isDigit x = false := by rcases hx with rfl | rfl <;> decide
  have h2 : x ≠ (123 : UInt8).toUInt16 := by rcases hx with rfl | rfl <;> decide
  cases l with
  | nil => cases h
  | cons c r =>
    rw [List.cons_append, escF_cons, escF_cons]
    rw [escF_cons] at h
    by_cases hs : (simpleF c).isSome = true
    · rw [if_pos hs, if_pos hs]
    · rw [if_neg hs] at h ⊢
      rw [if_neg hs]
      unfold escR at h ⊢
      rw [isAt_app h1 (Nat.zero_le _), starts1_app h2]
      by_cases c1 : (c.toNat == 48 && !isAt 0 isDigit r) = true
      · rw [if_pos c1, if_pos c1]
      rw [if_neg c1] at h ⊢
      rw [if_neg c1]
      by_cases c2 : isDigit c = true
      · rw [if_pos c2, if_pos c2]
      rw [if_neg c2] at h ⊢
      rw [if_neg c2]
      by_cases c3 : (isLine c || isFar c || (c.toNat == 117 && starts [123] r)) = true
      · rw [if_pos c3, if_pos c3]
      rw [if_neg c3] at h ⊢
      rw [if_neg c3]
      have hm : ∀ n, (more 1 (codeF n r)).1 = 0 → (codeF n r).1 = 0 := by
        intro n hn
        unfold more at hn
        by_cases h0 : (codeF n r).1 = 0
        · exact h0
        · rw [if_neg h0] at hn; exact hn
      by_cases c4 : c.toNat = 120
      · rw [if_pos c4] at h ⊢
        rw [if_pos c4, codeF_app (hm _ h)]
      rw [if_neg c4] at h ⊢
      rw [if_neg c4]
      by_cases c5 : c.toNat = 117
      · rw [if_pos c5] at h ⊢
        rw [if_pos c5, codeF_app (hm _ h)]
      rw [if_neg c5, if_neg c5]
theorem quoN_app (hx : x = 10 ∨ x = 32) (q : UInt16) : ∀ (f : Nat) (l acc : List UInt16), (quoN q f l acc).1 = 0 → quoN q f (l ++ x :: v) acc = quoN q f l acc := by
  intro f
  induction f with
  | zero => intro l acc h; cases h
  | succ f ih =>
    intro l acc
    cases l with
    | nil => intro h; cases h
    | cons c r =>
      rw [List.cons_append, quoN, quoN]
      by_cases h1 : isLine c = true
      · rw [if_pos h1]; intro h; cases h
      rw [if_neg h1, if_neg h1]
      by_cases h2 : c = q
      · rw [if_pos h2, if_pos h2]; intro _; rfl
      rw [if_neg h2, if_neg h2]
      by_cases h3 : c.toNat = 92
      · rw [if_pos h3, if_pos h3]
        by_cases h4 : (escF r).1 ≠ 0
        · rw [if_pos h4]; intro h; exact absurd h h4
        · have h5 := Decidable.not_not.1 h4
          rw [if_neg h4, escF_app hx h5, if_neg h4]
          intro h
          have h6 := esc_len h5
          rw [List.drop_append_of_le_length h6.2, ih _ _ h]
      · rw [if_neg h3, if_neg h3]
        intro h
        rw [ih _ _ h]
theorem quoN_mono (q : UInt16) : ∀ (f g : Nat) (l acc : List UInt16), f ≤ g → (quoN q f l acc).1 = 0 → quoN q g l acc = quoN q f l acc := by
  intro f
  induction f with
  | zero => intro g l acc _ h; cases h
  | succ f ih =>
    intro g l acc hg
    obtain ⟨g, rfl⟩ : ∃ m, g = m + 1 := ⟨g - 1, by omega⟩
    cases l with
    | nil => intro h; cases h
    | cons c r =>
      rw [quoN, quoN]
      by_cases h1 : isLine c = true
      · rw [if_pos h1]; intro h; cases h
      rw [if_neg h1, if_neg h1]
      by_cases h2 : c = q
      · rw [if_pos h2, if_pos h2]; intro _; rfl
      rw [if_neg h2, if_neg h2]
      by_cases h3 : c.toNat = 92
      · rw [if_pos h3, if_pos h3]
        by_cases h4 : (escF r).1 ≠ 0
        · rw [if_pos h4]; intro h; exact absurd h h4
        · rw [if_neg h4, if_neg h4]
          intro h
          rw [ih g _ _ (by omega) h]
      · rw [if_neg h3, if_neg h3]
        intro h
        rw [ih g _ _ (by omega) h]
theorem quotedT_app (hx : x = 10 ∨ x = 32) {q : UInt16} {l : List UInt16} (h : (quotedT q l).1 = 0) : quotedT q (l ++ x :: v) = quotedT q l := by
  have h1 : (quoF q l).1 = 0 := by
    unfold quotedT at h
    by_cases h2 : (quoF q l).1 ≠ 0
    · rw [if_pos h2] at h; exact absurd h h2
    · exact Decidable.not_not.1 h2
  have h3 : quoF q (l ++ x :: v) = quoF q l := by
    unfold quoF at h1 ⊢
    have h4 := quoN_app (v := v) hx q _ _ _ h1
    rw [quoN_mono q (l.length + 1) ((l ++ x :: v).length + 1) _ _ (by rw [List.length_append]; omega) (by rw [h4]; exact h1), h4]
  unfold quotedT
  rw [h3]
theorem signs_plain : ∀ b ∈ signsIn ++ signsOut, (10 : UInt8) ∉ b ∧ (32 : UInt8) ∉ b := by decide +kernel
theorem signF_stop {b : List UInt8} (h : (10 : UInt8) ∈ b ∨ (32 : UInt8) ∈ b) : signF b = 0 := by
  unfold signF
  have hn : ∀ s, b ∈ s → s = signsIn ∨ s = signsOut → False := by
    intro s hb hs
    have h2 : b ∈ signsIn ++ signsOut := by rcases hs with rfl | rfl; exact List.mem_append_left _ hb; exact List.mem_append_right _ hb
    obtain ⟨h3, h4⟩ := signs_plain b h2
    rcases h with h | h
    · exact h3 h
    · exact h4 h
  rw [if_neg (fun hb => hn _ hb (.inl rfl)), if_neg (fun hb => hn _ hb (.inr rfl))]
theorem signAt_app (hx : x = 10 ∨ x = 32) (l : List UInt16) (n : Nat) : signAt (l ++ x :: v) n = signAt l n := by
  have h1 : isDigit x = false := by rcases hx with rfl | rfl <;> decide
  by_cases hn : n ≤ l.length
  · unfold signAt
    rw [List.take_append_of_le_length hn, decide_eq_true hn, decide_eq_true (by rw [List.length_append]; omega)]
    by_cases ha : asc (l.take n) = [63, 46]
    · have h2 : n = 2 := by
        have := congrArg List.length ha
        simp only [asc, List.length_map, List.length_take, List.length_cons, List.length_nil] at this
        omega
      rw [isAt_app h1 (by omega)]
    · rw [decide_eq_false ha]
      simp
  · have h2 : signAt l n = 0 := by
      unfold signAt
      rw [decide_eq_false hn]
      simp
    rw [h2]
    unfold signAt
    split
    · refine signF_stop ?_
      have hm : x ∈ (l ++ x :: v).take n := by
        rw [List.take_append]
        refine List.mem_append_right _ ?_
        obtain ⟨m, hm⟩ : ∃ m, n - l.length = m + 1 := ⟨n - l.length - 1, by omega⟩
        rw [hm, List.take_succ_cons]
        simp
      have hm2 : x.toUInt8 ∈ asc ((l ++ x :: v).take n) := List.mem_map_of_mem hm
      rcases hx with rfl | rfl
      · exact .inl hm2
      · exact .inr hm2
    · rfl
theorem signN_app (hx : x = 10 ∨ x = 32) (l : List UInt16) : ∀ m, signN (l ++ x :: v) m = signN l m := by
  intro m
  induction m with
  | zero => rfl
  | succ m ih => rw [signN, signN, signAt_app hx, ih]
theorem signT_app (hx : x = 10 ∨ x = 32) {z : Bool} {l : List UInt16} (h : (signT z l).1 = 0) : signT z (l ++ x :: v) = signT z l := by
  unfold signT at h ⊢
  rw [signN_app hx]
  cases hs : signN l 4 with
  | none =>
    rw [hs] at h
    simp only at h
    split at h <;> cases h
  | some n =>
    have h5 := signN_some hs
    have h6 := signAt_len h5.2.2
    simp only
    rw [signAt_app hx, List.take_append_of_le_length h6]
theorem tokenT_app (hx : x = 10 ∨ x = 32) {z : Bool} {l : List UInt16} (h : (tokenT z l).1 = 0) : tokenT z (l ++ x :: v) = tokenT z l := by
  have h1 : isDigit x = false := by rcases hx with rfl | rfl <;> decide
  cases l with
  | nil => cases h
  | cons c r =>
    rw [tokenT_cons] at h
    rw [List.cons_append, tokenT_cons, tokenT_cons, ← List.cons_append]
    by_cases c1 : isLet c = true
    · rw [if_pos c1, if_pos c1, wordT_app hx]
    rw [if_neg c1] at h ⊢
    rw [if_neg c1]
    by_cases c2 : isDigit c = true
    · rw [if_pos c2, if_pos c2, numberT_app2 hx]
    rw [if_neg c2] at h ⊢
    rw [if_neg c2]
    by_cases c3 : (c.toNat == 39 || c.toNat == 34) = true
    · rw [if_pos c3] at h ⊢
      rw [if_pos c3, quotedT_app hx h]
    rw [if_neg c3] at h ⊢
    rw [if_neg c3, isAt_app h1 (Nat.zero_le _)]
    by_cases c4 : (c.toNat == 46 && isAt 0 isDigit r) = true
    · rw [if_pos c4, if_pos c4]
    rw [if_neg c4] at h ⊢
    rw [if_neg c4, signT_app hx h]

/-- What may stand ahead of the unit between: ahead of a blank, nothing that begins a remark up to a line's end. -/
def Ahead (x : UInt16) (l : List UInt16) : Prop := x = 10 ∨ x = 32 ∧ ∀ i, starts [47, 47] (l.drop i) = false
theorem Ahead.stop {l : List UInt16} (h : Ahead x l) : x = 10 ∨ x = 32 := by
  rcases h with h | h
  · exact .inl h
  · exact .inr h.1
theorem Ahead.drop {l : List UInt16} (h : Ahead x l) (n : Nat) : Ahead x (l.drop n) := by
  rcases h with h | ⟨h, h2⟩
  · exact .inl h
  · exact .inr ⟨h, fun i => by rw [List.drop_drop]; exact h2 _⟩
theorem remLong_app (hx : x = 10 ∨ x = 32) : ∀ (l : List UInt16) (nl st : Bool), (remGo true l nl st).2.2 = 0 → remGo true (l ++ x :: v) nl st = remGo true l nl st := by
  intro l
  have h47 : x ≠ (47 : UInt8).toUInt16 := by rcases hx with rfl | rfl <;> decide
  induction l with
  | nil => intro nl st h; cases h
  | cons c r ih =>
    intro nl st
    rw [List.cons_append, remGo, remGo, ← List.cons_append, starts2_app h47]
    by_cases h1 : (true && starts [42, 47] (c :: r)) = true
    · rw [if_pos h1, if_pos h1]; intro _; rfl
    rw [if_neg h1, if_neg h1, if_neg (by simp), if_neg (by simp)]
    intro h
    rw [ih _ _ h]
theorem remLine_app : ∀ (l : List UInt16) (nl st : Bool), remGo false (l ++ 10 :: v) nl st = remGo false l nl st := by
  intro l
  induction l with
  | nil =>
    intro nl st
    rw [List.nil_append, remGo, remGo, if_neg (by simp), if_pos (by decide)]
    rfl
  | cons c r ih =>
    intro nl st
    rw [List.cons_append]
    simp only [remGo, Bool.false_and, Bool.false_eq_true, if_false, Bool.not_false, Bool.true_and]
    rw [ih]
theorem remarkF_app {l : List UInt16} (ha : Ahead x l) (hs : (starts [47, 47] l || starts [47, 42] l) = true) (h : (remarkF l).2.2 = 0) : remarkF (l ++ x :: v) = remarkF l := by
  have hx := ha.stop
  have h42 : x ≠ (42 : UInt8).toUInt16 := by rcases hx with rfl | rfl <;> decide
  have h2 := rem_starts hs
  have hst : starts [47, 42] (l ++ x :: v) = starts [47, 42] l := by
    cases l with
    | nil => simp at h2
    | cons c r => exact starts2_app h42 c r
  unfold remarkF at h ⊢
  rw [hst, List.drop_append_of_le_length h2]
  cases hl : starts [47, 42] l with
  | true =>
    rw [hl] at h
    rw [remLong_app hx _ _ _ h]
  | false =>
    rcases ha with rfl | ⟨_, h3⟩
    · rw [remLine_app]
    · have := h3 0
      rw [List.drop_zero] at this
      rw [this, hl] at hs
      cases hs
theorem passL_app : ∀ (n : Nat) (l : List UInt16) (b : Bool), l.length < n → Ahead x l → (passL l b).2.2 = 0 → passL (l ++ x :: v) b = if (passL l b).1 < l.length then passL l b else plus l.length (passL (x :: v) (passL l b).2.1) := by
  intro n
  induction n with
  | zero => intro l b h; omega
  | succ n ih =>
    intro l b hl ha
    have hx := ha.stop
    have h47 : x ≠ (47 : UInt8).toUInt16 := by rcases hx with rfl | rfl <;> decide
    have h42 : x ≠ (42 : UInt8).toUInt16 := by rcases hx with rfl | rfl <;> decide
    cases l with
    | nil =>
      intro _
      rw [List.nil_append, passL_nil, if_neg (by simp)]
      simp [plus]
    | cons c r =>
      simp only [List.length_cons] at hl
      by_cases h1 : (isBl c || isLine c) = true
      · rw [passL_blank h1, List.cons_append, passL_blank h1]
        intro h
        have h2 := ih r (b || isLine c) (by omega) (by have := ha.drop 1; exact this) h
        rw [h2]
        by_cases h3 : (passL r (b || isLine c)).1 < r.length
        · rw [if_pos h3, if_pos (show (plus 1 (passL r (b || isLine c))).1 < (c :: r).length by simp only [plus, List.length_cons]; omega)]
        · rw [if_neg h3, if_neg (show ¬ (plus 1 (passL r (b || isLine c))).1 < (c :: r).length by simp only [plus, List.length_cons]; omega)]
          simp only [plus, List.length_cons, Prod.mk.injEq, and_true]
          omega
      · have h1' : (isBl c || isLine c) = false := by simpa using h1
        by_cases h2 : (starts [47, 47] (c :: r) || starts [47, 42] (c :: r)) = true
        · have h2' : (starts [47, 47] (c :: r ++ x :: v) || starts [47, 42] (c :: r ++ x :: v)) = true := by rw [starts2_app h47, starts2_app h42]; exact h2
          have hrl := remark_le (rem_starts h2)
          rw [passL_remark h1' h2]
          by_cases h3 : (remarkF (c :: r)).2.2 ≠ 0
          · rw [if_pos h3]; intro h; exact absurd h h3
          · rw [if_neg h3]
            intro h
            have hra := remarkF_app (v := v) ha h2 (Decidable.not_not.1 h3)
            have hd : (c :: r ++ x :: v).drop (remarkF (c :: r)).1 = (c :: r).drop (remarkF (c :: r)).1 ++ x :: v := List.drop_append_of_le_length hrl.2
            have hp : passL (c :: r ++ x :: v) b = _ := passL_remark (x := c) (r := r ++ x :: v) h1' h2' b
            rw [← List.cons_append, hra, if_neg h3, hd] at hp
            rw [hp]
            have h4 := ih ((c :: r).drop (remarkF (c :: r)).1) (b || (remarkF (c :: r)).2.1) (by rw [List.length_drop, List.length_cons]; omega) (ha.drop _) h
            rw [h4, List.length_drop]
            by_cases h5 : (passL ((c :: r).drop (remarkF (c :: r)).1) (b || (remarkF (c :: r)).2.1)).1 < (c :: r).length - (remarkF (c :: r)).1
            · rw [if_pos h5, if_pos (show (plus (remarkF (c :: r)).1 (passL ((c :: r).drop (remarkF (c :: r)).1) (b || (remarkF (c :: r)).2.1))).1 < (c :: r).length by simp only [plus]; omega)]
            · rw [if_neg h5, if_neg (show ¬ (plus (remarkF (c :: r)).1 (passL ((c :: r).drop (remarkF (c :: r)).1) (b || (remarkF (c :: r)).2.1))).1 < (c :: r).length by simp only [plus]; omega)]
              simp only [plus, Prod.mk.injEq, and_true]
              omega
        · have h2' : (starts [47, 47] (c :: r) || starts [47, 42] (c :: r)) = false := by simpa using h2
          have h3' : (starts [47, 47] (c :: r ++ x :: v) || starts [47, 42] (c :: r ++ x :: v)) = false := by rw [starts2_app h47, starts2_app h42]; exact h2'
          rw [passL_stop h1' h2']
          intro _
          rw [if_pos (by simp)]
          exact passL_stop (x := c) (r := r ++ x :: v) h1' h3' b
theorem prep_own (k : Nat) (l : List UInt16) (b : Bool) : prep [] (if b = true then nl0 (lexL k l) else lexL k l) = if b = true then nl0 (lexL k l) else lexL k l := by
  have h1 : (lexL k l).2.2 ≠ 0 → (lexL k l).1 = [] := lexL_err _ _ _
  have h2 : (lexL k l).2.2 = 0 → (lexL k l).2.1 = 0 := lexL_zero _ _ _
  obtain ⟨⟨ts, a, e⟩, hq⟩ : ∃ q, lexL k l = q := ⟨_, rfl⟩
  rw [hq] at h1 h2 ⊢
  simp only at h1 h2
  by_cases he : e = 0
  · have := h2 he
    subst this he
    cases b <;> simp [prep, nl0]
  · have := h1 he
    subst this
    cases b <;> simp [prep, nl0, he]
theorem consT_prep (t : Tok) (acc : List Tok) (q : List Tok × Nat × Nat) : consT t (prep acc q) = prep (t :: acc) q := by
  unfold consT prep
  by_cases h : q.2.2 ≠ 0
  · rw [if_pos h, if_pos h]; simp only; rw [if_pos h]
  · rw [if_neg h, if_neg h]; simp
theorem lexL_app : ∀ (n : Nat) (l : List UInt16) (k : Nat), l.length < n → Ahead x l → (lexL k l).2.2 = 0 → ∃ init b, (lexL k l).1 = init ++ [setAt noTok (k + l.length) b] ∧
    lexL k (l ++ x :: v) = prep init (if b = true then nl0 (lexL (k + l.length) (x :: v)) else lexL (k + l.length) (x :: v)) := by
  intro n
  induction n with
  | zero => intro l k h; omega
  | succ n ih =>
    intro l k hl ha h
    have hx := ha.stop
    have hpe : (passF l).2.2 = 0 := by
      by_cases h1 : (passF l).2.2 ≠ 0
      · rw [lexL_pass h1] at h; exact absurd h h1
      · exact Decidable.not_not.1 h1
    have hpa := passL_app (v := v) (l.length + 1) l false (by omega) ha hpe
    have hpl := pass_le l
    by_cases h2 : l.drop (passF l).1 = []
    · have hpn : (passF l).1 = l.length := by
        have := congrArg List.length h2
        rw [List.length_drop] at this
        simp at this
        omega
      rw [show passL l false = passF l from rfl, hpn, if_neg (by omega), passL_nl (x :: v)] at hpa
      have hpa' : passF (l ++ x :: v) = _ := hpa
      refine ⟨[], (passF l).2.1, by rw [lexL_end hpe h2, hpn]; rfl, ?_⟩
      have hlike := lexL_like (k := k) (k' := k + l.length) (j := l.length) (l := l ++ x :: v) (l' := x :: v) (b := (passF l).2.1) (by rw [hpa']; rfl) (by rw [hpa']; rfl)
        (fun h0 => by rw [hpa']; simp [plus, h0]) (fun m => by rw [List.drop_append]; simp) rfl
        (by
          unfold tokAt
          rw [hpa']
          simp only [plus]
          rw [show k + (l.length + (passF (x :: v)).1) = k + l.length + (passF (x :: v)).1 by omega, List.drop_append, List.drop_of_length_le (l := l) (by omega), Nat.add_sub_cancel_left, List.nil_append])
      rw [hlike]
      exact (prep_own _ _ _).symm
    · have hpn : (passF l).1 < l.length := by
        rcases Nat.lt_or_ge (passF l).1 l.length with h3 | h3
        · exact h3
        · exact absurd (List.drop_of_length_le h3) h2
      have hpa' : passF (l ++ x :: v) = passF l := by
        have := hpa
        rw [show passL l false = passF l from rfl, if_pos hpn] at this
        exact this
      have hte : (tokAt k l).1 = 0 := by
        by_cases h3 : (tokAt k l).1 ≠ 0
        · rw [lexL_bad hpe h2 h3] at h; exact absurd h h3
        · exact Decidable.not_not.1 h3
      have hta : tokAt k (l ++ x :: v) = tokAt k l := by
        unfold tokAt at hte ⊢
        rw [hpa', List.drop_append_of_le_length hpl]
        exact tokenT_app hx hte
      have hlen := tokAt_len hte
      have hm := lexL_more hpe h2 hte
      have hd2 : (l ++ x :: v).drop (passF (l ++ x :: v)).1 ≠ [] := by
        rw [hpa', List.drop_append_of_le_length hpl]
        simp
      have hm2 := lexL_more (k := k) (l := l ++ x :: v) (by rw [hpa']; exact hpe) hd2 (by rw [hta]; exact hte)
      rw [hpa', hta, List.drop_append_of_le_length hlen.2] at hm2
      have h4 : (lexL (k + (passF l).1 + (tokAt k l).2.2) (l.drop ((passF l).1 + (tokAt k l).2.2))).2.2 = 0 := by
        rw [hm] at h
        unfold consT at h
        by_cases h5 : (lexL (k + (passF l).1 + (tokAt k l).2.2) (l.drop ((passF l).1 + (tokAt k l).2.2))).2.2 ≠ 0
        · rw [if_pos h5] at h; exact absurd h h5
        · exact Decidable.not_not.1 h5
      obtain ⟨init, b, h6, h7⟩ := ih _ (k + (passF l).1 + (tokAt k l).2.2) (by rw [List.length_drop]; omega) (ha.drop _) h4
      have hk : k + (passF l).1 + (tokAt k l).2.2 + (l.drop ((passF l).1 + (tokAt k l).2.2)).length = k + l.length := by rw [List.length_drop]; omega
      rw [hk] at h6 h7
      refine ⟨setAt (tokAt k l).2.1 (k + (passF l).1) (passF l).2.1 :: init, b, ?_, ?_⟩
      · rw [hm]
        unfold consT
        rw [if_neg (by rw [h4]; simp), h6]
        rfl
      · rw [hm2, h7, consT_prep]
end
theorem nl0_nl0 (q : List Tok × Nat × Nat) : nl0 (nl0 q) = nl0 q := by
  unfold nl0
  cases q.1 <;> rfl
/-- The law's two sources with a line end between. -/
theorem joins_law {u v : List UInt16} {ts : List Tok} (h : ∀ x r, v = x :: r → x.toNat ≠ 35) (hu : u.length ≤ 2000) (hv : v.length ≤ 2000) (hq : lexF u = (ts, 0, 0)) :
    ∃ init b, ts = init ++ [setAt noTok u.length b] ∧ lexF ((u ++ [10]) ++ v) = prep init (nl0 (addQ (u.length + 1) (lexF v))) := by
  rw [lexF_short (by omega)] at hq
  rw [lexF_short (u := v) (by omega), lexF_short (u := (u ++ [10]) ++ v) (by simp; omega)]
  obtain ⟨init, b, h1, h2⟩ := lexL_app (x := 10) (v := v) (u.length + 1) u 0 (by omega) (.inl rfl) (by rw [hq])
  rw [hq, Nat.zero_add] at h1
  refine ⟨init, b, h1, ?_⟩
  have h3 : lexL (0 + u.length) (10 :: v) = nl0 (addQ (u.length + 1) (lexL 0 v)) := by
    rw [Nat.zero_add, lexL_blank (by decide), if_pos (by decide), lexL_shift0 (u.length + 1) h]
  rw [show (u ++ [10]) ++ v = u ++ 10 :: v by simp, h2, h3]
  cases b
  · rfl
  · rw [if_pos rfl, nl0_nl0]
end Go.Proofs.Ytngcikgjdeomdaa
