/- A name, a word or a sign is one token: plain Lean, no program. -/
import Derived.Test.YtngcikgjdeomdaaPQuotes
import Derived.Test.YtngcikgjdeomdaaLexNum
namespace Go.Proofs.Ytngcikgjdeomdaa

theorem words_run : ∀ b ∈ wordsIn ++ wordsOut, runF b = true := by decide +kernel
theorem word_run {b : List UInt8} (h : 0 < wordF b) : runF b = true := by
  unfold wordF at h
  by_cases h1 : b ∈ wordsIn
  · exact words_run b (List.mem_append_left _ h1)
  · rw [if_neg h1] at h
    by_cases h2 : b ∈ wordsOut
    · exact words_run b (List.mem_append_right _ h2)
    · rw [if_neg h2] at h; omega
theorem asc_ascii (b : List UInt8) : asc (ascii b) = b := by
  unfold asc ascii
  rw [List.map_map]
  conv => rhs; rw [← List.map_id b]
  exact List.map_congr_left fun x _ => by simp
theorem ascii_lenN (b : List UInt8) : (ascii b).length = b.length := by simp [ascii]
theorem run_all {b : List UInt8} (h : runF b = true) : (∀ x ∈ ascii b, isRun x = true) ∧ ∃ x r, ascii b = x :: r ∧ isLet x = true := by
  cases b with
  | nil => cases h
  | cons c r =>
    unfold runF at h
    simp only [Bool.and_eq_true] at h
    refine ⟨?_, c.toUInt16, ascii r, rfl, h.1⟩
    intro x hx
    rcases List.mem_cons.1 hx with h2 | h2
    · rw [h2]; unfold isRun; rw [h.1]; rfl
    · obtain ⟨y, hy, rfl⟩ := List.mem_map.1 h2
      exact List.all_eq_true.1 h.2 y hy
theorem takeWhile_all {α : Type} {p : α → Bool} {l : List α} (h : ∀ x ∈ l, p x = true) : l.takeWhile p = l := by
  induction l with
  | nil => rfl
  | cons x r ih => rw [List.takeWhile_cons_of_pos (h x (by simp)), ih (fun y hy => h y (by simp [hy]))]
theorem let_plain {x : UInt16} (h : isLet x = true) : (isBl x || isLine x) = false ∧ x ≠ 47 := by
  simp only [isLet, Bool.or_eq_true, Bool.and_eq_true, decide_eq_true_eq, beq_iff_eq] at h
  refine ⟨?_, ?_⟩
  · rw [Bool.or_eq_false_iff]
    simp only [isBl, isLine, Bool.or_eq_false_iff, beq_eq_false_iff_ne]
    omega
  · rintro rfl
    revert h
    decide
theorem lex_name {b : List UInt8} (h : runF b = true) (hl : b.length ≤ 4000) :
    lexF (ascii b) = ([{ noTok with kind := if 0 < wordF b then 6 else 1, text := b }, setAt noTok b.length false], 0, 0) := by
  obtain ⟨h1, x, r, hx, hlet⟩ := run_all h
  obtain ⟨h2, h3⟩ := let_plain hlet
  have ht : tokenT true (ascii b) = (0, { noTok with kind := if 0 < wordF b then 6 else 1, text := b }, (ascii b).length) := by
    have hw : tokenT true (ascii b) = wordT (ascii b) := by rw [hx, tokenT_cons, if_pos hlet]
    rw [hw]
    unfold wordT
    rw [takeWhile_all h1, List.drop_length, if_neg (by simp [starts]), asc_ascii]
  have hp : passF (ascii b) = (0, false, 0) := by rw [hx]; exact pass_stop h2 h3
  have := lex_one (by rw [ascii_lenN]; omega) hp (by rw [hx]; simp) ht
  rw [this, ascii_lenN]
  rfl
theorem signs_one : ∀ b ∈ signsIn, lexF (ascii b) = ([{ noTok with kind := 5, text := b }, setAt noTok b.length false], 0, 0) ∧ nameF b = false ∧ wordF b = 0 := by decide +kernel
theorem signs_out : ∀ b ∈ signsOut, (lexF (ascii b)).2.2 = 6 ∧ nameF b = false ∧ wordF b = 0 := by decide +kernel
theorem sign_one {b : List UInt8} (h : signF b = 1) : lexF (ascii b) = ([{ noTok with kind := 5, text := b }, setAt noTok b.length false], 0, 0) ∧ nameF b = false ∧ wordF b = 0 := by
  refine signs_one b ?_
  unfold signF at h
  by_cases h1 : b ∈ signsIn
  · exact h1
  · rw [if_neg h1] at h
    split at h <;> cases h
theorem sign_two {b : List UInt8} (h : signF b = 2) : (lexF (ascii b)).2.2 = 6 := by
  refine (signs_out b ?_).1
  unfold signF at h
  split at h
  · cases h
  · split at h
    · assumption
    · cases h
/-- what the law asks of the first token -/
theorem names_law {b : List UInt8} (hl : b.length ≤ 4000) (h : nameF b = true ∨ 0 < wordF b ∨ signF b = 1) :
    ∃ k, lexF (ascii b) = ([{ noTok with kind := k, text := b }, setAt noTok b.length false], 0, 0) ∧ (k = 1 ∧ nameF b = true ∧ wordF b = 0 ∨ k = 6 ∧ nameF b = false ∧ 0 < wordF b ∨ k = 5 ∧ nameF b = false ∧ wordF b = 0 ∧ signF b = 1) := by
  by_cases hw : 0 < wordF b
  · refine ⟨6, ?_, .inr (.inl ⟨rfl, ?_, hw⟩)⟩
    · have := lex_name (word_run hw) hl
      rw [if_pos hw] at this
      exact this
    · unfold nameF
      rw [show (wordF b == 0) = false from beq_eq_false_iff_ne.2 (by omega), Bool.and_false]
  · have hw0 : wordF b = 0 := by omega
    cases hn : nameF b with
    | true =>
      refine ⟨1, ?_, .inl ⟨rfl, rfl, hw0⟩⟩
      have hr : runF b = true := by
        unfold nameF at hn
        simp only [Bool.and_eq_true] at hn
        exact hn.1
      have := lex_name hr hl
      rw [if_neg hw] at this
      exact this
    | false =>
      have hs : signF b = 1 := by
        rcases h with h | h | h
        · rw [hn] at h; cases h
        · omega
        · exact h
      exact ⟨5, (sign_one hs).1, .inr (.inr ⟨rfl, rfl, hw0, hs⟩)⟩
end Go.Proofs.Ytngcikgjdeomdaa
