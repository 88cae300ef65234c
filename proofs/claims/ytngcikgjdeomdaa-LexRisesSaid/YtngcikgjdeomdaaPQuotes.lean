/- What stands between quotes is one token: plain Lean, no program. -/
import Derived.Test.YtngcikgjdeomdaaLexToks
import Derived.Test.YtngcikgjdeomdaaLexPass
namespace Go.Proofs.Ytngcikgjdeomdaa

def okQ (q x : UInt16) : Bool := !(x == q) && !(x.toNat == 10) && !(x.toNat == 13) && !(x.toNat == 92)
theorem okQ_line {q x : UInt16} (h : okQ q x = true) : isLine x = false ∧ x ≠ q ∧ x.toNat ≠ 92 := by
  simp only [okQ, Bool.and_eq_true, Bool.not_eq_true', beq_eq_false_iff_ne] at h
  refine ⟨?_, h.1.1.1, h.2⟩
  unfold isLine
  rw [Bool.or_eq_false_iff]
  exact ⟨beq_eq_false_iff_ne.2 h.1.1.2, beq_eq_false_iff_ne.2 h.1.2⟩
theorem quoL_whole {q : UInt16} (hq : isLine q = false) : ∀ (u acc : List UInt16), u.all (okQ q) = true → quoL q (u ++ [q]) acc = (0, acc ++ u, u.length + 1) := by
  intro u
  induction u with
  | nil => intro acc _; rw [List.nil_append, quoL_end hq]; simp
  | cons x r ih =>
    intro acc h
    rw [List.all_cons, Bool.and_eq_true] at h
    obtain ⟨h1, h2, h3⟩ := okQ_line h.1
    rw [List.cons_append, quoL_plain h1 h2 h3, ih _ h.2]
    simp [plusQ]
    omega
theorem quoL_open {q : UInt16} : ∀ (u acc : List UInt16), u.all (okQ q) = true → (quoL q u acc).1 = 5 := by
  intro u
  induction u with
  | nil => intro acc _; rfl
  | cons x r ih =>
    intro acc h
    rw [List.all_cons, Bool.and_eq_true] at h
    obtain ⟨h1, h2, h3⟩ := okQ_line h.1
    rw [quoL_plain h1 h2 h3]
    exact ih _ h.2
theorem starts_cons_ne {a : UInt8} {s : List UInt8} {x : UInt16} {r : List UInt16} (h : x ≠ a.toUInt16) : starts (a :: s) (x :: r) = false := by
  unfold starts
  rw [List.map_cons, List.isPrefixOf]
  rw [show (a.toUInt16 == x) = false from beq_eq_false_iff_ne.2 (fun e => h e.symm), Bool.false_and]
theorem pass_stop {x : UInt16} {r : List UInt16} (h : (isBl x || isLine x) = false) (h2 : x ≠ 47) : passF (x :: r) = (0, false, 0) := by
  show passL (x :: r) false = _
  rw [passL_stop h (by rw [starts_cons_ne h2, starts_cons_ne h2]; rfl)]
theorem pass_nil : passF [] = (0, false, 0) := rfl
/-- A token that is the whole source. -/
theorem lex_one {l : List UInt16} {t : Tok} (h0 : l.length ≤ 4096) (hp : passF l = (0, false, 0)) (hne : l ≠ []) (ht : tokenT true l = (0, t, l.length)) : lexF l = ([setAt t 0 false, setAt noTok l.length false], 0, 0) := by
  rw [lexF_short (by omega)]
  have htok : tokAt 0 l = (0, t, l.length) := by unfold tokAt; rw [hp]; exact ht
  rw [lexL_more (by rw [hp]) (by rw [hp]; exact hne) (by rw [htok]), hp, htok]
  simp only [Nat.zero_add]
  rw [List.drop_length, lexL_end (by rw [pass_nil]) (by rw [pass_nil]; rfl), pass_nil]
  rfl
theorem lex_none {l : List UInt16} {t : Tok} {e n : Nat} (h0 : l.length ≤ 4096) (hp : passF l = (0, false, 0)) (hne : l ≠ []) (ht : tokenT true l = (e, t, n)) (he : e ≠ 0) : lexF l = ([], 0, e) := by
  rw [lexF_short (by omega)]
  have htok : tokAt 0 l = (e, t, n) := by unfold tokAt; rw [hp]; exact ht
  rw [lexL_bad (by rw [hp]) (by rw [hp]; exact hne) (by rw [htok]; exact he), hp, htok]
  rfl
theorem quote_first {q : UInt16} (hq : q = 39 ∨ q = 34) (r : List UInt16) : passF (q :: r) = (0, false, 0) ∧ tokenT true (q :: r) = quotedT q r ∧ isLine q = false := by
  rcases hq with rfl | rfl
  · exact ⟨pass_stop (by decide) (by decide), by rw [tokenT_cons, if_neg (by decide), if_neg (by decide), if_pos (by decide)], by decide⟩
  · exact ⟨pass_stop (by decide) (by decide), by rw [tokenT_cons, if_neg (by decide), if_neg (by decide), if_pos (by decide)], by decide⟩
theorem lex_quotes {q : UInt16} (hq : q = 39 ∨ q = 34) {u : List UInt16} (h : u.all (okQ q) = true) (hl : u.length ≤ 4000) :
    lexF (([q] ++ u) ++ [q]) = ([{ noTok with kind := 4, str := u }, setAt noTok (u.length + 2) false], 0, 0) := by
  obtain ⟨h1, h2, h3⟩ := quote_first hq (u ++ [q])
  have hw := quoL_whole h3 u [] h
  have ht : tokenT true (q :: (u ++ [q])) = (0, { noTok with kind := 4, str := u }, (q :: (u ++ [q])).length) := by
    rw [h2]
    unfold quotedT
    rw [show quoF q (u ++ [q]) = quoL q (u ++ [q]) [] from rfl, hw, if_neg (by simp)]
    simp
    omega
  have := lex_one (by simp; omega) h1 (by simp) ht
  simp only [List.cons_append, List.nil_append] at this ⊢
  rw [this]
  simp [setAt, noTok]
theorem lex_open {q : UInt16} (hq : q = 39 ∨ q = 34) {u : List UInt16} (h : u.all (okQ q) = true) (hl : u.length ≤ 4000) : lexF ([q] ++ u) = ([], 0, 5) := by
  obtain ⟨h1, h2, h3⟩ := quote_first hq u
  have hw := quoL_open u [] h
  have ht : tokenT true (q :: u) = (5, noTok, 0) := by
    rw [h2]
    unfold quotedT
    rw [show quoF q u = quoL q u [] from rfl, hw, if_pos (by simp)]
    rfl
  exact lex_none (by simp; omega) h1 (by simp) ht (by simp)
end Go.Proofs.Ytngcikgjdeomdaa
