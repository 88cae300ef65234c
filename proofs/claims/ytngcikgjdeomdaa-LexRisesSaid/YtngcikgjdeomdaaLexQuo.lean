/- The reader's quoted, walked: a text between quotes. -/
import Derived.Test.YtngcikgjdeomdaaLexTok
import Derived.Test.YtngcikgjdeomdaaLexEscW
import Derived.Deep.LoopGhost
namespace Go.Proofs.Ytngcikgjdeomdaa
open Go.RowKit

theorem quo_fuel (q : UInt16) : ∀ (f g : Nat) (l : List UInt16) (acc : List UInt16), l.length < f → l.length < g → quoN q f l acc = quoN q g l acc := by
  intro f
  induction f with
  | zero => intro g l acc hf _; omega
  | succ f ih =>
    intro g l acc hf hg
    obtain ⟨g, rfl⟩ : ∃ m, g = m + 1 := ⟨g - 1, by omega⟩
    cases l with
    | nil => rfl
    | cons x r =>
      simp only [List.length_cons] at hf hg
      unfold quoN
      rw [ih g r (acc ++ [x]) (by omega) (by omega)]
      by_cases he : (escF r).1 ≠ 0
      · simp only [he, if_true, ne_eq, not_false_eq_true]
      · have h5 := esc_len (Decidable.not_not.1 he)
        rw [ih g (r.drop (escF r).2.2) (acc ++ [(escF r).2.1]) (by rw [List.length_drop]; omega) (by rw [List.length_drop]; omega)]
/-- from a place on, with the units so far -/
def quoL (q : UInt16) (l acc : List UInt16) : Nat × List UInt16 × Nat := quoN q (l.length + 1) l acc
def plusQ (n : Nat) (p : Nat × List UInt16 × Nat) : Nat × List UInt16 × Nat := (p.1, p.2.1, n + p.2.2)
theorem quoL_nil (q : UInt16) (acc : List UInt16) : quoL q [] acc = (5, [], 0) := rfl
theorem quoL_line {q x : UInt16} {r acc : List UInt16} (h : isLine x = true) : quoL q (x :: r) acc = (5, [], 0) := by
  unfold quoL; rw [quoN, if_pos h]
theorem quoL_end {q : UInt16} {r acc : List UInt16} (h : isLine q = false) : quoL q (q :: r) acc = (0, acc, 1) := by
  unfold quoL; rw [quoN, if_neg (by rw [h]; simp), if_pos rfl]
theorem quoL_plain {q x : UInt16} {r acc : List UInt16} (h : isLine x = false) (h2 : x ≠ q) (h3 : x.toNat ≠ 92) : quoL q (x :: r) acc = plusQ 1 (quoL q r (acc ++ [x])) := by
  unfold quoL; rw [quoN, if_neg (by rw [h]; simp), if_neg h2, if_neg h3]; rfl
theorem quoL_bad {q x : UInt16} {r acc : List UInt16} (h : isLine x = false) (h2 : x ≠ q) (h3 : x.toNat = 92) (h4 : (escF r).1 ≠ 0) : quoL q (x :: r) acc = ((escF r).1, [], 0) := by
  unfold quoL; rw [quoN, if_neg (by rw [h]; simp), if_neg h2, if_pos h3, if_pos h4]
theorem quoL_esc {q x y : UInt16} {r acc : List UInt16} {n : Nat} (h : isLine x = false) (h2 : x ≠ q) (h3 : x.toNat = 92) (h4 : escF r = (0, y, n)) : quoL q (x :: r) acc = plusQ (1 + n) (quoL q (r.drop n) (acc ++ [y])) := by
  have h5 := esc_len (l := r) (by rw [h4])
  rw [h4] at h5
  unfold quoL
  rw [quoN, if_neg (by rw [h]; simp), if_neg h2, if_pos h3, h4, if_neg (by simp)]
  simp only [List.length_cons]
  rw [quo_fuel q (r.length + 1) ((r.drop n).length + 1) _ _ (by rw [List.length_drop]; omega) (by omega)]
  rfl
end Go.Proofs.Ytngcikgjdeomdaa
