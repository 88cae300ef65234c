/- How great a token may be. Plain Lean, no program. -/
import Derived.Test.YtngcikgjdeomdaaPShift
namespace Go.Proofs.Ytngcikgjdeomdaa

theorem limbsN_most : ∀ (f v : Nat), (limbsN f v).length ≤ f := by
  intro f
  induction f with
  | zero => intro v; simp [limbsN]
  | succ f ih =>
    intro v
    rw [limbsN]
    split
    · simp
    · have := ih (v / 4294967296)
      simp only [List.length_cons]
      omega
theorem quoN_small (q : UInt16) : ∀ (f : Nat) (l acc : List UInt16), (quoN q f l acc).2.1.length ≤ acc.length + l.length := by
  intro f
  induction f with
  | zero => intro l acc; simp [quoN]
  | succ f ih =>
    intro l acc
    cases l with
    | nil => simp [quoN]
    | cons x r =>
      rw [quoN]
      split
      · simp
      · split
        · simp
        · split
          · split
            · simp
            · rename_i h4
              have h5 := esc_len (Decidable.not_not.1 h4)
              have := ih (r.drop (escF r).2.2) (acc ++ [(escF r).2.1])
              rw [List.length_drop, List.length_append] at this
              simp only [List.length_cons, List.length_nil] at this ⊢
              omega
          · have := ih r (acc ++ [x])
            rw [List.length_append] at this
            simp only [List.length_cons, List.length_nil] at this ⊢
            omega
structure SmallT (n : Nat) (t : Tok) : Prop where
  str : t.str.length ≤ n
  mag : t.mag.length ≤ 9
  text : t.text.length ≤ n
theorem SmallT.no (n : Nat) : SmallT n noTok := ⟨by simp [noTok], by simp [noTok], by simp [noTok]⟩
theorem token_small (z : Bool) (l : List UInt16) : SmallT l.length (tokenT z l).2.1 := by
  cases l with
  | nil => exact SmallT.no _
  | cons x r =>
    rw [tokenT_cons]
    split
    · unfold wordT
      split
      · exact SmallT.no _
      · refine ⟨by simp [noTok], by simp [noTok], ?_⟩
        have := takeWhile_le isRun (x :: r)
        simpa [asc] using this
    · split
      · unfold numberT numT'
        split
        · exact SmallT.no _
        · split
          · unfold bigT
            split
            · exact SmallT.no _
            · split
              · exact SmallT.no _
              · exact ⟨by simp [noTok], limbsN_most 9 _, by simp [noTok]⟩
          · split
            · exact SmallT.no _
            · split
              · exact SmallT.no _
              · split
                · exact SmallT.no _
                · exact ⟨by simp [noTok], by simp [noTok], by simp [noTok]⟩
      · split
        · unfold quotedT
          split
          · exact SmallT.no _
          · refine ⟨?_, by simp [noTok], by simp [noTok]⟩
            have := quoN_small x (r.length + 1) r []
            simp only [List.length_nil, List.length_cons] at this ⊢
            unfold quoF
            omega
        · split
          · exact SmallT.no _
          · unfold signT
            split
            · split
              · exact SmallT.no _
              · refine ⟨by simp [noTok], by simp [noTok], ?_⟩
                simp only [asc, List.length_map]
                exact List.length_take_le' _ _
            · split <;> exact SmallT.no _
theorem SmallT.set {n : Nat} {t : Tok} (h : SmallT n t) (k : Nat) (nl : Bool) : SmallT n (setAt t k nl) := ⟨h.str, h.mag, h.text⟩
theorem SmallT.more {n m : Nat} {t : Tok} (h : SmallT n t) (hn : n ≤ m) : SmallT m t := ⟨by have := h.str; omega, h.mag, by have := h.text; omega⟩
theorem lexN_small : ∀ (f k : Nat) (l : List UInt16), ∀ t ∈ (lexN f k l).1, SmallT l.length t ∧ k ≤ t.pos ∧ t.pos ≤ k + l.length := by
  intro f
  induction f with
  | zero => intro k l t ht; simp [lexN] at ht
  | succ f ih =>
    intro k l t
    rw [lexN]
    by_cases h1 : (passF l).2.2 ≠ 0
    · rw [if_pos h1]; intro h; simp at h
    rw [if_neg h1]
    have hpl := pass_le l
    by_cases h2 : l.drop (passF l).1 = []
    · rw [if_pos h2]
      intro h
      simp only [List.mem_singleton] at h
      subst h
      exact ⟨(SmallT.no _).set _ _, by simp [setAt], by simp [setAt]; omega⟩
    rw [if_neg h2]
    by_cases h3 : (tokAt k l).1 ≠ 0
    · rw [if_pos h3]; intro h; simp at h
    rw [if_neg h3]
    have hlen := tokAt_len (k := k) (l := l) (Decidable.not_not.1 h3)
    unfold consT
    split
    · intro h; simp at h
    · intro h
      rcases List.mem_cons.1 h with h | h
      · subst h
        refine ⟨SmallT.set ?_ _ _, by simp [setAt], by simp [setAt]; omega⟩
        have := token_small (k + (passF l).1 == 0) (l.drop (passF l).1)
        rw [List.length_drop] at this
        exact this.more (by omega)
      · have := ih _ _ t h
        rw [List.length_drop] at this
        exact ⟨this.1.more (by omega), by omega, by omega⟩
theorem lexF_small {u : List UInt16} (hl : u.length ≤ 4096) : ∀ t ∈ (lexF u).1, SmallT u.length t ∧ t.pos ≤ u.length := by
  rw [lexF_short (by omega)]
  intro t ht
  have := lexN_small _ _ _ t ht
  exact ⟨this.1, by omega⟩
theorem lex_small {u : List UInt16} (hl : u.length ≤ 4096) : ∀ t ∈ (lexF u).1, t.str.length ≤ 70368744177664 ∧ t.mag.length ≤ 70368744177664 ∧ t.pos ≤ 4096 := by
  intro t ht
  obtain ⟨h1, h2⟩ := lexF_small hl t ht
  have := h1.str
  have := h1.mag
  exact ⟨by omega, by omega, by omega⟩
end Go.Proofs.Ytngcikgjdeomdaa
