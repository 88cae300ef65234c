/- Joined for a claim: PShift, PSmall, FrameN. -/
import Derived.Test.YtbljbmeifmpfoaaK19
import Derived.Test.YtbljbmeifmpfoaaRows
import Derived.Test.YtbljbmeifmpfoaaK01
import Derived.LaidLaws
import Derived.ProofKit
import Derived.OpenShut
import Derived.Deep.DeepHandedRow
namespace Go.Proofs.Ytbljbmeifmpfoaa

def shiftT (j : Nat) (t : Tok) : Tok := { t with pos := t.pos + j }
def addQ (j : Nat) (q : List Tok × Nat × Nat) : List Tok × Nat × Nat := (q.1.map (shiftT j), if q.2.2 ≠ 0 then q.2.1 + j else q.2.1, q.2.2)
theorem addQ_cons (j : Nat) (t : Tok) (q : List Tok × Nat × Nat) : addQ j (consT t q) = consT (shiftT j t) (addQ j q) := by
  unfold addQ consT
  by_cases h : q.2.2 ≠ 0
  · simp [h]
  · simp [Decidable.not_not.1 h]
theorem tokenT_z {l : List UInt16} (h : ∀ x r, l = x :: r → x.toNat ≠ 35) : tokenT true l = tokenT false l := by
  cases l with
  | nil => rfl
  | cons x r =>
    have hx := h x r rfl
    rw [tokenT_cons, tokenT_cons]
    have hs : signT true (x :: r) = signT false (x :: r) := by
      unfold signT
      rw [starts_cons_ne (fun e => hx (by rw [e]; rfl))]
      rfl
    rw [hs]
theorem tokAt_far {k m : Nat} (hk : 1 ≤ k) (hm : 1 ≤ m) (l : List UInt16) : tokAt k l = tokAt m l := by
  unfold tokAt
  rw [show (k + (passF l).1 == 0) = false from beq_eq_false_iff_ne.2 (by omega), show (m + (passF l).1 == 0) = false from beq_eq_false_iff_ne.2 (by omega)]
theorem tokAt_zero {k : Nat} (hk : 1 ≤ k) {l : List UInt16} (h : ∀ x r, l = x :: r → x.toNat ≠ 35) : tokAt 0 l = tokAt k l := by
  unfold tokAt
  by_cases hp : (passF l).1 = 0
  · rw [hp, List.drop_zero, show (0 + 0 == 0) = true from rfl, show (k + 0 == 0) = false from beq_eq_false_iff_ne.2 (by omega)]
    exact tokenT_z h
  · rw [show (k + (passF l).1 == 0) = false from beq_eq_false_iff_ne.2 (by omega), show (0 + (passF l).1 == 0) = false from beq_eq_false_iff_ne.2 (by omega)]
theorem setAt_shift (t : Tok) (k j : Nat) (nl : Bool) : setAt t (k + j) nl = shiftT j (setAt t k nl) := rfl
theorem lexN_shift (j : Nat) : ∀ (f k : Nat) (l : List UInt16), 1 ≤ k → lexN f (k + j) l = addQ j (lexN f k l) := by
  intro f
  induction f with
  | zero => intro k l _; rfl
  | succ f ih =>
    intro k l hk
    rw [lexN, lexN]
    have ht := tokAt_far (k := k + j) (m := k) (by omega) hk l
    rw [ht]
    by_cases h1 : (passF l).2.2 ≠ 0
    · rw [if_pos h1, if_pos h1]
      simp only [addQ, List.map_nil, if_pos h1, Prod.mk.injEq, and_true, true_and]
      omega
    rw [if_neg h1, if_neg h1]
    by_cases h2 : l.drop (passF l).1 = []
    · rw [if_pos h2, if_pos h2, show k + j + (passF l).1 = k + (passF l).1 + j by omega, setAt_shift]
      rfl
    rw [if_neg h2, if_neg h2]
    by_cases h3 : (tokAt k l).1 ≠ 0
    · rw [if_pos h3, if_pos h3]
      simp only [addQ, List.map_nil, if_pos h3, Prod.mk.injEq, and_true, true_and]
      omega
    rw [if_neg h3, if_neg h3, show k + j + (passF l).1 + (tokAt k l).2.2 = k + (passF l).1 + (tokAt k l).2.2 + j by omega, ih _ _ (by omega), addQ_cons, show k + j + (passF l).1 = k + (passF l).1 + j by omega, setAt_shift]
theorem lexL_shift {k : Nat} (hk : 1 ≤ k) (j : Nat) (l : List UInt16) : lexL (k + j) l = addQ j (lexL k l) := lexN_shift j _ k l hk
/-- the same from the beginning, where no first line's signs stand -/
theorem lexL_shift0 (j : Nat) {l : List UInt16} (h : ∀ x r, l = x :: r → x.toNat ≠ 35) : lexL j l = addQ j (lexL 0 l) := by
  by_cases hj : j = 0
  · subst hj
    have h0 : shiftT 0 = id := by funext t; simp [shiftT]
    unfold addQ
    rw [h0]
    simp
  unfold lexL
  rw [lexN, lexN]
  have ht := tokAt_zero (k := j) (by omega) h
  rw [ht]
  by_cases h1 : (passF l).2.2 ≠ 0
  · rw [if_pos h1, if_pos h1]
    simp only [addQ, List.map_nil, if_pos h1, Prod.mk.injEq, and_true, true_and]
    omega
  rw [if_neg h1, if_neg h1]
  by_cases h2 : l.drop (passF l).1 = []
  · rw [if_pos h2, if_pos h2, show j + (passF l).1 = 0 + (passF l).1 + j by omega, setAt_shift]
    rfl
  rw [if_neg h2, if_neg h2]
  by_cases h3 : (tokAt j l).1 ≠ 0
  · rw [if_pos h3, if_pos h3]
    simp only [addQ, List.map_nil, if_pos h3, Prod.mk.injEq, and_true, true_and]
    omega
  have hlen := tokAt_len (k := j) (l := l) (Decidable.not_not.1 h3)
  rw [if_neg h3, if_neg h3, show j + (passF l).1 + (tokAt j l).2.2 = 0 + (passF l).1 + (tokAt j l).2.2 + j by omega, lexN_shift j _ _ _ (by omega), addQ_cons, show j + (passF l).1 = 0 + (passF l).1 + j by omega, setAt_shift]
/-- what has been seen of a line end goes through -/
theorem passN_nl : ∀ (f : Nat) (l : List UInt16) (nl : Bool), passN f l nl = ((passN f l false).1, if (passN f l false).2.2 ≠ 0 then false else nl || (passN f l false).2.1, (passN f l false).2.2) := by
  intro f
  induction f with
  | zero => intro l nl; simp [passN]
  | succ f ih =>
    intro l nl
    cases l with
    | nil => simp [passN]
    | cons x r =>
      rw [passN, passN]
      by_cases h1 : (isBl x || isLine x) = true
      · rw [if_pos h1, if_pos h1, ih r (nl || isLine x), ih r (false || isLine x)]
        simp only [plus]
        by_cases h2 : (passN f r false).2.2 ≠ 0
        · simp [h2]
        · simp [Decidable.not_not.1 h2, Bool.or_assoc]
      rw [if_neg h1, if_neg h1]
      by_cases h2 : (starts [47, 47] (x :: r) || starts [47, 42] (x :: r)) = true
      · rw [if_pos h2, if_pos h2]
        by_cases h3 : (remarkF (x :: r)).2.2 ≠ 0
        · rw [if_pos h3, if_pos h3]
          simp [h3]
        · rw [if_neg h3, if_neg h3, ih _ (nl || (remarkF (x :: r)).2.1), ih _ (false || (remarkF (x :: r)).2.1)]
          simp only [plus]
          by_cases h4 : (passN f ((x :: r).drop (remarkF (x :: r)).1) false).2.2 ≠ 0
          · simp [h4]
          · simp [Decidable.not_not.1 h4, Bool.or_assoc]
      rw [if_neg h2, if_neg h2]
      simp
theorem passL_nl (l : List UInt16) (nl : Bool) : passL l nl = ((passF l).1, if (passF l).2.2 ≠ 0 then false else nl || (passF l).2.1, (passF l).2.2) := passN_nl _ l nl
/-- the first token behind a line end -/
def nl0 (q : List Tok × Nat × Nat) : List Tok × Nat × Nat := (match q.1 with | [] => [] | t :: r => { t with nl := true } :: r, q.2)
theorem nl0_cons {t : Tok} {q : List Tok × Nat × Nat} : nl0 (consT t q) = consT { t with nl := true } q := by
  unfold nl0 consT
  by_cases h : q.2.2 ≠ 0
  · simp [h]
  · simp [Decidable.not_not.1 h]
theorem lexN_eq (k : Nat) (l : List UInt16) : lexL k l = if (passF l).2.2 ≠ 0 then ([], k + (passF l).1, (passF l).2.2)
    else if l.drop (passF l).1 = [] then ([setAt noTok (k + (passF l).1) (passF l).2.1], 0, 0)
    else if (tokAt k l).1 ≠ 0 then ([], k + (passF l).1, (tokAt k l).1)
    else consT (setAt (tokAt k l).2.1 (k + (passF l).1) (passF l).2.1) (lexL (k + (passF l).1 + (tokAt k l).2.2) (l.drop ((passF l).1 + (tokAt k l).2.2))) := by
  by_cases h1 : (passF l).2.2 ≠ 0
  · rw [if_pos h1, lexL_pass h1]
  · rw [if_neg h1]
    have h1' := Decidable.not_not.1 h1
    by_cases h2 : l.drop (passF l).1 = []
    · rw [if_pos h2, lexL_end h1' h2]
    · rw [if_neg h2]
      by_cases h3 : (tokAt k l).1 ≠ 0
      · rw [if_pos h3, lexL_bad h1' h2 h3]
      · rw [if_neg h3, lexL_more h1' h2 (Decidable.not_not.1 h3)]
/-- Where what is passed is passed alike, but for its length and a line end. -/
theorem lexL_like {k k' j : Nat} {l l' : List UInt16} {b : Bool} (hp : (passF l).1 = j + (passF l').1) (he : (passF l).2.2 = (passF l').2.2) (hn : (passF l').2.2 = 0 → (passF l).2.1 = (b || (passF l').2.1)) (hd : ∀ n, l.drop (j + n) = l'.drop n) (hk : k + j = k') (hz : tokAt k l = tokAt k' l') :
    lexL k l = if b = true then nl0 (lexL k' l') else lexL k' l' := by
  subst hk
  rw [lexN_eq k l, lexN_eq (k + j) l', hz, hp, he]
  by_cases h1 : (passF l').2.2 ≠ 0
  · rw [if_pos h1, if_pos h1]
    cases b <;> simp [nl0, Nat.add_assoc]
  rw [if_neg h1, if_neg h1, hd, hn (Decidable.not_not.1 h1)]
  by_cases h2 : l'.drop (passF l').1 = []
  · rw [if_pos h2, if_pos h2]
    cases b <;> simp [nl0, setAt, Nat.add_assoc]
  rw [if_neg h2, if_neg h2]
  by_cases h3 : (tokAt (k + j) l').1 ≠ 0
  · rw [if_pos h3, if_pos h3]
    cases b <;> simp [nl0, Nat.add_assoc]
  rw [if_neg h3, if_neg h3, ← Nat.add_assoc k j, Nat.add_assoc j, hd]
  cases b
  · simp
  · rw [if_pos rfl, nl0_cons]
    simp [setAt]
theorem pass_blank {x : UInt16} {r : List UInt16} (h : (isBl x || isLine x) = true) : passF (x :: r) = (1 + (passF r).1, if (passF r).2.2 ≠ 0 then false else isLine x || (passF r).2.1, (passF r).2.2) := by
  show passL (x :: r) false = _
  rw [passL_blank h, passL_nl]
  rfl
theorem lexL_blank {x : UInt16} {r : List UInt16} (h : (isBl x || isLine x) = true) (k : Nat) : lexL k (x :: r) = if isLine x = true then nl0 (lexL (k + 1) r) else lexL (k + 1) r := by
  have hp := pass_blank (r := r) h
  refine lexL_like (j := 1) (by rw [hp]) (by rw [hp]) (fun h0 => by rw [hp]; simp [h0]) (fun n => by rw [Nat.add_comm]; rfl) rfl ?_
  unfold tokAt
  rw [hp]
  simp only
  rw [show k + (1 + (passF r).1) = k + 1 + (passF r).1 by omega, Nat.add_comm 1]
  rfl
theorem passN_err : ∀ (f : Nat) (l : List UInt16) (nl : Bool), (passN f l nl).2.2 ≠ 0 → (passN f l nl).1 < l.length := by
  intro f
  induction f with
  | zero => intro l nl h; exact absurd rfl h
  | succ f ih =>
    intro l nl
    cases l with
    | nil => intro h; exact absurd rfl h
    | cons x r =>
      rw [passN]
      by_cases h1 : (isBl x || isLine x) = true
      · rw [if_pos h1]
        intro h
        have := ih r _ h
        simp only [plus, List.length_cons]
        omega
      rw [if_neg h1]
      by_cases h2 : (starts [47, 47] (x :: r) || starts [47, 42] (x :: r)) = true
      · rw [if_pos h2]
        by_cases h3 : (remarkF (x :: r)).2.2 ≠ 0
        · rw [if_pos h3]
          intro _
          simp
        · rw [if_neg h3]
          intro h
          have h4 := ih _ _ h
          have h5 := remark_le (rem_starts h2)
          rw [List.length_drop] at h4
          simp only [plus]
          omega
      · rw [if_neg h2]
        intro h
        exact absurd rfl h
theorem pass_err {l : List UInt16} (h : (passF l).2.2 ≠ 0) : (passF l).1 < l.length := passN_err _ _ _ h
theorem lexN_at : ∀ (f k : Nat) (l : List UInt16), (lexN f k l).2.2 ≠ 0 → k ≤ (lexN f k l).2.1 ∧ (lexN f k l).2.1 < k + l.length := by
  intro f
  induction f with
  | zero => intro k l h; exact absurd rfl h
  | succ f ih =>
    intro k l
    rw [lexN]
    by_cases h1 : (passF l).2.2 ≠ 0
    · rw [if_pos h1]
      intro _
      have := pass_err h1
      simp only
      omega
    rw [if_neg h1]
    by_cases h2 : l.drop (passF l).1 = []
    · rw [if_pos h2]; intro h; exact absurd rfl h
    rw [if_neg h2]
    have hlt : (passF l).1 < l.length := by
      rcases Nat.lt_or_ge (passF l).1 l.length with h | h
      · exact h
      · exact absurd (List.drop_of_length_le h) h2
    by_cases h3 : (tokAt k l).1 ≠ 0
    · rw [if_pos h3]
      intro _
      simp only
      omega
    rw [if_neg h3]
    have hlen := tokAt_len (k := k) (l := l) (Decidable.not_not.1 h3)
    unfold consT
    by_cases h4 : (lexN f (k + (passF l).1 + (tokAt k l).2.2) (l.drop ((passF l).1 + (tokAt k l).2.2))).2.2 ≠ 0
    · rw [if_pos h4]
      intro _
      have := ih _ _ h4
      rw [List.length_drop] at this
      simp only
      omega
    · rw [if_neg h4]; intro h; exact absurd rfl h
theorem lexF_at {u : List UInt16} (hl : u.length ≤ 4096) (h : (lexF u).2.2 ≠ 0) : (lexF u).2.1 < u.length := by
  rw [lexF_short (by omega)] at h ⊢
  have := lexN_at _ _ _ h
  unfold lexL
  omega
theorem lexF_ok {u : List UInt16} (hl : u.length ≤ 4096) (h : (lexF u).2.2 = 0) : (lexF u).2.1 = 0 := by
  rw [lexF_short (by omega)] at h ⊢
  exact lexL_zero _ _ _ h
theorem lexF_bad {u : List UInt16} (hl : u.length ≤ 4096) (h : (lexF u).2.2 ≠ 0) : (lexF u).1 = [] := by
  rw [lexF_short (by omega)] at h ⊢
  exact lexL_err _ _ _ h
theorem lexN_many : ∀ (f k : Nat) (l : List UInt16), (lexN f k l).1.length ≤ f := by
  intro f
  induction f with
  | zero => intro k l; simp [lexN]
  | succ f ih =>
    intro k l
    rw [lexN]
    split
    · simp
    · split
      · simp
      · split
        · simp
        · unfold consT
          split
          · simp
          · have := ih (k + (passF l).1 + (tokAt k l).2.2) (l.drop ((passF l).1 + (tokAt k l).2.2))
            simp only [List.length_cons]
            omega
theorem lexF_many {u : List UInt16} (hl : u.length ≤ 4096) : (lexF u).1.length ≤ u.length + 1 := by
  rw [lexF_short (by omega)]
  exact lexN_many _ _ _
theorem nl0_get {ts : List Tok} {a e k : Nat} (hk : k < (nl0 (ts, a, e)).1.length) (hk2 : k < ts.length) : (nl0 (ts, a, e)).1[k] = { ts[k] with nl := ts[k].nl || decide (k = 0) } := by
  cases ts with
  | nil => simp at hk2
  | cons t r =>
    cases k with
    | zero => simp [nl0]
    | succ k => simp [nl0]
theorem nl0_len (ts : List Tok) (a e : Nat) : (nl0 (ts, a, e)).1.length = ts.length := by
  cases ts <;> simp [nl0]
/-- The law's two sources. -/
theorem blanks_law {u : List UInt16} (h : ∀ x r, u = x :: r → x.toNat ≠ 35) (hl : u.length ≤ 4000) : lexF ([32] ++ u) = addQ 1 (lexF u) ∧ lexF ([10] ++ u) = nl0 (addQ 1 (lexF u)) := by
  rw [lexF_short (u := u) (by omega), lexF_short (by simp; omega), lexF_short (by simp; omega)]
  have h1 := lexL_shift0 1 h
  refine ⟨?_, ?_⟩
  · show lexL 0 (32 :: u) = _
    rw [lexL_blank (by decide), if_neg (by decide), ← h1]
  · show lexL 0 (10 :: u) = _
    rw [lexL_blank (by decide), if_pos (by decide), ← h1]
end Go.Proofs.Ytbljbmeifmpfoaa

namespace Go.Proofs.Ytbljbmeifmpfoaa

theorem limbsN_most : ∀ (f v : Nat), (limbsN f v).length ≤ f := by
  intro f
  induction f with
  | zero => intro v; simp [limbsN]
  | succ f ih =>
    intro v
    rw [limbsN]
    split
    · simp
    · have := ih (v / 4294967296)
      simp only [List.length_cons]
      omega
theorem quoN_small (q : UInt16) : ∀ (f : Nat) (l acc : List UInt16), (quoN q f l acc).2.1.length ≤ acc.length + l.length := by
  intro f
  induction f with
  | zero => intro l acc; simp [quoN]
  | succ f ih =>
    intro l acc
    cases l with
    | nil => simp [quoN]
    | cons x r =>
      rw [quoN]
      split
      · simp
      · split
        · simp
        · split
          · split
            · simp
            · rename_i h4
              have h5 := esc_len (Decidable.not_not.1 h4)
              have := ih (r.drop (escF r).2.2) (acc ++ [(escF r).2.1])
              rw [List.length_drop, List.length_append] at this
              simp only [List.length_cons, List.length_nil] at this ⊢
              omega
          · have := ih r (acc ++ [x])
            rw [List.length_append] at this
            simp only [List.length_cons, List.length_nil] at this ⊢
            omega
structure SmallT (n : Nat) (t : Tok) : Prop where
  str : t.str.length ≤ n
  mag : t.mag.length ≤ 9
  text : t.text.length ≤ n
theorem SmallT.no (n : Nat) : SmallT n noTok := ⟨by simp [noTok], by simp [noTok], by simp [noTok]⟩
theorem token_small (z : Bool) (l : List UInt16) : SmallT l.length (tokenT z l).2.1 := by
  cases l with
  | nil => exact SmallT.no _
  | cons x r =>
    rw [tokenT_cons]
    split
    · unfold wordT
      split
      · exact SmallT.no _
      · refine ⟨by simp [noTok], by simp [noTok], ?_⟩
        have := takeWhile_le isRun (x :: r)
        simpa [asc] using this
    · split
      · unfold numberT numT'
        split
        · exact SmallT.no _
        · split
          · unfold bigT
            split
            · exact SmallT.no _
            · split
              · exact SmallT.no _
              · exact ⟨by simp [noTok], limbsN_most 9 _, by simp [noTok]⟩
          · split
            · exact SmallT.no _
            · split
              · exact SmallT.no _
              · split
                · exact SmallT.no _
                · exact ⟨by simp [noTok], by simp [noTok], by simp [noTok]⟩
      · split
        · unfold quotedT
          split
          · exact SmallT.no _
          · refine ⟨?_, by simp [noTok], by simp [noTok]⟩
            have := quoN_small x (r.length + 1) r []
            simp only [List.length_nil, List.length_cons] at this ⊢
            unfold quoF
            omega
        · split
          · exact SmallT.no _
          · unfold signT
            split
            · split
              · exact SmallT.no _
              · refine ⟨by simp [noTok], by simp [noTok], ?_⟩
                simp only [asc, List.length_map]
                exact List.length_take_le' _ _
            · split <;> exact SmallT.no _
theorem SmallT.set {n : Nat} {t : Tok} (h : SmallT n t) (k : Nat) (nl : Bool) : SmallT n (setAt t k nl) := ⟨h.str, h.mag, h.text⟩
theorem SmallT.more {n m : Nat} {t : Tok} (h : SmallT n t) (hn : n ≤ m) : SmallT m t := ⟨by have := h.str; omega, h.mag, by have := h.text; omega⟩
theorem lexN_small : ∀ (f k : Nat) (l : List UInt16), ∀ t ∈ (lexN f k l).1, SmallT l.length t ∧ k ≤ t.pos ∧ t.pos ≤ k + l.length := by
  intro f
  induction f with
  | zero => intro k l t ht; simp [lexN] at ht
  | succ f ih =>
    intro k l t
    rw [lexN]
    by_cases h1 : (passF l).2.2 ≠ 0
    · rw [if_pos h1]; intro h; simp at h
    rw [if_neg h1]
    have hpl := pass_le l
    by_cases h2 : l.drop (passF l).1 = []
    · rw [if_pos h2]
      intro h
      simp only [List.mem_singleton] at h
      subst h
      exact ⟨(SmallT.no _).set _ _, by simp [setAt], by simp [setAt]; omega⟩
    rw [if_neg h2]
    by_cases h3 : (tokAt k l).1 ≠ 0
    · rw [if_pos h3]; intro h; simp at h
    rw [if_neg h3]
    have hlen := tokAt_len (k := k) (l := l) (Decidable.not_not.1 h3)
    unfold consT
    split
    · intro h; simp at h
    · intro h
      rcases List.mem_cons.1 h with h | h
      · subst h
        refine ⟨SmallT.set ?_ _ _, by simp [setAt], by simp [setAt]; omega⟩
        have := token_small (k + (passF l).1 == 0) (l.drop (passF l).1)
        rw [List.length_drop] at this
        exact this.more (by omega)
      · have := ih _ _ t h
        rw [List.length_drop] at this
        exact ⟨this.1.more (by omega), by omega, by omega⟩
theorem lexF_small {u : List UInt16} (hl : u.length ≤ 4096) : ∀ t ∈ (lexF u).1, SmallT u.length t ∧ t.pos ≤ u.length := by
  rw [lexF_short (by omega)]
  intro t ht
  have := lexN_small _ _ _ t ht
  exact ⟨this.1, by omega⟩
theorem lex_small {u : List UInt16} (hl : u.length ≤ 4096) : ∀ t ∈ (lexF u).1, t.str.length ≤ 70368744177664 ∧ t.mag.length ≤ 70368744177664 ∧ t.pos ≤ 4096 := by
  intro t ht
  obtain ⟨h1, h2⟩ := lexF_small hl t ht
  have := h1.str
  have := h1.mag
  exact ⟨by omega, by omega, by omega⟩
end Go.Proofs.Ytbljbmeifmpfoaa

namespace Go.Proofs.Ytbljbmeifmpfoaa
open Go.ChangeShapes Go.WideShapes Go.ChangeAt Go.RowKit Go.Lib

theorem own : ownKnob Try.prog.godebug = none := by kernel_rfl
theorem cells8 : Try.prog.cellsOf 5 = 1 := by kernel_rfl
theorem cells16 : Try.prog.cellsOf 41 = 1 := by kernel_rfl
section
variable {H : Type} {enc : TypeId × Value → H} {W : World} {base : Nat}
set_option maxRecDepth 1000000 in
/-- An argument that is a slice of units. -/
theorem param_u16 {v : Value} {d : DataW H} {p : List MemPlace} (hv : Value.okWide Try.prog W .any base 22 v) (h : DataW.Trod enc Try.prog W 0 (fun _ => true) true 22 v d p) :
    ∃ A c xs, v = .slice A (xs : List UInt16).length c ∧ xs.length ≤ c ∧ c ≤ maxLen ∧ Reads W W.heap.size 1 A xs.length (u16s xs) := by
  obtain ⟨a0, len, cap, rfl⟩ := okWide_slice Try.underlying22 hv
  obtain ⟨fuel, hf⟩ := h
  rcases open_ints Try.underlying22 Try.underlying41 cells16 hf with ⟨hcs, _⟩ | ⟨a, len', cap', zs, hcs, _, hl, hm, hz, _, hcell, hwf⟩
  · simp only [Value.cells, List.cons.injEq, and_true, Value.slice.injEq] at hcs
    obtain ⟨rfl, rfl, rfl⟩ := hcs
    exact ⟨none, 0, [], rfl, Nat.le_refl _, Nat.zero_le _, Reads.none_⟩
  · simp only [Value.cells, List.cons.injEq, and_true, Value.slice.injEq] at hcs
    obtain ⟨rfl, rfl, rfl⟩ := hcs
    simp only [if_true] at hz
    have hlen : ((zs.take len).map fun n => UInt16.ofNat n.toNat).length = len := by simp; omega
    refine ⟨some a, cap, (zs.take len).map fun n => UInt16.ofNat n.toNat, by rw [hlen], by rw [hlen]; exact hl, hm, ?_⟩
    refine ⟨by rw [u16s_len]; omega, fun hn => ⟨a, rfl, ?_, fun j u hu => ?_⟩⟩
    · have h0 := hcell 0 (by omega)
      have := World.block_lt_of_cell? W _ h0
      rwa [block_of_add] at this
    · have hj : j < len := by
        have := (List.getElem?_eq_some_iff.1 hu).1
        rw [u16s_len, hlen] at this
        exact this
      rw [hcell j (by omega)]
      have hzj : j < zs.length := by omega
      have hw := hwf zs[j] (List.getElem_mem _)
      have hw := bounds_u16 hw
      rw [← hu]
      simp only [u16s, List.getElem?_map, List.getElem?_take, hj, if_true, List.getElem?_eq_getElem hzj, Option.map_some, u16v, List.getD_eq_getElem?_getD, Option.getD_some]
      congr 2
      simp
      omega

set_option maxRecDepth 1000000 in
/-- An argument that is a slice of bytes. -/
theorem param_u8 {v : Value} {d : DataW H} {p : List MemPlace} (hv : Value.okWide Try.prog W .any base 80 v) (h : DataW.Trod enc Try.prog W 0 (fun _ => true) true 80 v d p) :
    ∃ A c xs, v = .slice A (xs : List UInt8).length c ∧ xs.length ≤ c ∧ c ≤ maxLen ∧ Reads W W.heap.size 1 A xs.length (u8s xs) := by
  obtain ⟨a0, len, cap, rfl⟩ := okWide_slice Try.underlying80 hv
  obtain ⟨fuel, hf⟩ := h
  rcases open_ints Try.underlying80 Try.underlying5 cells8 hf with ⟨hcs, _⟩ | ⟨a, len', cap', zs, hcs, _, hl, hm, hz, _, hcell, hwf⟩
  · simp only [Value.cells, List.cons.injEq, and_true, Value.slice.injEq] at hcs
    obtain ⟨rfl, rfl, rfl⟩ := hcs
    exact ⟨none, 0, [], rfl, Nat.le_refl _, Nat.zero_le _, Reads.none_⟩
  · simp only [Value.cells, List.cons.injEq, and_true, Value.slice.injEq] at hcs
    obtain ⟨rfl, rfl, rfl⟩ := hcs
    simp only [if_true] at hz
    have hlen : ((zs.take len).map fun n => UInt8.ofNat n.toNat).length = len := by simp; omega
    refine ⟨some a, cap, (zs.take len).map fun n => UInt8.ofNat n.toNat, by rw [hlen], by rw [hlen]; exact hl, hm, ?_⟩
    refine ⟨by rw [u8s_len]; omega, fun hn => ⟨a, rfl, ?_, fun j u hu => ?_⟩⟩
    · have h0 := hcell 0 (by omega)
      have := World.block_lt_of_cell? W _ h0
      rwa [block_of_add] at this
    · have hj : j < len := by
        have := (List.getElem?_eq_some_iff.1 hu).1
        rw [u8s_len, hlen] at this
        exact this
      rw [hcell j (by omega)]
      have hzj : j < zs.length := by omega
      have hw := hwf zs[j] (List.getElem_mem _)
      have hw := bounds_u8 hw
      rw [← hu]
      simp only [u8s, List.getElem?_map, List.getElem?_take, hj, if_true, List.getElem?_eq_getElem hzj, Option.map_some, u8v, List.getD_eq_getElem?_getD, Option.getD_some]
      congr 2
      simp
      omega

theorem Try.laidOut : laidOutB Try.prog = true := by kernel_rfl
/-- The arguments read behind the call as they read before. -/
theorem trodAll_stays {W' : World} {sp' : Nat → Bool} : ∀ {ts : List TypeId} {vs : List Value} {ds : List (DataW H)} {ps : List MemPlace}, (∀ t ∈ ts, Try.prog.readableRec t = true ∧ t < Try.prog.types.size) →
    DataW.TrodAll enc Try.prog W 0 (fun _ => true) true ts vs ds ps → Below W.heap.size W W' → (∀ x ∈ ps, x.block < W.heap.size) → (∀ p ∈ ps, sp' p.block = true) → DataW.TrodAll enc Try.prog W' 0 sp' true ts vs ds ps := by
  intro ts
  induction ts with
  | nil =>
    intro vs ds ps _ h _ _ _
    obtain ⟨rfl, rfl, rfl⟩ := trodAll_nil h
    exact trodAll_mk0
  | cons t ts ih =>
    intro vs ds ps hr h hb hlt hs
    obtain ⟨v, vs', d, ds', p, q, rfl, rfl, rfl, h0, r0⟩ := trodAll_cons h
    have ht := hr t (by simp)
    exact trodAll_cons_mk (WideElems.Trod_stays Try.laidOut ht.1 ht.2 h0 (fun x hx => hb.same (hlt x (by simp [hx]))) (fun x hx => hs x (by simp [hx])))
      (ih (fun t' h' => hr t' (by simp [h'])) r0 hb (fun x hx => hlt x (by simp [hx])) (fun x hx => hs x (by simp [hx])))

theorem post_of_below {P : Program} {f : Func} {s : ChangeSpec} {apart fresh handsOn again : Bool} {W W' : World} {args : Array Value} {v : Value} {ds gs : List (DataW H)} {before pa pv : List MemPlace}
    (hW : DataW.Whole enc P f.params.toList s.vars apart W args.toList ds gs before)
    (hres : ∀ (b : Nat) (sp : Nat → Bool) (hd : Bool), DataW.TrodAll enc P W' b sp hd f.resultTypes.toList (v.resultList f.resultTypes.size) (s.fn H (ds ++ gs)).results [])
    (hargs : ∀ sp : Nat → Bool, (∀ p ∈ before, sp p.block = true) → DataW.TrodAll enc P W' 0 sp true f.params.toList args.toList (s.fn H (ds ++ gs)).args pa)
    (hvars : ∀ sp : Nat → Bool, (∀ p ∈ before, sp p.block = true) → DataW.TrodVars enc P W' sp s.vars (s.fn H (ds ++ gs)).vars pv)
    (hps : before = pa ++ pv) (hb : Below W.heap.size W W')
    (hok : ∀ (j : Nat) (t : TypeId) (r : Value), f.resultTypes[j]? = some t → (v.resultList f.resultTypes.size)[j]? = some r → Value.okWide P W' .any 0 t r) :
    s.post enc P f apart fresh handsOn again W args v W' := by
  have hlt : ∀ p ∈ before, p.block < W.heap.size := fun p hp => hW.lt p hp
  have hold : ∀ p ∈ before, (fun b => decide (b < W.heap.size)) p.block = true := fun p hp => by simpa using hlt p hp
  refine ⟨ds, gs, before, [], pa, pv, hW, hres _ _ _, hargs _ hold, hvars _ hold, World.keptBut_mono (fun p hp => ⟨hp, ?_⟩) (hb.frame (· ∈ before)), fun _ => ?_⟩
  · rw [hps, List.mem_append] at hp
    exact Or.inr hp
  · obtain ⟨_, _, _, _, _, hz, hn⟩ := hW
    refine ⟨hok, _, _, ([] ++ pa) ++ pv, ⟨[] ++ pa, pv, trodAll_append (hargs _ (fun _ _ => rfl)) (hres _ _ _), hvars _ (fun _ _ => rfl), rfl, ?_, ?_⟩, ?_⟩
    · intro b off hp
      have hin : MemPlace.cell b off ∈ before := by rw [hps]; simpa using hp
      rw [hb.frozen (hlt _ hin)]
      exact hz b off hin
    · intro ha
      have := hn ha
      rw [hps] at this
      simpa using this
    · intro p hp _
      rw [hps]
      simpa using hp
end

/-- A world for the witnesses: the settled one. -/
noncomputable def laidWorld (os : Os) : World := World.holding Try.prog os ⟨#[], #[], []⟩

end Go.Proofs.Ytbljbmeifmpfoaa
