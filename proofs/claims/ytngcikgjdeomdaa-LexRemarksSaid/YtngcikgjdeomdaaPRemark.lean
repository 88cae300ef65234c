/- A remark in the place of a blank moves what comes behind it, and changes nothing else. Plain Lean, no program. -/
import Derived.Test.YtngcikgjdeomdaaPJoin
namespace Go.Proofs.Ytngcikgjdeomdaa

def okIn (x : UInt16) : Bool := !(x.toNat == 42) && !(x.toNat == 8232) && !(x.toNat == 8233)
theorem okIn_far {x : UInt16} (h : okIn x = true) : isFar x = false ∧ x ≠ (42 : UInt8).toUInt16 := by
  simp only [okIn, Bool.and_eq_true, Bool.not_eq_true', beq_eq_false_iff_ne] at h
  refine ⟨?_, ?_⟩
  · unfold isFar
    rw [Bool.or_eq_false_iff]
    exact ⟨beq_eq_false_iff_ne.2 h.1.2, beq_eq_false_iff_ne.2 h.2⟩
  · rintro rfl
    exact h.1.1 rfl
theorem rem_inner (v : List UInt16) : ∀ (inner : List UInt16) (nl : Bool), inner.all okIn = true → remGo true (inner ++ 42 :: 47 :: v) nl false = (inner.length + 2, nl || inner.any isLine, 0) := by
  intro inner
  induction inner with
  | nil =>
    intro nl _
    rw [List.nil_append, remGo, if_pos (by simp [starts, List.isPrefixOf])]
    simp [leftF]
  | cons c r ih =>
    intro nl h
    rw [List.all_cons, Bool.and_eq_true] at h
    obtain ⟨h1, h2⟩ := okIn_far h.1
    rw [List.cons_append, remGo, starts_cons_ne h2, if_neg (by simp), if_neg (by simp), h1, Bool.or_false, ih _ h.2]
    simp [plus, Bool.or_assoc]
    omega
def remOf (inner : List UInt16) : List UInt16 := ([32, 47, 42] ++ inner) ++ [42, 47]
theorem pass_rem {inner v : List UInt16} (h : inner.all okIn = true) : passF (32 :: 47 :: 42 :: (inner ++ 42 :: 47 :: v)) = (5 + inner.length + (passF v).1, if (passF v).2.2 ≠ 0 then false else inner.any isLine || (passF v).2.1, (passF v).2.2) := by
  have hs : starts [47, 42] (47 :: 42 :: (inner ++ 42 :: 47 :: v)) = true := by simp [starts, List.isPrefixOf]
  have hr : remarkF (47 :: 42 :: (inner ++ 42 :: 47 :: v)) = (4 + inner.length, inner.any isLine, 0) := by
    unfold remarkF
    rw [hs, List.drop_succ_cons, List.drop_succ_cons, List.drop_zero, rem_inner v inner false h]
    simp [plus]
    omega
  have hp : passL (47 :: 42 :: (inner ++ 42 :: 47 :: v)) false = plus (4 + inner.length) (passL v (inner.any isLine)) := by
    rw [passL_remark (by decide) (by rw [hs]; simp), hr, if_neg (by simp)]
    congr 2
    rw [show 4 + inner.length = (inner.length + 2) + 2 by omega, List.drop_succ_cons, List.drop_succ_cons, List.drop_append]
    simp
  rw [pass_blank (by decide)]
  have hp' : passF (47 :: 42 :: (inner ++ 42 :: 47 :: v)) = _ := hp
  rw [hp', passL_nl]
  have h32 : isLine 32 = false := by decide
  rw [h32]
  simp only [plus, Prod.mk.injEq]
  refine ⟨by omega, ?_, trivial⟩
  by_cases h0 : (passF v).2.2 ≠ 0 <;> simp [h0]
theorem nl0_addQ (D : Nat) (q : List Tok × Nat × Nat) : nl0 (addQ D q) = addQ D (nl0 q) := by
  unfold nl0 addQ
  obtain ⟨ts, a, e⟩ := q
  cases ts <;> simp [shiftT]
theorem lexL_rem {inner v : List UInt16} (h : inner.all okIn = true) (k : Nat) : lexL k (32 :: 47 :: 42 :: (inner ++ 42 :: 47 :: v)) = addQ (4 + inner.length) (lexL k ((if inner.any isLine = true then 10 else 32) :: v)) := by
  have hp := pass_rem (v := v) h
  have hd : ∀ n, (32 :: 47 :: 42 :: (inner ++ 42 :: 47 :: v)).drop (5 + inner.length + n) = v.drop n := by
    intro n
    rw [show 5 + inner.length + n = (inner.length + (2 + n)) + 3 by omega, List.drop_succ_cons, List.drop_succ_cons, List.drop_succ_cons, List.drop_append, List.drop_of_length_le (l := inner) (by omega), Nat.add_sub_cancel_left, List.nil_append, Nat.add_comm 2 n]
    rfl
  have h1 := lexL_like (k := k) (k' := k + (5 + inner.length)) (j := 5 + inner.length) (l := 32 :: 47 :: 42 :: (inner ++ 42 :: 47 :: v)) (l' := v) (b := inner.any isLine) (by rw [hp]) (by rw [hp]) (fun h0 => by rw [hp]; simp [h0]) hd rfl
    (by
      unfold tokAt
      rw [hp, hd]
      simp only
      rw [show k + (5 + inner.length + (passF v).1) = k + (5 + inner.length) + (passF v).1 by omega])
  have h2 : lexL (k + (5 + inner.length)) v = addQ (4 + inner.length) (lexL (k + 1) v) := by
    rw [← lexL_shift (by omega), show k + 1 + (4 + inner.length) = k + (5 + inner.length) by omega]
  rw [h1, h2]
  by_cases hb : inner.any isLine = true
  · rw [if_pos hb, if_pos hb, lexL_blank (by decide), if_pos (by decide), nl0_addQ]
  · rw [if_neg hb, if_neg hb, lexL_blank (by decide), if_neg (by decide)]
/-- a token behind the first source is moved -/
def movT (n D : Nat) (t : Tok) : Tok := if n < t.pos then shiftT D t else t
theorem map_same {ts : List Tok} {f : Tok → Tok} (h : ∀ t ∈ ts, f t = t) : ts.map f = ts := by
  conv => rhs; rw [← List.map_id ts]
  exact List.map_congr_left h
theorem nl0_pos {q : List Tok × Nat × Nat} {n : Nat} (h : ∀ t ∈ q.1, n < t.pos) : ∀ t ∈ (nl0 q).1, n < t.pos := by
  obtain ⟨ts, a, e⟩ := q
  cases ts with
  | nil => intro t ht; simp [nl0] at ht
  | cons s r =>
    intro t ht
    simp only [nl0] at ht
    rcases List.mem_cons.1 ht with h1 | h1
    · rw [h1]; exact h s (by simp)
    · exact h t (by simp [h1])
/-- The law's two sources. -/
theorem remarks_law {u v inner : List UInt16} {ts tl tm : List Tok} {al el am em : Nat} (hu : u.length ≤ 1000) (hv : v.length ≤ 1000) (hi : inner.length ≤ 1000) (hin : inner.all okIn = true) (hno : ∀ i, starts [47, 47] (u.drop i) = false) (hq : lexF u = (ts, 0, 0))
    (hl : lexF ((u ++ [if inner.any isLine = true then 10 else 32]) ++ v) = (tl, al, el)) (hm : lexF ((u ++ remOf inner) ++ v) = (tm, am, em)) :
    em = el ∧ (el ≠ 0 → am = al + (4 + inner.length)) ∧ (el = 0 → tm = tl.map (movT u.length (4 + inner.length))) := by
  have hts := lexF_small (u := u) (by omega)
  rw [hq] at hts
  rw [lexF_short (by omega)] at hq
  rw [lexF_short (by simp; omega)] at hl
  rw [lexF_short (by simp [remOf]; omega)] at hm
  obtain ⟨x, hx⟩ : ∃ x : UInt16, (if inner.any isLine = true then 10 else 32) = x := ⟨_, rfl⟩
  have hxs : Ahead x u := by
    rw [← hx]
    split
    · exact .inl rfl
    · exact .inr ⟨rfl, hno⟩
  obtain ⟨init, b, h1, h2⟩ := lexL_app (x := x) (v := v) (u.length + 1) u 0 (by omega) hxs (by rw [hq])
  obtain ⟨init', b', h3, h4⟩ := lexL_app (x := 32) (v := 47 :: 42 :: (inner ++ 42 :: 47 :: v)) (u.length + 1) u 0 (by omega) (.inr ⟨rfl, hno⟩) (by rw [hq])
  rw [h1] at h3
  obtain ⟨h5, h6⟩ := List.append_inj' h3 rfl
  subst h5
  have hb : b = b' := by
    have := congrArg Tok.nl (List.cons.inj h6).1
    exact this
  subst hb
  rw [lexL_rem hin, hx] at h4
  rw [hx, show (u ++ [x]) ++ v = u ++ x :: v by simp, h2] at hl
  rw [show (u ++ remOf inner) ++ v = u ++ 32 :: 47 :: 42 :: (inner ++ 42 :: 47 :: v) by simp [remOf], h4] at hm
  have hpos : ∀ t ∈ (lexL (0 + u.length) (x :: v)).1, u.length < t.pos := by
    have hxb : (isBl x || isLine x) = true := by rw [← hx]; split <;> decide
    rw [lexL_blank hxb]
    have h7 : ∀ t ∈ (lexL (0 + u.length + 1) v).1, u.length < t.pos := fun t ht => by
      have := (lexN_small _ _ _ t ht).2.1
      omega
    split
    · exact nl0_pos h7
    · exact h7
  obtain ⟨Q, hQ⟩ : ∃ Q, (if b = true then nl0 (lexL (0 + u.length) (x :: v)) else lexL (0 + u.length) (x :: v)) = Q := ⟨_, rfl⟩
  have hQ2 : (if b = true then nl0 (addQ (4 + inner.length) (lexL (0 + u.length) (x :: v))) else addQ (4 + inner.length) (lexL (0 + u.length) (x :: v))) = addQ (4 + inner.length) Q := by
    rw [← hQ]
    cases b
    · rfl
    · simp only [if_true]
      rw [nl0_addQ]
  have hQp : ∀ t ∈ Q.1, u.length < t.pos := by
    rw [← hQ]
    cases b
    · exact hpos
    · exact nl0_pos hpos
  rw [hQ] at hl
  rw [hQ2] at hm
  have hinit : ∀ t ∈ init, movT u.length (4 + inner.length) t = t := fun t ht => by
    have : t ∈ ts := by rw [show ts = (lexL 0 u).1 by rw [hq], h1]; exact List.mem_append_left _ ht
    have := (hts t this).2
    unfold movT
    rw [if_neg (by omega)]
  have hQm : Q.1.map (shiftT (4 + inner.length)) = Q.1.map (movT u.length (4 + inner.length)) :=
    List.map_congr_left fun t ht => by unfold movT; rw [if_pos (hQp t ht)]
  obtain ⟨tq, aq, eq⟩ := Q
  unfold prep addQ at hm
  unfold prep at hl
  simp only at hl hm hQm
  by_cases he : eq = 0
  · subst he
    simp only [ne_eq, not_true_eq_false, if_false, Prod.mk.injEq] at hl hm
    obtain ⟨rfl, rfl, rfl⟩ := hl
    obtain ⟨rfl, rfl, rfl⟩ := hm
    refine ⟨rfl, fun h => absurd rfl h, fun _ => ?_⟩
    rw [List.map_append, map_same hinit, hQm]
  · simp only [he, ne_eq, not_false_eq_true, if_true, Prod.mk.injEq] at hl hm
    obtain ⟨rfl, rfl, rfl⟩ := hl
    obtain ⟨rfl, rfl, rfl⟩ := hm
    exact ⟨rfl, fun _ => rfl, fun h => absurd h he⟩
end Go.Proofs.Ytngcikgjdeomdaa
