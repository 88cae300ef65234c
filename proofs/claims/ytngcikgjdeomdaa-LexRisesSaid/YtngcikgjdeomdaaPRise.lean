/- Tokens stand where they say, and rise. Plain Lean, no program. -/
import Derived.Test.YtngcikgjdeomdaaPNames
import Derived.Test.YtngcikgjdeomdaaPSmall
namespace Go.Proofs.Ytngcikgjdeomdaa

def isTxt (t : Tok) : Prop := t.kind = 1 ∨ t.kind = 5 ∨ t.kind = 6
/-- what holds of a token that stands ahead of l and takes n units -/
structure TokOk (l : List UInt16) (t : Tok) (n : Nat) : Prop where
  kind : t.kind ≠ 0
  txt : isTxt t → t.text.length = n ∧ l.take n = ascii t.text ∧ (t.kind = 1 ↔ nameF t.text = true) ∧ (t.kind = 5 ↔ signF t.text = 1) ∧ (t.kind = 6 ↔ 0 < wordF t.text)
theorem run_lt {x : UInt16} (h : isRun x = true) : x.toNat < 128 := by
  unfold isRun isLet isDigit at h
  simp only [Bool.or_eq_true, Bool.and_eq_true, decide_eq_true_eq, beq_iff_eq] at h
  omega
theorem ascii_of {d : List UInt16} (h : ∀ x ∈ d, x.toNat < 256) : ascii (asc d) = d := by
  unfold ascii asc
  rw [List.map_map]
  conv => rhs; rw [← List.map_id d]
  refine List.map_congr_left fun x hx => ?_
  have h1 := h x hx
  refine UInt16.toNat_inj.1 ?_
  show x.toNat % 256 = x.toNat
  omega
theorem signs_head : ∀ b ∈ signsIn ++ signsOut, ∀ c ∈ b.head?, isLet c.toUInt16 = false := by decide +kernel
theorem signF_let {c : UInt8} {r : List UInt8} (h : isLet c.toUInt16 = true) : signF (c :: r) = 0 := by
  unfold signF
  rw [if_neg, if_neg]
  · intro hm
    have := signs_head _ (List.mem_append_right _ hm) c rfl
    rw [h] at this; cases this
  · intro hm
    have := signs_head _ (List.mem_append_left _ hm) c rfl
    rw [h] at this; cases this
theorem take_while {p : UInt16 → Bool} (l : List UInt16) : l.take (l.takeWhile p).length = l.takeWhile p := by
  conv => lhs; arg 2; rw [← List.takeWhile_append_dropWhile (p := p) (l := l)]
  rw [List.take_left]
theorem wordT_ok {x : UInt16} {r : List UInt16} (hx : isLet x = true) (h : (wordT (x :: r)).1 = 0) : TokOk (x :: r) (wordT (x :: r)).2.1 (wordT (x :: r)).2.2 := by
  unfold wordT at h ⊢
  by_cases h1 : starts [92] ((x :: r).drop ((x :: r).takeWhile isRun).length) = true
  · rw [if_pos h1] at h; cases h
  · rw [if_neg h1]
    obtain ⟨d, hd⟩ : ∃ d, (x :: r).takeWhile isRun = d := ⟨_, rfl⟩
    have htk := take_while (p := isRun) (x :: r)
    have hall : ∀ y ∈ d, isRun y = true := by rw [← hd]; exact List.all_eq_true.1 List.all_takeWhile
    have hd0 : d = x :: r.takeWhile isRun := by rw [← hd, List.takeWhile_cons_of_pos (by unfold isRun; rw [hx]; rfl)]
    rw [hd] at htk ⊢
    have hasc : ascii (asc d) = d := ascii_of fun y hy => by have := run_lt (hall y hy); omega
    have hxx : x.toUInt8.toUInt16 = x := by
      have h2 : (ascii (asc d))[0]? = d[0]? := by rw [hasc]
      rw [hd0] at h2
      simpa [ascii, asc] using h2
    have hlet : isLet x.toUInt8.toUInt16 = true := by rw [hxx]; exact hx
    have hrun : runF (asc d) = true := by
      rw [hd0]
      show (isLet x.toUInt8.toUInt16 && ((r.takeWhile isRun).map (·.toUInt8)).all fun c => isRun c.toUInt16) = true
      rw [hlet, Bool.true_and, List.all_eq_true]
      intro c hc
      obtain ⟨y, hy, rfl⟩ := List.mem_map.1 hc
      have hy1 : isRun y = true := hall y (by rw [hd0]; simp [hy])
      have hy2 := run_lt hy1
      have : y.toUInt8.toUInt16 = y := by
        refine UInt16.toNat_inj.1 ?_
        show y.toNat % 256 = y.toNat
        omega
      rw [this]; exact hy1
    have hsg : signF (asc d) = 0 := by rw [hd0]; exact signF_let hlet
    refine ⟨?_, fun _ => ⟨by simp [asc], by rw [htk, hasc], ?_, ?_, ?_⟩⟩
    · simp only
      split <;> simp
    · unfold nameF
      rw [hrun, Bool.true_and, beq_iff_eq]
      by_cases hw : 0 < wordF (asc d)
      · simp only [hw, if_true]; constructor
        · intro h; cases h
        · intro h; omega
      · simp only [hw, if_false, true_iff]; omega
    · rw [hsg]
      by_cases hw : 0 < wordF (asc d) <;> simp [hw]
    · by_cases hw : 0 < wordF (asc d) <;> simp [hw]
theorem signT_ok {z : Bool} {l : List UInt16} (h : (signT z l).1 = 0) : TokOk l (signT z l).2.1 (signT z l).2.2 := by
  unfold signT at h ⊢
  cases hs : signN l 4 with
  | none =>
    rw [hs] at h
    simp only at h
    split at h <;> cases h
  | some n =>
    have h5 := signN_some hs
    have h6 := signAt_len h5.2.2
    rw [hs] at h
    simp only at h ⊢
    by_cases h2 : signAt l n = 2
    · rw [if_pos h2] at h; cases h
    · rw [if_neg h2]
      have h7 := h5.2.2
      have h8 : signAt l n = signF (asc (l.take n)) ∧ (l.take n).all (fun x => decide (x.toNat ≤ 127)) = true := by
        unfold signAt at h7 ⊢
        split at h7
        · rename_i h9
          rw [if_pos h9]
          simp only [Bool.and_eq_true] at h9
          exact ⟨rfl, h9.1.2⟩
        · exact absurd rfl h7
      have h1 : signF (asc (l.take n)) = 1 := by
        have := signF_3 (asc (l.take n))
        rw [h8.1] at h2 h7
        omega
      obtain ⟨_, hn, hw⟩ := sign_one h1
      refine ⟨by simp, fun _ => ⟨by simp [asc]; omega, (ascii_of fun y hy => by have := List.all_eq_true.1 h8.2 y hy; simp at this; omega).symm, ?_, ?_, ?_⟩⟩
      · simp only; rw [hn]; simp
      · simp only; rw [h1]; simp
      · simp only; rw [hw]; simp
theorem other_ok {l : List UInt16} {t : Tok} {n : Nat} (h : t.kind = 2 ∨ t.kind = 3 ∨ t.kind = 4) : TokOk l t n := by
  refine ⟨by omega, fun hx => ?_⟩
  unfold isTxt at hx
  omega
theorem token_ok {z : Bool} {l : List UInt16} (h : (tokenT z l).1 = 0) : TokOk l (tokenT z l).2.1 (tokenT z l).2.2 := by
  cases l with
  | nil => cases h
  | cons x r =>
    rw [tokenT_cons] at h ⊢
    by_cases c1 : isLet x = true
    · rw [if_pos c1] at h ⊢; exact wordT_ok c1 h
    rw [if_neg c1] at h ⊢
    by_cases c2 : isDigit x = true
    · rw [if_pos c2] at h ⊢
      refine other_ok ?_
      unfold numberT numT' at h ⊢
      split at h
      · cases h
      · rename_i d1
        rw [if_neg d1]
        split at h
        · rename_i d2
          rw [if_pos d2]
          unfold bigT at h ⊢
          split at h
          · cases h
          · rename_i d3
            rw [if_neg d3]
            split at h
            · cases h
            · rename_i d4; rw [if_neg d4]; simp
        · rename_i d2
          rw [if_neg d2]
          split at h
          · cases h
          · rename_i d3
            rw [if_neg d3]
            split at h
            · cases h
            · rename_i d4
              rw [if_neg d4]
              split at h
              · cases h
              · rename_i d5; rw [if_neg d5]; simp
    rw [if_neg c2] at h ⊢
    by_cases c3 : (x.toNat == 39 || x.toNat == 34) = true
    · rw [if_pos c3] at h ⊢
      refine other_ok ?_
      unfold quotedT at h ⊢
      split at h
      · rename_i d1; exact absurd h d1
      · rename_i d1; rw [if_neg d1]; simp
    rw [if_neg c3] at h ⊢
    by_cases c4 : (x.toNat == 46 && isAt 0 isDigit r) = true
    · rw [if_pos c4] at h; cases h
    rw [if_neg c4] at h ⊢
    exact signT_ok h
/-- tokens one behind the other, the first at or behind e, the last one the end -/
def Chain (u : List UInt16) : Nat → List Tok → Prop
  | _, [] => False
  | e, t :: r => e ≤ t.pos ∧ ((r = [] ∧ t.kind = 0 ∧ t.pos = u.length) ∨ (r ≠ [] ∧ ∃ n, 1 ≤ n ∧ t.pos + n ≤ u.length ∧ TokOk (u.drop t.pos) t n ∧ Chain u (t.pos + n) r))
theorem lexL_chain (u : List UInt16) : ∀ (m k : Nat), u.length - k < m → k ≤ u.length → (lexL k (u.drop k)).2.2 = 0 → Chain u k (lexL k (u.drop k)).1 := by
  intro m
  induction m with
  | zero => intro k h; omega
  | succ m ih =>
    intro k hm hk h
    have hpe : (passF (u.drop k)).2.2 = 0 := by
      by_cases h1 : (passF (u.drop k)).2.2 ≠ 0
      · rw [lexL_pass h1] at h; exact absurd h h1
      · exact Decidable.not_not.1 h1
    have hpl := pass_le (u.drop k)
    rw [List.length_drop] at hpl
    by_cases h2 : (u.drop k).drop (passF (u.drop k)).1 = []
    · have h3 : (passF (u.drop k)).1 = u.length - k := by
        have := congrArg List.length h2
        rw [List.length_drop, List.length_drop] at this
        simp only [List.length_nil] at this
        omega
      rw [lexL_end hpe h2]
      refine ⟨by simp [setAt], .inl ⟨rfl, rfl, ?_⟩⟩
      simp only [setAt]
      omega
    · have hte : (tokAt k (u.drop k)).1 = 0 := by
        by_cases h3 : (tokAt k (u.drop k)).1 ≠ 0
        · rw [lexL_bad hpe h2 h3] at h; exact absurd h h3
        · exact Decidable.not_not.1 h3
      have hlen := tokAt_len hte
      rw [List.length_drop] at hlen
      have hmo := lexL_more hpe h2 hte
      have hok : TokOk ((u.drop k).drop (passF (u.drop k)).1) (tokAt k (u.drop k)).2.1 (tokAt k (u.drop k)).2.2 := token_ok hte
      rw [List.drop_drop] at hmo
      rw [hmo] at h ⊢
      have h4 : (lexL (k + (passF (u.drop k)).1 + (tokAt k (u.drop k)).2.2) (u.drop (k + ((passF (u.drop k)).1 + (tokAt k (u.drop k)).2.2)))).2.2 = 0 := by
        unfold consT at h
        by_cases h5 : (lexL (k + (passF (u.drop k)).1 + (tokAt k (u.drop k)).2.2) (u.drop (k + ((passF (u.drop k)).1 + (tokAt k (u.drop k)).2.2)))).2.2 ≠ 0
        · rw [if_pos h5] at h; exact absurd h h5
        · exact Decidable.not_not.1 h5
      rw [show k + ((passF (u.drop k)).1 + (tokAt k (u.drop k)).2.2) = k + (passF (u.drop k)).1 + (tokAt k (u.drop k)).2.2 by omega] at h4 ⊢
      have hc := ih (k + (passF (u.drop k)).1 + (tokAt k (u.drop k)).2.2) (by omega) (by omega) h4
      unfold consT
      rw [if_neg (by rw [h4]; simp)]
      refine ⟨by simp [setAt], .inr ⟨fun e => by rw [e] at hc; exact hc, (tokAt k (u.drop k)).2.2, hlen.1, by simp only [setAt]; omega, ?_, hc⟩⟩
      rw [List.drop_drop] at hok
      exact ⟨hok.kind, hok.txt⟩
theorem chain_last {u : List UInt16} : ∀ {ts : List Tok} {e : Nat}, Chain u e ts → ∃ init l, ts = init ++ [l] ∧ l.kind = 0 ∧ l.pos = u.length := by
  intro ts
  induction ts with
  | nil => intro e h; exact h.elim
  | cons t r ih =>
    intro e h
    rcases h.2 with ⟨h1, h2, h3⟩ | ⟨h1, n, _, _, _, h2⟩
    · subst h1; exact ⟨[], t, rfl, h2, h3⟩
    · obtain ⟨init, l, rfl, h4, h5⟩ := ih h2
      exact ⟨t :: init, l, rfl, h4, h5⟩
theorem rises_law {u : List UInt16} {ts : List Tok} (hl : u.length ≤ 4096) (hq : lexF u = (ts, 0, 0)) : Chain u 0 ts := by
  rw [lexF_short (by omega)] at hq
  have := lexL_chain u (u.length + 1) 0 (by omega) (Nat.zero_le _) (by rw [List.drop_zero, hq])
  rwa [List.drop_zero, hq] at this
end Go.Proofs.Ytngcikgjdeomdaa
