/- Digits and numbers, in plain Lean: the digits of a number are that number; a key's text is its number's digits. No program is walked here. -/
import Derived.Test.YtngcikgjdeomdaaMisc
import Derived.Test.YtngcikgjdeomdaaSpec
import Derived.Test.YtngcikgjdeomdaaAscii
namespace Go.Proofs.Ytngcikgjdeomdaa

theorem ascii_app (a b : List UInt8) : ascii (a ++ b) = ascii a ++ ascii b := by simp [ascii]
theorem ascii_len (a : List UInt8) : (ascii a).length = a.length := by simp [ascii]
theorem ascii_chr {n : Nat} (h : n < 256) : ascii [chr n] = [UInt16.ofNat n] := by
  simp only [ascii, List.map_cons, List.map_nil, List.cons.injEq, and_true]
  refine UInt16.toNat_inj.1 ?_
  have h1 := chr_nat h
  simp [h1]
  omega
theorem not_blank_digit {x : UInt16} (h : isDigit x = true) : isBlank x = false := by
  have := isDigit_iff.1 h
  simp [isBlank]
  omega
theorem dropW_none {u : List UInt16} (h : ∀ x ∈ u, isBlank x = false) : u.dropWhile isBlank = u := by
  cases u with
  | nil => rfl
  | cons x r => simp [List.dropWhile, h x (by simp)]
theorem trimF_none {u : List UInt16} (h : ∀ x ∈ u, isBlank x = false) : trimF u = u := by
  unfold trimF trimR
  rw [dropW_none h, dropW_none (fun x hx => h x (by simpa using hx)), List.reverse_reverse]
theorem decVal_pos {l : List UInt16} (h0 : 0 < l.length) (hd : isDigit l[0] = true) (h : l[0] ≠ 48) : 0 < decVal l := by
  cases l with
  | nil => simp at h0
  | cons x r =>
    have hx := isDigit_iff.1 hd
    simp only [List.getElem_cons_zero] at hx h
    have hn : x.toNat ≠ 48 := fun e => h (UInt16.toNat_inj.1 e)
    show 0 < decGo (10 * 0 + (x.toNat - 48)) r
    have := decGo_ge (10 * 0 + (x.toNat - 48)) r
    omega
theorem decS_digits (u : List UInt16) : ∀ n, u.length = n → 0 < n → (∀ x ∈ u, isDigit x = true) → (∀ h : 0 < u.length, 1 < u.length → u[0] ≠ 48) → ascii (decS (decVal u)) = u := by
  intro n
  induction n generalizing u with
  | zero => intro _ h; omega
  | succ n ih =>
    intro hl _ hd hz
    obtain ⟨l, x, rfl⟩ : ∃ l x, u = l ++ [x] := ⟨u.dropLast, u.getLast (by intro h; simp [h] at hl), (List.dropLast_concat_getLast _).symm⟩
    have hx := isDigit_iff.1 (hd x (by simp))
    have hl' : l.length = n := by simpa using hl
    have hof : UInt16.ofNat (48 + (x.toNat - 48)) = x := by
      refine UInt16.toNat_inj.1 ?_
      have := x.toNat_lt
      simp
      omega
    rw [decVal_snoc]
    by_cases h0 : n = 0
    · subst h0
      have : l = [] := List.eq_nil_of_length_eq_zero hl'
      subst this
      have h1 : 10 * decVal [] + (x.toNat - 48) = x.toNat - 48 := by show 10 * 0 + (x.toNat - 48) = _; omega
      rw [h1, decS_lo (by omega), ascii_chr (by omega), hof]
      rfl
    · have hlz : 0 < l.length := by omega
      have hz0 : l[0] ≠ 48 := by
        have := hz (by simp) (by simp; omega)
        rwa [List.getElem_append_left hlz] at this
      have hp := decVal_pos hlz (hd _ (by simp)) hz0
      rw [decS_hi (by omega), ascii_app, ascii_chr (by omega)]
      have h1 : (10 * decVal l + (x.toNat - 48)) / 10 = decVal l := by omega
      have h2 : (10 * decVal l + (x.toNat - 48)) % 10 = x.toNat - 48 := by omega
      rw [h1, h2, hof, ih l hl' (by omega) (fun y hy => hd y (by simp [hy])) (fun _ _ => hz0)]

theorem num_digits {u : List UInt16} (h0 : 0 < u.length) (hd : ∀ x ∈ u, isDigit x = true) (hf : decVal u ≤ 9007199254740991) : numF u = (⟨0, decVal u⟩, true) := by
  have hx := isDigit_iff.1 (hd _ (List.getElem_mem h0))
  have hne : u ≠ [] := List.ne_nil_of_length_pos h0
  obtain ⟨x, r, rfl⟩ := List.exists_cons_of_ne_nil hne
  simp only [List.getElem_cons_zero] at hx
  have hs : signOf (x :: r) = false := by
    simp only [signOf, List.headD_cons, beq_eq_false_iff_ne]
    rintro rfl
    simp at hx
  have hr : restOf (x :: r) = x :: r := by
    unfold restOf
    rw [if_neg]
    simp only [List.headD_cons]
    rintro (rfl | rfl) <;> simp at hx
  have hi : x :: r ≠ infinity := by
    intro h
    have h73 : x = 73 := by injection h
    rw [h73] at hx
    simp at hx
  unfold numF
  rw [trimF_none (fun x hx => not_blank_digit (hd x hx))]
  unfold numT
  rw [if_neg hne, hs]
  unfold baseT
  have hall := List.all_eq_true.2 hd
  simp only [hr, hi, hf, hall, ne_eq, hne, not_false_eq_true, and_self, if_true, if_false, Bool.false_eq_true]

theorem keyOk_parts {u : List UInt16} (h : keyOk u = true) : 0 < u.length ∧ u.length ≤ 10 ∧ (∀ h0 : 0 < u.length, 1 < u.length → u[0] ≠ 48) ∧ (∀ x ∈ u, isDigit x = true) ∧ decVal u ≤ 4294967294 := by
  have h1 := keyOk_len h
  simp only [keyOk, Bool.and_eq_true, decide_eq_true_eq, Bool.not_eq_true', List.all_eq_true, Bool.and_eq_false_iff, decide_eq_false_iff_not] at h
  refine ⟨h1.1, h1.2, fun h0 hl e => ?_, fun x hx => h.1.2 x hx, h.2⟩
  rcases h.1.1.2 with h3 | h3
  · exact h3 (by rw [List.getElem?_eq_getElem h0, e])
  · exact h3 hl
theorem key_num {u : List UInt16} (h : keyOk u = true) : numF u = (⟨0, (keyF u : Int)⟩, true) ∧ ascii (decS (keyF u)) = u ∧ keyF u ≤ 4294967294 := by
  obtain ⟨h0, h1, h2, h3, h4⟩ := keyOk_parts h
  have hk : keyF u = decVal u := by rw [keyF, if_pos h]
  rw [hk]
  exact ⟨num_digits h0 h3 (by omega), decS_digits u _ rfl h0 h3 h2, h4⟩
theorem key_none {u : List UInt16} (h : keyOk u = false) : keyF u = 0 := by rw [keyF, h]; rfl

theorem decS_pos (n : Nat) : 0 < (decS n).length := by
  by_cases h : n < 10
  · rw [decS_lo h]; simp
  · rw [decS_hi h]; simp
theorem decS_all (n : Nat) : ∀ x ∈ ascii (decS n), isDigit x = true := by
  induction n using Nat.strongRecOn with
  | _ n ih =>
    have hone : ∀ m, m < 10 → isDigit (UInt16.ofNat (48 + m)) = true := by
      intro m hm
      rw [isDigit_iff]
      simp
      omega
    by_cases h : n < 10
    · rw [decS_lo h, ascii_chr (by omega)]
      intro x hx
      rw [List.mem_singleton] at hx
      subst hx
      exact hone n h
    · rw [decS_hi h, ascii_app, ascii_chr (by omega)]
      intro x hx
      rcases List.mem_append.1 hx with hx | hx
      · exact ih (n / 10) (by omega) x hx
      · rw [List.mem_singleton] at hx
        subst hx
        exact hone _ (by omega)
theorem decS_val (n : Nat) : decVal (ascii (decS n)) = n := by
  induction n using Nat.strongRecOn with
  | _ n ih =>
    have hone : ∀ m, m < 10 → (UInt16.ofNat (48 + m)).toNat - 48 = m := by
      intro m hm
      simp
      omega
    by_cases h : n < 10
    · rw [decS_lo h, ascii_chr (by omega)]
      show 10 * 0 + ((UInt16.ofNat (48 + n)).toNat - 48) = n
      rw [hone n h]
      omega
    · rw [decS_hi h, ascii_app, ascii_chr (by omega), decVal_snoc, ih (n / 10) (by omega), hone _ (by omega)]
      omega
theorem decS_head (n : Nat) : ∀ h : 0 < (ascii (decS n)).length, 1 < (ascii (decS n)).length → (ascii (decS n))[0] ≠ 48 := by
  induction n using Nat.strongRecOn with
  | _ n ih =>
    by_cases h : n < 10
    · intro _ h1
      rw [decS_lo h] at h1
      simp [ascii] at h1
    · intro h0 _
      have hl : 0 < (ascii (decS (n / 10))).length := by rw [ascii_len]; exact decS_pos _
      have e : (ascii (decS n))[0] = (ascii (decS (n / 10)))[0] := by
        have : ascii (decS n) = ascii (decS (n / 10)) ++ ascii [chr (48 + n % 10)] := by rw [decS_hi h, ascii_app]
        rw [List.getElem_of_eq this]
        exact List.getElem_append_left hl
      rw [e]
      by_cases h1 : n / 10 < 10
      · have e2 : ascii (decS (n / 10)) = [UInt16.ofNat (48 + n / 10)] := by rw [decS_lo h1, ascii_chr (by omega)]
        rw [List.getElem_of_eq e2]
        simp only [List.getElem_cons_zero]
        intro hh
        have := congrArg UInt16.toNat hh
        simp at this
        omega
      · refine ih (n / 10) (by omega) hl ?_
        rw [decS_hi h1, ascii_app, List.length_append, ascii_len]
        have := decS_pos (n / 10 / 10)
        simp [ascii]
        omega
theorem decS_len_le {k : Nat} : ∀ {n : Nat}, n < 10 ^ (k + 1) → (decS n).length ≤ k + 1 := by
  induction k with
  | zero => intro n h; rw [decS_lo (by simpa using h)]; simp
  | succ k ih =>
    intro n h
    by_cases h1 : n < 10
    · rw [decS_lo h1]; simp
    · rw [decS_hi h1]
      have := @ih (n / 10) (by rw [Nat.pow_succ] at h; omega)
      simp
      omega
theorem key_dec (n : Nat) : keyOk (ascii (decS n)) = decide (n ≤ 4294967294) ∧ (n ≤ 4294967294 → keyF (ascii (decS n)) = n) := by
  have h0 : 0 < (ascii (decS n)).length := by rw [ascii_len]; exact decS_pos n
  by_cases h10 : (ascii (decS n)).length ≤ 10
  · have e := keyOk_at h0 h10 (fun ⟨a, b⟩ => decS_head n h0 b a) (decS_all n)
    rw [decS_val] at e
    exact ⟨e, fun h => by rw [keyF, e, decS_val, if_pos (by simpa using h)]⟩
  · have hn : ¬ n ≤ 4294967294 := fun h => h10 (by rw [ascii_len]; exact decS_len_le (by omega))
    exact ⟨by rw [keyOk_long (fun h => h10 h.2)]; simp [hn], fun h => absurd h hn⟩
theorem num_dec {n : Nat} (h : n ≤ 9007199254740991) : numF (ascii (decS n)) = (⟨0, (n : Int)⟩, true) := by
  have := num_digits (u := ascii (decS n)) (by rw [ascii_len]; exact decS_pos n) (decS_all n) (by rw [decS_val]; exact h)
  rwa [decS_val] at this
theorem noughts_all {u : List UInt16} (h : ∀ x ∈ u, isDigit x = true) (k : Nat) : ∀ x ∈ List.replicate k 48 ++ u, isDigit x = true := by
  intro x hx
  rcases List.mem_append.1 hx with hx | hx
  · rw [List.eq_of_mem_replicate hx]; rfl
  · exact h x hx
theorem noughts_val (u : List UInt16) (k : Nat) : decVal (List.replicate k 48 ++ u) = decVal u := by
  induction k with
  | zero => rfl
  | succ k ih =>
    show decGo (10 * 0 + ((48 : UInt16).toNat - 48)) (List.replicate k 48 ++ u) = _
    exact ih
theorem noughts_num {n : Nat} (h : n ≤ 9007199254740991) (k : Nat) : numF (List.replicate k 48 ++ ascii (decS n)) = (⟨0, (n : Int)⟩, true) := by
  have := num_digits (u := List.replicate k 48 ++ ascii (decS n)) (by rw [List.length_append, ascii_len]; have := decS_pos n; omega) (noughts_all (decS_all n) k) (by rw [noughts_val, decS_val]; exact h)
  rwa [noughts_val, decS_val] at this
theorem noughts_key (n k : Nat) (h : 0 < k) : keyOk (List.replicate k 48 ++ ascii (decS n)) = false := by
  obtain ⟨k, rfl⟩ : ∃ j, k = j + 1 := ⟨k - 1, by omega⟩
  have := decS_pos n
  exact keyOk_lead (by simp; omega) (by simp [List.replicate]) (by simp [ascii_len]; omega)
end Go.Proofs.Ytngcikgjdeomdaa
