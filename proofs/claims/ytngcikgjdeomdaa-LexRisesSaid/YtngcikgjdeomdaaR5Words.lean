/- lex.Run, lex.Name; the document's split, Has, Word, Sign, Letters, Name: walked. -/
import Derived.Test.YtngcikgjdeomdaaLexWords
import Derived.Test.YtngcikgjdeomdaaBigParse
namespace Go.Proofs.Ytngcikgjdeomdaa
open Go.RowKit

theorem rletter_any (x : UInt16) (w : World) : Calls Try.prog 51 #[.int .u16 (x.toNat : Int)] w fun e w' => e = .returned (.bool (isLet x)) ∧ w = w' := by
  have h1 := x.toNat_lt
  go_enter Try.func51, Try.ntmps51
  go_wp2
  all_goals go_ret
  all_goals refine ⟨ret_bool ?_, rfl⟩
  all_goals (rw [Bool.eq_iff_iff]; simp only [isLet, Bool.and_eq_true, Bool.or_eq_true, beq_iff_eq, decide_eq_true_eq, true_iff]; omega)
theorem rdigit_any (x : UInt16) (w : World) : Calls Try.prog 53 #[.int .u16 (x.toNat : Int)] w fun e w' => e = .returned (.bool (isDigit x)) ∧ w = w' := by
  have h1 := x.toNat_lt
  go_enter Try.func53, Try.ntmps53
  go_wp2
  all_goals go_ret
  all_goals refine ⟨ret_bool ?_, rfl⟩
  all_goals (rw [Bool.eq_iff_iff]; simp only [isDigit, Bool.and_eq_true, decide_eq_true_eq, Bool.false_eq_true, false_iff]; omega)
theorem lletter_b {c : UInt8} {q : Bool} (h : isLet c.toUInt16 = q) (w : World) : Calls Try.prog 43 #[.int .u16 (c.toNat : Int)] w fun e w' => e = .returned (.bool q) ∧ w = w' := by
  subst h
  have := lletter_any c.toUInt16 w
  rwa [UInt8.toNat_toUInt16] at this
theorem ldigit_b {c : UInt8} {q : Bool} (h : isDigit c.toUInt16 = q) (w : World) : Calls Try.prog 45 #[.int .u16 (c.toNat : Int)] w fun e w' => e = .returned (.bool q) ∧ w = w' := by
  subst h
  have := ldigit_any c.toUInt16 w
  rwa [UInt8.toNat_toUInt16] at this
theorem rletter_b {c : UInt8} {q : Bool} (h : isLet c.toUInt16 = q) (w : World) : Calls Try.prog 51 #[.int .u16 (c.toNat : Int)] w fun e w' => e = .returned (.bool q) ∧ w = w' := by
  subst h
  have := rletter_any c.toUInt16 w
  rwa [UInt8.toNat_toUInt16] at this
theorem rdigit_b {c : UInt8} {q : Bool} (h : isDigit c.toUInt16 = q) (w : World) : Calls Try.prog 53 #[.int .u16 (c.toNat : Int)] w fun e w' => e = .returned (.bool q) ∧ w = w' := by
  subst h
  have := rdigit_any c.toUInt16 w
  rwa [UInt8.toNat_toUInt16] at this

/-- the first so many are as they should -/
def okRun (l : List UInt8) (k : Nat) : Prop := ∀ j (h : j < l.length), j < k → (if j = 0 then isLet l[j].toUInt16 else isRun l[j].toUInt16) = true
theorem okRun_zero (l : List UInt8) : okRun l 0 := fun _ _ h => absurd h (by omega)
theorem okRun_step {l : List UInt8} {k : Nat} (h : okRun l k) (hk : k < l.length) (h2 : (if k = 0 then isLet l[k].toUInt16 else isRun l[k].toUInt16) = true) : okRun l (k + 1) := by
  intro j hj hjk
  by_cases e : j = k
  · subst e; exact h2
  · exact h j hj (by omega)
theorem runF_done {l : List UInt8} (h : okRun l l.length) (h0 : l ≠ []) : runF l = true := by
  cases l with
  | nil => exact absurd rfl h0
  | cons b r =>
    have h1 := h 0 (by simp) (by simp)
    simp only [if_true, List.getElem_cons_zero] at h1
    unfold runF
    simp only [h1, Bool.true_and]
    rw [List.all_eq_true]
    intro x hx
    obtain ⟨j, hj, rfl⟩ := List.getElem_of_mem hx
    have := h (j + 1) (by simpa using hj) (by simpa using hj)
    simpa using this
theorem runF_bad {l : List UInt8} {k : Nat} (hk : k < l.length) (h2 : (if k = 0 then isLet l[k].toUInt16 else isRun l[k].toUInt16) = false) : runF l = false := by
  cases l with
  | nil => rfl
  | cons b r =>
    unfold runF
    by_cases h0 : k = 0
    · subst h0
      simp only [if_true, List.getElem_cons_zero] at h2
      simp [h2]
    · obtain ⟨j, rfl⟩ : ∃ j, k = j + 1 := ⟨k - 1, by omega⟩
      simp only [h0, if_false, List.getElem_cons_succ] at h2
      rw [Bool.and_eq_false_iff]
      right
      rw [← Bool.not_eq_true, List.all_eq_true]
      intro h
      have := h _ (List.getElem_mem (by simpa using hk : j < r.length))
      rw [h2] at this
      cases this
theorem byte_at (s : ByteArray) (k : Nat) (_h : k < s.size) (h2 : k < s.data.toList.length) : s.data.toList[k] = s[k] := rfl
set_option maxHeartbeats 1000000 in
set_option maxRecDepth 100000 in
theorem lrunT_any (s : ByteArray) (w : World) (hs : s.size ≤ 8192) {q : Bool} (hq : runF s.data.toList = q) :
    Calls Try.prog 37 #[.string s] w fun e w' => e = .returned (.bool q) ∧ w = w' := by
  have HQ := hide hq
  have hsz : s.data.toList.length = s.size := by simp
  have HSZ := hide hsz
  clear hq hsz
  go_enter Try.func37, Try.ntmps37
  go_wp2_with fail
  go_loop [7] (fun i => ∃ k : Nat, k ≤ s.size ∧ i = .int .i64 k ∧ Hid (okRun s.data.toList k)) (fun i => s.size - (intOf i).toNat)
  case atStart => exact ⟨0, Nat.zero_le _, rfl, okRun_zero _⟩
  case round =>
    obtain ⟨k, hk, rfl, hok⟩ := hrel
    by_cases hlt : k < s.size
    · have hb := s[k].toNat_lt
      obtain ⟨c, hc⟩ : ∃ c, s[k] = c := ⟨_, rfl⟩
      have HC := hide hc
      have hcn : (s[k].toNat : Int) = (c.toNat : Int) := by rw [hc]
      have HStep := hide (show (if k = 0 then isLet c.toUInt16 else isRun c.toUInt16) = true → okRun s.data.toList (k + 1) from fun h => okRun_step hok.out (by rw [HSZ.out]; exact hlt) (by rw [byte_at s k hlt, HC.out]; exact h))
      have HBad := hide (show (if k = 0 then isLet c.toUInt16 else isRun c.toUInt16) = false → false = q from fun h => by rw [← HQ.out, runF_bad (l := s.data.toList) (k := k) (by rw [HSZ.out]; exact hlt) (by rw [byte_at s k hlt, HC.out]; exact h)])
      clear hc
      obtain ⟨ql, hql⟩ : ∃ q, isLet c.toUInt16 = q := ⟨_, rfl⟩
      obtain ⟨qd, hqd⟩ : ∃ q, isDigit c.toUInt16 = q := ⟨_, rfl⟩
      have HL := hide hql
      have HD := hide hqd
      have HR := hide (show isRun c.toUInt16 = (ql || qd) by unfold isRun; rw [hql, hqd])
      clear hql hqd
      cases ql with
      | true =>
        have HN := hide (HStep.out (by split; exact HL.out; rw [HR.out]; rfl))
        go_wp2_with (first | (go_at_call 43; refine (lletter_b HL.out w).mono ?_; rintro e w' ⟨rfl, rfl⟩) | (go_at_call 45; refine (ldigit_b HD.out w).mono ?_; rintro e w' ⟨rfl, rfl⟩))
        go_round
        case rel => exact ⟨k + 1, by omega, by go_num, HN.out⟩
        case measure => simp [intOf]; omega
      | false =>
        by_cases h0 : k = 0
        · have e0 : ((k : Int) == 0) = true := by rw [h0]; rfl
          have HN := hide (HBad.out (by rw [if_pos h0]; exact HL.out))
          clear h0
          go_wp2_with (first | (go_at_call 43; refine (lletter_b HL.out w).mono ?_; rintro e w' ⟨rfl, rfl⟩) | (go_at_call 45; refine (ldigit_b HD.out w).mono ?_; rintro e w' ⟨rfl, rfl⟩))
          (try rw [Exit.noGoto_ret])
          go_ret
          exact ⟨ret_bool HN.out, rfl⟩
        · have e0 : ((k : Int) == 0) = false := beq_eq_false_iff_ne.2 (by omega)
          cases qd with
          | true =>
            have HN := hide (HStep.out (by rw [if_neg h0, HR.out]; rfl))
            clear h0
            go_wp2_with (first | (go_at_call 43; refine (lletter_b HL.out w).mono ?_; rintro e w' ⟨rfl, rfl⟩) | (go_at_call 45; refine (ldigit_b HD.out w).mono ?_; rintro e w' ⟨rfl, rfl⟩))
            go_round
            case rel => exact ⟨k + 1, by omega, by go_num, HN.out⟩
            case measure => simp [intOf]; omega
          | false =>
            have HN := hide (HBad.out (by rw [if_neg h0, HR.out]; rfl))
            clear h0
            go_wp2_with (first | (go_at_call 43; refine (lletter_b HL.out w).mono ?_; rintro e w' ⟨rfl, rfl⟩) | (go_at_call 45; refine (ldigit_b HD.out w).mono ?_; rintro e w' ⟨rfl, rfl⟩))
            (try rw [Exit.noGoto_ret])
            go_ret
            exact ⟨ret_bool HN.out, rfl⟩
    · have hok2 := hide (show okRun s.data.toList s.data.toList.length by rw [HSZ.out, show s.size = k by omega]; exact hok.out)
      by_cases hem : s.data.toList = []
      · have e1 : s.toList = [] := by rw [ByteArray.toList_eq]; exact hem
        have HN := hide (show false = q by rw [← HQ.out, hem]; rfl)
        have e2 : (s.toList == []) = true := by rw [e1]; rfl
        have e3 : s.toList.isEmpty = true := by rw [e1]; rfl
        clear hem e1
        go_wp2_with fail
        go_ret
        exact ⟨ret_bool HN.out, rfl⟩
      · have e1 : s.toList ≠ [] := by rw [ByteArray.toList_eq]; exact hem
        have HN := hide (show true = q by rw [← HQ.out, runF_done hok2.out hem])
        have e2 : (s.toList == []) = false := beq_eq_false_iff_ne.2 e1
        have e3 : s.toList.isEmpty = false := by rw [List.isEmpty_eq_false_iff]; exact e1
        clear hem e1
        go_wp2_with fail
        go_ret
        exact ⟨ret_bool HN.out, rfl⟩
set_option maxHeartbeats 1000000 in
set_option maxRecDepth 100000 in
theorem rletters_any (s : ByteArray) (w : World) (hs : s.size ≤ 8192) {q : Bool} (hq : runF s.data.toList = q) :
    Calls Try.prog 38 #[.string s] w fun e w' => e = .returned (.bool q) ∧ w = w' := by
  have HQ := hide hq
  have hsz : s.data.toList.length = s.size := by simp
  have HSZ := hide hsz
  clear hq hsz
  go_enter Try.func38, Try.ntmps38
  go_wp2_with fail
  go_loop [3] (fun i => ∃ k : Nat, k ≤ s.size ∧ i = .int .i64 k ∧ Hid (okRun s.data.toList k)) (fun i => s.size - (intOf i).toNat)
  case atStart => exact ⟨0, Nat.zero_le _, rfl, okRun_zero _⟩
  case round =>
    obtain ⟨k, hk, rfl, hok⟩ := hrel
    by_cases hlt : k < s.size
    · have hb := s[k].toNat_lt
      obtain ⟨c, hc⟩ : ∃ c, s[k] = c := ⟨_, rfl⟩
      have HC := hide hc
      have hcn : (s[k].toNat : Int) = (c.toNat : Int) := by rw [hc]
      have HStep := hide (show (if k = 0 then isLet c.toUInt16 else isRun c.toUInt16) = true → okRun s.data.toList (k + 1) from fun h => okRun_step hok.out (by rw [HSZ.out]; exact hlt) (by rw [byte_at s k hlt, HC.out]; exact h))
      have HBad := hide (show (if k = 0 then isLet c.toUInt16 else isRun c.toUInt16) = false → false = q from fun h => by rw [← HQ.out, runF_bad (l := s.data.toList) (k := k) (by rw [HSZ.out]; exact hlt) (by rw [byte_at s k hlt, HC.out]; exact h)])
      clear hc
      obtain ⟨ql, hql⟩ : ∃ q, isLet c.toUInt16 = q := ⟨_, rfl⟩
      obtain ⟨qd, hqd⟩ : ∃ q, isDigit c.toUInt16 = q := ⟨_, rfl⟩
      have HL := hide hql
      have HD := hide hqd
      have HR := hide (show isRun c.toUInt16 = (ql || qd) by unfold isRun; rw [hql, hqd])
      clear hql hqd
      cases ql with
      | true =>
        have HN := hide (HStep.out (by split; exact HL.out; rw [HR.out]; rfl))
        go_wp2_with (first | (go_at_call 51; refine (rletter_b HL.out w).mono ?_; rintro e w' ⟨rfl, rfl⟩) | (go_at_call 53; refine (rdigit_b HD.out w).mono ?_; rintro e w' ⟨rfl, rfl⟩))
        go_round
        case rel => exact ⟨k + 1, by omega, by go_num, HN.out⟩
        case measure => simp [intOf]; omega
      | false =>
        by_cases h0 : k = 0
        · have e0 : ((k : Int) == 0) = true := by rw [h0]; rfl
          have HN := hide (HBad.out (by rw [if_pos h0]; exact HL.out))
          clear h0
          go_wp2_with (first | (go_at_call 51; refine (rletter_b HL.out w).mono ?_; rintro e w' ⟨rfl, rfl⟩) | (go_at_call 53; refine (rdigit_b HD.out w).mono ?_; rintro e w' ⟨rfl, rfl⟩))
          (try rw [Exit.noGoto_ret])
          go_ret
          exact ⟨ret_bool HN.out, rfl⟩
        · have e0 : ((k : Int) == 0) = false := beq_eq_false_iff_ne.2 (by omega)
          cases qd with
          | true =>
            have HN := hide (HStep.out (by rw [if_neg h0, HR.out]; rfl))
            clear h0
            go_wp2_with (first | (go_at_call 51; refine (rletter_b HL.out w).mono ?_; rintro e w' ⟨rfl, rfl⟩) | (go_at_call 53; refine (rdigit_b HD.out w).mono ?_; rintro e w' ⟨rfl, rfl⟩))
            go_round
            case rel => exact ⟨k + 1, by omega, by go_num, HN.out⟩
            case measure => simp [intOf]; omega
          | false =>
            have HN := hide (HBad.out (by rw [if_neg h0, HR.out]; rfl))
            clear h0
            go_wp2_with (first | (go_at_call 51; refine (rletter_b HL.out w).mono ?_; rintro e w' ⟨rfl, rfl⟩) | (go_at_call 53; refine (rdigit_b HD.out w).mono ?_; rintro e w' ⟨rfl, rfl⟩))
            (try rw [Exit.noGoto_ret])
            go_ret
            exact ⟨ret_bool HN.out, rfl⟩
    · have hok2 := hide (show okRun s.data.toList s.data.toList.length by rw [HSZ.out, show s.size = k by omega]; exact hok.out)
      by_cases hem : s.data.toList = []
      · have e1 : s.toList = [] := by rw [ByteArray.toList_eq]; exact hem
        have HN := hide (show false = q by rw [← HQ.out, hem]; rfl)
        have e2 : (s.toList == []) = true := by rw [e1]; rfl
        have e3 : s.toList.isEmpty = true := by rw [e1]; rfl
        clear hem e1
        go_wp2_with fail
        go_ret
        exact ⟨ret_bool HN.out, rfl⟩
      · have e1 : s.toList ≠ [] := by rw [ByteArray.toList_eq]; exact hem
        have HN := hide (show true = q by rw [← HQ.out, runF_done hok2.out hem])
        have e2 : (s.toList == []) = false := beq_eq_false_iff_ne.2 e1
        have e3 : s.toList.isEmpty = false := by rw [List.isEmpty_eq_false_iff]; exact e1
        clear hem e1
        go_wp2_with fail
        go_ret
        exact ⟨ret_bool HN.out, rfl⟩
set_option maxHeartbeats 1000000 in
set_option maxRecDepth 100000 in
theorem lname_any (s : ByteArray) (w : World) (hs : s.size ≤ 8192) {q : Bool} (hq : nameF s.data.toList = q) :
    Calls Try.prog 25 #[.string s] w fun e w' => e = .returned (.bool q) ∧ w = w' := by
  cases hr : runF s.data.toList with
  | false =>
    obtain rfl : q = false := by rw [← hq]; unfold nameF; rw [hr]; rfl
    have HR := hide hr
    clear hr hq
    go_enter Try.func25, Try.ntmps25
    go_wp2_with (go_at_call 37; refine (lrunT_any s w hs HR.out).mono ?_; rintro e w' ⟨rfl, rfl⟩)
    go_ret
    exact ⟨rfl, rfl⟩
  | true =>
    obtain ⟨n, hn⟩ : ∃ n, wordF s.data.toList = n := ⟨_, rfl⟩
    have HQ := hide (show (n == 0) = q by rw [← hq, ← hn]; unfold nameF; rw [hr]; rfl)
    have HR := hide hr
    have HW := hide (show ∀ w : World, Calls Try.prog 21 #[.string s] w fun e w' => e = .returned (.int .i64 (n : Int)) ∧ w = w' from fun w => by have := lword_any s w; rwa [hn] at this)
    clear hr hq hn
    go_enter Try.func25, Try.ntmps25
    go_wp2_with (first | (go_at_call 37; refine (lrunT_any s w hs HR.out).mono ?_; rintro e w' ⟨rfl, rfl⟩) | (go_at_call 21; refine (HW.out w).mono ?_; rintro e w' ⟨rfl, rfl⟩))
    go_ret
    refine ⟨ret_bool ?_, rfl⟩
    rw [← HQ.out, Bool.eq_iff_iff, beq_iff_eq, beq_iff_eq]
    omega
end Go.Proofs.Ytngcikgjdeomdaa
