/- Joined for a claim: LexName, TFields, TNamed, TSmall, TFields2. -/
import Derived.Test.YtelcjdblnagdgaaDoorM07
import Derived.Test.YtelcjdblnagdgaaDoorM01
import Derived.Test.YtelcjdblnagdgaaDoorM04
namespace Go.Proofs.YtelcjdblnagdgaaDoor
open Go.RowKit

theorem lletter_b {c : UInt8} {q : Bool} (h : isLet c.toUInt16 = q) (w : World) : Calls Tryd.prog 74 #[.int .u16 (c.toNat : Int)] w fun e w' => e = .returned (.bool q) ∧ w = w' := by
  subst h
  have := lletter_any c.toUInt16 w
  rwa [UInt8.toNat_toUInt16] at this
theorem ldigit_b {c : UInt8} {q : Bool} (h : isDigit c.toUInt16 = q) (w : World) : Calls Tryd.prog 75 #[.int .u16 (c.toNat : Int)] w fun e w' => e = .returned (.bool q) ∧ w = w' := by
  subst h
  have := ldigit_any c.toUInt16 w
  rwa [UInt8.toNat_toUInt16] at this
/-- the first so many are as they should -/
def okRun (l : List UInt8) (k : Nat) : Prop := ∀ j (h : j < l.length), j < k → (if j = 0 then isLet l[j].toUInt16 else isRun l[j].toUInt16) = true
theorem okRun_zero (l : List UInt8) : okRun l 0 := fun _ _ h => absurd h (by omega)
theorem okRun_step {l : List UInt8} {k : Nat} (h : okRun l k) (hk : k < l.length) (h2 : (if k = 0 then isLet l[k].toUInt16 else isRun l[k].toUInt16) = true) : okRun l (k + 1) := by
  intro j hj hjk
  by_cases e : j = k
  · subst e; exact h2
  · exact h j hj (by omega)
theorem runF_done {l : List UInt8} (h : okRun l l.length) (h0 : l ≠ []) : runF l = true := by
  cases l with
  | nil => exact absurd rfl h0
  | cons b r =>
    have h1 := h 0 (by simp) (by simp)
    simp only [if_true, List.getElem_cons_zero] at h1
    unfold runF
    simp only [h1, Bool.true_and]
    rw [List.all_eq_true]
    intro x hx
    obtain ⟨j, hj, rfl⟩ := List.getElem_of_mem hx
    have := h (j + 1) (by simpa using hj) (by simpa using hj)
    simpa using this
theorem runF_bad {l : List UInt8} {k : Nat} (hk : k < l.length) (h2 : (if k = 0 then isLet l[k].toUInt16 else isRun l[k].toUInt16) = false) : runF l = false := by
  cases l with
  | nil => rfl
  | cons b r =>
    unfold runF
    by_cases h0 : k = 0
    · subst h0
      simp only [if_true, List.getElem_cons_zero] at h2
      simp [h2]
    · obtain ⟨j, rfl⟩ : ∃ j, k = j + 1 := ⟨k - 1, by omega⟩
      simp only [h0, if_false, List.getElem_cons_succ] at h2
      rw [Bool.and_eq_false_iff]
      right
      rw [← Bool.not_eq_true, List.all_eq_true]
      intro h
      have := h _ (List.getElem_mem (by simpa using hk : j < r.length))
      rw [h2] at this
      cases this
theorem byte_at (s : ByteArray) (k : Nat) (_h : k < s.size) (h2 : k < s.data.toList.length) : s.data.toList[k] = s[k] := rfl
set_option maxHeartbeats 1000000 in
set_option maxRecDepth 100000 in
theorem lrunT_any (s : ByteArray) (w : World) (hs : s.size ≤ 8192) {q : Bool} (hq : runF s.data.toList = q) :
    Calls Tryd.prog 51 #[.string s] w fun e w' => e = .returned (.bool q) ∧ w = w' := by
  have HQ := hide hq
  have hsz : s.data.toList.length = s.size := by simp
  have HSZ := hide hsz
  clear hq hsz
  go_enter Tryd.func51, Tryd.ntmps51
  go_wp2_with fail
  go_loop [7] (fun i => ∃ k : Nat, k ≤ s.size ∧ i = .int .i64 k ∧ Hid (okRun s.data.toList k)) (fun i => s.size - (intOf i).toNat)
  case atStart => exact ⟨0, Nat.zero_le _, rfl, okRun_zero _⟩
  case round =>
    obtain ⟨k, hk, rfl, hok⟩ := hrel
    by_cases hlt : k < s.size
    · have hb := s[k].toNat_lt
      obtain ⟨c, hc⟩ : ∃ c, s[k] = c := ⟨_, rfl⟩
      have HC := hide hc
      have hcn : (s[k].toNat : Int) = (c.toNat : Int) := by rw [hc]
      have HStep := hide (show (if k = 0 then isLet c.toUInt16 else isRun c.toUInt16) = true → okRun s.data.toList (k + 1) from fun h => okRun_step hok.out (by rw [HSZ.out]; exact hlt) (by rw [byte_at s k hlt, HC.out]; exact h))
      have HBad := hide (show (if k = 0 then isLet c.toUInt16 else isRun c.toUInt16) = false → false = q from fun h => by rw [← HQ.out, runF_bad (l := s.data.toList) (k := k) (by rw [HSZ.out]; exact hlt) (by rw [byte_at s k hlt, HC.out]; exact h)])
      clear hc
      obtain ⟨ql, hql⟩ : ∃ q, isLet c.toUInt16 = q := ⟨_, rfl⟩
      obtain ⟨qd, hqd⟩ : ∃ q, isDigit c.toUInt16 = q := ⟨_, rfl⟩
      have HL := hide hql
      have HD := hide hqd
      have HR := hide (show isRun c.toUInt16 = (ql || qd) by unfold isRun; rw [hql, hqd])
      clear hql hqd
      cases ql with
      | true =>
        have HN := hide (HStep.out (by split; exact HL.out; rw [HR.out]; rfl))
        go_wp2_with (first | (go_at_call 74; refine (lletter_b HL.out w).mono ?_; rintro e w' ⟨rfl, rfl⟩) | (go_at_call 75; refine (ldigit_b HD.out w).mono ?_; rintro e w' ⟨rfl, rfl⟩))
        go_round
        case rel => exact ⟨k + 1, by omega, by go_num, HN.out⟩
        case measure => simp [intOf]; omega
      | false =>
        by_cases h0 : k = 0
        · have e0 : ((k : Int) == 0) = true := by rw [h0]; rfl
          have HN := hide (HBad.out (by rw [if_pos h0]; exact HL.out))
          clear h0
          go_wp2_with (first | (go_at_call 74; refine (lletter_b HL.out w).mono ?_; rintro e w' ⟨rfl, rfl⟩) | (go_at_call 75; refine (ldigit_b HD.out w).mono ?_; rintro e w' ⟨rfl, rfl⟩))
          (try rw [Exit.noGoto_ret])
          go_ret
          exact ⟨ret_bool HN.out, rfl⟩
        · have e0 : ((k : Int) == 0) = false := beq_eq_false_iff_ne.2 (by omega)
          cases qd with
          | true =>
            have HN := hide (HStep.out (by rw [if_neg h0, HR.out]; rfl))
            clear h0
            go_wp2_with (first | (go_at_call 74; refine (lletter_b HL.out w).mono ?_; rintro e w' ⟨rfl, rfl⟩) | (go_at_call 75; refine (ldigit_b HD.out w).mono ?_; rintro e w' ⟨rfl, rfl⟩))
            go_round
            case rel => exact ⟨k + 1, by omega, by go_num, HN.out⟩
            case measure => simp [intOf]; omega
          | false =>
            have HN := hide (HBad.out (by rw [if_neg h0, HR.out]; rfl))
            clear h0
            go_wp2_with (first | (go_at_call 74; refine (lletter_b HL.out w).mono ?_; rintro e w' ⟨rfl, rfl⟩) | (go_at_call 75; refine (ldigit_b HD.out w).mono ?_; rintro e w' ⟨rfl, rfl⟩))
            (try rw [Exit.noGoto_ret])
            go_ret
            exact ⟨ret_bool HN.out, rfl⟩
    · have hok2 := hide (show okRun s.data.toList s.data.toList.length by rw [HSZ.out, show s.size = k by omega]; exact hok.out)
      by_cases hem : s.data.toList = []
      · have e1 : s.toList = [] := by rw [ByteArray.toList_eq]; exact hem
        have HN := hide (show false = q by rw [← HQ.out, hem]; rfl)
        have e2 : (s.toList == []) = true := by rw [e1]; rfl
        have e3 : s.toList.isEmpty = true := by rw [e1]; rfl
        clear hem e1
        go_wp2_with fail
        go_ret
        exact ⟨ret_bool HN.out, rfl⟩
      · have e1 : s.toList ≠ [] := by rw [ByteArray.toList_eq]; exact hem
        have HN := hide (show true = q by rw [← HQ.out, runF_done hok2.out hem])
        have e2 : (s.toList == []) = false := beq_eq_false_iff_ne.2 e1
        have e3 : s.toList.isEmpty = false := by rw [List.isEmpty_eq_false_iff]; exact e1
        clear hem e1
        go_wp2_with fail
        go_ret
        exact ⟨ret_bool HN.out, rfl⟩
set_option maxHeartbeats 1000000 in
set_option maxRecDepth 100000 in
theorem lname_any (s : ByteArray) (w : World) (hs : s.size ≤ 8192) {q : Bool} (hq : nameF s.data.toList = q) :
    Calls Tryd.prog 50 #[.string s] w fun e w' => e = .returned (.bool q) ∧ w = w' := by
  cases hr : runF s.data.toList with
  | false =>
    obtain rfl : q = false := by rw [← hq]; unfold nameF; rw [hr]; rfl
    have HR := hide hr
    clear hr hq
    go_enter Tryd.func50, Tryd.ntmps50
    go_wp2_with (go_at_call 51; refine (lrunT_any s w hs HR.out).mono ?_; rintro e w' ⟨rfl, rfl⟩)
    go_ret
    exact ⟨rfl, rfl⟩
  | true =>
    obtain ⟨n, hn⟩ : ∃ n, wordF s.data.toList = n := ⟨_, rfl⟩
    have HQ := hide (show (n == 0) = q by rw [← hq, ← hn]; unfold nameF; rw [hr]; rfl)
    have HR := hide hr
    have HW := hide (show ∀ w : World, Calls Tryd.prog 73 #[.string s] w fun e w' => e = .returned (.int .i64 (n : Int)) ∧ w = w' from fun w => by have := lword_any s w; rwa [hn] at this)
    clear hr hq hn
    go_enter Tryd.func50, Tryd.ntmps50
    go_wp2_with (first | (go_at_call 51; refine (lrunT_any s w hs HR.out).mono ?_; rintro e w' ⟨rfl, rfl⟩) | (go_at_call 73; refine (HW.out w).mono ?_; rintro e w' ⟨rfl, rfl⟩))
    go_ret
    refine ⟨ret_bool ?_, rfl⟩
    rw [← HQ.out, Bool.eq_iff_iff, beq_iff_eq, beq_iff_eq]
    omega
end Go.Proofs.YtelcjdblnagdgaaDoor

namespace Go.Proofs.YtelcjdblnagdgaaDoor
open Go.RowKit

def strL (l : List (List UInt8)) : List Value := l.map fun s => Value.string ⟨s.toArray⟩
theorem strL_len (l : List (List UInt8)) : (strL l).length = l.length := by simp [strL]
def IdxP (s : List UInt8) (xs : List (List UInt8)) (w : World) (e : Ending) (w' : World) : Prop := ∃ r : Int, e = .returned (.int .i64 r) ∧ w = w' ∧ decide (0 ≤ r) = decide (s ∈ xs) ∧ -1 ≤ r ∧ r ≤ 4096
set_option maxHeartbeats 4000000 in
set_option maxRecDepth 100000 in
theorem index_any {A : Option Addr} {B n c : Nat} {xs : List (List UInt8)} (s : ByteArray) {w : World} (hn : xs.length = n) (ha : Reads w B 1 A n (strL xs)) (hl : n ≤ 4096) :
    Calls Tryd.prog 76 #[.slice A n c, .string s] w (IdxP s.data.toList xs w) := by
  have HN := hide hn
  have HA := hide ha
  clear hn ha
  go_enter Tryd.func76, Tryd.ntmps76
  go_wp2_with fail
  go_loop [8] (fun i => ∃ k : Nat, k ≤ n ∧ i = .int .i64 k ∧ Hid (s.data.toList ∉ xs.take k)) (fun i => n - (intOf i).toNat)
  case atStart => exact ⟨0, Nat.zero_le _, rfl, by simp [Hid]⟩
  case round =>
    obtain ⟨k, hk, rfl, hno⟩ := hrel
    by_cases hlt : k < n
    · have hx : k < xs.length := by rw [HN.out]; exact hlt
      obtain ⟨b, off, rfl, _, hcell⟩ := HA.out.spotR (by omega)
      have hca := hcell k (.string ⟨xs[k].toArray⟩) (by simp [strL, List.getElem?_eq_getElem hx])
      have HM := hide (show xs[k] ∈ xs from List.getElem_mem hx)
      have HT := hide (show xs.take (k + 1) = xs.take k ++ [xs[k]] from List.take_succ_eq_append_getElem hx)
      obtain ⟨x, hxx⟩ : ∃ x, xs[k] = x := ⟨_, rfl⟩
      rw [hxx] at hca HM HT
      clear hcell hxx hx
      by_cases hxs : x = s.data.toList
      · have es : (⟨x.toArray⟩ : ByteArray) = s := by rw [hxs]
        have HR := hide (show decide (s.data.toList ∈ xs) = true from decide_eq_true (by rw [← hxs]; exact HM.out))
        rw [es] at hca
        clear hxs es
        go_wp2_with fail
        (try rw [Exit.noGoto_ret])
        go_ret
        exact ⟨_, rfl, rfl, by rw [HR.out]; exact decide_eq_true (by omega), by omega, by omega⟩
      · have e1 : ((⟨x.toArray⟩ : ByteArray).toList == s.toList) = false := by
          rw [beq_eq_false_iff_ne, ByteArray.toList_eq, ByteArray.toList_eq]
          exact hxs
        have e2 : (s.toList == (⟨x.toArray⟩ : ByteArray).toList) = false := by
          rw [beq_eq_false_iff_ne, ByteArray.toList_eq, ByteArray.toList_eq]
          exact fun h => hxs h.symm
        have hn2 := hide (show s.data.toList ∉ xs.take (k + 1) by
          rw [HT.out, List.mem_append, List.mem_singleton]
          rintro (h | h)
          · exact hno.out h
          · exact hxs h.symm)
        obtain ⟨y, hy⟩ : ∃ y : ByteArray, ⟨x.toArray⟩ = y := ⟨_, rfl⟩
        rw [hy] at hca e1 e2
        clear hxs hy
        go_wp2_with fail
        go_round
        case rel => exact ⟨k + 1, by omega, by go_num, hn2.out⟩
        case measure => simp [intOf]; omega
    · have HR := hide (show decide (s.data.toList ∈ xs) = false from decide_eq_false (by
        have := hno.out
        rwa [List.take_of_length_le (by rw [HN.out]; omega)] at this))
      go_wp2_with fail
      go_ret
      exact ⟨_, rfl, rfl, by rw [HR.out]; rfl, by omega, by omega⟩
theorem contains_any {A : Option Addr} {B n c : Nat} {xs : List (List UInt8)} (s : ByteArray) {w : World} (hn : xs.length = n) (ha : Reads w B 1 A n (strL xs)) (hl : n ≤ 4096) {q : Bool} (hq : decide (s.data.toList ∈ xs) = q) :
    Calls Tryd.prog 53 #[.slice A n c, .string s] w fun e w' => e = .returned (.bool q) ∧ w = w' := by
  have H := hide (fun w (ha : Reads w B 1 A n (strL xs)) => index_any (c := c) s hn ha hl)
  have HA := hide ha
  have HQ := hide hq
  clear hn ha hq
  go_enter Tryd.func53, Tryd.ntmps53
  go_wp2_with (go_at_call 76; refine (H.out w HA.out).mono ?_; rintro e w' ⟨r, rfl, rfl, hr, hr1, hr2⟩)
  go_ret
  exact ⟨ret_bool (by rw [← HQ.out, ← hr]), rfl⟩
/-- the operators of a kind, in memory -/
def OpsP (w : World) (l : List (List UInt8)) (e : Ending) (w' : World) : Prop := ∃ ad c, e = .returned (.slice (some ad) l.length c) ∧ Reads w' w'.heap.size 1 (some ad) l.length (strL l) ∧ Below w.heap.size w w'
theorem ops_lit (w : World) (l : List (List UInt8)) (T : TypeId) (n m : Nat) (h1 : l.length = n) : OpsP w l (.returned (.slice (some ⟨w.heap.size, 0, none⟩) n m)) (w.alloc (.cells (strL l).toArray T)) := by
  subst h1
  have h := lit_reads w (strL l) T
  rw [strL_len] at h
  exact ⟨_, _, rfl, h.more (by simp), (Below.refl _ _).alloc (Nat.le_refl _) _⟩
set_option maxHeartbeats 4000000 in
set_option maxRecDepth 100000 in
theorem ops_43 (w : World) : Calls Tryd.prog 52 #[.int .i64 43] w (OpsP w (opsF 43)) := by
  go_enter Tryd.func52, Tryd.ntmps52
  go_wp2_with fail
  go_ret
  exact ops_lit w opsU _ _ _ rfl
set_option maxHeartbeats 4000000 in
set_option maxRecDepth 100000 in
theorem ops_44 (w : World) : Calls Tryd.prog 52 #[.int .i64 44] w (OpsP w (opsF 44)) := by
  go_enter Tryd.func52, Tryd.ntmps52
  go_wp2_with fail
  go_ret
  exact ops_lit w opsP _ _ _ rfl
set_option maxHeartbeats 4000000 in
set_option maxRecDepth 100000 in
theorem ops_45 (w : World) : Calls Tryd.prog 52 #[.int .i64 45] w (OpsP w (opsF 45)) := by
  go_enter Tryd.func52, Tryd.ntmps52
  go_wp2_with fail
  go_ret
  exact ops_lit w opsP _ _ _ rfl
set_option maxHeartbeats 4000000 in
set_option maxRecDepth 100000 in
theorem ops_46 (w : World) : Calls Tryd.prog 52 #[.int .i64 46] w (OpsP w (opsF 46)) := by
  go_enter Tryd.func52, Tryd.ntmps52
  go_wp2_with fail
  go_ret
  exact ops_lit w opsB _ _ _ rfl
set_option maxHeartbeats 4000000 in
set_option maxRecDepth 100000 in
theorem ops_47 (w : World) : Calls Tryd.prog 52 #[.int .i64 47] w (OpsP w (opsF 47)) := by
  go_enter Tryd.func52, Tryd.ntmps52
  go_wp2_with fail
  go_ret
  exact ops_lit w opsL _ _ _ rfl
set_option maxHeartbeats 4000000 in
set_option maxRecDepth 100000 in
theorem ops_49 (w : World) : Calls Tryd.prog 52 #[.int .i64 49] w (OpsP w (opsF 49)) := by
  go_enter Tryd.func52, Tryd.ntmps52
  go_wp2_with fail
  go_ret
  exact ops_lit w opsA _ _ _ rfl
set_option maxHeartbeats 4000000 in
set_option maxRecDepth 100000 in
theorem ops_none (k : Int) (h : ∀ j ∈ ([43, 44, 45, 46, 47, 49] : List Int), k ≠ j) (w : World) : Calls Tryd.prog 52 #[.int .i64 k] w fun e w' => e = .returned (.slice none 0 0) ∧ w = w' := by
  have e43 : (k == 43) = false := beq_eq_false_iff_ne.2 (h 43 (by decide))
  have e44 : (k == 44) = false := beq_eq_false_iff_ne.2 (h 44 (by decide))
  have e45 : (k == 45) = false := beq_eq_false_iff_ne.2 (h 45 (by decide))
  have e46 : (k == 46) = false := beq_eq_false_iff_ne.2 (h 46 (by decide))
  have e47 : (k == 47) = false := beq_eq_false_iff_ne.2 (h 47 (by decide))
  have e49 : (k == 49) = false := beq_eq_false_iff_ne.2 (h 49 (by decide))
  clear h
  go_enter Tryd.func52, Tryd.ntmps52
  go_wp2_with fail
  go_ret
  exact ⟨rfl, rfl⟩
end Go.Proofs.YtelcjdblnagdgaaDoor

namespace Go.Proofs.YtelcjdblnagdgaaDoor
open Go.RowKit

theorem nb_empty {nb : ByteArray} (h : nb.data.toList = []) : nb = ⟨#[]⟩ := by
  cases nb with
  | mk d => congr 1; exact Array.toList_eq_nil_iff.1 h
theorem nb_ne {nb : ByteArray} (h : nb.data.toList ≠ []) : nb.toList ≠ [] ∧ (nb.toList == []) = false ∧ nb.toList.isEmpty = false := by
  have h1 : nb.toList ≠ [] := by rw [ByteArray.toList_eq]; exact h
  exact ⟨h1, beq_eq_false_iff_ne.2 h1, by rw [List.isEmpty_eq_false_iff]; exact h1⟩
theorem bstepA {w w' : World} {o : Obj} (h : Below (w.alloc o).heap.size (w.alloc o) w') : Below w.heap.size w w' := ((Below.refl _ _).alloc (Nat.le_refl _) _).trans (h.mono (by simp))
def NmP (q : Bool) (w : World) (e : Ending) (w' : World) : Prop := e = .returned (.bool q) ∧ Below w.heap.size w w'
set_option maxHeartbeats 4000000 in
set_option maxRecDepth 100000 in
theorem named_7 (nb : ByteArray) (vs vm vk : Value) (nk nn : Int) (ng : Bool) (w : World) {q : Bool} (hl : nb.size ≤ 8192) (hq : nameF nb.data.toList = q) : Calls Tryd.prog 41 #[.agg #[.int .i64 7, .string nb, vs, .int .i64 nk, .int .i64 nn, .bool ng, vm, vk]] w (NmP q w) := by
  have HQ := hide hq
  clear hq
  go_enter Tryd.func41, Tryd.ntmps41
  go_wp2_with (go_at_call 50; refine (lname_any nb _ hl HQ.out).mono ?_; rintro e w' ⟨rfl, rfl⟩)
  go_ret
  exact ⟨rfl, by go_grown⟩
set_option maxHeartbeats 4000000 in
set_option maxRecDepth 100000 in
theorem named_18 (nb : ByteArray) (vs vm vk : Value) (nk nn : Int) (ng : Bool) (w : World) {q : Bool} (hl : nb.size ≤ 8192) (hq : nameF nb.data.toList = q) : Calls Tryd.prog 41 #[.agg #[.int .i64 18, .string nb, vs, .int .i64 nk, .int .i64 nn, .bool ng, vm, vk]] w (NmP q w) := by
  have HQ := hide hq
  clear hq
  go_enter Tryd.func41, Tryd.ntmps41
  go_wp2_with (go_at_call 50; refine (lname_any nb _ hl HQ.out).mono ?_; rintro e w' ⟨rfl, rfl⟩)
  go_ret
  exact ⟨rfl, by go_grown⟩
set_option maxHeartbeats 4000000 in
set_option maxRecDepth 100000 in
theorem named_19 (nb : ByteArray) (vs vm vk : Value) (nk nn : Int) (ng : Bool) (w : World) {q : Bool} (hl : nb.size ≤ 8192) (hq : nameF nb.data.toList = q) : Calls Tryd.prog 41 #[.agg #[.int .i64 19, .string nb, vs, .int .i64 nk, .int .i64 nn, .bool ng, vm, vk]] w (NmP q w) := by
  have HQ := hide hq
  clear hq
  go_enter Tryd.func41, Tryd.ntmps41
  go_wp2_with (go_at_call 50; refine (lname_any nb _ hl HQ.out).mono ?_; rintro e w' ⟨rfl, rfl⟩)
  go_ret
  exact ⟨rfl, by go_grown⟩
set_option maxHeartbeats 4000000 in
set_option maxRecDepth 100000 in
theorem named_20 (nb : ByteArray) (vs vm vk : Value) (nk nn : Int) (ng : Bool) (w : World) {q : Bool} (hl : nb.size ≤ 8192) (hq : nameF nb.data.toList = q) : Calls Tryd.prog 41 #[.agg #[.int .i64 20, .string nb, vs, .int .i64 nk, .int .i64 nn, .bool ng, vm, vk]] w (NmP q w) := by
  have HQ := hide hq
  clear hq
  go_enter Tryd.func41, Tryd.ntmps41
  go_wp2_with (go_at_call 50; refine (lname_any nb _ hl HQ.out).mono ?_; rintro e w' ⟨rfl, rfl⟩)
  go_ret
  exact ⟨rfl, by go_grown⟩
set_option maxHeartbeats 4000000 in
set_option maxRecDepth 100000 in
theorem named_33 (nb : ByteArray) (vs vm vk : Value) (nk nn : Int) (ng : Bool) (w : World) {q : Bool} (hl : nb.size ≤ 8192) (hq : nameF nb.data.toList = q) : Calls Tryd.prog 41 #[.agg #[.int .i64 33, .string nb, vs, .int .i64 nk, .int .i64 nn, .bool ng, vm, vk]] w (NmP q w) := by
  have HQ := hide hq
  clear hq
  go_enter Tryd.func41, Tryd.ntmps41
  go_wp2_with (go_at_call 50; refine (lname_any nb _ hl HQ.out).mono ?_; rintro e w' ⟨rfl, rfl⟩)
  go_ret
  exact ⟨rfl, by go_grown⟩
set_option maxHeartbeats 4000000 in
set_option maxRecDepth 100000 in
theorem named_12_no (nb : ByteArray) (vs vm vk : Value) (nk nn : Int) (ng : Bool) (w : World) {q : Bool} (hl : nb.size ≤ 8192) (hq : nb.data.toList = []) (hq2 : q = true) : Calls Tryd.prog 41 #[.agg #[.int .i64 12, .string nb, vs, .int .i64 nk, .int .i64 nn, .bool ng, vm, vk]] w (NmP q w) := by
  obtain rfl := nb_empty hq
  subst hq2
  clear hq
  go_enter Tryd.func41, Tryd.ntmps41
  go_wp2_with fail
  go_ret
  exact ⟨rfl, by go_grown⟩
set_option maxHeartbeats 4000000 in
set_option maxRecDepth 100000 in
theorem named_12 (nb : ByteArray) (vs vm vk : Value) (nk nn : Int) (ng : Bool) (w : World) {q : Bool} (hl : nb.size ≤ 8192) (hne : nb.data.toList ≠ []) (hq : nameF nb.data.toList = q) : Calls Tryd.prog 41 #[.agg #[.int .i64 12, .string nb, vs, .int .i64 nk, .int .i64 nn, .bool ng, vm, vk]] w (NmP q w) := by
  have HQ := hide hq
  obtain ⟨f1, f2, f3⟩ := nb_ne hne
  clear hq hne f1
  go_enter Tryd.func41, Tryd.ntmps41
  go_wp2_with (go_at_call 50; refine (lname_any nb _ hl HQ.out).mono ?_; rintro e w' ⟨rfl, rfl⟩)
  go_ret
  exact ⟨rfl, by go_grown⟩
set_option maxHeartbeats 4000000 in
set_option maxRecDepth 100000 in
theorem named_13_no (nb : ByteArray) (vs vm vk : Value) (nk nn : Int) (ng : Bool) (w : World) {q : Bool} (hl : nb.size ≤ 8192) (hq : nb.data.toList = []) (hq2 : q = true) : Calls Tryd.prog 41 #[.agg #[.int .i64 13, .string nb, vs, .int .i64 nk, .int .i64 nn, .bool ng, vm, vk]] w (NmP q w) := by
  obtain rfl := nb_empty hq
  subst hq2
  clear hq
  go_enter Tryd.func41, Tryd.ntmps41
  go_wp2_with fail
  go_ret
  exact ⟨rfl, by go_grown⟩
set_option maxHeartbeats 4000000 in
set_option maxRecDepth 100000 in
theorem named_13 (nb : ByteArray) (vs vm vk : Value) (nk nn : Int) (ng : Bool) (w : World) {q : Bool} (hl : nb.size ≤ 8192) (hne : nb.data.toList ≠ []) (hq : nameF nb.data.toList = q) : Calls Tryd.prog 41 #[.agg #[.int .i64 13, .string nb, vs, .int .i64 nk, .int .i64 nn, .bool ng, vm, vk]] w (NmP q w) := by
  have HQ := hide hq
  obtain ⟨f1, f2, f3⟩ := nb_ne hne
  clear hq hne f1
  go_enter Tryd.func41, Tryd.ntmps41
  go_wp2_with (go_at_call 50; refine (lname_any nb _ hl HQ.out).mono ?_; rintro e w' ⟨rfl, rfl⟩)
  go_ret
  exact ⟨rfl, by go_grown⟩
set_option maxHeartbeats 4000000 in
set_option maxRecDepth 100000 in
theorem named_17_no (nb : ByteArray) (vs vm vk : Value) (nk nn : Int) (ng : Bool) (w : World) {q : Bool} (hl : nb.size ≤ 8192) (hq : nb.data.toList = []) (hq2 : q = true) : Calls Tryd.prog 41 #[.agg #[.int .i64 17, .string nb, vs, .int .i64 nk, .int .i64 nn, .bool ng, vm, vk]] w (NmP q w) := by
  obtain rfl := nb_empty hq
  subst hq2
  clear hq
  go_enter Tryd.func41, Tryd.ntmps41
  go_wp2_with fail
  go_ret
  exact ⟨rfl, by go_grown⟩
set_option maxHeartbeats 4000000 in
set_option maxRecDepth 100000 in
theorem named_17 (nb : ByteArray) (vs vm vk : Value) (nk nn : Int) (ng : Bool) (w : World) {q : Bool} (hl : nb.size ≤ 8192) (hne : nb.data.toList ≠ []) (hq : nameF nb.data.toList = q) : Calls Tryd.prog 41 #[.agg #[.int .i64 17, .string nb, vs, .int .i64 nk, .int .i64 nn, .bool ng, vm, vk]] w (NmP q w) := by
  have HQ := hide hq
  obtain ⟨f1, f2, f3⟩ := nb_ne hne
  clear hq hne f1
  go_enter Tryd.func41, Tryd.ntmps41
  go_wp2_with (go_at_call 50; refine (lname_any nb _ hl HQ.out).mono ?_; rintro e w' ⟨rfl, rfl⟩)
  go_ret
  exact ⟨rfl, by go_grown⟩
set_option maxHeartbeats 4000000 in
set_option maxRecDepth 100000 in
theorem named_41_no (nb : ByteArray) (vs vm vk : Value) (nk nn : Int) (ng : Bool) (w : World) {q : Bool} (hl : nb.size ≤ 8192) (hq : nb.data.toList = []) (hq2 : q = true) : Calls Tryd.prog 41 #[.agg #[.int .i64 41, .string nb, vs, .int .i64 nk, .int .i64 nn, .bool ng, vm, vk]] w (NmP q w) := by
  obtain rfl := nb_empty hq
  subst hq2
  clear hq
  go_enter Tryd.func41, Tryd.ntmps41
  go_wp2_with fail
  go_ret
  exact ⟨rfl, by go_grown⟩
set_option maxHeartbeats 4000000 in
set_option maxRecDepth 100000 in
theorem named_41 (nb : ByteArray) (vs vm vk : Value) (nk nn : Int) (ng : Bool) (w : World) {q : Bool} (hl : nb.size ≤ 8192) (hne : nb.data.toList ≠ []) (hq : nameF nb.data.toList = q) : Calls Tryd.prog 41 #[.agg #[.int .i64 41, .string nb, vs, .int .i64 nk, .int .i64 nn, .bool ng, vm, vk]] w (NmP q w) := by
  have HQ := hide hq
  obtain ⟨f1, f2, f3⟩ := nb_ne hne
  clear hq hne f1
  go_enter Tryd.func41, Tryd.ntmps41
  go_wp2_with (go_at_call 50; refine (lname_any nb _ hl HQ.out).mono ?_; rintro e w' ⟨rfl, rfl⟩)
  go_ret
  exact ⟨rfl, by go_grown⟩
set_option maxHeartbeats 4000000 in
set_option maxRecDepth 100000 in
theorem named_52 (nb : ByteArray) (vs vm vk : Value) (nk nn : Int) (ng : Bool) (w : World) {q : Bool} (hl : nb.size ≤ 8192) (hq : runF nb.data.toList = q) : Calls Tryd.prog 41 #[.agg #[.int .i64 52, .string nb, vs, .int .i64 nk, .int .i64 nn, .bool ng, vm, vk]] w (NmP q w) := by
  have HQ := hide hq
  clear hq
  go_enter Tryd.func41, Tryd.ntmps41
  go_wp2_with (go_at_call 51; refine (lrunT_any nb _ hl HQ.out).mono ?_; rintro e w' ⟨rfl, rfl⟩)
  go_ret
  exact ⟨rfl, by go_grown⟩
set_option maxHeartbeats 4000000 in
set_option maxRecDepth 100000 in
theorem named_43 (nb : ByteArray) (vs vm vk : Value) (nk nn : Int) (ng : Bool) (w : World) {q : Bool} (_hl : nb.size ≤ 8192) (hq : decide (nb.data.toList ∈ opsF 43) = q) : Calls Tryd.prog 41 #[.agg #[.int .i64 43, .string nb, vs, .int .i64 nk, .int .i64 nn, .bool ng, vm, vk]] w (NmP q w) := by
  have HQ := hide hq
  clear hq
  have hnn := fun (w : World) (ad : Addr) (n c : Nat) => run_neq_slice_nil_any (P := Tryd.prog) w 76 9 (some ad) n c 0 0 Tryd.underlying76
  go_enter Tryd.func41, Tryd.ntmps41
  go_wp2_with (first | (go_at_call 52; refine (ops_43 _).mono ?_; rintro e1 w1 ⟨ad, c1, rfl, hr1, hb1⟩; have hc1 := hb1.cell (p := ⟨w.heap.size, 1, none⟩) (by simp)) | (go_at_call 53; refine (contains_any nb (n := (opsF 43).length) rfl hr1 (by decide) HQ.out).mono ?_; rintro e2 w2 ⟨rfl, rfl⟩))
  go_ret
  exact ⟨rfl, bstepA hb1⟩
set_option maxHeartbeats 4000000 in
set_option maxRecDepth 100000 in
theorem named_44 (nb : ByteArray) (vs vm vk : Value) (nk nn : Int) (ng : Bool) (w : World) {q : Bool} (_hl : nb.size ≤ 8192) (hq : decide (nb.data.toList ∈ opsF 44) = q) : Calls Tryd.prog 41 #[.agg #[.int .i64 44, .string nb, vs, .int .i64 nk, .int .i64 nn, .bool ng, vm, vk]] w (NmP q w) := by
  have HQ := hide hq
  clear hq
  have hnn := fun (w : World) (ad : Addr) (n c : Nat) => run_neq_slice_nil_any (P := Tryd.prog) w 76 9 (some ad) n c 0 0 Tryd.underlying76
  go_enter Tryd.func41, Tryd.ntmps41
  go_wp2_with (first | (go_at_call 52; refine (ops_44 _).mono ?_; rintro e1 w1 ⟨ad, c1, rfl, hr1, hb1⟩; have hc1 := hb1.cell (p := ⟨w.heap.size, 1, none⟩) (by simp)) | (go_at_call 53; refine (contains_any nb (n := (opsF 44).length) rfl hr1 (by decide) HQ.out).mono ?_; rintro e2 w2 ⟨rfl, rfl⟩))
  go_ret
  exact ⟨rfl, bstepA hb1⟩
set_option maxHeartbeats 4000000 in
set_option maxRecDepth 100000 in
theorem named_45 (nb : ByteArray) (vs vm vk : Value) (nk nn : Int) (ng : Bool) (w : World) {q : Bool} (_hl : nb.size ≤ 8192) (hq : decide (nb.data.toList ∈ opsF 45) = q) : Calls Tryd.prog 41 #[.agg #[.int .i64 45, .string nb, vs, .int .i64 nk, .int .i64 nn, .bool ng, vm, vk]] w (NmP q w) := by
  have HQ := hide hq
  clear hq
  have hnn := fun (w : World) (ad : Addr) (n c : Nat) => run_neq_slice_nil_any (P := Tryd.prog) w 76 9 (some ad) n c 0 0 Tryd.underlying76
  go_enter Tryd.func41, Tryd.ntmps41
  go_wp2_with (first | (go_at_call 52; refine (ops_45 _).mono ?_; rintro e1 w1 ⟨ad, c1, rfl, hr1, hb1⟩; have hc1 := hb1.cell (p := ⟨w.heap.size, 1, none⟩) (by simp)) | (go_at_call 53; refine (contains_any nb (n := (opsF 45).length) rfl hr1 (by decide) HQ.out).mono ?_; rintro e2 w2 ⟨rfl, rfl⟩))
  go_ret
  exact ⟨rfl, bstepA hb1⟩
set_option maxHeartbeats 4000000 in
set_option maxRecDepth 100000 in
theorem named_46 (nb : ByteArray) (vs vm vk : Value) (nk nn : Int) (ng : Bool) (w : World) {q : Bool} (_hl : nb.size ≤ 8192) (hq : decide (nb.data.toList ∈ opsF 46) = q) : Calls Tryd.prog 41 #[.agg #[.int .i64 46, .string nb, vs, .int .i64 nk, .int .i64 nn, .bool ng, vm, vk]] w (NmP q w) := by
  have HQ := hide hq
  clear hq
  have hnn := fun (w : World) (ad : Addr) (n c : Nat) => run_neq_slice_nil_any (P := Tryd.prog) w 76 9 (some ad) n c 0 0 Tryd.underlying76
  go_enter Tryd.func41, Tryd.ntmps41
  go_wp2_with (first | (go_at_call 52; refine (ops_46 _).mono ?_; rintro e1 w1 ⟨ad, c1, rfl, hr1, hb1⟩; have hc1 := hb1.cell (p := ⟨w.heap.size, 1, none⟩) (by simp)) | (go_at_call 53; refine (contains_any nb (n := (opsF 46).length) rfl hr1 (by decide) HQ.out).mono ?_; rintro e2 w2 ⟨rfl, rfl⟩))
  go_ret
  exact ⟨rfl, bstepA hb1⟩
set_option maxHeartbeats 4000000 in
set_option maxRecDepth 100000 in
theorem named_47 (nb : ByteArray) (vs vm vk : Value) (nk nn : Int) (ng : Bool) (w : World) {q : Bool} (_hl : nb.size ≤ 8192) (hq : decide (nb.data.toList ∈ opsF 47) = q) : Calls Tryd.prog 41 #[.agg #[.int .i64 47, .string nb, vs, .int .i64 nk, .int .i64 nn, .bool ng, vm, vk]] w (NmP q w) := by
  have HQ := hide hq
  clear hq
  have hnn := fun (w : World) (ad : Addr) (n c : Nat) => run_neq_slice_nil_any (P := Tryd.prog) w 76 9 (some ad) n c 0 0 Tryd.underlying76
  go_enter Tryd.func41, Tryd.ntmps41
  go_wp2_with (first | (go_at_call 52; refine (ops_47 _).mono ?_; rintro e1 w1 ⟨ad, c1, rfl, hr1, hb1⟩; have hc1 := hb1.cell (p := ⟨w.heap.size, 1, none⟩) (by simp)) | (go_at_call 53; refine (contains_any nb (n := (opsF 47).length) rfl hr1 (by decide) HQ.out).mono ?_; rintro e2 w2 ⟨rfl, rfl⟩))
  go_ret
  exact ⟨rfl, bstepA hb1⟩
set_option maxHeartbeats 4000000 in
set_option maxRecDepth 100000 in
theorem named_49 (nb : ByteArray) (vs vm vk : Value) (nk nn : Int) (ng : Bool) (w : World) {q : Bool} (_hl : nb.size ≤ 8192) (hq : decide (nb.data.toList ∈ opsF 49) = q) : Calls Tryd.prog 41 #[.agg #[.int .i64 49, .string nb, vs, .int .i64 nk, .int .i64 nn, .bool ng, vm, vk]] w (NmP q w) := by
  have HQ := hide hq
  clear hq
  have hnn := fun (w : World) (ad : Addr) (n c : Nat) => run_neq_slice_nil_any (P := Tryd.prog) w 76 9 (some ad) n c 0 0 Tryd.underlying76
  go_enter Tryd.func41, Tryd.ntmps41
  go_wp2_with (first | (go_at_call 52; refine (ops_49 _).mono ?_; rintro e1 w1 ⟨ad, c1, rfl, hr1, hb1⟩; have hc1 := hb1.cell (p := ⟨w.heap.size, 1, none⟩) (by simp)) | (go_at_call 53; refine (contains_any nb (n := (opsF 49).length) rfl hr1 (by decide) HQ.out).mono ?_; rintro e2 w2 ⟨rfl, rfl⟩))
  go_ret
  exact ⟨rfl, bstepA hb1⟩
set_option maxHeartbeats 4000000 in
set_option maxRecDepth 100000 in
theorem named_none (k : Int) (h : ∀ j ∈ ([7, 12, 13, 17, 18, 19, 20, 33, 41, 43, 44, 45, 46, 47, 49, 52] : List Int), k ≠ j) (nb : ByteArray) (vs vm vk : Value) (nk nn : Int) (ng : Bool) (w : World) {q : Bool} (_hl : nb.size ≤ 8192) (hq : nb.data.toList = []) (hq2 : q = true) : Calls Tryd.prog 41 #[.agg #[.int .i64 k, .string nb, vs, .int .i64 nk, .int .i64 nn, .bool ng, vm, vk]] w (NmP q w) := by
  obtain rfl := nb_empty hq
  subst hq2
  clear hq
  have e7 : (k == 7) = false := beq_eq_false_iff_ne.2 (h 7 (by decide))
  have e12 : (k == 12) = false := beq_eq_false_iff_ne.2 (h 12 (by decide))
  have e13 : (k == 13) = false := beq_eq_false_iff_ne.2 (h 13 (by decide))
  have e17 : (k == 17) = false := beq_eq_false_iff_ne.2 (h 17 (by decide))
  have e18 : (k == 18) = false := beq_eq_false_iff_ne.2 (h 18 (by decide))
  have e19 : (k == 19) = false := beq_eq_false_iff_ne.2 (h 19 (by decide))
  have e20 : (k == 20) = false := beq_eq_false_iff_ne.2 (h 20 (by decide))
  have e33 : (k == 33) = false := beq_eq_false_iff_ne.2 (h 33 (by decide))
  have e41 : (k == 41) = false := beq_eq_false_iff_ne.2 (h 41 (by decide))
  have e43 : (k == 43) = false := beq_eq_false_iff_ne.2 (h 43 (by decide))
  have e44 : (k == 44) = false := beq_eq_false_iff_ne.2 (h 44 (by decide))
  have e45 : (k == 45) = false := beq_eq_false_iff_ne.2 (h 45 (by decide))
  have e46 : (k == 46) = false := beq_eq_false_iff_ne.2 (h 46 (by decide))
  have e47 : (k == 47) = false := beq_eq_false_iff_ne.2 (h 47 (by decide))
  have e49 : (k == 49) = false := beq_eq_false_iff_ne.2 (h 49 (by decide))
  have e52 : (k == 52) = false := beq_eq_false_iff_ne.2 (h 52 (by decide))
  have HC := hide (fun w => ops_none k (fun j hj => h j (by simp only [List.mem_cons, List.mem_nil_iff, or_false] at hj ⊢; omega)) w)
  have hnn := fun (w : World) => run_neq_slice_nil_any (P := Tryd.prog) w 76 9 none 0 0 0 0 Tryd.underlying76
  clear h
  go_enter Tryd.func41, Tryd.ntmps41
  go_wp2_with (go_at_call 52; refine (HC.out _).mono ?_; rintro e1 w1 ⟨rfl, rfl⟩)
  go_ret
  exact ⟨rfl, by go_grown⟩
set_option maxHeartbeats 4000000 in
set_option maxRecDepth 100000 in
theorem named_some (k : Int) (h : ∀ j ∈ ([7, 12, 13, 17, 18, 19, 20, 33, 41, 43, 44, 45, 46, 47, 49, 52] : List Int), k ≠ j) (nb : ByteArray) (vs vm vk : Value) (nk nn : Int) (ng : Bool) (w : World) {q : Bool} (_hl : nb.size ≤ 8192) (hq : nb.data.toList ≠ []) (hq2 : q = false) : Calls Tryd.prog 41 #[.agg #[.int .i64 k, .string nb, vs, .int .i64 nk, .int .i64 nn, .bool ng, vm, vk]] w (NmP q w) := by
  obtain ⟨f1, f2, f3⟩ := nb_ne hq
  subst hq2
  clear hq f1
  have e7 : (k == 7) = false := beq_eq_false_iff_ne.2 (h 7 (by decide))
  have e12 : (k == 12) = false := beq_eq_false_iff_ne.2 (h 12 (by decide))
  have e13 : (k == 13) = false := beq_eq_false_iff_ne.2 (h 13 (by decide))
  have e17 : (k == 17) = false := beq_eq_false_iff_ne.2 (h 17 (by decide))
  have e18 : (k == 18) = false := beq_eq_false_iff_ne.2 (h 18 (by decide))
  have e19 : (k == 19) = false := beq_eq_false_iff_ne.2 (h 19 (by decide))
  have e20 : (k == 20) = false := beq_eq_false_iff_ne.2 (h 20 (by decide))
  have e33 : (k == 33) = false := beq_eq_false_iff_ne.2 (h 33 (by decide))
  have e41 : (k == 41) = false := beq_eq_false_iff_ne.2 (h 41 (by decide))
  have e43 : (k == 43) = false := beq_eq_false_iff_ne.2 (h 43 (by decide))
  have e44 : (k == 44) = false := beq_eq_false_iff_ne.2 (h 44 (by decide))
  have e45 : (k == 45) = false := beq_eq_false_iff_ne.2 (h 45 (by decide))
  have e46 : (k == 46) = false := beq_eq_false_iff_ne.2 (h 46 (by decide))
  have e47 : (k == 47) = false := beq_eq_false_iff_ne.2 (h 47 (by decide))
  have e49 : (k == 49) = false := beq_eq_false_iff_ne.2 (h 49 (by decide))
  have e52 : (k == 52) = false := beq_eq_false_iff_ne.2 (h 52 (by decide))
  have HC := hide (fun w => ops_none k (fun j hj => h j (by simp only [List.mem_cons, List.mem_nil_iff, or_false] at hj ⊢; omega)) w)
  have hnn := fun (w : World) => run_neq_slice_nil_any (P := Tryd.prog) w 76 9 none 0 0 0 0 Tryd.underlying76
  clear h
  go_enter Tryd.func41, Tryd.ntmps41
  go_wp2_with (go_at_call 52; refine (HC.out _).mono ?_; rintro e1 w1 ⟨rfl, rfl⟩)
  go_ret
  exact ⟨rfl, by go_grown⟩
theorem named_any (k : Int) (nb : ByteArray) (vs vm vk : Value) (nk nn : Int) (ng : Bool) (w : World) {q : Bool} (hl : nb.size ≤ 8192) (hq : namedF k nb.data.toList = q) : Calls Tryd.prog 41 #[.agg #[.int .i64 k, .string nb, vs, .int .i64 nk, .int .i64 nn, .bool ng, vm, vk]] w (NmP q w) := by
  by_cases h7 : k = 7
  · subst h7
    exact named_7 nb vs vm vk nk nn ng w hl hq
  by_cases h12 : k = 12
  · subst h12
    by_cases he : nb.data.toList = []
    · exact named_12_no nb vs vm vk nk nn ng w hl he (by rw [← hq, he]; rfl)
    · exact named_12 nb vs vm vk nk nn ng w hl he (by rw [← hq]; show _ = (decide (nb.data.toList = []) || nameF nb.data.toList); rw [decide_eq_false he]; rfl)
  by_cases h13 : k = 13
  · subst h13
    by_cases he : nb.data.toList = []
    · exact named_13_no nb vs vm vk nk nn ng w hl he (by rw [← hq, he]; rfl)
    · exact named_13 nb vs vm vk nk nn ng w hl he (by rw [← hq]; show _ = (decide (nb.data.toList = []) || nameF nb.data.toList); rw [decide_eq_false he]; rfl)
  by_cases h17 : k = 17
  · subst h17
    by_cases he : nb.data.toList = []
    · exact named_17_no nb vs vm vk nk nn ng w hl he (by rw [← hq, he]; rfl)
    · exact named_17 nb vs vm vk nk nn ng w hl he (by rw [← hq]; show _ = (decide (nb.data.toList = []) || nameF nb.data.toList); rw [decide_eq_false he]; rfl)
  by_cases h18 : k = 18
  · subst h18
    exact named_18 nb vs vm vk nk nn ng w hl hq
  by_cases h19 : k = 19
  · subst h19
    exact named_19 nb vs vm vk nk nn ng w hl hq
  by_cases h20 : k = 20
  · subst h20
    exact named_20 nb vs vm vk nk nn ng w hl hq
  by_cases h33 : k = 33
  · subst h33
    exact named_33 nb vs vm vk nk nn ng w hl hq
  by_cases h41 : k = 41
  · subst h41
    by_cases he : nb.data.toList = []
    · exact named_41_no nb vs vm vk nk nn ng w hl he (by rw [← hq, he]; rfl)
    · exact named_41 nb vs vm vk nk nn ng w hl he (by rw [← hq]; show _ = (decide (nb.data.toList = []) || nameF nb.data.toList); rw [decide_eq_false he]; rfl)
  by_cases h43 : k = 43
  · subst h43
    exact named_43 nb vs vm vk nk nn ng w hl hq
  by_cases h44 : k = 44
  · subst h44
    exact named_44 nb vs vm vk nk nn ng w hl hq
  by_cases h45 : k = 45
  · subst h45
    exact named_45 nb vs vm vk nk nn ng w hl hq
  by_cases h46 : k = 46
  · subst h46
    exact named_46 nb vs vm vk nk nn ng w hl hq
  by_cases h47 : k = 47
  · subst h47
    exact named_47 nb vs vm vk nk nn ng w hl hq
  by_cases h49 : k = 49
  · subst h49
    exact named_49 nb vs vm vk nk nn ng w hl hq
  by_cases h52 : k = 52
  · subst h52
    exact named_52 nb vs vm vk nk nn ng w hl hq
  have hh : ∀ j ∈ ([7, 12, 13, 17, 18, 19, 20, 33, 41, 43, 44, 45, 46, 47, 49, 52] : List Int), k ≠ j := fun j hj => by simp only [List.mem_cons, List.mem_nil_iff, or_false] at hj; omega
  have hf : namedF k nb.data.toList = decide (nb.data.toList = []) := by
    have ho : opsF k = [] := by unfold opsF; rw [if_neg (by omega), if_neg (by omega), if_neg (by omega), if_neg (by omega), if_neg (by omega)]
    unfold namedF
    rw [if_neg (by omega), if_neg (by omega), if_neg (by omega), ho, if_neg (by simp)]
  rw [hf] at hq
  by_cases he : nb.data.toList = []
  · exact named_none k hh nb vs vm vk nk nn ng w hl he (by rw [← hq, decide_eq_true he])
  · exact named_some k hh nb vs vm vk nk nn ng w hl he (by rw [← hq, decide_eq_false he])
end Go.Proofs.YtelcjdblnagdgaaDoor

namespace Go.Proofs.YtelcjdblnagdgaaDoor
open Go.RowKit

theorem stmt_any (k : Int) (w : World) : Calls Tryd.prog 55 #[.int .i64 k] w fun e w' => e = .returned (.bool (isStmt k)) ∧ w = w' := by
  go_enter Tryd.func55, Tryd.ntmps55
  go_wp2
  all_goals go_ret
  all_goals refine ⟨ret_bool ?_, rfl⟩
  all_goals (rw [Bool.eq_iff_iff]; simp [isStmt]; try omega)
theorem sub_any (k : Int) (w : World) : Calls Tryd.prog 56 #[.int .i64 k] w fun e w' => e = .returned (.bool (isSub k)) ∧ w = w' := by
  obtain ⟨q, hq⟩ : ∃ q, isStmt k = q := ⟨_, rfl⟩
  have HC := hide (show ∀ w, Calls Tryd.prog 55 #[.int .i64 k] w fun e w' => e = .returned (.bool q) ∧ w = w' from fun w => by rw [← hq]; exact stmt_any k w)
  have HS := hide (show isSub k = (q && !(k == 5) && !(k == 6) && !(k == 19)) by unfold isSub; rw [hq])
  clear hq
  cases q with
  | false =>
    go_enter Tryd.func56, Tryd.ntmps56
    go_wp2_with (go_at_call 55; refine (HC.out w).mono ?_; rintro e w' ⟨rfl, rfl⟩)
    go_ret
    exact ⟨ret_bool (by rw [HS.out]; rfl), rfl⟩
  | true =>
    go_enter Tryd.func56, Tryd.ntmps56
    go_wp2_with (go_at_call 55; refine (HC.out w).mono ?_; rintro e w' ⟨rfl, rfl⟩)
    all_goals go_ret
    all_goals refine ⟨ret_bool ?_, rfl⟩
    all_goals (rw [HS.out, Bool.eq_iff_iff]; simp; try omega)
theorem expr_any (k : Int) (w : World) : Calls Tryd.prog 57 #[.int .i64 k] w fun e w' => e = .returned (.bool (isExpr k)) ∧ w = w' := by
  go_enter Tryd.func57, Tryd.ntmps57
  go_wp2
  all_goals go_ret
  all_goals refine ⟨ret_bool ?_, rfl⟩
  all_goals (rw [Bool.eq_iff_iff]; simp [isExpr]; try omega)
theorem target_any (k : Int) (w : World) : Calls Tryd.prog 58 #[.int .i64 k] w fun e w' => e = .returned (.bool (isTarget k)) ∧ w = w' := by
  go_enter Tryd.func58, Tryd.ntmps58
  go_wp2
  all_goals go_ret
  all_goals refine ⟨ret_bool ?_, rfl⟩
  all_goals (rw [Bool.eq_iff_iff]; simp [isTarget]; try omega)
theorem kinds_any (k : Int) (w : World) : Calls Tryd.prog 43 #[.int .i64 k] w fun e w' => e = .returned (.bool (isKind k)) ∧ w = w' := by
  go_enter Tryd.func43, Tryd.ntmps43
  go_wp2
  all_goals go_ret
  all_goals refine ⟨ret_bool ?_, rfl⟩
  all_goals (rw [Bool.eq_iff_iff]; simp [isKind]; try omega)
theorem nmay_any (k n : Int) (w : World) : Calls Tryd.prog 39 #[.agg #[.int .i64 k, .int .i64 n]] w fun e w' => e = .returned (.bool (numMay k n)) ∧ Below w.heap.size w w' := by
  go_enter Tryd.func39, Tryd.ntmps39
  go_wp2
  all_goals go_ret
  all_goals refine ⟨ret_bool ?_, by go_grown⟩
  all_goals (rw [Bool.eq_iff_iff]; simp [numMay]; simp only [beq_iff_eq, beq_eq_false_iff_ne, ne_eq] at *; split <;> omega)
set_option maxHeartbeats 4000000 in
theorem fits_any (s : Nat) (k : Int) (hs : s ≤ 13) (w : World) : Calls Tryd.prog 44 #[.int .i64 (s : Int), .int .i64 k] w fun e w' => e = .returned (.bool (fitsF s k)) ∧ w = w' := by
  have h : s = 0 ∨ s = 1 ∨ s = 2 ∨ s = 3 ∨ s = 4 ∨ s = 5 ∨ s = 6 ∨ s = 7 ∨ s = 8 ∨ s = 9 ∨ s = 10 ∨ s = 11 ∨ s = 12 ∨ s = 13 := by omega
  obtain ⟨q, hq⟩ : ∃ q, isExpr k = q := ⟨_, rfl⟩
  have HQ := hide hq
  have HC := hide (show ∀ w, Calls Tryd.prog 57 #[.int .i64 k] w fun e w' => e = .returned (.bool q) ∧ w = w' from fun w => by rw [← hq]; exact expr_any k w)
  clear hs hq
  rcases h with rfl | rfl | rfl | rfl | rfl | rfl | rfl | rfl | rfl | rfl | rfl | rfl | rfl | rfl
  all_goals
    go_enter Tryd.func44, Tryd.ntmps44
    go_wp2_with (first | (go_at_call 55; refine (stmt_any k w).mono ?_; rintro e w' ⟨rfl, rfl⟩) | (go_at_call 56; refine (sub_any k w).mono ?_; rintro e w' ⟨rfl, rfl⟩) | (go_at_call 57; refine (HC.out w).mono ?_; rintro e w' ⟨rfl, rfl⟩) | (go_at_call 58; refine (target_any k w).mono ?_; rintro e w' ⟨rfl, rfl⟩))
    all_goals go_ret
    all_goals refine ⟨ret_bool ?_, rfl⟩
    all_goals first | rfl | exact HQ.out.symm | (simp [fitsF, *]; done) | (simp [fitsF, *]; exact HQ.out.symm) | (simp [fitsF, *]; rw [HQ.out])
end Go.Proofs.YtelcjdblnagdgaaDoor

namespace Go.Proofs.YtelcjdblnagdgaaDoor
open Go.RowKit

def BmP (q : Bool) (w : World) (e : Ending) (w' : World) : Prop := e = .returned (.bool q) ∧ Below w.heap.size w w'
set_option maxHeartbeats 4000000 in
set_option maxRecDepth 100000 in
theorem bmay_nil (ng : Bool) (A : Option Addr) (c : Nat) (w : World) : Calls Tryd.prog 40 #[.agg #[.bool ng, .slice A 0 c]] w (BmP (!ng) w) := by
  cases ng
  all_goals
    go_enter Tryd.func40, Tryd.ntmps40
    go_wp2_with fail
    go_ret
    exact ⟨rfl, by go_grown⟩
set_option maxHeartbeats 4000000 in
set_option maxRecDepth 100000 in
theorem bmay_long (ng : Bool) (A : Option Addr) (n c : Nat) (w : World) (h : 8 < n) : Calls Tryd.prog 40 #[.agg #[.bool ng, .slice A n c]] w (BmP false w) := by
  have e1 : ¬ (n : Int) ≤ 8 := by omega
  have e2 : decide ((n : Int) ≤ 8) = false := decide_eq_false e1
  go_enter Tryd.func40, Tryd.ntmps40
  go_wp2_with fail
  go_ret
  exact ⟨rfl, by go_grown⟩
set_option maxHeartbeats 4000000 in
set_option maxRecDepth 100000 in
theorem bmay_some (ng : Bool) (b o n c B x : Nat) (w : World) (h1 : n + 1 ≤ 8) (hb : b < B) (hB : B ≤ w.heap.size) (hc : w.cell? ⟨b, o + n, none⟩ = some (.int .u32 (x : Int))) (hx : x < 4294967296) {q : Bool} (hq : (!(x == 0)) = q) : Calls Tryd.prog 40 #[.agg #[.bool ng, .slice (some ⟨b, o, none⟩) (n + 1) c]] w (BmP q w) := by
  have e1 : (n : Int) + 1 ≤ 8 := by omega
  have e2 : decide ((n : Int) + 1 ≤ 8) = true := decide_eq_true e1
  have e3 : ((n : Int) + 1 == 0) = false := beq_eq_false_iff_ne.2 (by omega)
  have e4 : decide ((0 : Int) < (n : Int) + 1) = true := decide_eq_true (by omega)
  have hc' := World.cell?_alloc_lt w (.cells #[.bool ng, .slice (some ⟨b, o, none⟩) (n + 1) c] 40) ⟨b, o + n, none⟩ (by show b < _; omega)
  rw [hc] at hc'
  have HQ := hide hq
  clear hq hc
  by_cases hx0 : x = 0
  · subst hx0
    have hc2 : (w.alloc (.cells #[.bool ng, .slice (some ⟨b, o, none⟩) (n + 1) c] 40)).cell? ⟨b, o + n, none⟩ = some (.int .u32 0) := hc'
    clear hc'
    go_enter Tryd.func40, Tryd.ntmps40
    go_wp2_with fail
    go_ret
    exact ⟨ret_bool (by rw [← HQ.out]; rfl), by go_grown⟩
  · have e5 : ((x : Int) != 0) = true := bne_iff_ne.2 (by omega)
    have e6 : ((x : Int) == 0) = false := beq_eq_false_iff_ne.2 (by omega)
    have HX := hide hx0
    clear hx0
    go_enter Tryd.func40, Tryd.ntmps40
    go_wp2_with fail
    go_ret
    exact ⟨ret_bool (by rw [← HQ.out]; have := HX.out; simp; omega), by go_grown⟩
theorem bmay_any {A : Option Addr} {B n c : Nat} {xs : List Nat} {w : World} (ng : Bool) (hn : xs.length = n) (ha : Reads w B 1 A n (n32s xs)) (hB : B ≤ w.heap.size) (hl : ∀ y ∈ xs, y < 4294967296) {q : Bool} (hq : bigMay ng xs = q) :
    Calls Tryd.prog 40 #[.agg #[.bool ng, .slice A n c]] w (BmP q w) := by
  unfold bigMay at hq
  rw [hn] at hq
  by_cases h8 : 8 < n
  · rw [decide_eq_false (by omega), Bool.false_and] at hq
    subst hq
    exact bmay_long ng A n c w h8
  · rw [decide_eq_true (by omega), Bool.true_and] at hq
    by_cases h0 : n = 0
    · subst h0
      have hx : xs = [] := List.length_eq_zero_iff.1 hn
      subst hx
      subst hq
      exact bmay_nil ng A c w
    · obtain ⟨m, rfl⟩ : ∃ m, n = m + 1 := ⟨n - 1, by omega⟩
      obtain ⟨b, o, rfl, hb, hc⟩ := ha.spotR (by omega)
      have hm : m < xs.length := by omega
      have hg : xs.getLast? = some xs[m] := by rw [List.getLast?_eq_getElem?, show xs.length - 1 = m by omega, List.getElem?_eq_getElem hm]
      rw [hg] at hq
      exact bmay_some ng b o m c B xs[m] w (by omega) hb hB (hc m _ (by simp [n32s, List.getElem?_eq_getElem hm])) (hl _ (List.getElem_mem hm)) hq
set_option maxHeartbeats 4000000 in
set_option maxRecDepth 100000 in
theorem fields_long (k1 : Int) (nb : ByteArray) (As Am : Option Addr) (cs cm : Nat) (vk : Value) (ls : Nat) (nk : Int) (nn : Int) (ng : Bool) (lm : Nat) (w : World) (hs : 4096 < nb.size) : Calls Tryd.prog 25 #[.agg #[.int .i64 k1, .string nb, .slice As ls cs, .int .i64 nk, .int .i64 nn, .bool ng, .slice Am lm cm, vk]] w (BmP false w) := by
  have hs1 : (4096 : Int) < (nb.size : Int) := by omega
  have hs2 : decide ((4096 : Int) < (nb.size : Int)) = true := decide_eq_true hs1
  go_enter Tryd.func25, Tryd.ntmps25
  go_wp2_with fail
  go_ret
  exact ⟨rfl, by go_grown⟩
set_option maxHeartbeats 4000000 in
set_option maxRecDepth 100000 in
theorem f_numa_32 (nb : ByteArray) (As Am : Option Addr) (cs cm : Nat) (vk : Value) (ls : Nat) (nk : Int) (nn : Int) (ng : Bool) (lm : Nat) (w : World) (hs : nb.size ≤ 4096) (hx : nk ≠ 0) : Calls Tryd.prog 25 #[.agg #[.int .i64 32, .string nb, .slice As ls cs, .int .i64 nk, .int .i64 nn, .bool ng, .slice Am lm cm, vk]] w (BmP false w) := by
  have hs1 : ¬ (4096 : Int) < (nb.size : Int) := by omega
  have hs2 : decide ((4096 : Int) < (nb.size : Int)) = false := decide_eq_false hs1
  have n1 : (nk == 0) = false := beq_eq_false_iff_ne.2 hx
  have n2 : (nk != 0) = true := bne_iff_ne.2 hx
  go_enter Tryd.func25, Tryd.ntmps25
  go_wp2_with fail
  go_ret
  exact ⟨rfl, by go_grown⟩
set_option maxHeartbeats 4000000 in
set_option maxRecDepth 100000 in
theorem f_numb_32 (nb : ByteArray) (As Am : Option Addr) (cs cm : Nat) (vk : Value) (ls : Nat) (nn : Int) (ng : Bool) (lm : Nat) (w : World) (hs : nb.size ≤ 4096) (hx : nn ≠ 0) : Calls Tryd.prog 25 #[.agg #[.int .i64 32, .string nb, .slice As ls cs, .int .i64 0, .int .i64 nn, .bool ng, .slice Am lm cm, vk]] w (BmP false w) := by
  have hs1 : ¬ (4096 : Int) < (nb.size : Int) := by omega
  have hs2 : decide ((4096 : Int) < (nb.size : Int)) = false := decide_eq_false hs1
  have n1 : (nn == 0) = false := beq_eq_false_iff_ne.2 hx
  have n2 : (nn != 0) = true := bne_iff_ne.2 hx
  go_enter Tryd.func25, Tryd.ntmps25
  go_wp2_with fail
  go_ret
  exact ⟨rfl, by go_grown⟩
set_option maxHeartbeats 4000000 in
set_option maxRecDepth 100000 in
theorem f_neg_32 (nb : ByteArray) (As Am : Option Addr) (cs cm : Nat) (vk : Value) (ls : Nat) (lm : Nat) (w : World) (hs : nb.size ≤ 4096) : Calls Tryd.prog 25 #[.agg #[.int .i64 32, .string nb, .slice As ls cs, .int .i64 0, .int .i64 0, .bool true, .slice Am lm cm, vk]] w (BmP false w) := by
  have hs1 : ¬ (4096 : Int) < (nb.size : Int) := by omega
  have hs2 : decide ((4096 : Int) < (nb.size : Int)) = false := decide_eq_false hs1
  go_enter Tryd.func25, Tryd.ntmps25
  go_wp2_with fail
  go_ret
  exact ⟨rfl, by go_grown⟩
set_option maxHeartbeats 4000000 in
set_option maxRecDepth 100000 in
theorem f_mag_32 (nb : ByteArray) (As Am : Option Addr) (cs cm : Nat) (vk : Value) (ls : Nat) (lm : Nat) (w : World) (hs : nb.size ≤ 4096) (h0 : 0 < lm) : Calls Tryd.prog 25 #[.agg #[.int .i64 32, .string nb, .slice As ls cs, .int .i64 0, .int .i64 0, .bool false, .slice Am lm cm, vk]] w (BmP false w) := by
  have hs1 : ¬ (4096 : Int) < (nb.size : Int) := by omega
  have hs2 : decide ((4096 : Int) < (nb.size : Int)) = false := decide_eq_false hs1
  have l1 : (0 : Int) < (lm : Int) := by omega
  have l2 : decide ((0 : Int) < (lm : Int)) = true := decide_eq_true l1
  have l3 : decide (0 < lm) = true := decide_eq_true h0
  go_enter Tryd.func25, Tryd.ntmps25
  go_wp2_with fail
  go_ret
  exact ⟨rfl, by go_grown⟩
set_option maxHeartbeats 4000000 in
set_option maxRecDepth 100000 in
theorem f_name_32 (nb : ByteArray) (As Am : Option Addr) (cs cm : Nat) (vk : Value) (ls : Nat) (w : World) (hs : nb.size ≤ 4096) (hne : nb.data.toList ≠ []) : Calls Tryd.prog 25 #[.agg #[.int .i64 32, .string nb, .slice As ls cs, .int .i64 0, .int .i64 0, .bool false, .slice Am 0 cm, vk]] w (BmP false w) := by
  have hs1 : ¬ (4096 : Int) < (nb.size : Int) := by omega
  have hs2 : decide ((4096 : Int) < (nb.size : Int)) = false := decide_eq_false hs1
  obtain ⟨f1, f2, f3⟩ := nb_ne hne
  clear hne f1
  go_enter Tryd.func25, Tryd.ntmps25
  go_wp2_with fail
  go_ret
  exact ⟨rfl, by go_grown⟩
set_option maxHeartbeats 4000000 in
set_option maxRecDepth 100000 in
theorem f_yes_32 (As Am : Option Addr) (cs cm : Nat) (vk : Value) (ls : Nat) (w : World) (h0 : ls ≤ 4096) : Calls Tryd.prog 25 #[.agg #[.int .i64 32, .string ⟨#[]⟩, .slice As ls cs, .int .i64 0, .int .i64 0, .bool false, .slice Am 0 cm, vk]] w (BmP true w) := by
  have l1 : (ls : Int) ≤ 4096 := by omega
  have l2 : decide ((ls : Int) ≤ 4096) = true := decide_eq_true l1
  go_enter Tryd.func25, Tryd.ntmps25
  go_wp2_with fail
  go_ret
  exact ⟨rfl, by go_grown⟩
set_option maxHeartbeats 4000000 in
set_option maxRecDepth 100000 in
theorem f_no_32 (As Am : Option Addr) (cs cm : Nat) (vk : Value) (ls : Nat) (w : World) (h0 : 4096 < ls) : Calls Tryd.prog 25 #[.agg #[.int .i64 32, .string ⟨#[]⟩, .slice As ls cs, .int .i64 0, .int .i64 0, .bool false, .slice Am 0 cm, vk]] w (BmP false w) := by
  have l1 : ¬ (ls : Int) ≤ 4096 := by omega
  have l2 : decide ((ls : Int) ≤ 4096) = false := decide_eq_false l1
  go_enter Tryd.func25, Tryd.ntmps25
  go_wp2_with fail
  go_ret
  exact ⟨rfl, by go_grown⟩
set_option maxHeartbeats 4000000 in
set_option maxRecDepth 100000 in
theorem f_numa_40 (nb : ByteArray) (As Am : Option Addr) (cs cm : Nat) (vk : Value) (ls : Nat) (nk : Int) (nn : Int) (ng : Bool) (lm : Nat) (w : World) (hs : nb.size ≤ 4096) (hx : nk ≠ 0) : Calls Tryd.prog 25 #[.agg #[.int .i64 40, .string nb, .slice As ls cs, .int .i64 nk, .int .i64 nn, .bool ng, .slice Am lm cm, vk]] w (BmP false w) := by
  have hs1 : ¬ (4096 : Int) < (nb.size : Int) := by omega
  have hs2 : decide ((4096 : Int) < (nb.size : Int)) = false := decide_eq_false hs1
  have n1 : (nk == 0) = false := beq_eq_false_iff_ne.2 hx
  have n2 : (nk != 0) = true := bne_iff_ne.2 hx
  go_enter Tryd.func25, Tryd.ntmps25
  go_wp2_with fail
  go_ret
  exact ⟨rfl, by go_grown⟩
set_option maxHeartbeats 4000000 in
set_option maxRecDepth 100000 in
theorem f_numb_40 (nb : ByteArray) (As Am : Option Addr) (cs cm : Nat) (vk : Value) (ls : Nat) (nn : Int) (ng : Bool) (lm : Nat) (w : World) (hs : nb.size ≤ 4096) (hx : nn ≠ 0) : Calls Tryd.prog 25 #[.agg #[.int .i64 40, .string nb, .slice As ls cs, .int .i64 0, .int .i64 nn, .bool ng, .slice Am lm cm, vk]] w (BmP false w) := by
  have hs1 : ¬ (4096 : Int) < (nb.size : Int) := by omega
  have hs2 : decide ((4096 : Int) < (nb.size : Int)) = false := decide_eq_false hs1
  have n1 : (nn == 0) = false := beq_eq_false_iff_ne.2 hx
  have n2 : (nn != 0) = true := bne_iff_ne.2 hx
  go_enter Tryd.func25, Tryd.ntmps25
  go_wp2_with fail
  go_ret
  exact ⟨rfl, by go_grown⟩
set_option maxHeartbeats 4000000 in
set_option maxRecDepth 100000 in
theorem f_neg_40 (nb : ByteArray) (As Am : Option Addr) (cs cm : Nat) (vk : Value) (ls : Nat) (lm : Nat) (w : World) (hs : nb.size ≤ 4096) : Calls Tryd.prog 25 #[.agg #[.int .i64 40, .string nb, .slice As ls cs, .int .i64 0, .int .i64 0, .bool true, .slice Am lm cm, vk]] w (BmP false w) := by
  have hs1 : ¬ (4096 : Int) < (nb.size : Int) := by omega
  have hs2 : decide ((4096 : Int) < (nb.size : Int)) = false := decide_eq_false hs1
  go_enter Tryd.func25, Tryd.ntmps25
  go_wp2_with fail
  go_ret
  exact ⟨rfl, by go_grown⟩
set_option maxHeartbeats 4000000 in
set_option maxRecDepth 100000 in
theorem f_mag_40 (nb : ByteArray) (As Am : Option Addr) (cs cm : Nat) (vk : Value) (ls : Nat) (lm : Nat) (w : World) (hs : nb.size ≤ 4096) (h0 : 0 < lm) : Calls Tryd.prog 25 #[.agg #[.int .i64 40, .string nb, .slice As ls cs, .int .i64 0, .int .i64 0, .bool false, .slice Am lm cm, vk]] w (BmP false w) := by
  have hs1 : ¬ (4096 : Int) < (nb.size : Int) := by omega
  have hs2 : decide ((4096 : Int) < (nb.size : Int)) = false := decide_eq_false hs1
  have l1 : (0 : Int) < (lm : Int) := by omega
  have l2 : decide ((0 : Int) < (lm : Int)) = true := decide_eq_true l1
  have l3 : decide (0 < lm) = true := decide_eq_true h0
  go_enter Tryd.func25, Tryd.ntmps25
  go_wp2_with fail
  go_ret
  exact ⟨rfl, by go_grown⟩
set_option maxHeartbeats 4000000 in
set_option maxRecDepth 100000 in
theorem f_name_40 (nb : ByteArray) (As Am : Option Addr) (cs cm : Nat) (vk : Value) (ls : Nat) (w : World) (hs : nb.size ≤ 4096) (hne : nb.data.toList ≠ []) : Calls Tryd.prog 25 #[.agg #[.int .i64 40, .string nb, .slice As ls cs, .int .i64 0, .int .i64 0, .bool false, .slice Am 0 cm, vk]] w (BmP false w) := by
  have hs1 : ¬ (4096 : Int) < (nb.size : Int) := by omega
  have hs2 : decide ((4096 : Int) < (nb.size : Int)) = false := decide_eq_false hs1
  obtain ⟨f1, f2, f3⟩ := nb_ne hne
  clear hne f1
  go_enter Tryd.func25, Tryd.ntmps25
  go_wp2_with fail
  go_ret
  exact ⟨rfl, by go_grown⟩
set_option maxHeartbeats 4000000 in
set_option maxRecDepth 100000 in
theorem f_yes_40 (As Am : Option Addr) (cs cm : Nat) (vk : Value) (ls : Nat) (w : World) (h0 : ls ≤ 4096) : Calls Tryd.prog 25 #[.agg #[.int .i64 40, .string ⟨#[]⟩, .slice As ls cs, .int .i64 0, .int .i64 0, .bool false, .slice Am 0 cm, vk]] w (BmP true w) := by
  have l1 : (ls : Int) ≤ 4096 := by omega
  have l2 : decide ((ls : Int) ≤ 4096) = true := decide_eq_true l1
  go_enter Tryd.func25, Tryd.ntmps25
  go_wp2_with fail
  go_ret
  exact ⟨rfl, by go_grown⟩
set_option maxHeartbeats 4000000 in
set_option maxRecDepth 100000 in
theorem f_no_40 (As Am : Option Addr) (cs cm : Nat) (vk : Value) (ls : Nat) (w : World) (h0 : 4096 < ls) : Calls Tryd.prog 25 #[.agg #[.int .i64 40, .string ⟨#[]⟩, .slice As ls cs, .int .i64 0, .int .i64 0, .bool false, .slice Am 0 cm, vk]] w (BmP false w) := by
  have l1 : ¬ (ls : Int) ≤ 4096 := by omega
  have l2 : decide ((ls : Int) ≤ 4096) = false := decide_eq_false l1
  go_enter Tryd.func25, Tryd.ntmps25
  go_wp2_with fail
  go_ret
  exact ⟨rfl, by go_grown⟩
set_option maxHeartbeats 4000000 in
set_option maxRecDepth 100000 in
theorem f_str_30 (nb : ByteArray) (As Am : Option Addr) (cs cm : Nat) (vk : Value) (ls : Nat) (nk : Int) (nn : Int) (ng : Bool) (lm : Nat) (w : World) (hs : nb.size ≤ 4096) (h0 : 0 < ls) : Calls Tryd.prog 25 #[.agg #[.int .i64 30, .string nb, .slice As ls cs, .int .i64 nk, .int .i64 nn, .bool ng, .slice Am lm cm, vk]] w (BmP false w) := by
  have hs1 : ¬ (4096 : Int) < (nb.size : Int) := by omega
  have hs2 : decide ((4096 : Int) < (nb.size : Int)) = false := decide_eq_false hs1
  have l1 : (0 : Int) < (ls : Int) := by omega
  have l2 : decide ((0 : Int) < (ls : Int)) = true := decide_eq_true l1
  have l3 : decide (0 < ls) = true := decide_eq_true h0
  go_enter Tryd.func25, Tryd.ntmps25
  go_wp2_with fail
  go_ret
  exact ⟨rfl, by go_grown⟩
set_option maxHeartbeats 4000000 in
set_option maxRecDepth 100000 in
theorem f_neg_30 (nb : ByteArray) (As Am : Option Addr) (cs cm : Nat) (vk : Value) (nk : Int) (nn : Int) (lm : Nat) (w : World) (hs : nb.size ≤ 4096) : Calls Tryd.prog 25 #[.agg #[.int .i64 30, .string nb, .slice As 0 cs, .int .i64 nk, .int .i64 nn, .bool true, .slice Am lm cm, vk]] w (BmP false w) := by
  have hs1 : ¬ (4096 : Int) < (nb.size : Int) := by omega
  have hs2 : decide ((4096 : Int) < (nb.size : Int)) = false := decide_eq_false hs1
  go_enter Tryd.func25, Tryd.ntmps25
  go_wp2_with fail
  go_ret
  exact ⟨rfl, by go_grown⟩
set_option maxHeartbeats 4000000 in
set_option maxRecDepth 100000 in
theorem f_mag_30 (nb : ByteArray) (As Am : Option Addr) (cs cm : Nat) (vk : Value) (nk : Int) (nn : Int) (lm : Nat) (w : World) (hs : nb.size ≤ 4096) (h0 : 0 < lm) : Calls Tryd.prog 25 #[.agg #[.int .i64 30, .string nb, .slice As 0 cs, .int .i64 nk, .int .i64 nn, .bool false, .slice Am lm cm, vk]] w (BmP false w) := by
  have hs1 : ¬ (4096 : Int) < (nb.size : Int) := by omega
  have hs2 : decide ((4096 : Int) < (nb.size : Int)) = false := decide_eq_false hs1
  have l1 : (0 : Int) < (lm : Int) := by omega
  have l2 : decide ((0 : Int) < (lm : Int)) = true := decide_eq_true l1
  have l3 : decide (0 < lm) = true := decide_eq_true h0
  go_enter Tryd.func25, Tryd.ntmps25
  go_wp2_with fail
  go_ret
  exact ⟨rfl, by go_grown⟩
set_option maxHeartbeats 4000000 in
set_option maxRecDepth 100000 in
theorem f_name_30 (nb : ByteArray) (As Am : Option Addr) (cs cm : Nat) (vk : Value) (nk : Int) (nn : Int) (w : World) (hs : nb.size ≤ 4096) (hne : nb.data.toList ≠ []) : Calls Tryd.prog 25 #[.agg #[.int .i64 30, .string nb, .slice As 0 cs, .int .i64 nk, .int .i64 nn, .bool false, .slice Am 0 cm, vk]] w (BmP false w) := by
  have hs1 : ¬ (4096 : Int) < (nb.size : Int) := by omega
  have hs2 : decide ((4096 : Int) < (nb.size : Int)) = false := decide_eq_false hs1
  obtain ⟨f1, f2, f3⟩ := nb_ne hne
  clear hne f1
  go_enter Tryd.func25, Tryd.ntmps25
  go_wp2_with fail
  go_ret
  exact ⟨rfl, by go_grown⟩
set_option maxHeartbeats 4000000 in
set_option maxRecDepth 100000 in
theorem f_kind_30 (As Am : Option Addr) (cs cm : Nat) (vk : Value) (nk : Int) (nn : Int) (w : World) (hx : nk ≠ 0) : Calls Tryd.prog 25 #[.agg #[.int .i64 30, .string ⟨#[]⟩, .slice As 0 cs, .int .i64 nk, .int .i64 nn, .bool false, .slice Am 0 cm, vk]] w (BmP false w) := by
  have n1 : (nk == 0) = false := beq_eq_false_iff_ne.2 hx
  have n2 : (nk != 0) = true := bne_iff_ne.2 hx
  go_enter Tryd.func25, Tryd.ntmps25
  go_wp2_with fail
  go_ret
  exact ⟨rfl, by go_grown⟩
set_option maxHeartbeats 4000000 in
set_option maxRecDepth 100000 in
theorem f_may_30 (As Am : Option Addr) (cs cm : Nat) (vk : Value) (nn : Int) (w : World) (hq : numMay 0 nn = false) : Calls Tryd.prog 25 #[.agg #[.int .i64 30, .string ⟨#[]⟩, .slice As 0 cs, .int .i64 0, .int .i64 nn, .bool false, .slice Am 0 cm, vk]] w (BmP false w) := by
  have HC := hide (fun w => by have := nmay_any 0 nn w; rw [hq] at this; exact this)
  clear hq
  go_enter Tryd.func25, Tryd.ntmps25
  go_wp2_with (go_at_call 39; refine (HC.out _).mono ?_; rintro e1 w1 ⟨rfl, hb1⟩; have hc1 := hb1.cell (p := ⟨w.heap.size, 4, none⟩) (by simp))
  go_ret
  exact ⟨rfl, bstepA hb1⟩
set_option maxHeartbeats 4000000 in
set_option maxRecDepth 100000 in
theorem f_yes_30 (As Am : Option Addr) (cs cm : Nat) (vk : Value) (nn : Int) (w : World) (hq : numMay 0 nn = true) (hn : 0 ≤ nn) : Calls Tryd.prog 25 #[.agg #[.int .i64 30, .string ⟨#[]⟩, .slice As 0 cs, .int .i64 0, .int .i64 nn, .bool false, .slice Am 0 cm, vk]] w (BmP true w) := by
  have HC := hide (fun w => by have := nmay_any 0 nn w; rw [hq] at this; exact this)
  clear hq
  have l2 : decide ((0 : Int) ≤ nn) = true := decide_eq_true hn
  go_enter Tryd.func25, Tryd.ntmps25
  go_wp2_with (go_at_call 39; refine (HC.out _).mono ?_; rintro e1 w1 ⟨rfl, hb1⟩; have hc1 := hb1.cell (p := ⟨w.heap.size, 4, none⟩) (by simp))
  go_ret
  exact ⟨rfl, bstepA hb1⟩
set_option maxHeartbeats 4000000 in
set_option maxRecDepth 100000 in
theorem f_no_30 (As Am : Option Addr) (cs cm : Nat) (vk : Value) (nn : Int) (w : World) (hq : numMay 0 nn = true) (hn : ¬ 0 ≤ nn) : Calls Tryd.prog 25 #[.agg #[.int .i64 30, .string ⟨#[]⟩, .slice As 0 cs, .int .i64 0, .int .i64 nn, .bool false, .slice Am 0 cm, vk]] w (BmP false w) := by
  have HC := hide (fun w => by have := nmay_any 0 nn w; rw [hq] at this; exact this)
  clear hq
  have l2 : decide ((0 : Int) ≤ nn) = false := decide_eq_false hn
  go_enter Tryd.func25, Tryd.ntmps25
  go_wp2_with (go_at_call 39; refine (HC.out _).mono ?_; rintro e1 w1 ⟨rfl, hb1⟩; have hc1 := hb1.cell (p := ⟨w.heap.size, 4, none⟩) (by simp))
  go_ret
  exact ⟨rfl, bstepA hb1⟩
set_option maxHeartbeats 4000000 in
set_option maxRecDepth 100000 in
theorem f_str_31 (nb : ByteArray) (As Am : Option Addr) (cs cm : Nat) (vk : Value) (ls : Nat) (nk : Int) (nn : Int) (ng : Bool) (lm : Nat) (w : World) (hs : nb.size ≤ 4096) (h0 : 0 < ls) : Calls Tryd.prog 25 #[.agg #[.int .i64 31, .string nb, .slice As ls cs, .int .i64 nk, .int .i64 nn, .bool ng, .slice Am lm cm, vk]] w (BmP false w) := by
  have hs1 : ¬ (4096 : Int) < (nb.size : Int) := by omega
  have hs2 : decide ((4096 : Int) < (nb.size : Int)) = false := decide_eq_false hs1
  have l1 : (0 : Int) < (ls : Int) := by omega
  have l2 : decide ((0 : Int) < (ls : Int)) = true := decide_eq_true l1
  have l3 : decide (0 < ls) = true := decide_eq_true h0
  go_enter Tryd.func25, Tryd.ntmps25
  go_wp2_with fail
  go_ret
  exact ⟨rfl, by go_grown⟩
set_option maxHeartbeats 4000000 in
set_option maxRecDepth 100000 in
theorem f_numa_31 (nb : ByteArray) (As Am : Option Addr) (cs cm : Nat) (vk : Value) (nk : Int) (nn : Int) (ng : Bool) (lm : Nat) (w : World) (hs : nb.size ≤ 4096) (hx : nk ≠ 0) : Calls Tryd.prog 25 #[.agg #[.int .i64 31, .string nb, .slice As 0 cs, .int .i64 nk, .int .i64 nn, .bool ng, .slice Am lm cm, vk]] w (BmP false w) := by
  have hs1 : ¬ (4096 : Int) < (nb.size : Int) := by omega
  have hs2 : decide ((4096 : Int) < (nb.size : Int)) = false := decide_eq_false hs1
  have n1 : (nk == 0) = false := beq_eq_false_iff_ne.2 hx
  have n2 : (nk != 0) = true := bne_iff_ne.2 hx
  go_enter Tryd.func25, Tryd.ntmps25
  go_wp2_with fail
  go_ret
  exact ⟨rfl, by go_grown⟩
set_option maxHeartbeats 4000000 in
set_option maxRecDepth 100000 in
theorem f_numb_31 (nb : ByteArray) (As Am : Option Addr) (cs cm : Nat) (vk : Value) (nn : Int) (ng : Bool) (lm : Nat) (w : World) (hs : nb.size ≤ 4096) (hx : nn ≠ 0) : Calls Tryd.prog 25 #[.agg #[.int .i64 31, .string nb, .slice As 0 cs, .int .i64 0, .int .i64 nn, .bool ng, .slice Am lm cm, vk]] w (BmP false w) := by
  have hs1 : ¬ (4096 : Int) < (nb.size : Int) := by omega
  have hs2 : decide ((4096 : Int) < (nb.size : Int)) = false := decide_eq_false hs1
  have n1 : (nn == 0) = false := beq_eq_false_iff_ne.2 hx
  have n2 : (nn != 0) = true := bne_iff_ne.2 hx
  go_enter Tryd.func25, Tryd.ntmps25
  go_wp2_with fail
  go_ret
  exact ⟨rfl, by go_grown⟩
set_option maxHeartbeats 4000000 in
set_option maxRecDepth 100000 in
theorem f_name_31 (nb : ByteArray) (As Am : Option Addr) (cs cm : Nat) (vk : Value) (ng : Bool) (lm : Nat) (w : World) (hs : nb.size ≤ 4096) (hne : nb.data.toList ≠ []) : Calls Tryd.prog 25 #[.agg #[.int .i64 31, .string nb, .slice As 0 cs, .int .i64 0, .int .i64 0, .bool ng, .slice Am lm cm, vk]] w (BmP false w) := by
  have hs1 : ¬ (4096 : Int) < (nb.size : Int) := by omega
  have hs2 : decide ((4096 : Int) < (nb.size : Int)) = false := decide_eq_false hs1
  obtain ⟨f1, f2, f3⟩ := nb_ne hne
  clear hne f1
  go_enter Tryd.func25, Tryd.ntmps25
  go_wp2_with fail
  go_ret
  exact ⟨rfl, by go_grown⟩
set_option maxHeartbeats 4000000 in
set_option maxRecDepth 100000 in
theorem f_false_true_31 (As Am : Option Addr) (cs cm : Nat) (vk : Value) (lm : Nat) (w : World) (ha : ∀ w1, Below w.heap.size w w1 → Calls Tryd.prog 40 #[.agg #[.bool false, .slice Am lm cm]] w1 (BmP true w1)) : Calls Tryd.prog 25 #[.agg #[.int .i64 31, .string ⟨#[]⟩, .slice As 0 cs, .int .i64 0, .int .i64 0, .bool false, .slice Am lm cm, vk]] w (BmP true w) := by
  have HC := hide ha
  clear ha
  go_enter Tryd.func25, Tryd.ntmps25
  go_wp2_with (go_at_call 40; refine (HC.out _ ((Below.refl _ _).alloc (Nat.le_refl _) _)).mono ?_; rintro e1 w1 ⟨rfl, hb1⟩; have hc1 := hb1.cell (p := ⟨w.heap.size, 5, none⟩) (by simp))
  go_ret
  exact ⟨rfl, bstepA hb1⟩
set_option maxHeartbeats 4000000 in
set_option maxRecDepth 100000 in
theorem f_true_true_31 (As Am : Option Addr) (cs cm : Nat) (vk : Value) (lm : Nat) (w : World) (ha : ∀ w1, Below w.heap.size w w1 → Calls Tryd.prog 40 #[.agg #[.bool true, .slice Am lm cm]] w1 (BmP true w1)) : Calls Tryd.prog 25 #[.agg #[.int .i64 31, .string ⟨#[]⟩, .slice As 0 cs, .int .i64 0, .int .i64 0, .bool true, .slice Am lm cm, vk]] w (BmP false w) := by
  have HC := hide ha
  clear ha
  go_enter Tryd.func25, Tryd.ntmps25
  go_wp2_with (go_at_call 40; refine (HC.out _ ((Below.refl _ _).alloc (Nat.le_refl _) _)).mono ?_; rintro e1 w1 ⟨rfl, hb1⟩; have hc1 := hb1.cell (p := ⟨w.heap.size, 5, none⟩) (by simp))
  go_ret
  exact ⟨rfl, bstepA hb1⟩
set_option maxHeartbeats 4000000 in
set_option maxRecDepth 100000 in
theorem f_false_false_31 (As Am : Option Addr) (cs cm : Nat) (vk : Value) (lm : Nat) (w : World) (ha : ∀ w1, Below w.heap.size w w1 → Calls Tryd.prog 40 #[.agg #[.bool false, .slice Am lm cm]] w1 (BmP false w1)) : Calls Tryd.prog 25 #[.agg #[.int .i64 31, .string ⟨#[]⟩, .slice As 0 cs, .int .i64 0, .int .i64 0, .bool false, .slice Am lm cm, vk]] w (BmP false w) := by
  have HC := hide ha
  clear ha
  go_enter Tryd.func25, Tryd.ntmps25
  go_wp2_with (go_at_call 40; refine (HC.out _ ((Below.refl _ _).alloc (Nat.le_refl _) _)).mono ?_; rintro e1 w1 ⟨rfl, hb1⟩; have hc1 := hb1.cell (p := ⟨w.heap.size, 5, none⟩) (by simp))
  go_ret
  exact ⟨rfl, bstepA hb1⟩
set_option maxHeartbeats 4000000 in
set_option maxRecDepth 100000 in
theorem f_true_false_31 (As Am : Option Addr) (cs cm : Nat) (vk : Value) (lm : Nat) (w : World) (ha : ∀ w1, Below w.heap.size w w1 → Calls Tryd.prog 40 #[.agg #[.bool true, .slice Am lm cm]] w1 (BmP false w1)) : Calls Tryd.prog 25 #[.agg #[.int .i64 31, .string ⟨#[]⟩, .slice As 0 cs, .int .i64 0, .int .i64 0, .bool true, .slice Am lm cm, vk]] w (BmP false w) := by
  have HC := hide ha
  clear ha
  go_enter Tryd.func25, Tryd.ntmps25
  go_wp2_with (go_at_call 40; refine (HC.out _ ((Below.refl _ _).alloc (Nat.le_refl _) _)).mono ?_; rintro e1 w1 ⟨rfl, hb1⟩; have hc1 := hb1.cell (p := ⟨w.heap.size, 5, none⟩) (by simp))
  go_ret
  exact ⟨rfl, bstepA hb1⟩
set_option maxHeartbeats 4000000 in
set_option maxRecDepth 100000 in
theorem f_str_o (k : Int) (nb : ByteArray) (As Am : Option Addr) (cs cm : Nat) (vk : Value) (ls : Nat) (nk : Int) (nn : Int) (ng : Bool) (lm : Nat) (w : World) (h : ∀ j ∈ ([32, 40, 30, 31] : List Int), k ≠ j) (hs : nb.size ≤ 4096) (h0 : 0 < ls) : Calls Tryd.prog 25 #[.agg #[.int .i64 k, .string nb, .slice As ls cs, .int .i64 nk, .int .i64 nn, .bool ng, .slice Am lm cm, vk]] w (BmP false w) := by
  have e32 : (k == 32) = false := beq_eq_false_iff_ne.2 (h 32 (by decide))
  have e40 : (k == 40) = false := beq_eq_false_iff_ne.2 (h 40 (by decide))
  have e30 : (k == 30) = false := beq_eq_false_iff_ne.2 (h 30 (by decide))
  have e31 : (k == 31) = false := beq_eq_false_iff_ne.2 (h 31 (by decide))
  have g32 : (k != 32) = true := bne_iff_ne.2 (h 32 (by decide))
  have g40 : (k != 40) = true := bne_iff_ne.2 (h 40 (by decide))
  have g30 : (k != 30) = true := bne_iff_ne.2 (h 30 (by decide))
  have g31 : (k != 31) = true := bne_iff_ne.2 (h 31 (by decide))
  clear h
  have hs1 : ¬ (4096 : Int) < (nb.size : Int) := by omega
  have hs2 : decide ((4096 : Int) < (nb.size : Int)) = false := decide_eq_false hs1
  have l1 : (0 : Int) < (ls : Int) := by omega
  have l2 : decide ((0 : Int) < (ls : Int)) = true := decide_eq_true l1
  have l3 : decide (0 < ls) = true := decide_eq_true h0
  go_enter Tryd.func25, Tryd.ntmps25
  go_wp2_with fail
  go_ret
  exact ⟨rfl, by go_grown⟩
set_option maxHeartbeats 4000000 in
set_option maxRecDepth 100000 in
theorem f_numa_o (k : Int) (nb : ByteArray) (As Am : Option Addr) (cs cm : Nat) (vk : Value) (nk : Int) (nn : Int) (ng : Bool) (lm : Nat) (w : World) (h : ∀ j ∈ ([32, 40, 30, 31] : List Int), k ≠ j) (hs : nb.size ≤ 4096) (hx : nk ≠ 0) : Calls Tryd.prog 25 #[.agg #[.int .i64 k, .string nb, .slice As 0 cs, .int .i64 nk, .int .i64 nn, .bool ng, .slice Am lm cm, vk]] w (BmP false w) := by
  have e32 : (k == 32) = false := beq_eq_false_iff_ne.2 (h 32 (by decide))
  have e40 : (k == 40) = false := beq_eq_false_iff_ne.2 (h 40 (by decide))
  have e30 : (k == 30) = false := beq_eq_false_iff_ne.2 (h 30 (by decide))
  have e31 : (k == 31) = false := beq_eq_false_iff_ne.2 (h 31 (by decide))
  have g32 : (k != 32) = true := bne_iff_ne.2 (h 32 (by decide))
  have g40 : (k != 40) = true := bne_iff_ne.2 (h 40 (by decide))
  have g30 : (k != 30) = true := bne_iff_ne.2 (h 30 (by decide))
  have g31 : (k != 31) = true := bne_iff_ne.2 (h 31 (by decide))
  clear h
  have hs1 : ¬ (4096 : Int) < (nb.size : Int) := by omega
  have hs2 : decide ((4096 : Int) < (nb.size : Int)) = false := decide_eq_false hs1
  have n1 : (nk == 0) = false := beq_eq_false_iff_ne.2 hx
  have n2 : (nk != 0) = true := bne_iff_ne.2 hx
  go_enter Tryd.func25, Tryd.ntmps25
  go_wp2_with fail
  go_ret
  exact ⟨rfl, by go_grown⟩
set_option maxHeartbeats 4000000 in
set_option maxRecDepth 100000 in
theorem f_numb_o (k : Int) (nb : ByteArray) (As Am : Option Addr) (cs cm : Nat) (vk : Value) (nn : Int) (ng : Bool) (lm : Nat) (w : World) (h : ∀ j ∈ ([32, 40, 30, 31] : List Int), k ≠ j) (hs : nb.size ≤ 4096) (hx : nn ≠ 0) : Calls Tryd.prog 25 #[.agg #[.int .i64 k, .string nb, .slice As 0 cs, .int .i64 0, .int .i64 nn, .bool ng, .slice Am lm cm, vk]] w (BmP false w) := by
  have e32 : (k == 32) = false := beq_eq_false_iff_ne.2 (h 32 (by decide))
  have e40 : (k == 40) = false := beq_eq_false_iff_ne.2 (h 40 (by decide))
  have e30 : (k == 30) = false := beq_eq_false_iff_ne.2 (h 30 (by decide))
  have e31 : (k == 31) = false := beq_eq_false_iff_ne.2 (h 31 (by decide))
  have g32 : (k != 32) = true := bne_iff_ne.2 (h 32 (by decide))
  have g40 : (k != 40) = true := bne_iff_ne.2 (h 40 (by decide))
  have g30 : (k != 30) = true := bne_iff_ne.2 (h 30 (by decide))
  have g31 : (k != 31) = true := bne_iff_ne.2 (h 31 (by decide))
  clear h
  have hs1 : ¬ (4096 : Int) < (nb.size : Int) := by omega
  have hs2 : decide ((4096 : Int) < (nb.size : Int)) = false := decide_eq_false hs1
  have n1 : (nn == 0) = false := beq_eq_false_iff_ne.2 hx
  have n2 : (nn != 0) = true := bne_iff_ne.2 hx
  go_enter Tryd.func25, Tryd.ntmps25
  go_wp2_with fail
  go_ret
  exact ⟨rfl, by go_grown⟩
set_option maxHeartbeats 4000000 in
set_option maxRecDepth 100000 in
theorem f_neg_o (k : Int) (nb : ByteArray) (As Am : Option Addr) (cs cm : Nat) (vk : Value) (lm : Nat) (w : World) (h : ∀ j ∈ ([32, 40, 30, 31] : List Int), k ≠ j) (hs : nb.size ≤ 4096) : Calls Tryd.prog 25 #[.agg #[.int .i64 k, .string nb, .slice As 0 cs, .int .i64 0, .int .i64 0, .bool true, .slice Am lm cm, vk]] w (BmP false w) := by
  have e32 : (k == 32) = false := beq_eq_false_iff_ne.2 (h 32 (by decide))
  have e40 : (k == 40) = false := beq_eq_false_iff_ne.2 (h 40 (by decide))
  have e30 : (k == 30) = false := beq_eq_false_iff_ne.2 (h 30 (by decide))
  have e31 : (k == 31) = false := beq_eq_false_iff_ne.2 (h 31 (by decide))
  have g32 : (k != 32) = true := bne_iff_ne.2 (h 32 (by decide))
  have g40 : (k != 40) = true := bne_iff_ne.2 (h 40 (by decide))
  have g30 : (k != 30) = true := bne_iff_ne.2 (h 30 (by decide))
  have g31 : (k != 31) = true := bne_iff_ne.2 (h 31 (by decide))
  clear h
  have hs1 : ¬ (4096 : Int) < (nb.size : Int) := by omega
  have hs2 : decide ((4096 : Int) < (nb.size : Int)) = false := decide_eq_false hs1
  go_enter Tryd.func25, Tryd.ntmps25
  go_wp2_with fail
  go_ret
  exact ⟨rfl, by go_grown⟩
set_option maxHeartbeats 4000000 in
set_option maxRecDepth 100000 in
theorem f_mag_o (k : Int) (nb : ByteArray) (As Am : Option Addr) (cs cm : Nat) (vk : Value) (lm : Nat) (w : World) (h : ∀ j ∈ ([32, 40, 30, 31] : List Int), k ≠ j) (hs : nb.size ≤ 4096) (h0 : 0 < lm) : Calls Tryd.prog 25 #[.agg #[.int .i64 k, .string nb, .slice As 0 cs, .int .i64 0, .int .i64 0, .bool false, .slice Am lm cm, vk]] w (BmP false w) := by
  have e32 : (k == 32) = false := beq_eq_false_iff_ne.2 (h 32 (by decide))
  have e40 : (k == 40) = false := beq_eq_false_iff_ne.2 (h 40 (by decide))
  have e30 : (k == 30) = false := beq_eq_false_iff_ne.2 (h 30 (by decide))
  have e31 : (k == 31) = false := beq_eq_false_iff_ne.2 (h 31 (by decide))
  have g32 : (k != 32) = true := bne_iff_ne.2 (h 32 (by decide))
  have g40 : (k != 40) = true := bne_iff_ne.2 (h 40 (by decide))
  have g30 : (k != 30) = true := bne_iff_ne.2 (h 30 (by decide))
  have g31 : (k != 31) = true := bne_iff_ne.2 (h 31 (by decide))
  clear h
  have hs1 : ¬ (4096 : Int) < (nb.size : Int) := by omega
  have hs2 : decide ((4096 : Int) < (nb.size : Int)) = false := decide_eq_false hs1
  have l1 : (0 : Int) < (lm : Int) := by omega
  have l2 : decide ((0 : Int) < (lm : Int)) = true := decide_eq_true l1
  have l3 : decide (0 < lm) = true := decide_eq_true h0
  go_enter Tryd.func25, Tryd.ntmps25
  go_wp2_with fail
  go_ret
  exact ⟨rfl, by go_grown⟩
set_option maxHeartbeats 4000000 in
set_option maxRecDepth 100000 in
theorem f_good_o (k : Int) (nb : ByteArray) (As Am : Option Addr) (cs cm : Nat) (vk : Value) (w : World) (h : ∀ j ∈ ([32, 40, 30, 31] : List Int), k ≠ j) (hs : nb.size ≤ 4096) {q : Bool} (hq : namedF k nb.data.toList = q) : Calls Tryd.prog 25 #[.agg #[.int .i64 k, .string nb, .slice As 0 cs, .int .i64 0, .int .i64 0, .bool false, .slice Am 0 cm, vk]] w (BmP q w) := by
  have e32 : (k == 32) = false := beq_eq_false_iff_ne.2 (h 32 (by decide))
  have e40 : (k == 40) = false := beq_eq_false_iff_ne.2 (h 40 (by decide))
  have e30 : (k == 30) = false := beq_eq_false_iff_ne.2 (h 30 (by decide))
  have e31 : (k == 31) = false := beq_eq_false_iff_ne.2 (h 31 (by decide))
  have g32 : (k != 32) = true := bne_iff_ne.2 (h 32 (by decide))
  have g40 : (k != 40) = true := bne_iff_ne.2 (h 40 (by decide))
  have g30 : (k != 30) = true := bne_iff_ne.2 (h 30 (by decide))
  have g31 : (k != 31) = true := bne_iff_ne.2 (h 31 (by decide))
  clear h
  have hs1 : ¬ (4096 : Int) < (nb.size : Int) := by omega
  have hs2 : decide ((4096 : Int) < (nb.size : Int)) = false := decide_eq_false hs1
  have HC := hide (fun w => named_any k nb (.slice As 0 cs) (.slice Am 0 cm) vk 0 0 false w (by omega) hq)
  clear hq
  go_enter Tryd.func25, Tryd.ntmps25
  go_wp2_with (go_at_call 41; refine (HC.out _).mono ?_; rintro e1 w1 ⟨rfl, hb1⟩)
  go_ret
  exact ⟨rfl, bstepA hb1⟩
end Go.Proofs.YtelcjdblnagdgaaDoor
