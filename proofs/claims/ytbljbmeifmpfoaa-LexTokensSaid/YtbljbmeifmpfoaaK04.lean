/- Joined for a claim: Str, LexFacts, LexBase. -/
import Derived.Test.YtbljbmeifmpfoaaK02
import Derived.Test.YtbljbmeifmpfoaaK01
import Derived.Test.YtbljbmeifmpfoaaK03
namespace Go.Proofs.Ytbljbmeifmpfoaa
open Go.RowKit

theorem Reads.spot {w : World} {B n : Nat} {A : Option Addr} {l : List UInt8} (h : Reads w B 1 A n (u8s l)) (h0 : 0 < l.length) :
    ∃ b off, A = some ⟨b, off, none⟩ ∧ ∀ j, j < l.length → w.cell? ⟨b, off + j, none⟩ = some (.int .u8 ((l.getD j 0).toNat : Int)) := by
  have hl : l.length = n := by have := h.1; simpa [u8s] using this
  obtain ⟨ad, e, hb, hc⟩ := h.2 (by omega)
  have hs : ad.spot = none := by
    have h1 := hc 0 (u8v l[0]) (by rw [u8s, List.getElem?_map, List.getElem?_eq_getElem h0]; rfl)
    cases hsp : ad.spot with
    | none => rfl
    | some s =>
      exfalso
      simp only [Addr.add, if_true, World.cell?, hsp] at h1
      split at h1
      · simp at h1
      · cases h1
  obtain ⟨b, off, sp⟩ := ad
  simp only at hs
  subst hs
  refine ⟨b, off, e, fun j hj => ?_⟩
  have h1 := hc j (u8v l[j]) (by rw [u8s, List.getElem?_map, List.getElem?_eq_getElem hj]; rfl)
  rw [Addr.add_lit] at h1
  rw [h1]
  simp [u8v, List.getD, hj]

theorem run_str {w : World} {B n c : Nat} {A : Option Addr} {l : List UInt8} (h : Reads w B 1 A n (u8s l)) :
    (convert 80 9 (.slice A n c)).run Try.prog w = .ok (.string ⟨l.toArray⟩) w := by
  have hl : l.length = n := by have := h.1; simpa [u8s] using this
  rcases Nat.eq_zero_or_pos l.length with h0 | h0
  · have hx : l = [] := List.eq_nil_of_length_eq_zero h0
    subst hx
    have hn : n = 0 := hl.symm
    subst hn
    clear hl h
    rw [run_convert_bytes_string w _ _ 5 A 0 c Try.underlying80 Try.underlying5 Try.underlying9]
    cases A with
    | none => rfl
    | some a => exact run_bytesToString w a 0 c [] rfl
  · obtain ⟨b, off, rfl, hc⟩ := h.spot h0
    rw [run_convert_bytes_arg w _ 5 Try.underlying80 Try.underlying5 b off n c (l.map fun x => (x.toNat : Int)) (by simpa using hl) (fun i hi => by rw [hc i (by omega)]; simp [List.getD, show i < l.length by omega]) _ Try.underlying9]
    congr 3
    simp only [strOfNums, List.map_map]
    congr 1
    have e : ((fun n : Int => UInt8.ofNat n.toNat) ∘ fun x : UInt8 => (x.toNat : Int)) = id := by
      funext x; simp
    rw [e, List.map_id]

def plainOk (u : List UInt16) : Bool := u.all fun x => decide (x.toNat ≤ 127)
def plainF (u : List UInt16) : ByteArray := if plainOk u then ⟨(u.map (·.toUInt8)).toArray⟩ else .empty
theorem ret_sb {s t : ByteArray} {a b : Bool} (h : s = t) (h2 : a = b) : Ending.returned (.tuple #[.string s, .bool a]) = .returned (.tuple #[.string t, .bool b]) := by rw [h, h2]
theorem plain_snoc (u : List UInt16) (k : Nat) (h : k < u.length) : u8s ((u.take (k + 1)).map (·.toUInt8)) = u8s ((u.take k).map (·.toUInt8)) ++ [u8v u[k].toUInt8] := by
  rw [List.take_succ_eq_append_getElem h, List.map_append, u8s, List.map_append]; rfl
theorem plain_cell {x : UInt16} (h : x.toNat ≤ 127) : u8v x.toUInt8 = .int .u8 (x.toNat : Int) := by
  unfold u8v
  congr 1
  simp
  omega

set_option maxHeartbeats 400000 in
set_option maxRecDepth 100000 in
theorem plain_any {A : Option Addr} {c B : Nat} {xs : List UInt16} {w : World} (hB : B ≤ w.heap.size) (ha : Reads w B 1 A xs.length (u16s xs)) (hl : xs.length ≤ 70368744177664) :
    Calls Try.prog 47 #[.slice A xs.length c] w fun e w' => e = .returned (.tuple #[.string (plainF xs), .bool (plainOk xs)]) ∧ Below w.heap.size w w' := by
  obtain ⟨i0, hi0, hz0, hz1, hz2⟩ := info_parts Try.info_u8
  go_enter Try.func47, Try.ntmps47
  go_wp2
  go_loopw [4, 9] (fun v i wr => ∃ k : Nat, k ≤ xs.length ∧ i = .int .i64 k ∧ Hid (plainOk (xs.take k) = true) ∧ Made w wr 5 v (u8s ((xs.take k).map (·.toUInt8)))) (fun _ i _ => xs.length - (intOf i).toNat)
  case atStart => exact ⟨0, Nat.zero_le _, rfl, rfl, Made.nil _ _⟩
  case round =>
    obtain ⟨k, hk, rfl, hok, hm⟩ := hrel
    by_cases hlt : k < xs.length
    · obtain ⟨ad, hA, _, hca⟩ := (ha.below (hm.below.mono hB)).u16 hlt
      subst hA
      have h3 : (k : Int) < (xs.length : Int) := by omega
      have hlen : (u8s ((xs.take k).map (·.toUInt8))).length ≤ k := by simp [u8s]; omega
      have hx := xs[k].toNat_lt
      by_cases hp : xs[k].toNat ≤ 127
      · have HC := hide (plain_cell hp)
        have HS := hide (plain_snoc xs k hlt)
        have HO : Hid (plainOk (xs.take (k + 1)) = true) := by
          rw [List.take_succ_eq_append_getElem hlt, plainOk, List.all_append]
          have := hok.out
          rw [plainOk] at this
          rw [this]
          simp [hp, Hid]
        go_wp2_with (at_builtin; refine wpList_lit rfl _ _ 80 rfl 5 i0 _ 1 Try.underlying80 hi0 hz0 hz1 hz2 rfl _ _ rfl hm _ 1 1 rfl rfl rfl (by omega) (by omega) ?_; intro v' w' hm')
        go_roundw
        case rel => exact ⟨k + 1, by omega, by go_num, HO, hm'.cells (by rw [HS.out, HC.out])⟩
        case measure => simp [intOf]; omega
      · have HO : Hid (plainOk xs = false) := List.all_eq_false.2 ⟨xs[k], List.getElem_mem _, by simpa using hp⟩
        go_wp2
        go_ret2
        exact ⟨ret_sb (by rw [plainF, HO.out]; rfl) HO.out.symm, hm.below⟩
    · have hkk : xs.take k = xs := List.take_of_length_le (by omega)
      rw [hkk] at hok hm
      obtain ⟨A', c', rfl, _, _, hr⟩ := hm.u8
      rw [List.length_map] at hr ⊢
      have hs := run_str (c := c') hr
      go_wp2
      go_ret2
      exact ⟨ret_sb (by rw [plainF, hok.out]; rfl) hok.out.symm, hm.below⟩
end Go.Proofs.Ytbljbmeifmpfoaa

namespace Go.Proofs.Ytbljbmeifmpfoaa

theorem starts_len {s : List UInt8} {l : List UInt16} (h : starts s l = true) : s.length ≤ l.length := by
  unfold starts at h
  rw [List.isPrefixOf_iff_prefix] at h
  simpa using h.length_le
theorem starts_iff {s : List UInt8} {l : List UInt16} : starts s l = true ↔ s.map (·.toUInt16) = l.take s.length := by
  unfold starts
  rw [List.isPrefixOf_iff_prefix, List.prefix_iff_eq_take]
  simp
theorem rem_le (long : Bool) : ∀ (l : List UInt16) (nl st : Bool), (remGo long l nl st).1 ≤ l.length := by
  intro l
  induction l with
  | nil => intro nl st; simp [remGo]
  | cons x r ih =>
    intro nl st
    unfold remGo
    split
    · rename_i h
      have := starts_len (Bool.and_eq_true _ _ ▸ h).2
      simpa using this
    · split
      · simp
      · have := ih (nl || isLine x) (st || isFar x)
        simp only [plus, List.length_cons]
        omega
theorem remark_le {l : List UInt16} (h : 2 ≤ l.length) : 2 ≤ (remarkF l).1 ∧ (remarkF l).1 ≤ l.length := by
  have := rem_le (starts [47, 42] l) (l.drop 2) false false
  rw [List.length_drop] at this
  simp only [remarkF, plus]
  omega
theorem rem_starts {l : List UInt16} (h : (starts [47, 47] l || starts [47, 42] l) = true) : 2 ≤ l.length := by
  rw [Bool.or_eq_true] at h
  rcases h with h | h
  · exact starts_len h
  · exact starts_len h
theorem passN_le : ∀ (f : Nat) (l : List UInt16) (nl : Bool), (passN f l nl).1 ≤ l.length := by
  intro f
  induction f with
  | zero => intro l nl; simp [passN]
  | succ f ih =>
    intro l nl
    cases l with
    | nil => simp [passN]
    | cons x r =>
      unfold passN
      split
      · have := ih r (nl || isLine x)
        simp only [plus, List.length_cons]
        omega
      · split
        · rename_i h
          have h2 := remark_le (rem_starts h)
          split
          · simp
          · have := ih ((x :: r).drop (remarkF (x :: r)).1) (nl || (remarkF (x :: r)).2.1)
            rw [List.length_drop] at this
            simp only [plus]
            omega
        · simp
theorem pass_le (l : List UInt16) : (passF l).1 ≤ l.length := passN_le _ _ _
theorem passN_fuel : ∀ (f g : Nat) (l : List UInt16) (nl : Bool), l.length ≤ f → l.length ≤ g → passN f l nl = passN g l nl := by
  intro f
  induction f with
  | zero =>
    intro g l nl hf _
    have : l = [] := List.eq_nil_of_length_eq_zero (by omega)
    subst this
    cases g <;> rfl
  | succ f ih =>
    intro g l nl hf hg
    cases l with
    | nil => cases g <;> rfl
    | cons x r =>
      obtain ⟨g, rfl⟩ : ∃ k, g = k + 1 := ⟨g - 1, by simp at hg; omega⟩
      simp only [List.length_cons] at hf hg
      unfold passN
      rw [ih g r (nl || isLine x) (by omega) (by omega)]
      split
      · rfl
      · split
        · rename_i h
          have h2 := remark_le (rem_starts h)
          rw [ih g ((x :: r).drop (remarkF (x :: r)).1) _ (by rw [List.length_drop, List.length_cons]; omega) (by rw [List.length_drop, List.length_cons]; omega)]
        · rfl
/-- pass, with what has been seen of a line end so far -/
def passL (l : List UInt16) (nl : Bool) : Nat × Bool × Nat := passN l.length l nl
theorem passL_nil (nl : Bool) : passL [] nl = (0, nl, 0) := rfl
theorem passL_blank {x : UInt16} {r : List UInt16} (h : (isBl x || isLine x) = true) (nl : Bool) : passL (x :: r) nl = plus 1 (passL r (nl || isLine x)) := by
  unfold passL
  rw [List.length_cons, passN, if_pos h]
theorem passL_remark {x : UInt16} {r : List UInt16} (h : (isBl x || isLine x) = false) (h2 : (starts [47, 47] (x :: r) || starts [47, 42] (x :: r)) = true) (nl : Bool) :
    passL (x :: r) nl = if (remarkF (x :: r)).2.2 ≠ 0 then (0, false, (remarkF (x :: r)).2.2) else plus (remarkF (x :: r)).1 (passL ((x :: r).drop (remarkF (x :: r)).1) (nl || (remarkF (x :: r)).2.1)) := by
  have h3 := remark_le (rem_starts h2)
  unfold passL
  rw [List.length_cons, passN, if_neg (by rw [h]; simp), if_pos h2]
  rw [passN_fuel r.length ((x :: r).drop (remarkF (x :: r)).1).length _ _ (by rw [List.length_drop, List.length_cons]; omega) (Nat.le_refl _)]
theorem passL_stop {x : UInt16} {r : List UInt16} (h : (isBl x || isLine x) = false) (h2 : (starts [47, 47] (x :: r) || starts [47, 42] (x :: r)) = false) (nl : Bool) : passL (x :: r) nl = (0, nl, 0) := by
  unfold passL
  rw [List.length_cons, passN, if_neg (by rw [h]; simp), if_neg (by rw [h2]; simp)]

/-- How far a token goes. -/
theorem takeWhile_le {α : Type} (p : α → Bool) (l : List α) : (l.takeWhile p).length ≤ l.length := (List.takeWhile_sublist p).length_le
theorem code_len {n : Nat} {l : List UInt16} (h : (codeF n l).1 = 0) : (codeF n l).2.2 = n ∧ n ≤ l.length := by
  unfold codeF at h ⊢
  split
  · rename_i h2
    simp only [Bool.and_eq_true, decide_eq_true_eq] at h2
    exact ⟨rfl, h2.1⟩
  · rename_i h2
    rw [if_neg h2] at h
    cases h
theorem escF_cons (x : UInt16) (r : List UInt16) : escF (x :: r) = if (simpleF x).isSome = true then (0, (simpleF x).getD 0, 1) else escR x r := rfl
theorem tokenT_cons (z : Bool) (x : UInt16) (r : List UInt16) : tokenT z (x :: r) = if isLet x = true then wordT (x :: r) else if isDigit x = true then numberT (x :: r) else if (x.toNat == 39 || x.toNat == 34) = true then quotedT x r
    else if (x.toNat == 46 && isAt 0 isDigit r) = true then bad 6 else signT z (x :: r) := rfl
theorem esc_len {l : List UInt16} (h : (escF l).1 = 0) : 1 ≤ (escF l).2.2 ∧ (escF l).2.2 ≤ l.length := by
  cases l with
  | nil => simp [escF] at h
  | cons x r =>
    rw [escF_cons] at h ⊢
    have hm : ∀ k, (more 1 (codeF k r)).1 = 0 → 1 ≤ (more 1 (codeF k r)).2.2 ∧ (more 1 (codeF k r)).2.2 ≤ (x :: r).length := by
      intro k hk
      unfold more at hk ⊢
      split
      · rename_i h3
        have := code_len h3
        simp only [List.length_cons]
        omega
      · rename_i h3
        rw [if_neg h3] at hk
        exact absurd hk h3
    split
    · simp
    · rename_i hs
      rw [if_neg hs] at h
      unfold escR at h ⊢
      by_cases h1 : (x.toNat == 48 && !isAt 0 isDigit r) = true
      · rw [if_pos h1]; simp
      rw [if_neg h1] at h ⊢
      by_cases h2 : isDigit x = true
      · rw [if_pos h2] at h; cases h
      rw [if_neg h2] at h ⊢
      by_cases h3 : (isLine x || isFar x || (x.toNat == 117 && starts [123] r)) = true
      · rw [if_pos h3] at h; cases h
      rw [if_neg h3] at h ⊢
      by_cases h4 : x.toNat = 120
      · rw [if_pos h4] at h ⊢; exact hm 2 h
      rw [if_neg h4] at h ⊢
      by_cases h5 : x.toNat = 117
      · rw [if_pos h5] at h ⊢; exact hm 4 h
      rw [if_neg h5]; simp
theorem quo_len (q : UInt16) : ∀ (f : Nat) (l : List UInt16) (acc : List UInt16), (quoN q f l acc).1 = 0 → 1 ≤ (quoN q f l acc).2.2 ∧ (quoN q f l acc).2.2 ≤ l.length := by
  intro f
  induction f with
  | zero => intro l acc h; simp [quoN] at h
  | succ f ih =>
    intro l acc h
    cases l with
    | nil => simp [quoN] at h
    | cons x r =>
      unfold quoN at h ⊢
      by_cases h1 : isLine x = true
      · rw [if_pos h1] at h; cases h
      rw [if_neg h1] at h ⊢
      by_cases h2 : x = q
      · rw [if_pos h2]; simp
      rw [if_neg h2] at h ⊢
      by_cases h3 : x.toNat = 92
      · rw [if_pos h3] at h ⊢
        by_cases h4 : (escF r).1 ≠ 0
        · rw [if_pos h4] at h
          exact absurd h h4
        · rw [if_neg h4] at h ⊢
          have h5 := esc_len (Decidable.not_not.1 h4)
          have h6 := ih _ _ h
          rw [List.length_drop] at h6
          simp only [List.length_cons]
          omega
      · rw [if_neg h3] at h ⊢
        have h6 := ih _ _ h
        simp only [List.length_cons]
        omega
theorem signN_some {l : List UInt16} : ∀ {m n : Nat}, signN l m = some n → 1 ≤ n ∧ n ≤ m ∧ signAt l n ≠ 0 := by
  intro m
  induction m with
  | zero => intro n h; simp [signN] at h
  | succ m ih =>
    intro n h
    unfold signN at h
    split at h
    · injection h with h
      subst h
      exact ⟨by omega, by omega, by assumption⟩
    · have := ih h
      exact ⟨this.1, by omega, this.2.2⟩
theorem signAt_len {l : List UInt16} {n : Nat} (h : signAt l n ≠ 0) : n ≤ l.length := by
  unfold signAt at h
  split at h
  · rename_i h2
    simp only [Bool.and_eq_true, decide_eq_true_eq] at h2
    exact h2.1.1
  · exact absurd rfl h
theorem bad_err {e : Nat} (h : e ≠ 0) : (bad e).1 ≠ 0 := h
theorem takeWhile_pos {α : Type} {p : α → Bool} {x : α} {r : List α} (h : p x = true) : 1 ≤ ((x :: r).takeWhile p).length := by
  rw [List.takeWhile_cons_of_pos h]; simp
theorem numT_len {d r : List UInt16} (h : (numT' d r).1 = 0) (hd : 1 ≤ d.length) : 1 ≤ (numT' d r).2.2 ∧ (numT' d r).2.2 ≤ d.length + r.length := by
  unfold numT' at h ⊢
  split
  · rename_i h1; rw [if_pos h1] at h; cases h
  · rename_i h1
    rw [if_neg h1] at h
    split
    · rename_i h2
      rw [if_pos h2] at h
      have hl := starts_len h2
      unfold bigT at h ⊢
      split
      · rename_i h3; rw [if_pos h3] at h; cases h
      · rename_i h3
        rw [if_neg h3] at h
        split
        · rename_i h4; rw [if_pos h4] at h; cases h
        · simp at hl
          show 1 ≤ d.length + 1 ∧ d.length + 1 ≤ _
          omega
    · rename_i h2
      rw [if_neg h2] at h
      split
      · rename_i h3; rw [if_pos h3] at h; cases h
      · rename_i h3
        rw [if_neg h3] at h
        split
        · rename_i h4; rw [if_pos h4] at h; cases h
        · rename_i h4
          rw [if_neg h4] at h
          split
          · rename_i h5; rw [if_pos h5] at h; cases h
          · show 1 ≤ d.length ∧ d.length ≤ _
            omega
theorem token_len {z : Bool} {l : List UInt16} (h : (tokenT z l).1 = 0) : 1 ≤ (tokenT z l).2.2 ∧ (tokenT z l).2.2 ≤ l.length := by
  cases l with
  | nil => cases h
  | cons x r =>
    rw [tokenT_cons] at h ⊢
    by_cases h1 : isLet x = true
    · rw [if_pos h1] at h ⊢
      unfold wordT at h ⊢
      split
      · rename_i h2; rw [if_pos h2] at h; cases h
      · exact ⟨takeWhile_pos (by simp [isRun, h1]), takeWhile_le _ _⟩
    rw [if_neg h1] at h ⊢
    by_cases h2 : isDigit x = true
    · rw [if_pos h2] at h ⊢
      unfold numberT at h ⊢
      have := numT_len h (takeWhile_pos h2)
      have h3 := takeWhile_le isDigit (x :: r)
      rw [List.length_drop] at this
      omega
    rw [if_neg h2] at h ⊢
    by_cases h3 : (x.toNat == 39 || x.toNat == 34) = true
    · rw [if_pos h3] at h ⊢
      unfold quotedT at h ⊢
      split
      · rename_i h4; rw [if_pos h4] at h; exact absurd h h4
      · rename_i h4
        have := quo_len x _ _ _ (Decidable.not_not.1 h4)
        simp only [List.length_cons, quoF]
        omega
    rw [if_neg h3] at h ⊢
    by_cases h4 : (x.toNat == 46 && isAt 0 isDigit r) = true
    · rw [if_pos h4] at h; cases h
    rw [if_neg h4] at h ⊢
    unfold signT at h ⊢
    cases hs : signN (x :: r) 4 with
    | none =>
      rw [hs] at h
      simp only at h
      split at h <;> cases h
    | some n =>
      rw [hs] at h
      have h5 := signN_some hs
      have h6 := signAt_len h5.2.2
      simp only at h ⊢
      split
      · rename_i h7; rw [if_pos h7] at h; cases h
      · exact ⟨h5.1, h6⟩
theorem tokAt_len {k : Nat} {l : List UInt16} (h : (tokAt k l).1 = 0) : 1 ≤ (tokAt k l).2.2 ∧ (passF l).1 + (tokAt k l).2.2 ≤ l.length := by
  have h1 := token_len h
  have h2 := pass_le l
  rw [List.length_drop] at h1
  unfold tokAt
  omega
theorem lexN_fuel : ∀ (f g k : Nat) (l : List UInt16), l.length < f → l.length < g → lexN f k l = lexN g k l := by
  intro f
  induction f with
  | zero => intro g k l hf _; omega
  | succ f ih =>
    intro g k l hf hg
    obtain ⟨g, rfl⟩ : ∃ m, g = m + 1 := ⟨g - 1, by omega⟩
    unfold lexN
    split
    · rfl
    · split
      · rfl
      · split
        · rfl
        · rename_i h3
          have h4 := tokAt_len (Decidable.not_not.1 h3)
          rw [ih g _ (l.drop ((passF l).1 + (tokAt k l).2.2)) (by rw [List.length_drop]; omega) (by rw [List.length_drop]; omega)]
/-- tokens from a place on -/
def lexL (k : Nat) (l : List UInt16) : List Tok × Nat × Nat := lexN (l.length + 1) k l
theorem lexL_pass {k : Nat} {l : List UInt16} (h : (passF l).2.2 ≠ 0) : lexL k l = ([], k + (passF l).1, (passF l).2.2) := by
  unfold lexL; rw [lexN, if_pos h]
theorem lexL_end {k : Nat} {l : List UInt16} (h : (passF l).2.2 = 0) (h2 : l.drop (passF l).1 = []) : lexL k l = ([setAt noTok (k + (passF l).1) (passF l).2.1], 0, 0) := by
  unfold lexL; rw [lexN, if_neg (by rw [h]; simp), if_pos h2]
theorem lexL_bad {k : Nat} {l : List UInt16} (h : (passF l).2.2 = 0) (h2 : l.drop (passF l).1 ≠ []) (h3 : (tokAt k l).1 ≠ 0) : lexL k l = ([], k + (passF l).1, (tokAt k l).1) := by
  unfold lexL; rw [lexN, if_neg (by rw [h]; simp), if_neg h2, if_pos h3]
theorem lexL_more {k : Nat} {l : List UInt16} (h : (passF l).2.2 = 0) (h2 : l.drop (passF l).1 ≠ []) (h3 : (tokAt k l).1 = 0) :
    lexL k l = consT (setAt (tokAt k l).2.1 (k + (passF l).1) (passF l).2.1) (lexL (k + (passF l).1 + (tokAt k l).2.2) (l.drop ((passF l).1 + (tokAt k l).2.2))) := by
  have h4 := tokAt_len h3
  unfold lexL
  rw [lexN, if_neg (by rw [h]; simp), if_neg h2, if_neg (by rw [h3]; simp)]
  rw [lexN_fuel l.length ((l.drop ((passF l).1 + (tokAt k l).2.2)).length + 1) _ _ (by rw [List.length_drop]; omega) (by omega)]
theorem lexF_short {u : List UInt16} (h : ¬ 4096 < u.length) : lexF u = lexL 0 u := by unfold lexF lexL; rw [if_neg h]
end Go.Proofs.Ytbljbmeifmpfoaa

namespace Go.Proofs.Ytbljbmeifmpfoaa
open Go.RowKit

theorem grown_trans {a b c : World} {row : Option Nat} (h : a.grownBy b row) (k : b.grownBy c row) : a.grownBy c row :=
  ⟨k.os.trans h.os, k.tape.trans h.tape, k.output.trans h.output, Nat.le_trans h.size k.size, fun i hi hne => (k.block i (Nat.lt_of_lt_of_le hi h.size) hne).trans (h.block i hi hne)⟩
theorem grown_of_below {a b : World} (row : Option Nat) (h : Below a.heap.size a b) : a.grownBy b row := ⟨h.os, h.tape, h.output, h.size, fun i hi _ => h.block i hi⟩
theorem grown_drew (a : World) (row : Option Nat) : a.grownBy a.drew row := ⟨rfl, rfl, rfl, Nat.le_refl _, fun _ _ _ => rfl⟩
theorem grown_drewN (a : World) (row : Option Nat) (n : Nat) : a.grownBy (a.drewN n) row := ⟨rfl, rfl, rfl, Nat.le_refl _, fun _ _ _ => rfl⟩
theorem grown_set (a : World) (g j : Nat) (v : Value) : a.grownBy (a.setCell ⟨g, j, none⟩ v) (some g) :=
  ⟨rfl, rfl, rfl, by simp [World.setCell], fun i _ hne => Below.heap_setCell _ _ _ _ (fun e => hne (by rw [e]))⟩
theorem grown_alloc (a : World) (o : Obj) (row : Option Nat) : a.grownBy (a.alloc o) row := World.grownBy_alloc a o row
/-- What was there when a call began, and is there behind it. -/
theorem below_of_grown {B : Nat} {a b : World} {g : Nat} (h : a.grownBy b (some g)) (hB : B ≤ g) (hg : g ≤ a.heap.size) : Below B a b :=
  ⟨h.os, h.tape, h.output, h.size, fun i hi => h.block i (by omega) (by intro e; injection e with e; omega)⟩
theorem grown_cell {a b : World} {g : Nat} (h : a.grownBy b (some g)) {p : Addr} {v : Value} (hc : a.cell? p = some v) (hp : p.block ≠ g) : b.cell? p = some v :=
  h.cell hc (by intro e; injection e with e; exact hp e)
theorem grown_frozen {a b : World} {g : Nat} (h : a.grownBy b (some g)) {p : Addr} (hl : p.block < a.heap.size) (hp : p.block ≠ g) : b.frozen? p = a.frozen? p :=
  World.frozen?_of_block (w := a) (h.block p.block hl (by intro e; injection e with e; exact hp e))
theorem Reads.grown {w w' : World} {B size n g : Nat} {A : Option Addr} {xs : List Value} (h : Reads w B size A n xs) (hg : w.grownBy w' (some g)) (hB : B ≤ g) (hl : g ≤ w.heap.size) : Reads w' B size A n xs :=
  h.below (below_of_grown hg hB hl)
theorem own_grown {w w' : World} {base g : Nat} {e : TypeId} {size n : Nat} {v : Value} {xs : List Value} (h : w.ownsRow base e size v n xs) (hg : w.grownBy w' (some g)) (hb : g < base) : w'.ownsRow base e size v n xs :=
  h.kept hg (by
    cases hv : v.ownBlock with
    | none => exact .inl rfl
    | some k =>
      right
      intro e
      injection e with e
      have := (h.lt k hv).1
      omega)
theorem own_below {w w' : World} {base : Nat} {e : TypeId} {size n : Nat} {v : Value} {xs : List Value} (h : w.ownsRow base e size v n xs) (hb : Below w.heap.size w w') : w'.ownsRow base e size v n xs :=
  h.kept (row := none) ⟨hb.os, hb.tape, hb.output, hb.size, fun k hk _ => hb.block k hk⟩ (by cases hv : v.ownBlock <;> simp)
theorem own_base {w : World} {base base' : Nat} {e : TypeId} {size n : Nat} {v : Value} {xs : List Value} (h : w.ownsRow base e size v n xs) (hb : base' ≤ base) : w.ownsRow base' e size v n xs := by
  refine ⟨h.1, ?_⟩
  rcases h.2 with h2 | ⟨g, cap, cur, h1, h3, h4, h5⟩
  · exact Or.inl h2
  · exact Or.inr ⟨g, cap, cur, h1, Nat.le_trans hb h3, h4, h5⟩

/-- A reader in block g: its units are the slice (A, n, c), it stands at place k. -/
structure Rd (w : World) (g : Nat) (A : Option Addr) (n c k : Nat) : Prop where
  c0 : w.cell? ⟨g, 0, none⟩ = some (.slice A n c)
  c1 : w.cell? ⟨g, 1, none⟩ = some (.int .i64 (k : Int))
  f1 : w.frozen? ⟨g, 1, none⟩ = false
section
variable {w w' : World} {g n c k : Nat} {A : Option Addr}
theorem Rd.lt (h : Rd w g A n c k) : g < w.heap.size := World.block_lt_of_cell? w _ h.c0
theorem Rd.below {D : Nat} (h : Rd w g A n c k) (hb : Below D w w') (hg : g < D) : Rd w' g A n c k :=
  ⟨(hb.cell (p := ⟨g, 0, none⟩) hg).trans h.c0, (hb.cell (p := ⟨g, 1, none⟩) hg).trans h.c1, (hb.frozen (p := ⟨g, 1, none⟩) hg).trans h.f1⟩
theorem Rd.drew (h : Rd w g A n c k) : Rd w.drew g A n c k := ⟨h.c0, h.c1, h.f1⟩
theorem Rd.drewN (h : Rd w g A n c k) (m : Nat) : Rd (w.drewN m) g A n c k := ⟨h.c0, h.c1, h.f1⟩
theorem Rd.alloc (h : Rd w g A n c k) (o : Obj) : Rd (w.alloc o) g A n c k := h.below ((Below.refl _ w).alloc (Nat.le_refl _) o) h.lt
theorem Rd.set (h : Rd w g A n c k) (k' : Nat) : Rd (w.setCell ⟨g, 1, none⟩ (.int .i64 (k' : Int))) g A n c k' := by
  have h1 := h.c0
  have h2 := h.c1
  have h3 := h.f1
  exact ⟨by go_simp, by go_simp, by go_simp⟩
theorem Rd.setI (h : Rd w g A n c k) {z : Int} {k' : Nat} (hz : z = (k' : Int)) : Rd (w.setCell ⟨g, 1, none⟩ (.int .i64 z)) g A n c k' := by
  subst hz
  exact h.set k'
end
/-- A reader that a call has moved on. -/
structure Mv (w w' : World) (g : Nat) (A : Option Addr) (n c k : Nat) : Prop where
  rd : Rd w' g A n c k
  grown : w.grownBy w' (some g)
theorem Mv.refl {w : World} {g n c k : Nat} {A : Option Addr} (h : Rd w g A n c k) : Mv w w g A n c k := ⟨h, World.grownBy.refl w _⟩
theorem Mv.then {w w1 w2 : World} {g n c k k' : Nat} {A : Option Addr} (h : Mv w w1 g A n c k) (h2 : Mv w1 w2 g A n c k') : Mv w w2 g A n c k' := ⟨h2.rd, grown_trans h.grown h2.grown⟩
theorem Mv.step {w w1 : World} {g n c k : Nat} {A : Option Addr} (h : Mv w w1 g A n c k) {z : Int} {k' : Nat} (hz : z = (k' : Int)) : Mv w (w1.setCell ⟨g, 1, none⟩ (.int .i64 z)) g A n c k' :=
  ⟨h.rd.setI hz, grown_trans h.grown (grown_set w1 g 1 _)⟩
theorem Mv.below {w w1 w2 : World} {g n c k : Nat} {A : Option Addr} (h : Mv w w1 g A n c k) (hb : Below w1.heap.size w1 w2) : Mv w w2 g A n c k :=
  ⟨h.rd.below hb h.rd.lt, grown_trans h.grown (grown_of_below _ hb)⟩
theorem Mv.drewN {w w1 : World} {g n c k : Nat} {A : Option Addr} (h : Mv w w1 g A n c k) (m : Nat) : Mv w (w1.drewN m) g A n c k := ⟨h.rd.drewN m, grown_trans h.grown (grown_drewN _ _ _)⟩
theorem Mv.drew {w w1 : World} {g n c k : Nat} {A : Option Addr} (h : Mv w w1 g A n c k) : Mv w w1.drew g A n c k := ⟨h.rd.drew, grown_trans h.grown (grown_drew _ _)⟩

/-- Behind a call that moved a reader on: a slice that the call has made. -/
structure MadeM (w0 w : World) (g : Nat) (e : TypeId) (v : Value) (xs : List Value) : Prop where
  own : w.ownsRow w0.heap.size e 1 v xs.length xs
  grown : w0.grownBy w (some g)
theorem MadeM.nil {w0 w : World} {g : Nat} (h : w0.grownBy w (some g)) (e : TypeId) : MadeM w0 w g e (.slice none 0 0) [] := ⟨World.ownsRow_nil _ _ _ _, h⟩
theorem MadeM.go {w0 w w' : World} {g : Nat} {e : TypeId} {v : Value} {xs : List Value} (h : MadeM w0 w g e v xs) (hg : g < w0.heap.size) (hw : w.grownBy w' (some g)) : MadeM w0 w' g e v xs :=
  ⟨own_grown h.own hw hg, grown_trans h.grown hw⟩
theorem MadeM.cells {w0 w : World} {g : Nat} {e : TypeId} {v : Value} {xs ys : List Value} (h : MadeM w0 w g e v xs) (e1 : xs = ys) : MadeM w0 w g e v ys := e1 ▸ h
theorem MadeM.shape {w0 w : World} {g : Nat} {e : TypeId} {v : Value} {xs : List Value} (h : MadeM w0 w g e v xs) :
    ∃ A c, v = .slice A xs.length c ∧ xs.length ≤ c ∧ c ≤ maxLen ∧ Reads w w.heap.size 1 A xs.length xs := by
  obtain ⟨A, c, hv, h1, h2⟩ := own_shape h.own
  have h' := h.own
  rw [hv] at h'
  exact ⟨A, c, hv, h1, h2, Reads.of_own h'⟩
theorem MadeM.u8 {w0 w : World} {g : Nat} {e : TypeId} {v : Value} {xs : List UInt8} (h : MadeM w0 w g e v (u8s xs)) :
    ∃ A c, v = .slice A xs.length c ∧ xs.length ≤ c ∧ c ≤ maxLen ∧ Reads w w.heap.size 1 A xs.length (u8s xs) := by
  obtain ⟨A, c, hv, h1, h2, h3⟩ := h.shape
  have e : (u8s xs).length = xs.length := by simp [u8s]
  rw [e] at hv h1 h3
  exact ⟨A, c, hv, h1, h2, h3⟩
theorem MadeM.u16 {w0 w : World} {g : Nat} {e : TypeId} {v : Value} {xs : List UInt16} (h : MadeM w0 w g e v (u16s xs)) :
    ∃ A c, v = .slice A xs.length c ∧ xs.length ≤ c ∧ c ≤ maxLen ∧ Reads w w.heap.size 1 A xs.length (u16s xs) := by
  obtain ⟨A, c, hv, h1, h2, h3⟩ := h.shape
  have e : (u16s xs).length = xs.length := by simp [u16s]
  rw [e] at hv h1 h3
  exact ⟨A, c, hv, h1, h2, h3⟩

section
variable {P : Program} {w0 w : World} {g : Nat} {ops : Array Oper} {rest : List Oper} {o : Oper} {a : Act} {Q : Exit → Act → World → Prop}
/-- append of what the operation ahead has laid in a block of its own, behind a reader that moves. -/
theorem wpList_litM (hgd : o.guard = none) (s x : Operand) (t : TypeId)
    (ho : o.op = .call { callee := .builtin .append, args := #[s, x], argTypes := #[t, t] })
    (e : TypeId) (i : TypeInfo) (z : Value) (bytes : Nat) (ht : P.underlying t = some (.slice e)) (hi : P.info? e = some i) (hz : i.zero = some z)
    (hsize : i.size = 1) (hby : i.bytes = bytes) (hzs : z.cells.size = 1)
    (v : Value) (xs : List Value) (hs : a.eval s = v) (hm : MadeM w0 w g e v xs)
    (cs : List Value) (m c : Nat) (hx : a.eval x = .slice (some ⟨w.heap.size, 0, none⟩) m c) (hl : cs.length = m) (h1 : (cs.all fun u => u.oneCell') = true)
    (hsz : xs.length + m ≤ 70368744177664) (hb2 : bytes ≤ 2)
    (h : ∀ v' w', MadeM w0 w' g e v' (xs ++ cs) → w.grownBy w' v.ownBlock → wpList P ops Q rest (a.put o.dst v') w') : wpList P ops Q (o :: rest) a (w.alloc (.cells cs.toArray e)) := by
  subst hl
  refine wpList_append_own (w.alloc (.cells cs.toArray e)) hgd s x t ho w0.heap.size e i z 1 bytes ht hi hz hsize hby hzs (by omega) v xs.length xs hs (hm.own.alloc _) ⟨w.heap.size, 0, none⟩ _ c cs hx (by omega) ?_ (fun u hu => List.all_eq_true.1 h1 u hu) (by unfold maxLen; omega) ?_ (Nat.le_trans hm.grown.size (by simp)) ?_
  · intro j u hu
    rw [Addr.add_lit, World.cell?_alloc_at _ _ _ _ rfl]
    simpa using hu
  · calc (xs.length + cs.length) * bytes ≤ 70368744177664 * 2 := Nat.mul_le_mul hsz hb2
      _ ≤ 140737488355328 := by omega
  · intro v' w' h1 h2 _
    have hgr : w.grownBy w' v.ownBlock := grown_trans (grown_alloc w _ _) h2
    refine h v' w' ⟨by rw [List.length_append]; exact h1, ⟨hgr.os.trans hm.grown.os, hgr.tape.trans hm.grown.tape, hgr.output.trans hm.grown.output, Nat.le_trans hm.grown.size hgr.size, fun k hk hne => ?_⟩⟩ hgr
    rw [hgr.block k (Nat.lt_of_lt_of_le hk hm.grown.size) (fun e => by have := (hm.own.lt k e.symm).1; omega)]
    exact hm.grown.block k hk hne
end
/-- The reader behind an append onto what the call has made. -/
theorem Rd.appended {w0 w w' : World} {g gr n c k : Nat} {A : Option Addr} {e : TypeId} {v : Value} {xs : List Value} (h : Rd w gr A n c k) (hm : MadeM w0 w g e v xs) (hg : gr < w0.heap.size) (hw : w.grownBy w' v.ownBlock) : Rd w' gr A n c k := by
  have hne : some gr ≠ v.ownBlock := fun e => by have := (hm.own.lt gr e.symm).1; omega
  exact ⟨hw.cell h.c0 hne, hw.cell h.c1 hne, (World.frozen?_of_block (w := w) (hw.block gr h.lt hne)).trans h.f1⟩
end Go.Proofs.Ytbljbmeifmpfoaa
