/- Joined for a claim: BigSpec, BigTrim, BigW, LexHas, LexRun, LexTok, LexCode, LexEsc, LexEscW, LexQuo. -/
import Derived.Test.YtbljbmeifmpfoaaK01
import Derived.Test.YtbljbmeifmpfoaaK04
import Derived.Laws.OwnMore
import Derived.Test.YtbljbmeifmpfoaaK03
import Derived.Test.YtbljbmeifmpfoaaK06
import Derived.Deep.LoopGhost
import Derived.Deep.RegionLaw
import Derived.Test.YtbljbmeifmpfoaaK07
import Derived.Laws.StandIn
import Derived.Lib.Bytealg
import Derived.Deep.CutBlock
import Derived.Deep.DeepCutAuto
namespace Go.Proofs.Ytbljbmeifmpfoaa

def trimL : List Nat → List Nat
  | [] => []
  | x :: r => if trimL r = [] ∧ x = 0 then [] else x :: trimL r
theorem trimL_zero (l : List Nat) : trimL (l ++ [0]) = trimL l := by
  induction l with
  | nil => rfl
  | cons x r ih => rw [List.cons_append, trimL, trimL, ih]
theorem trimL_stop {x : Nat} (h : x ≠ 0) (l : List Nat) : trimL (l ++ [x]) = l ++ [x] := by
  induction l with
  | nil => simp [trimL, h]
  | cons y r ih => rw [List.cons_append, trimL, ih, if_neg (by simp)]
theorem trimL_take (l : List Nat) : trimL l = l.take (trimL l).length := by
  induction l with
  | nil => rfl
  | cons x r ih =>
    by_cases h : trimL r = [] ∧ x = 0
    · simp [trimL, h]
    · rw [trimL, if_neg h, List.length_cons, List.take_succ_cons, ← ih]
theorem trimL_len (l : List Nat) : (trimL l).length ≤ l.length := by
  have := congrArg List.length (trimL_take l)
  rw [List.length_take] at this
  omega
def valL : List Nat → Nat
  | [] => 0
  | x :: r => x + 4294967296 * valL r
theorem valL_app (l r : List Nat) : valL (l ++ r) = valL l + 4294967296 ^ l.length * valL r := by
  induction l with
  | nil => simp [valL]
  | cons x l ih =>
    rw [List.cons_append, valL, valL, ih, List.length_cons, Nat.pow_succ, Nat.mul_add, Nat.mul_comm (4294967296 ^ l.length) 4294967296, Nat.mul_assoc]
    omega
theorem trimL_nil {l : List Nat} : trimL l = [] ↔ valL l = 0 := by
  induction l with
  | nil => simp [trimL, valL]
  | cons x r ih =>
    rw [trimL, valL]
    by_cases h : trimL r = [] ∧ x = 0
    · rw [if_pos h]
      have := ih.1 h.1
      simp [this, h.2]
    · rw [if_neg h]
      constructor
      · intro h2; cases h2
      · intro h2
        exact absurd ⟨ih.2 (by omega), by omega⟩ h
theorem trimL_limbsN : ∀ (f : Nat) (l : List Nat), l.length ≤ f → (∀ x ∈ l, x < 4294967296) → trimL l = limbsN f (valL l) := by
  intro f
  induction f with
  | zero =>
    intro l hl _
    have : l = [] := List.eq_nil_of_length_eq_zero (by omega)
    subst this; rfl
  | succ f ih =>
    intro l hl hx
    cases l with
    | nil => rfl
    | cons x r =>
      have h1 := hx x (by simp)
      have h2 := ih r (by simp at hl; omega) (fun y hy => hx y (by simp [hy]))
      rw [limbsN, trimL]
      by_cases h : trimL r = [] ∧ x = 0
      · rw [if_pos h, if_pos (by rw [valL, trimL_nil.1 h.1, h.2])]
      · have hv : valL (x :: r) ≠ 0 := fun h3 => h (by
          rw [valL] at h3
          exact ⟨trimL_nil.2 (by omega), by omega⟩)
        rw [if_neg h, if_neg hv, valL, h2]
        congr 1
        · omega
        · congr 1; omega
theorem limbsN_le : ∀ (k f v : Nat), v < 4294967296 ^ k → (limbsN f v).length ≤ k := by
  intro k
  induction k with
  | zero =>
    intro f v hv
    have : v = 0 := by simpa using hv
    subst this
    cases f <;> simp [limbsN]
  | succ k ih =>
    intro f v hv
    cases f with
    | zero => simp [limbsN]
    | succ f =>
      rw [limbsN]
      by_cases h : v = 0
      · rw [if_pos h]; simp
      · rw [if_neg h, List.length_cons]
        have := ih f (v / 4294967296) (Nat.div_lt_of_lt_mul (by rw [Nat.pow_succ, Nat.mul_comm] at hv; exact hv))
        omega
theorem limbsN_gt : ∀ (k f v : Nat), k < f → 4294967296 ^ k ≤ v → k < (limbsN f v).length := by
  intro k
  induction k with
  | zero =>
    intro f v hf hv
    obtain ⟨f, rfl⟩ : ∃ m, f = m + 1 := ⟨f - 1, by omega⟩
    have hv1 : 1 ≤ v := hv
    rw [limbsN, if_neg (by omega)]; simp
  | succ k ih =>
    intro f v hf hv
    obtain ⟨f, rfl⟩ : ∃ m, f = m + 1 := ⟨f - 1, by omega⟩
    have h1 : 4294967296 ^ k ≤ v / 4294967296 := (Nat.le_div_iff_mul_le (by omega)).2 (by rw [← Nat.pow_succ]; exact hv)
    have h2 : 0 < 4294967296 ^ k := Nat.pow_pos (by omega)
    rw [limbsN, if_neg (by intro h; subst h; simp at h1), List.length_cons]
    have := ih f _ (by omega) h1
    omega
theorem limbsN_lt : ∀ (f v : Nat), ∀ x ∈ limbsN f v, x < 4294967296 := by
  intro f
  induction f with
  | zero => intro v x hx; simp [limbsN] at hx
  | succ f ih =>
    intro v x hx
    rw [limbsN] at hx
    split at hx
    · simp at hx
    · rcases List.mem_cons.1 hx with h | h
      · rw [h]; exact Nat.mod_lt _ (by omega)
      · exact ih _ x h
theorem limbsN_val : ∀ (f v : Nat), v < 4294967296 ^ f → valL (limbsN f v) = v := by
  intro f
  induction f with
  | zero => intro v hv; simp at hv; subst hv; rfl
  | succ f ih =>
    intro v hv
    rw [limbsN]
    by_cases h : v = 0
    · rw [if_pos h, h]; rfl
    · rw [if_neg h, valL, ih _ (Nat.div_lt_of_lt_mul (by rw [Nat.pow_succ, Nat.mul_comm] at hv; exact hv))]
      exact Nat.mod_add_div _ _
def mulGo : List Nat → Nat → List Nat × Nat
  | [], c => ([], c)
  | x :: r, c => ((c + 10 * x) % 4294967296 :: (mulGo r ((c + 10 * x) / 4294967296)).1, (mulGo r ((c + 10 * x) / 4294967296)).2)
theorem mulGo_len : ∀ (l : List Nat) (c : Nat), (mulGo l c).1.length = l.length := by
  intro l
  induction l with
  | nil => intro c; rfl
  | cons x r ih => intro c; simp [mulGo, ih]
theorem mulGo_lt : ∀ (l : List Nat) (c : Nat), ∀ x ∈ (mulGo l c).1, x < 4294967296 := by
  intro l
  induction l with
  | nil => intro c x hx; simp [mulGo] at hx
  | cons y r ih =>
    intro c x hx
    rw [mulGo] at hx
    rcases List.mem_cons.1 hx with h | h
    · rw [h]; exact Nat.mod_lt _ (by omega)
    · exact ih _ x h
theorem mulGo_val : ∀ (l : List Nat) (c : Nat), valL (mulGo l c).1 + 4294967296 ^ l.length * (mulGo l c).2 = 10 * valL l + c := by
  intro l
  induction l with
  | nil => intro c; simp [mulGo, valL]
  | cons x r ih =>
    intro c
    have h := ih ((c + 10 * x) / 4294967296)
    have h2 := Nat.mod_add_div (c + 10 * x) 4294967296
    simp only [mulGo, valL, List.length_cons]
    rw [Nat.pow_succ, Nat.mul_comm (4294967296 ^ r.length) 4294967296, Nat.mul_assoc]
    omega
theorem mulGo_carry : ∀ (l : List Nat) (c : Nat), c ≤ 9 → (∀ x ∈ l, x < 4294967296) → (mulGo l c).2 ≤ 9 := by
  intro l
  induction l with
  | nil => intro c hc _; exact hc
  | cons x r ih =>
    intro c hc hx
    have := hx x (by simp)
    exact ih _ (by omega) (fun y hy => hx y (by simp [hy]))
theorem big8_pos : big8 = 4294967296 ^ 8 := rfl
theorem limbs_le {v : Nat} (h : v < big8) : (limbs v).length ≤ 8 := limbsN_le 8 9 v h
theorem limbs_gt {v : Nat} (h : big8 ≤ v) : 8 < (limbs v).length := limbsN_gt 8 9 v (by omega) h
theorem limbs_lt (v : Nat) : ∀ x ∈ limbs v, x < 4294967296 := limbsN_lt 9 v
theorem big89 {v : Nat} (h : v < big8) : v < 4294967296 ^ 9 := Nat.lt_of_lt_of_le h (by rw [big8_pos]; exact Nat.pow_le_pow_right (by omega) (by omega))
/-- one digit more -/
theorem limbs_step {v d : Nat} (h : v < big8) (hd : d ≤ 9) : trimL ((mulGo (limbs v) d).1 ++ [(mulGo (limbs v) d).2]) = limbs (10 * v + d) := by
  have hc := mulGo_carry (limbs v) d hd (limbs_lt v)
  have hv := mulGo_val (limbs v) d
  have h1 : valL (limbs v) = v := limbsN_val 9 v (big89 h)
  rw [trimL_limbsN 9 _ (by rw [List.length_append, mulGo_len]; have := limbs_le h; simp; omega) (by
    intro x hx
    rcases List.mem_append.1 hx with h2 | h2
    · exact mulGo_lt _ _ x h2
    · simp at h2; omega)]
  rw [valL_app, mulGo_len, show valL [(mulGo (limbs v) d).2] = (mulGo (limbs v) d).2 by simp [valL], hv, h1]
  rfl
theorem limbs_trim {v : Nat} (h : v < big8) : trimL (limbs v) = limbs v := by
  rw [trimL_limbsN 9 _ (by have := limbs_le h; omega) (limbs_lt v), show valL (limbs v) = v from limbsN_val 9 v (big89 h)]
  rfl
theorem limbs_zero : limbs 0 = [] := rfl
end Go.Proofs.Ytbljbmeifmpfoaa

namespace Go.Proofs.Ytbljbmeifmpfoaa
open Go.RowKit

def u32s (l : List Nat) : List Value := l.map fun n : Nat => Value.int .u32 (n : Int)
theorem u32s_len (l : List Nat) : (u32s l).length = l.length := by simp [u32s]
theorem u32s_get {l : List Nat} {j : Nat} (h : j < l.length) : (u32s l)[j]? = some (.int .u32 (l[j] : Int)) := by
  simp [u32s, List.getElem?_eq_getElem h]
theorem u32s_take (l : List Nat) (k : Nat) : (u32s l).take k = u32s (l.take k) := by simp [u32s]
theorem u32s_app (l r : List Nat) : u32s l ++ u32s r = u32s (l ++ r) := by simp [u32s]
/-- The head of a slice that a call has made. -/
theorem own_take {w : World} {base : Nat} {e : TypeId} {A : Option Addr} {n c j : Nat} {xs : List Value} (h : w.ownsRow base e 1 (.slice A n c) n xs) (hj : j ≤ n) : w.ownsRow base e 1 (.slice A j c) j (xs.take j) := by
  refine ⟨by rw [List.length_take, h.1]; omega, ?_⟩
  rcases h.2 with ⟨h1, h2⟩ | ⟨g, cap, cur, h1, hb, hg, hn, hc, hs, ht⟩
  · left
    injection h1 with h3 h4 h5
    subst h2
    obtain rfl : j = 0 := by omega
    exact ⟨by rw [h3, h5], rfl⟩
  · right
    injection h1 with h3 h4 h5
    subst h3 h5
    refine ⟨g, c, cur, rfl, hb, hg, by omega, hc, hs, ?_⟩
    rw [← ht, List.take_take]
    congr 1
    omega
theorem Reads.spotV {w : World} {B n : Nat} {A : Option Addr} {xs : List Value} (h : Reads w B 1 A n xs) (h0 : 0 < n) :
    ∃ b off, A = some ⟨b, off, none⟩ ∧ b < B ∧ ∀ j u, xs[j]? = some u → w.cell? ⟨b, off + j, none⟩ = some u := by
  obtain ⟨ad, u, e, hb, hx, hc⟩ := h.at_ h0
  have hs : ad.spot = none := by
    cases hsp : ad.spot with
    | none => rfl
    | some s =>
      exfalso
      rw [Addr.add_zero] at hc
      simp only [World.cell?, hsp] at hc
      split at hc
      · simp at hc
      · cases hc
  obtain ⟨b, off, sp⟩ := ad
  simp only at hs
  subst hs
  refine ⟨b, off, e, hb, fun j v hv => ?_⟩
  have hj : j < n := by
    have := (List.getElem?_eq_some_iff.1 hv).1
    have h1 := h.1
    omega
  obtain ⟨ad', u', e', _, hx', h1⟩ := h.at_ hj
  rw [e] at e'
  injection e' with e'
  subst e'
  rw [Addr.add_lit] at h1
  rw [h1, ← hx', hv]

set_option maxHeartbeats 2000000 in
set_option maxRecDepth 1000000 in
theorem btrim_is {A : Option Addr} {c B n m : Nat} {xs : List Nat} {w : World} (hn : xs.length = n) (ha : Reads w B 1 A n (u32s xs)) (hl : n ≤ 4096) (hc : n ≤ c) (hc2 : c ≤ maxLen) (hm : (trimL xs).length = m) :
    Calls Try.prog 80 #[.slice A n c] w fun e w' => e = .returned (.slice A m c) ∧ w = w' := by
  have HA := hide ha
  have HM := hide hm
  have HN := hide hn
  unfold maxLen at hc2
  clear ha hm hn
  go_enter Try.func80, Try.ntmps80
  go_wp2
  go_loop [0] (fun v => ∃ j : Nat, v = .slice A j c ∧ j ≤ n ∧ Hid (trimL (xs.take j) = trimL xs)) (fun v => match v with | .slice _ j _ => j | _ => 0)
  case atStart => exact ⟨n, rfl, Nat.le_refl _, hide (by rw [← HN.out, List.take_length])⟩
  case round =>
    obtain ⟨j, rfl, hj, hT⟩ := hrel
    cases j with
    | zero =>
      have hz := hide (show m = 0 by
        have := hT.out
        rw [List.take_zero] at this
        rw [← HM.out, ← this]; rfl)
      go_wp2
      go_ret
      obtain rfl := hz.out
      exact ⟨rfl, rfl⟩
    | succ i =>
      have hx := HN.out
      obtain ⟨b, off, rfl, hbB, hcell⟩ := HA.out.spotV (by omega)
      have hi : i < xs.length := by omega
      have hca := hcell i _ (u32s_get hi)
      have hsn := hide (show xs.take (i + 1) = xs.take i ++ [xs[i]] from List.take_succ_eq_append_getElem hi)
      obtain ⟨x, hxx⟩ : ∃ x, xs[i] = x := ⟨_, rfl⟩
      rw [hxx] at hca hsn
      clear hcell hxx hx
      by_cases h0 : x = 0
      · have e1 : ((x : Int) == 0) = true := by rw [h0]; rfl
        have hz := hide (show trimL (xs.take i) = trimL xs by rw [← hT.out, hsn.out, h0, trimL_zero])
        clear h0
        go_wp2
        go_round
        case rel => exact ⟨i, rfl, by omega, hz.out⟩
        case measure => simp
      · have e1 : ((x : Int) == 0) = false := beq_eq_false_iff_ne.2 (by omega)
        have hz := hide (show m = i + 1 by
          rw [← HM.out, ← hT.out, hsn.out, trimL_stop h0, List.length_append, List.length_take]
          simp; omega)
        clear h0
        go_wp2
        go_ret
        obtain rfl := hz.out
        exact ⟨rfl, rfl⟩
end Go.Proofs.Ytbljbmeifmpfoaa

namespace Go.Proofs.Ytbljbmeifmpfoaa
open Go.RowKit

def madeV (m : Nat) (A : Option Addr) (c : Nat) : Value := if m = 0 then .slice none 0 0 else .slice A m c
theorem ret_v {a b : Value} (h : a = b) : Ending.returned a = .returned b := by rw [h]
set_option maxHeartbeats 2000000 in
set_option maxRecDepth 1000000 in
theorem bmade_is {A : Option Addr} {c B n m : Nat} {xs : List Nat} {w : World} (hn : xs.length = n) (ha : Reads w B 1 A n (u32s xs)) (hB : B ≤ w.heap.size) (hl : n ≤ 4096) (hc : n ≤ c) (hc2 : c ≤ maxLen) (hm : (trimL xs).length = m) :
    Calls Try.prog 81 #[.slice A n c, .bool false] w fun e w' => e = .returned (.agg #[.bool false, madeV m A c]) ∧ Below w.heap.size w w' := by
  have HA := hide (ha.alloc hB (.cells #[.bool false, .slice none 0 0] 38))
  have HM := hide hm
  have HN := hide hn
  clear ha hm hn
  by_cases h0 : m = 0
  · have HI := hide (show madeV m A c = .slice none 0 0 from if_pos h0)
    have e1 : ((m : Int) == 0) = true := by rw [h0]; rfl
    clear h0
    go_enter Try.func81, Try.ntmps81
    go_wp2_with (go_at_call 80; refine (btrim_is HN.out HA.out hl hc hc2 HM.out).mono ?_; rintro e w' ⟨rfl, rfl⟩)
    rw [HI.out]
    exact bodyPost_ret (v := .agg #[.bool false, .slice none 0 0]) (by simp [results, Try.results81, go_sem]) rfl ⟨rfl, (Below.refl _ _).alloc (Nat.le_refl _) _⟩
  · have HI := hide (show madeV m A c = .slice A m c from if_neg h0)
    have e1 : ((m : Int) == 0) = false := beq_eq_false_iff_ne.2 (by omega)
    clear h0
    go_enter Try.func81, Try.ntmps81
    go_wp2_with (go_at_call 80; refine (btrim_is HN.out HA.out hl hc hc2 HM.out).mono ?_; rintro e w' ⟨rfl, rfl⟩)
    rw [HI.out]
    exact bodyPost_ret (v := .agg #[.bool false, .slice A m c]) (by simp [results, Try.results81, go_sem]) rfl ⟨rfl, (Below.refl _ _).alloc (Nat.le_refl _) _⟩

/-- digits as bytes -/
theorem asc_at {s : ByteArray} {l : List UInt16} (h : s.data.toList = asc l) (hd : ∀ x ∈ l, isDigit x = true) : s.size = l.length ∧ ∀ i (hi : i < s.size) (hj : i < l.length), s[i].toNat = l[i].toNat ∧ 48 ≤ s[i].toNat ∧ s[i].toNat ≤ 57 := by
  have h1 : s.size = l.length := by
    have := congrArg List.length h
    simpa [asc] using this
  refine ⟨h1, fun i hi hj => ?_⟩
  have h2 : s.data.toList[i]? = (asc l)[i]? := by rw [h]
  have h3 : s[i] = l[i].toUInt8 := by
    have e1 : s.data.toList[i]? = some s[i] := by
      rw [List.getElem?_eq_getElem (by simpa using hi)]; rfl
    have e2 : (asc l)[i]? = some l[i].toUInt8 := by simp [asc, List.getElem?_eq_getElem hj]
    rw [e1, e2] at h2
    exact Option.some.inj h2
  have h4 := hd l[i] (List.getElem_mem hj)
  simp only [isDigit, Bool.and_eq_true, decide_eq_true_eq] at h4
  have h5 : l[i].toUInt8.toNat = l[i].toNat % 256 := rfl
  rw [h3, h5]
  omega
set_option maxHeartbeats 2000000 in
set_option maxRecDepth 100000 in
theorem bdigits_is {s : ByteArray} {l : List UInt16} (h : s.data.toList = asc l) (hd : ∀ x ∈ l, isDigit x = true) (h0 : 0 < l.length) (hz : l[0] ≠ 48 ∨ l = [48]) (hl : l.length ≤ 4096) (w : World) :
    Calls Try.prog 79 #[.string s] w fun e w' => e = .returned (.bool true) ∧ w = w' := by
  obtain ⟨hs, hget⟩ := asc_at h hd
  have HG := hide (show ∀ i (hi : i < s.size), 48 ≤ s[i].toNat ∧ s[i].toNat ≤ 57 from fun i hi => (hget i hi (by omega)).2)
  have hs1 : s.size ≤ 4096 := by omega
  have hs0 : 0 < s.size := by omega
  have hem : s.toList ≠ [] := by
    rw [ByteArray.toList_eq, h]
    intro h2
    have := congrArg List.length h2
    rw [asc, List.length_map, List.length_nil] at this
    omega
  have e1 : (s.toList == []) = false := beq_eq_false_iff_ne.2 hem
  have e2 : s.toList.isEmpty = false := by
    cases hh : s.toList with
    | nil => exact absurd hh hem
    | cons => rfl
  have hcase : ((s[0].toNat : Int) != 48) = true ∨ s = ⟨#[48]⟩ := by
    rcases hz with hz | hz
    · left
      rw [bne_iff_ne]
      intro h3
      have := (hget 0 hs0 h0).1
      exact hz (UInt16.toNat_inj.1 (by show l[0].toNat = 48; omega))
    · right
      have h4 : s = ⟨#[48]⟩ := by
        cases s with
        | mk d =>
          simp only at h
          rw [hz] at h
          have : d = #[48] := by
            apply Array.toList_inj.1
            rw [h]; rfl
          rw [this]
      exact h4
  clear hget h hz hem
  rcases hcase with h3 | rfl
  · go_enter Try.func79, Try.ntmps79
    go_wp2
    go_loop [6] (fun i => ∃ k : Nat, k ≤ s.size ∧ i = .int .i64 k) (fun i => s.size - (intOf i).toNat)
    case atStart => exact ⟨0, Nat.zero_le _, rfl⟩
    case round =>
      obtain ⟨k, hk, rfl⟩ := hrel
      by_cases hlt : k < s.size
      · have hb := HG.out k hlt
        go_wp2
        go_round
        case rel => exact ⟨k + 1, by omega, by go_num⟩
        case measure => simp [intOf]; omega
      · go_wp2
        go_ret
        exact ⟨rfl, rfl⟩
  · clear e1 e2 HG hs hs1 hs0
    go_enter Try.func79, Try.ntmps79
    go_wp2
    go_loop [6] (fun i => ∃ k : Nat, k ≤ 1 ∧ i = .int .i64 k) (fun i => 1 - (intOf i).toNat)
    case atStart => exact ⟨0, Nat.zero_le _, rfl⟩
    case round =>
      obtain ⟨k, hk, rfl⟩ := hrel
      by_cases hlt : k = 0
      · subst hlt
        go_wp2
        go_round
        case rel => exact ⟨1, by omega, rfl⟩
        case measure => simp [intOf]
      · obtain rfl : k = 1 := by omega
        go_wp2
        go_ret
        exact ⟨rfl, rfl⟩
end Go.Proofs.Ytbljbmeifmpfoaa

namespace Go.Proofs.Ytbljbmeifmpfoaa
open Go.RowKit

theorem starts_get {s : List UInt8} {l : List UInt16} : starts s l = true ↔ ∀ i (h : i < s.length), l[i]? = some s[i].toUInt16 := by
  unfold starts
  rw [List.isPrefixOf_iff_prefix, List.prefix_iff_getElem?]
  simp
theorem starts_no {s : List UInt8} {l : List UInt16} {i : Nat} (h : i < s.length) (h2 : l[i]? ≠ some s[i].toUInt16) : starts s l = false := by
  cases hs : starts s l with
  | false => rfl
  | true => exact absurd (starts_get.1 hs i h) h2

set_option maxHeartbeats 2000000 in
set_option maxRecDepth 100000 in
theorem lhas_any {A : Option Addr} {c g B k n : Nat} {u : List UInt16} (s : ByteArray) {w : World} (hr : Rd w g A n c k) (hn : u.length = n) (ha : Reads w B 1 A n (u16s u)) (hk : k ≤ n) (hl : n ≤ 4096) (hs : s.size ≤ 4096) {q : Bool} (hq : starts s.data.toList (u.drop k) = q) :
    Calls Try.prog 20 #[.pointer (some ⟨g, 0, none⟩), .string s] w fun e w' => e = .returned (.bool q) ∧ ∃ m, w' = w.drewN m := by
  subst hn
  have HQ := hide hq
  have HA := hide ha
  have HR := hide hr
  clear hq ha hr
  go_enter Try.func20, Try.ntmps20
  go_wp2
  go_loopw [8] (fun i wr => ∃ j : Nat, j ≤ s.size ∧ i = .int .i64 (j : Nat) ∧ (∃ m, wr = w.drewN m) ∧ Hid (∀ i (h : i < s.data.toList.length), i < j → (u.drop k)[i]? = some s.data.toList[i].toUInt16)) (fun i _ => s.size - (intOf i).toNat)
  case atStart => exact ⟨0, Nat.zero_le _, rfl, ⟨0, rfl⟩, fun i _ h => absurd h (by omega)⟩
  case round =>
    obtain ⟨j, hj, rfl, ⟨m, hw⟩, hpre⟩ := hrel
    have hc0 : wr.cell? ⟨g, 0, none⟩ = some (.slice A u.length c) := by rw [hw]; exact (HR.out.drewN m).c0
    have hc1 : wr.cell? ⟨g, 1, none⟩ = some (.int .i64 (k : Int)) := by rw [hw]; exact (HR.out.drewN m).c1
    have har : Hid (Reads wr B 1 A u.length (u16s u)) := by rw [hw]; exact HA.out.drewN m
    have HW := hide hw
    clear hw
    by_cases hlt : j < s.size
    · have hjl : j < s.data.toList.length := by simpa using hlt
      by_cases hin : k + j < u.length
      · have hin2 : ¬ (u.length : Int) ≤ (k : Int) + (j : Int) := by omega
        have hin3 : (k : Int) + (j : Int) < (u.length : Int) := by omega
        have hin4 : decide ((u.length : Int) ≤ (k : Int) + (j : Int)) = false := decide_eq_false hin2
        obtain ⟨b, off, rfl, _, hcell⟩ := har.out.spotL (by omega)
        have hca := hcell (k + j) hin
        have hx := u[k + j].toNat_lt
        have hy := s[j].toNat_lt
        obtain ⟨x, hxx⟩ : ∃ x, u[k + j].toNat = x := ⟨_, rfl⟩
        rw [hxx] at hca hx
        by_cases he : x = s[j].toNat
        · have e1 : ((x : Int) != (s[j].toNat : Int)) = false := by rw [he]; simp
          have HN := hide (show (u.drop k)[j]? = some s.data.toList[j].toUInt16 by
            rw [List.getElem?_drop, List.getElem?_eq_getElem hin]
            congr 1
            refine UInt16.toNat_inj.1 ?_
            rw [hxx, he]
            simp
            rfl)
          clear hcell he hxx hin
          go_wp2_with fail
          go_quiet (fail)
          go_wp2
          go_roundw
          case rel =>
            refine ⟨j + 1, by omega, by go_num, ⟨_, by rw [HW.out]; exact World.drewN_drewN _ _ _⟩, ?_⟩
            intro i h hi
            by_cases e : i = j
            · subst e; exact HN.out
            · exact hpre.out i h (by omega)
          case measure => simp [intOf]; omega
        · have e1 : ((x : Int) != (s[j].toNat : Int)) = true := by rw [bne_iff_ne]; omega
          have HN := hide (show false = q by
            rw [← HQ.out, starts_no hjl]
            rw [List.getElem?_drop, List.getElem?_eq_getElem hin]
            intro h
            injection h with h
            apply he
            rw [← hxx, h]
            simp
            rfl)
          clear hcell he hxx hin
          go_wp2_with fail
          go_quiet (fail)
          go_wp2
          go_ret
          exact ⟨ret_bool HN.out, _, by rw [HW.out]; exact World.drewN_drewN _ _ _⟩
      · have hin2 : (u.length : Int) ≤ (k : Int) + (j : Int) := by omega
        have HN := hide (show false = q by
          rw [← HQ.out, starts_no hjl]
          rw [List.getElem?_eq_none (by rw [List.length_drop]; omega)]
          exact fun h => by cases h)
        clear hin
        go_wp2_with fail
        go_quiet (fail)
        go_wp2
        go_ret
        exact ⟨ret_bool HN.out, _, by rw [HW.out]; exact World.drewN_drewN _ _ _⟩
    · have HN := hide (show true = q by
        rw [← HQ.out, starts_get.2]
        intro i h
        exact hpre.out i h (by have : i < s.size := by simpa using h
                               omega))
      go_wp2
      go_ret
      exact ⟨ret_bool HN.out, m, HW.out⟩
end Go.Proofs.Ytbljbmeifmpfoaa

namespace Go.Proofs.Ytbljbmeifmpfoaa
open Go.RowKit

section
variable {P : Program} {w0 w : World} {g : Nat} {ops : Array Oper} {o : Oper} {a : Act} {K : Act → World → Prop} {Q : Exit → Act → World → Prop} {E : Prop}
/-- append of what the operation ahead has laid, at a step of a region that draws, behind a reader that moves. -/
theorem step_litM (hgd : o.guard = none) (s x : Operand) (t : TypeId)
    (ho : o.op = .call { callee := .builtin .append, args := #[s, x], argTypes := #[t, t] })
    (e : TypeId) (i : TypeInfo) (z : Value) (bytes : Nat) (ht : P.underlying t = some (.slice e)) (hi : P.info? e = some i) (hz : i.zero = some z)
    (hsize : i.size = 1) (hby : i.bytes = bytes) (hzs : z.cells.size = 1)
    (v : Value) (xs : List Value) (hs : a.eval s = v) (hm : MadeM w0 w g e v xs)
    (cs : List Value) (m c : Nat) (hx : a.eval x = .slice (some ⟨w.heap.size, 0, none⟩) m c) (hl : cs.length = m) (h1 : (cs.all fun u => u.oneCell') = true)
    (hm0 : 0 < m) (hsz : xs.length + m ≤ 70368744177664) (hb2 : bytes ≤ 2)
    (h : ∀ v' w', MadeM w0 w' g e v' (xs ++ cs) → w.grownBy w' v.ownBlock → K (a.put o.dst v') w') :
    if Region.wanted o (yielded ops a.tmps) = true then Oper.wp P o a (w.alloc (.cells cs.toArray e)) K Q else E := by
  subst hl
  refine step_append_lies (w.alloc (.cells cs.toArray e)) hgd s x t ho w0.heap.size e i z 1 bytes ht hi hz hsize hby hzs (by omega) v xs.length xs hs (hm.own.alloc _) ⟨w.heap.size, 0, none⟩ _ c cs hx (by omega) ?_ (fun u hu => List.all_eq_true.1 h1 u hu) hm0 (by unfold maxLen; omega) ?_ (Nat.le_trans hm.grown.size (by simp)) _ rfl ?_
  · intro j u hu
    rw [Addr.add_lit, World.cell?_alloc_at _ _ _ _ rfl]
    simpa using hu
  · calc (xs.length + cs.length) * bytes ≤ 70368744177664 * 2 := Nat.mul_le_mul hsz hb2
      _ ≤ 140737488355328 := by omega
  · intro gg cap w' h1 h2 _ _
    have hgr : w.grownBy w' v.ownBlock := grown_trans (grown_alloc w _ _) h2
    refine h _ w' ⟨by rw [List.length_append]; exact h1, ⟨hgr.os.trans hm.grown.os, hgr.tape.trans hm.grown.tape, hgr.output.trans hm.grown.output, Nat.le_trans hm.grown.size hgr.size, fun k hk hne => ?_⟩⟩ hgr
    rw [hgr.block k (Nat.lt_of_lt_of_le hk hm.grown.size) (fun e => by have := (hm.own.lt k e.symm).1; omega)]
    exact hm.grown.block k hk hne
end

/-- how far the loop is -/
def AtRun (q : UInt16 → Bool) (u : List UInt16) (k p : Nat) (bs : List UInt8) : Prop := ∃ i, p = k + i ∧ bs = asc ((u.drop k).take i) ∧ (u.drop k).takeWhile q = (u.drop k).take i ++ (u.drop p).takeWhile q ∧ bs.length = i
theorem AtRun.start (q : UInt16 → Bool) (u : List UInt16) (k : Nat) : AtRun q u k k [] := ⟨0, rfl, rfl, by simp, rfl⟩
theorem AtRun.step {q : UInt16 → Bool} {u : List UInt16} {k p : Nat} {bs : List UInt8} (h : AtRun q u k p bs) (hp : p < u.length) (h1 : q u[p] = true) : AtRun q u k (p + 1) (bs ++ [u[p].toUInt8]) := by
  obtain ⟨i, hi, hb, he, hl⟩ := h
  have hik : i < (u.drop k).length := by rw [List.length_drop]; omega
  have hx : (u.drop k)[i] = u[p] := by rw [List.getElem_drop]; congr 1; omega
  have ht : (u.drop k).take (i + 1) = (u.drop k).take i ++ [u[p]] := by rw [List.take_succ_eq_append_getElem hik, hx]
  refine ⟨i + 1, by omega, ?_, ?_, by simp [hl]⟩
  · rw [ht, hb]; simp [asc]
  · rw [he, ht, List.drop_eq_getElem_cons hp, List.takeWhile_cons_of_pos h1, List.append_assoc]; rfl
theorem AtRun.stop {q : UInt16 → Bool} {u : List UInt16} {k p : Nat} {bs : List UInt8} (h : AtRun q u k p bs) (h1 : isAt 0 q (u.drop p) = false) : bs = asc ((u.drop k).takeWhile q) ∧ p = k + ((u.drop k).takeWhile q).length := by
  obtain ⟨i, hi, hb, he, hl⟩ := h
  have h0 : (u.drop p).takeWhile q = [] := by
    cases hd : u.drop p with
    | nil => rfl
    | cons x r =>
      rw [hd] at h1
      rw [List.takeWhile_cons_of_neg]
      intro h2
      have : isAt 0 q (x :: r) = q x := rfl
      rw [this, h2] at h1
      cases h1
  rw [h0, List.append_nil] at he
  have hl2 := congrArg List.length hb
  rw [he]
  refine ⟨hb, ?_⟩
  simp only [asc, List.length_map] at hl2
  omega
theorem asc_cell (x : UInt16) : u8v x.toUInt8 = .int .u8 (IntKind.u8.wrap (x.toNat : Int)) := by
  unfold u8v
  rw [IntKind.wrap_u8]
  congr 1
theorem isAt0 {u : List UInt16} {p : Nat} {q : UInt16 → Bool} (h : p < u.length) : isAt 0 q (u.drop p) = q u[p] := by
  have := isAt_in (u := u) (k := p) (j := 0) (p := q) (by omega)
  simpa using this
theorem isAt0_out {u : List UInt16} {p : Nat} {q : UInt16 → Bool} (h : ¬ p < u.length) : isAt 0 q (u.drop p) = false := isAt_out (by omega)

set_option maxHeartbeats 2000000 in
set_option maxRecDepth 100000 in
theorem lrun_digit {A : Option Addr} {c g B k n : Nat} {u : List UInt16} {w : World} (hr : Rd w g A n c k) (hn : u.length = n) (ha : Reads w B 1 A n (u16s u)) (hB : B ≤ g) (hk : k ≤ n) (hl : n ≤ 4096) {l : List UInt16} (hq : (u.drop k).takeWhile isDigit = l) :
    Calls Try.prog 40 #[.pointer (some ⟨g, 0, none⟩), .func (.func 24) #[] #[]] w fun e w' => e = .returned (.string ⟨(asc l).toArray⟩) ∧ Mv w w' g A n c (k + l.length) := by
  subst hn
  obtain ⟨i0, hi0, hz0, hz1, hz2⟩ := info_parts Try.info_u8
  have HQ := hide hq
  have HA := hide ha
  have hg := hr.lt
  have hM0 := hide (Mv.refl hr)
  clear hq ha hr
  go_enter Try.func40, Try.ntmps40
  go_wp2
  go_loopg [5] (u.length - k) (fun r v wr => ∃ p bs, p + r = u.length ∧ Hid (Mv w wr g A u.length c p) ∧ Hid (AtRun isDigit u k p bs) ∧ MadeM w wr g 5 v (u8s bs))
  case atStart => exact ⟨k, [], by omega, hM0, AtRun.start _ _ _, MadeM.nil (World.grownBy.refl w _) _⟩
  case round =>
    obtain ⟨p, bs, hpr, hM, hat, hm⟩ := hrel
    have har := hide (HA.out.grown hM.out.grown hB (Nat.le_of_lt hg))
    have hbl : bs.length ≤ p := by obtain ⟨i, hi, _, _, hl⟩ := hat.out; omega
    by_cases hlt : p < u.length
    · have hlt2 : (p : Int) < (u.length : Int) := by omega
      cases hqx : isDigit u[p] with
      | true =>
        have HI := hide (show isAt 0 isDigit (u.drop p) = true by rw [isAt0 hlt]; exact hqx)
        have hsp := hide (hat.out.step hlt hqx)
        go_wp2_with fail
        refine (lis_digit (j := 0) hM.out.rd rfl har.out (by omega) hl (by omega) HI.out).mono ?_
        rintro e1 w1 ⟨rfl, m1, hw1⟩
        subst hw1
        have hM1 := hide (hM.out.drewN m1)
        have hc0 := hM.out.rd.c0
        have hc1 := hM.out.rd.c1
        obtain ⟨blk, off, rfl, _, hcell⟩ := har.out.spotL (by omega)
        have hca := hcell p hlt
        have hx := u[p].toNat_lt
        have hm0 := hide hm
        have HC := hide (show u8s [u[p].toUInt8] = [.int .u8 (IntKind.u8.wrap (u[p].toNat : Int))] by rw [u8s, List.map_cons, asc_cell]; rfl)
        obtain ⟨x, hxx⟩ : ∃ x, u[p].toNat = x := ⟨_, rfl⟩
        rw [hxx] at hca hx
        rw [hxx] at HC
        clear hcell hxx hm
        go_wp2_with fail
        go_region_law (first | (refine step_litM rfl _ _ 80 rfl 5 i0 _ 1 Try.underlying80 hi0 hz0 hz1 hz2 rfl _ _ rfl (hm0.out.go hg (grown_drewN wr (some g) (m1 + 1))) [.int .u8 (IntKind.u8.wrap (x : Int))] 1 1 rfl rfl rfl (by omega) (by rw [u8s_len]; omega) (by omega) ?_; intro v' w' hm' hgr))
        all_goals have hrd := hide (Rd.appended (hM.out.rd.drewN (m1 + 1)) (hm0.out.go hg (grown_drewN wr (some g) (m1 + 1))) hg hgr)
        all_goals have hc2 := hrd.out.c1
        all_goals have hf2 := hrd.out.f1
        all_goals go_wp2
        all_goals go_roundg (gk - 1)
        all_goals first
          | omega
          | exact ⟨p + 1, _, by omega, ⟨hrd.out.setI (by omega), grown_trans hm'.grown (grown_set w' g 1 _)⟩, hsp, (hm'.go hg (grown_set w' g 1 _)).cells (by rw [← HC.out]; simp [u8s])⟩
      | false =>
        have HI := hide (show isAt 0 isDigit (u.drop p) = false by rw [isAt0 hlt]; exact hqx)
        have hst := hide (hat.out.stop HI.out)
        go_wp2_with fail
        refine (lis_digit (j := 0) hM.out.rd rfl har.out (by omega) hl (by omega) HI.out).mono ?_
        rintro e1 w1 ⟨rfl, m1, hw1⟩
        subst hw1
        obtain ⟨A', c', rfl, _, _, hr8⟩ := (hm.go hg (grown_drewN wr (some g) m1)).u8
        have hstr := run_str (c := c') hr8
        go_wp2
        go_ret
        obtain ⟨z1, z2⟩ := hst.out
        rw [HQ.out] at z1 z2
        exact ⟨by rw [z1]; rfl, by rw [← z2]; exact hM.out.drewN m1⟩
    · have HI := hide (show isAt 0 isDigit (u.drop p) = false from isAt0_out hlt)
      have hst := hide (hat.out.stop HI.out)
      go_wp2_with fail
      refine (lis_digit (j := 0) hM.out.rd rfl har.out (by omega) hl (by omega) HI.out).mono ?_
      rintro e1 w1 ⟨rfl, m1, hw1⟩
      subst hw1
      obtain ⟨A', c', rfl, _, _, hr8⟩ := (hm.go hg (grown_drewN wr (some g) m1)).u8
      have hstr := run_str (c := c') hr8
      go_wp2
      go_ret
      obtain ⟨z1, z2⟩ := hst.out
      rw [HQ.out] at z1 z2
      exact ⟨by rw [z1]; rfl, by rw [← z2]; exact hM.out.drewN m1⟩
set_option maxHeartbeats 2000000 in
set_option maxRecDepth 100000 in
theorem lrun_run {A : Option Addr} {c g B k n : Nat} {u : List UInt16} {w : World} (hr : Rd w g A n c k) (hn : u.length = n) (ha : Reads w B 1 A n (u16s u)) (hB : B ≤ g) (hk : k ≤ n) (hl : n ≤ 4096) {l : List UInt16} (hq : (u.drop k).takeWhile isRun = l) :
    Calls Try.prog 40 #[.pointer (some ⟨g, 0, none⟩), .func (.func 41) #[] #[]] w fun e w' => e = .returned (.string ⟨(asc l).toArray⟩) ∧ Mv w w' g A n c (k + l.length) := by
  subst hn
  obtain ⟨i0, hi0, hz0, hz1, hz2⟩ := info_parts Try.info_u8
  have HQ := hide hq
  have HA := hide ha
  have hg := hr.lt
  have hM0 := hide (Mv.refl hr)
  clear hq ha hr
  go_enter Try.func40, Try.ntmps40
  go_wp2
  go_loopg [5] (u.length - k) (fun r v wr => ∃ p bs, p + r = u.length ∧ Hid (Mv w wr g A u.length c p) ∧ Hid (AtRun isRun u k p bs) ∧ MadeM w wr g 5 v (u8s bs))
  case atStart => exact ⟨k, [], by omega, hM0, AtRun.start _ _ _, MadeM.nil (World.grownBy.refl w _) _⟩
  case round =>
    obtain ⟨p, bs, hpr, hM, hat, hm⟩ := hrel
    have har := hide (HA.out.grown hM.out.grown hB (Nat.le_of_lt hg))
    have hbl : bs.length ≤ p := by obtain ⟨i, hi, _, _, hl⟩ := hat.out; omega
    by_cases hlt : p < u.length
    · have hlt2 : (p : Int) < (u.length : Int) := by omega
      cases hqx : isRun u[p] with
      | true =>
        have HI := hide (show isAt 0 isRun (u.drop p) = true by rw [isAt0 hlt]; exact hqx)
        have hsp := hide (hat.out.step hlt hqx)
        go_wp2_with fail
        refine (lis_run (j := 0) hM.out.rd rfl har.out (by omega) hl (by omega) HI.out).mono ?_
        rintro e1 w1 ⟨rfl, m1, hw1⟩
        subst hw1
        have hM1 := hide (hM.out.drewN m1)
        have hc0 := hM.out.rd.c0
        have hc1 := hM.out.rd.c1
        obtain ⟨blk, off, rfl, _, hcell⟩ := har.out.spotL (by omega)
        have hca := hcell p hlt
        have hx := u[p].toNat_lt
        have hm0 := hide hm
        have HC := hide (show u8s [u[p].toUInt8] = [.int .u8 (IntKind.u8.wrap (u[p].toNat : Int))] by rw [u8s, List.map_cons, asc_cell]; rfl)
        obtain ⟨x, hxx⟩ : ∃ x, u[p].toNat = x := ⟨_, rfl⟩
        rw [hxx] at hca hx
        rw [hxx] at HC
        clear hcell hxx hm
        go_wp2_with fail
        go_region_law (first | (refine step_litM rfl _ _ 80 rfl 5 i0 _ 1 Try.underlying80 hi0 hz0 hz1 hz2 rfl _ _ rfl (hm0.out.go hg (grown_drewN wr (some g) (m1 + 1))) [.int .u8 (IntKind.u8.wrap (x : Int))] 1 1 rfl rfl rfl (by omega) (by rw [u8s_len]; omega) (by omega) ?_; intro v' w' hm' hgr))
        all_goals have hrd := hide (Rd.appended (hM.out.rd.drewN (m1 + 1)) (hm0.out.go hg (grown_drewN wr (some g) (m1 + 1))) hg hgr)
        all_goals have hc2 := hrd.out.c1
        all_goals have hf2 := hrd.out.f1
        all_goals go_wp2
        all_goals go_roundg (gk - 1)
        all_goals first
          | omega
          | exact ⟨p + 1, _, by omega, ⟨hrd.out.setI (by omega), grown_trans hm'.grown (grown_set w' g 1 _)⟩, hsp, (hm'.go hg (grown_set w' g 1 _)).cells (by rw [← HC.out]; simp [u8s])⟩
      | false =>
        have HI := hide (show isAt 0 isRun (u.drop p) = false by rw [isAt0 hlt]; exact hqx)
        have hst := hide (hat.out.stop HI.out)
        go_wp2_with fail
        refine (lis_run (j := 0) hM.out.rd rfl har.out (by omega) hl (by omega) HI.out).mono ?_
        rintro e1 w1 ⟨rfl, m1, hw1⟩
        subst hw1
        obtain ⟨A', c', rfl, _, _, hr8⟩ := (hm.go hg (grown_drewN wr (some g) m1)).u8
        have hstr := run_str (c := c') hr8
        go_wp2
        go_ret
        obtain ⟨z1, z2⟩ := hst.out
        rw [HQ.out] at z1 z2
        exact ⟨by rw [z1]; rfl, by rw [← z2]; exact hM.out.drewN m1⟩
    · have HI := hide (show isAt 0 isRun (u.drop p) = false from isAt0_out hlt)
      have hst := hide (hat.out.stop HI.out)
      go_wp2_with fail
      refine (lis_run (j := 0) hM.out.rd rfl har.out (by omega) hl (by omega) HI.out).mono ?_
      rintro e1 w1 ⟨rfl, m1, hw1⟩
      subst hw1
      obtain ⟨A', c', rfl, _, _, hr8⟩ := (hm.go hg (grown_drewN wr (some g) m1)).u8
      have hstr := run_str (c := c') hr8
      go_wp2
      go_ret
      obtain ⟨z1, z2⟩ := hst.out
      rw [HQ.out] at z1 z2
      exact ⟨by rw [z1]; rfl, by rw [← z2]; exact hM.out.drewN m1⟩
end Go.Proofs.Ytbljbmeifmpfoaa

namespace Go.Proofs.Ytbljbmeifmpfoaa
open Go.RowKit

/-- A block whose cells are these, none frozen. -/
def Blk (w : World) (R : Nat) (cs : List Value) : Prop := R < w.heap.size ∧ ∀ j (h : j < cs.length), w.cell? ⟨R, j, none⟩ = some cs[j] ∧ w.frozen? ⟨R, j, none⟩ = false
def zero9 : List Value := [.int .i64 0, .string ⟨#[]⟩, .slice none 0 0, .int .i64 0, .int .i64 0, .bool false, .slice none 0 0, .int .i64 0, .bool false]
def noV : Value := .agg #[.int .i64 0, .string ⟨#[]⟩, .slice none 0 0, .int .i64 0, .int .i64 0, .bool false, .slice none 0 0, .int .i64 0, .bool false]
theorem Blk.new (w : World) (cs : List Value) (T : TypeId) : Blk (w.alloc (.cells cs.toArray T)) w.heap.size cs := by
  refine ⟨by simp, fun j h => ⟨?_, ?_⟩⟩
  · rw [World.cell?_alloc_at _ _ _ _ rfl]
    simp [List.getElem?_eq_getElem h]
  · exact World.frozen?_alloc_at _ _ _ _ rfl
theorem Blk.grown {w w' : World} {R g : Nat} {cs : List Value} (h : Blk w R cs) (hg : w.grownBy w' (some g)) (hne : R ≠ g) : Blk w' R cs :=
  ⟨Nat.lt_of_lt_of_le h.1 hg.size, fun j hj => ⟨grown_cell hg (h.2 j hj).1 hne, (grown_frozen (p := ⟨R, j, none⟩) hg h.1 hne).trans (h.2 j hj).2⟩⟩
theorem Blk.below {w w' : World} {R D : Nat} {cs : List Value} (h : Blk w R cs) (hb : Below D w w') (hR : R < D) : Blk w' R cs :=
  ⟨Nat.lt_of_lt_of_le h.1 hb.size, fun j hj => ⟨(hb.cell (p := ⟨R, j, none⟩) hR).trans (h.2 j hj).1, (hb.frozen (p := ⟨R, j, none⟩) hR).trans (h.2 j hj).2⟩⟩
section
variable {w w0 w' : World} {R : Nat} {cs : List Value} {v0 v1 v2 v3 v4 v5 v6 v7 v8 : Value}
theorem Blk.cell {j : Nat} (h : Blk w R cs) (hj : j < cs.length) : w.cell? ⟨R, j, none⟩ = some cs[j] := (h.2 j hj).1
/-- Behind the store of a whole token. -/
theorem set9_cells (h : Blk w R cs) (hl : cs.length = 9) :
    (((((((((w.setCell ⟨R, 0, none⟩ v0).setCell ⟨R, 1, none⟩ v1).setCell ⟨R, 2, none⟩ v2).setCell ⟨R, 3, none⟩ v3).setCell ⟨R, 4, none⟩ v4).setCell ⟨R, 5, none⟩ v5).setCell ⟨R, 6, none⟩ v6).setCell ⟨R, 7, none⟩ v7).setCell ⟨R, 8, none⟩ v8).cell? ⟨R, 0, none⟩ = some v0 ∧ (((((((((w.setCell ⟨R, 0, none⟩ v0).setCell ⟨R, 1, none⟩ v1).setCell ⟨R, 2, none⟩ v2).setCell ⟨R, 3, none⟩ v3).setCell ⟨R, 4, none⟩ v4).setCell ⟨R, 5, none⟩ v5).setCell ⟨R, 6, none⟩ v6).setCell ⟨R, 7, none⟩ v7).setCell ⟨R, 8, none⟩ v8).cell? ⟨R, 1, none⟩ = some v1 ∧ (((((((((w.setCell ⟨R, 0, none⟩ v0).setCell ⟨R, 1, none⟩ v1).setCell ⟨R, 2, none⟩ v2).setCell ⟨R, 3, none⟩ v3).setCell ⟨R, 4, none⟩ v4).setCell ⟨R, 5, none⟩ v5).setCell ⟨R, 6, none⟩ v6).setCell ⟨R, 7, none⟩ v7).setCell ⟨R, 8, none⟩ v8).cell? ⟨R, 2, none⟩ = some v2 ∧ (((((((((w.setCell ⟨R, 0, none⟩ v0).setCell ⟨R, 1, none⟩ v1).setCell ⟨R, 2, none⟩ v2).setCell ⟨R, 3, none⟩ v3).setCell ⟨R, 4, none⟩ v4).setCell ⟨R, 5, none⟩ v5).setCell ⟨R, 6, none⟩ v6).setCell ⟨R, 7, none⟩ v7).setCell ⟨R, 8, none⟩ v8).cell? ⟨R, 3, none⟩ = some v3 ∧ (((((((((w.setCell ⟨R, 0, none⟩ v0).setCell ⟨R, 1, none⟩ v1).setCell ⟨R, 2, none⟩ v2).setCell ⟨R, 3, none⟩ v3).setCell ⟨R, 4, none⟩ v4).setCell ⟨R, 5, none⟩ v5).setCell ⟨R, 6, none⟩ v6).setCell ⟨R, 7, none⟩ v7).setCell ⟨R, 8, none⟩ v8).cell? ⟨R, 4, none⟩ = some v4 ∧ (((((((((w.setCell ⟨R, 0, none⟩ v0).setCell ⟨R, 1, none⟩ v1).setCell ⟨R, 2, none⟩ v2).setCell ⟨R, 3, none⟩ v3).setCell ⟨R, 4, none⟩ v4).setCell ⟨R, 5, none⟩ v5).setCell ⟨R, 6, none⟩ v6).setCell ⟨R, 7, none⟩ v7).setCell ⟨R, 8, none⟩ v8).cell? ⟨R, 5, none⟩ = some v5 ∧ (((((((((w.setCell ⟨R, 0, none⟩ v0).setCell ⟨R, 1, none⟩ v1).setCell ⟨R, 2, none⟩ v2).setCell ⟨R, 3, none⟩ v3).setCell ⟨R, 4, none⟩ v4).setCell ⟨R, 5, none⟩ v5).setCell ⟨R, 6, none⟩ v6).setCell ⟨R, 7, none⟩ v7).setCell ⟨R, 8, none⟩ v8).cell? ⟨R, 6, none⟩ = some v6 ∧ (((((((((w.setCell ⟨R, 0, none⟩ v0).setCell ⟨R, 1, none⟩ v1).setCell ⟨R, 2, none⟩ v2).setCell ⟨R, 3, none⟩ v3).setCell ⟨R, 4, none⟩ v4).setCell ⟨R, 5, none⟩ v5).setCell ⟨R, 6, none⟩ v6).setCell ⟨R, 7, none⟩ v7).setCell ⟨R, 8, none⟩ v8).cell? ⟨R, 7, none⟩ = some v7 ∧ (((((((((w.setCell ⟨R, 0, none⟩ v0).setCell ⟨R, 1, none⟩ v1).setCell ⟨R, 2, none⟩ v2).setCell ⟨R, 3, none⟩ v3).setCell ⟨R, 4, none⟩ v4).setCell ⟨R, 5, none⟩ v5).setCell ⟨R, 6, none⟩ v6).setCell ⟨R, 7, none⟩ v7).setCell ⟨R, 8, none⟩ v8).cell? ⟨R, 8, none⟩ = some v8 := by
  obtain ⟨c0, f0⟩ := h.2 0 (by omega)
  obtain ⟨c1, f1⟩ := h.2 1 (by omega)
  obtain ⟨c2, f2⟩ := h.2 2 (by omega)
  obtain ⟨c3, f3⟩ := h.2 3 (by omega)
  obtain ⟨c4, f4⟩ := h.2 4 (by omega)
  obtain ⟨c5, f5⟩ := h.2 5 (by omega)
  obtain ⟨c6, f6⟩ := h.2 6 (by omega)
  obtain ⟨c7, f7⟩ := h.2 7 (by omega)
  obtain ⟨c8, f8⟩ := h.2 8 (by omega)
  refine ⟨?_, ?_, ?_, ?_, ?_, ?_, ?_, ?_, ?_⟩
  all_goals go_simp
theorem set9_grown : w.grownBy (((((((((w.setCell ⟨R, 0, none⟩ v0).setCell ⟨R, 1, none⟩ v1).setCell ⟨R, 2, none⟩ v2).setCell ⟨R, 3, none⟩ v3).setCell ⟨R, 4, none⟩ v4).setCell ⟨R, 5, none⟩ v5).setCell ⟨R, 6, none⟩ v6).setCell ⟨R, 7, none⟩ v7).setCell ⟨R, 8, none⟩ v8) (some R) :=
  grown_trans (grown_trans (grown_trans (grown_trans (grown_trans (grown_trans (grown_trans (grown_trans (grown_set w R 0 v0) (grown_set _ R 1 v1)) (grown_set _ R 2 v2)) (grown_set _ R 3 v3)) (grown_set _ R 4 v4)) (grown_set _ R 5 v5)) (grown_set _ R 6 v6)) (grown_set _ R 7 v7)) (grown_set _ R 8 v8)
theorem set9_mv {g n c k : Nat} {A : Option Addr} (h : Mv w0 w g A n c k) (hR : w0.heap.size ≤ R) (hg : g < w0.heap.size) : Mv w0 (((((((((w.setCell ⟨R, 0, none⟩ v0).setCell ⟨R, 1, none⟩ v1).setCell ⟨R, 2, none⟩ v2).setCell ⟨R, 3, none⟩ v3).setCell ⟨R, 4, none⟩ v4).setCell ⟨R, 5, none⟩ v5).setCell ⟨R, 6, none⟩ v6).setCell ⟨R, 7, none⟩ v7).setCell ⟨R, 8, none⟩ v8) g A n c k := by
  have hs := set9_grown (w := w) (R := R) (v0 := v0) (v1 := v1) (v2 := v2) (v3 := v3) (v4 := v4) (v5 := v5) (v6 := v6) (v7 := v7) (v8 := v8)
  refine ⟨⟨grown_cell hs h.rd.c0 (show g ≠ R by omega), grown_cell hs h.rd.c1 (show g ≠ R by omega), (grown_frozen (p := ⟨g, 1, none⟩) hs h.rd.lt (show g ≠ R by omega)).trans h.rd.f1⟩, ?_⟩
  exact ⟨hs.os.trans h.grown.os, hs.tape.trans h.grown.tape, hs.output.trans h.grown.output, Nat.le_trans h.grown.size hs.size, fun i hi hne => (hs.block i (Nat.lt_of_lt_of_le hi h.grown.size) (fun e => by injection e with e; omega)).trans (h.grown.block i hi hne)⟩
theorem set9_own {base e : TypeId} {n : Nat} {v : Value} {xs : List Value} (h : w.ownsRow base e 1 v n xs) (hb : R < base) : (((((((((w.setCell ⟨R, 0, none⟩ v0).setCell ⟨R, 1, none⟩ v1).setCell ⟨R, 2, none⟩ v2).setCell ⟨R, 3, none⟩ v3).setCell ⟨R, 4, none⟩ v4).setCell ⟨R, 5, none⟩ v5).setCell ⟨R, 6, none⟩ v6).setCell ⟨R, 7, none⟩ v7).setCell ⟨R, 8, none⟩ v8).ownsRow base e 1 v n xs := own_grown h set9_grown hb
end
/-- A value that is a token: what it owns lies in blocks from base on. -/
def TokV (w : World) (base : Nat) (t : Tok) (v : Value) : Prop :=
  ∃ vs vm, v = .agg #[.int .i64 (t.kind : Int), .string ⟨t.text.toArray⟩, vs, .int .i64 t.nk, .int .i64 t.nn, .bool false, vm, .int .i64 (t.pos : Int), .bool t.nl] ∧
    w.ownsRow base 41 1 vs t.str.length (u16s t.str) ∧ w.ownsRow base 98 1 vm t.mag.length (t.mag.map fun n : Nat => Value.int .u32 (n : Int))

theorem ans_of {a b m k : Nat} {t s : Tok} (h : ((a, t, m) : Ans) = (b, s, k)) : a = b ∧ t = s ∧ m = k := by
  simp only [Prod.mk.injEq] at h
  exact h
theorem ans_bad {x e k : Nat} {s : Tok} (h : bad x = (e, s, k)) : x = e ∧ noTok = s ∧ 0 = k := ans_of h

set_option maxHeartbeats 4000000 in
set_option maxRecDepth 100000 in
theorem lwordT_any {A : Option Addr} {c g B k n : Nat} {u : List UInt16} {w : World} (hr : Rd w g A n c k) (hn : u.length = n) (ha : Reads w B 1 A n (u16s u)) (hB : B ≤ g) (hk : k ≤ n) (hl : n ≤ 4096) {m e : Nat} {t : Tok} (hq : wordT (u.drop k) = (e, t, m)) :
    Calls Try.prog 23 #[.pointer (some ⟨g, 0, none⟩)] w fun ev w' => ∃ v, ev = .returned (.tuple #[v, .int .i64 (e : Int)]) ∧ (e ≠ 0 → v = noV) ∧ (e = 0 → TokV w' w.heap.size t v ∧ Mv w w' g A n c (k + m)) ∧ w.grownBy w' (some g) := by
  subst hn
  have hg := hr.lt
  obtain ⟨l, hll⟩ : ∃ l, (u.drop k).takeWhile isRun = l := ⟨_, rfl⟩
  have hle : k + l.length ≤ u.length := by
    have h1 := takeWhile_le isRun (u.drop k)
    rw [hll, List.length_drop] at h1
    omega
  unfold wordT at hq
  rw [hll, List.drop_drop] at hq
  obtain ⟨b, hb⟩ : ∃ b, starts [92] (u.drop (k + l.length)) = b := ⟨_, rfl⟩
  rw [hb] at hq
  have HL := hide hll
  have HB := hide hb
  have HQ := hide hq
  have HA := hide ha
  have hR := hide (hr.alloc (.cells zero9.toArray 40))
  have hAl := hide (ha.alloc (Nat.le_trans hB (Nat.le_of_lt hg)) (.cells zero9.toArray 40))
  have hZ := hide (Blk.new w zero9 40)
  have hG0 := hide (grown_alloc w (.cells zero9.toArray 40) (some g))
  clear hll hb hq ha hr
  go_enter Try.func23, Try.ntmps23
  go_wp2_with fail
  refine (lrun_run hR.out rfl hAl.out hB hk hl HL.out).mono ?_
  rintro e1 w1 ⟨rfl, hM1⟩
  have hR1 := hide hM1.rd
  have hG1 := hide (grown_trans hG0.out hM1.grown)
  have hA1 := hide (HA.out.grown hG1.out hB (Nat.le_of_lt hg))
  have hZ1 := hide (hZ.out.grown hM1.grown (by omega))
  clear hM1
  go_wp2_with fail
  refine (lhas_any ⟨#[92]⟩ hR1.out rfl hA1.out hle hl (by decide) HB.out).mono ?_
  rintro e2 w2 ⟨rfl, m2, hw2⟩
  have hM2 := hide (show Mv w w2 g A u.length c (k + l.length) by rw [hw2]; exact ⟨hR1.out.drewN m2, grown_trans hG1.out (grown_drewN _ _ _)⟩)
  have hZ2 := hide (show Blk w2 w.heap.size zero9 by rw [hw2]; exact hZ1.out.grown (grown_drewN w1 (some g) m2) (by omega))
  clear hw2 m2 hR1 hG1 hA1 hZ1 hR hAl hZ hG0
  obtain ⟨c0, f0⟩ := hZ2.out.2 0 (by decide)
  obtain ⟨c1, f1⟩ := hZ2.out.2 1 (by decide)
  obtain ⟨c2, f2⟩ := hZ2.out.2 2 (by decide)
  obtain ⟨c3, f3⟩ := hZ2.out.2 3 (by decide)
  obtain ⟨c4, f4⟩ := hZ2.out.2 4 (by decide)
  obtain ⟨c5, f5⟩ := hZ2.out.2 5 (by decide)
  obtain ⟨c6, f6⟩ := hZ2.out.2 6 (by decide)
  obtain ⟨c7, f7⟩ := hZ2.out.2 7 (by decide)
  obtain ⟨c8, f8⟩ := hZ2.out.2 8 (by decide)
  cases b with
  | true =>
    have hq := HQ.out
    rw [if_pos rfl] at hq
    have HQ2 := hide hq
    clear hq
    go_wp2
    obtain ⟨q0, q1, q2, q3, q4, q5, q6, q7, q8⟩ := set9_cells (v0 := .int .i64 0) (v1 := .string ⟨#[]⟩) (v2 := .slice none 0 0) (v3 := .int .i64 0) (v4 := .int .i64 0) (v5 := .bool false) (v6 := .slice none 0 0) (v7 := .int .i64 0) (v8 := .bool false) hZ2.out rfl
    refine bodyPost_ret (v := .tuple #[.agg #[.int .i64 0, .string ⟨#[]⟩, .slice none 0 0, .int .i64 0, .int .i64 0, .bool false, .slice none 0 0, .int .i64 0, .bool false], .int .i64 6]) (by simp [results, Try.results23, go_sem, q0, q1, q2, q3, q4, q5, q6, q7, q8]) rfl ?_
    obtain ⟨z1, z2, z3⟩ := ans_bad HQ2.out
    subst z1
    exact ⟨_, rfl, fun _ => rfl, fun h => absurd h (by decide), (set9_mv hM2.out (Nat.le_refl _) hg).grown⟩
  | false =>
    have hq := HQ.out
    rw [if_neg (by simp)] at hq
    have HQ2 := hide hq
    clear hq
    by_cases hw : 0 < wordF (asc l)
    · have hq := HQ2.out
      rw [if_pos hw] at hq
      have HQ3 := hide hq
      clear hq
      go_wp2_with (go_at_call 42; refine (lword_any _ _).mono ?_; rintro e3 w3 ⟨rfl, rfl⟩)
      obtain ⟨q0, q1, q2, q3, q4, q5, q6, q7, q8⟩ := set9_cells (v0 := .int .i64 6) (v1 := .string ⟨(asc l).toArray⟩) (v2 := .slice none 0 0) (v3 := .int .i64 0) (v4 := .int .i64 0) (v5 := .bool false) (v6 := .slice none 0 0) (v7 := .int .i64 0) (v8 := .bool false) hZ2.out rfl
      refine bodyPost_ret (v := .tuple #[.agg #[.int .i64 6, .string ⟨(asc l).toArray⟩, .slice none 0 0, .int .i64 0, .int .i64 0, .bool false, .slice none 0 0, .int .i64 0, .bool false], .int .i64 0]) (by simp [results, Try.results23, go_sem, q0, q1, q2, q3, q4, q5, q6, q7, q8]) rfl ?_
      obtain ⟨z1, z2, z3⟩ := ans_of HQ3.out
      subst z1 z2 z3
      exact ⟨_, rfl, fun h => absurd rfl h, fun _ => ⟨⟨_, _, rfl, World.ownsRow_nil _ _ _ _, World.ownsRow_nil _ _ _ _⟩, set9_mv hM2.out (Nat.le_refl _) hg⟩, (set9_mv hM2.out (Nat.le_refl _) hg).grown⟩
    · have hq := HQ2.out
      rw [if_neg hw] at hq
      have HQ3 := hide hq
      clear hq
      go_wp2_with (go_at_call 42; refine (lword_any _ _).mono ?_; rintro e3 w3 ⟨rfl, rfl⟩)
      obtain ⟨q0, q1, q2, q3, q4, q5, q6, q7, q8⟩ := set9_cells (v0 := .int .i64 1) (v1 := .string ⟨(asc l).toArray⟩) (v2 := .slice none 0 0) (v3 := .int .i64 0) (v4 := .int .i64 0) (v5 := .bool false) (v6 := .slice none 0 0) (v7 := .int .i64 0) (v8 := .bool false) hZ2.out rfl
      refine bodyPost_ret (v := .tuple #[.agg #[.int .i64 1, .string ⟨(asc l).toArray⟩, .slice none 0 0, .int .i64 0, .int .i64 0, .bool false, .slice none 0 0, .int .i64 0, .bool false], .int .i64 0]) (by simp [results, Try.results23, go_sem, q0, q1, q2, q3, q4, q5, q6, q7, q8]) rfl ?_
      obtain ⟨z1, z2, z3⟩ := ans_of HQ3.out
      subst z1 z2 z3
      exact ⟨_, rfl, fun h => absurd rfl h, fun _ => ⟨⟨_, _, rfl, World.ownsRow_nil _ _ _ _, World.ownsRow_nil _ _ _ _⟩, set9_mv hM2.out (Nat.le_refl _) hg⟩, (set9_mv hM2.out (Nat.le_refl _) hg).grown⟩
end Go.Proofs.Ytbljbmeifmpfoaa

namespace Go.Proofs.Ytbljbmeifmpfoaa
open Go.RowKit

theorem hexVal_app (l r : List UInt16) : ∀ v, hexVal v (l ++ r) = hexVal (hexVal v l) r := by
  induction l with
  | nil => intro v; rfl
  | cons x l ih => intro v; exact ih _
theorem hexVal_snoc (l : List UInt16) (x : UInt16) : hexVal 0 (l ++ [x]) = 16 * hexVal 0 l + hexF x := by rw [hexVal_app]; rfl
theorem or16 {a b : Nat} (ha : a < 4096) (hb : b < 16) : bits .or .u16 ((16 * a : Nat) : Int) (b : Int) = ((16 * a + b : Nat) : Int) := by
  have e1 : (BitVec.ofInt 16 ((16 * a : Nat) : Int)).toNat = 16 * a := by rw [BitVec.ofInt_natCast, BitVec.toNat_ofNat]; omega
  have e2 : (BitVec.ofInt 16 (b : Int)).toNat = b := by rw [BitVec.ofInt_natCast, BitVec.toNat_ofNat]; omega
  show IntKind.u16.wrap ((BitVec.ofInt 16 ((16 * a : Nat) : Int) ||| BitVec.ofInt 16 (b : Int)).toNat : Int) = _
  rw [BitVec.toNat_or, e1, e2, show 16 * a = 2 ^ 4 * a from rfl, ← Nat.two_pow_add_eq_or_of_lt (by omega : b < 2 ^ 4), IntKind.wrap_u16]
  omega
/-- how far the loop is -/
def AtCode (u : List UInt16) (k j v : Nat) : Prop := j ≤ (u.drop k).length ∧ v = hexVal 0 ((u.drop k).take j) ∧ ((u.drop k).take j).all isHex = true ∧ v < 16 ^ j
theorem AtCode.step {u : List UInt16} {k j v : Nat} (h : AtCode u k j v) (hp : k + j < u.length) (hx : isHex u[k + j] = true) : AtCode u k (j + 1) (16 * v + hexF u[k + j]) := by
  obtain ⟨h1, h2, h3, h4⟩ := h
  have hjl : j < (u.drop k).length := by rw [List.length_drop]; omega
  have ht : (u.drop k).take (j + 1) = (u.drop k).take j ++ [u[k + j]] := by rw [List.take_succ_eq_append_getElem hjl, List.getElem_drop]
  have h16 : hexF u[k + j] < 16 := of_decide_eq_true hx
  refine ⟨by omega, by rw [ht, hexVal_snoc, h2], by rw [ht, List.all_append, h3]; simp [hx], ?_⟩
  rw [Nat.pow_succ]; omega
theorem AtCode.stepP {u : List UInt16} {k j v p : Nat} (h : AtCode u k j v) (e : p = k + j) (hp : p < u.length) (hx : isHex u[p] = true) : AtCode u k (j + 1) (16 * v + hexF u[p]) := by
  subst e
  exact h.step hp hx
theorem AtCode.done {u : List UInt16} {k j v : Nat} (h : AtCode u k j v) : codeF j (u.drop k) = (0, UInt16.ofNat v, j) := by
  obtain ⟨h1, h2, h3, _⟩ := h
  unfold codeF
  rw [if_pos (by rw [h3, decide_eq_true h1]; rfl), h2]
theorem AtCode.bad {u : List UInt16} {k j v cnt : Nat} (_h : AtCode u k j v) (hj : j < cnt) (hx : isAt 0 isHex (u.drop (k + j)) = false) : codeF cnt (u.drop k) = (5, 0, 0) := by
  unfold codeF
  rw [if_neg]
  intro hc
  simp only [Bool.and_eq_true, decide_eq_true_eq] at hc
  obtain ⟨c1, c2⟩ := hc
  rw [List.length_drop] at c1
  have hp : k + j < u.length := by omega
  have hm : u[k + j] ∈ (u.drop k).take cnt := by
    rw [List.mem_iff_getElem?]
    exact ⟨j, by rw [List.getElem?_take, if_pos hj, List.getElem?_drop, List.getElem?_eq_getElem hp]⟩
  have h4 := List.all_eq_true.1 c2 _ hm
  have h5 := isAt_in (u := u) (k := k + j) (j := 0) (p := isHex) (by omega)
  rw [h5] at hx
  simp only [Nat.add_zero] at hx
  rw [h4] at hx
  cases hx

set_option maxHeartbeats 4000000 in
set_option maxRecDepth 100000 in
theorem lcode_any {A : Option Addr} {c g B k n cnt : Nat} {u : List UInt16} {w : World} (hr : Rd w g A n c k) (hn : u.length = n) (ha : Reads w B 1 A n (u16s u)) (hB : B ≤ g) (hk : k ≤ n) (hl : n ≤ 4096) (hcnt : cnt ≤ 4) {m e : Nat} {y : UInt16} (hq : codeF cnt (u.drop k) = (e, y, m)) :
    Calls Try.prog 69 #[.pointer (some ⟨g, 0, none⟩), .int .i64 (cnt : Int)] w fun ev w' => ev = .returned (.tuple #[.int .u16 (y.toNat : Int), .int .i64 (e : Int)]) ∧ (e = 0 → Mv w w' g A n c (k + m)) ∧ w.grownBy w' (some g) := by
  subst hn
  have HQ := hide hq
  have HA := hide ha
  have hg := hr.lt
  have hM0 := hide (Mv.refl hr)
  clear hq ha hr
  go_enter Try.func69, Try.ntmps69
  go_wp2
  go_loopg [6, 8] cnt (fun r v i wr => ∃ j vn p, j + r = cnt ∧ i = .int .i64 (j : Nat) ∧ v = .int .u16 (vn : Nat) ∧ vn < 65536 ∧ Hid (p = k + j) ∧ Hid (Mv w wr g A u.length c p) ∧ Hid (AtCode u k j vn))
  case atStart => exact ⟨0, 0, k, by omega, rfl, rfl, by omega, rfl, hM0, Nat.zero_le _, rfl, rfl, by decide⟩
  case round =>
    obtain ⟨j, v, p, hjr, rfl, rfl, hv, hpj, hM, hat⟩ := hrel
    have har := hide (HA.out.grown hM.out.grown hB (Nat.le_of_lt hg))
    have hjk : p ≤ u.length := by have := hat.out.1; have := hpj.out; rw [List.length_drop] at *; omega
    by_cases hlt : j < cnt
    · cases hqx : isAt 0 isHex (u.drop p) with
      | true =>
        have hp : p < u.length := by
          rcases Nat.lt_or_ge p u.length with h | h
          · exact h
          · rw [isAt_out (u := u) (k := p) (j := 0) (p := isHex) (by omega)] at hqx; cases hqx
        have hxx : isHex u[p] = true := by
          have h5 := isAt_in (u := u) (k := p) (j := 0) (p := isHex) (by omega)
          rw [h5] at hqx
          simpa using hqx
        have hsp := hide (hat.out.stepP hpj.out hp hxx)
        have h16 : hexF u[p] < 16 := of_decide_eq_true hxx
        have hv4 : v < 4096 := by
          have := hat.out.2.2.2
          have h2 : 16 ^ j ≤ 16 ^ 3 := Nat.pow_le_pow_right (by omega) (by omega)
          omega
        have HI := hide hqx
        clear hqx hxx
        go_wp2_with fail
        refine (lis_hex (j := 0) hM.out.rd rfl har.out hjk hl (by omega) HI.out).mono ?_
        rintro e1 w1 ⟨rfl, m1, hw1⟩
        have hM1 := hide (show Mv w w1 g A u.length c p by rw [hw1]; exact hM.out.drewN m1)
        have har1 := hide (show Reads w1 B 1 A u.length (u16s u) by rw [hw1]; exact har.out.drewN m1)
        clear hw1
        have hc0 := hM1.out.rd.c0
        have hc1 := hM1.out.rd.c1
        have hf1 := hM1.out.rd.f1
        obtain ⟨blk, off, rfl, _, hcell⟩ := har1.out.spotL (by omega)
        have hca := hcell p hp
        have hin : (p : Int) < (u.length : Int) := by omega
        obtain ⟨x, hxx⟩ : ∃ x, u[p] = x := ⟨_, rfl⟩
        rw [hxx] at hca hsp h16
        have HH := hide (or16 hv4 h16)
        clear hcell hxx
        go_wp2_with fail
        go_quiet (first | (go_at_call 91; refine Calls.quiet_of_same ((lhex_any _ _).mono fun _ _ h => same_of h)))
        go_wp2
        go_roundg (gk - 1)
        case measure => omega
        case rel =>
          refine ⟨j + 1, 16 * v + hexF x, p + 1, by omega, by go_num, congrArg (Value.int .u16) (by rw [show (v : Int) * 16 = ((16 * v : Nat) : Int) by omega]; exact HH.out), by omega, ?_, ?_, hsp.out⟩
          · have := hpj.out
            exact hide (by omega)
          · exact Mv.step (hM1.out.drewN _) (by omega)
      | false =>
        have HI := hide hqx
        have hbad := hide (hat.out.bad hlt (by rw [← hpj.out]; exact hqx))
        clear hqx
        go_wp2_with fail
        refine (lis_hex (j := 0) hM.out.rd rfl har.out hjk hl (by omega) HI.out).mono ?_
        rintro e1 w1 ⟨rfl, m1, hw1⟩
        subst hw1
        go_wp2
        go_ret2
        have hz := hbad.out
        rw [HQ.out] at hz
        simp only [Prod.mk.injEq] at hz
        obtain ⟨z1, z2, z3⟩ := hz
        subst z1 z2 z3
        exact ⟨rfl, fun h => absurd h (by decide), (hM.out.drewN m1).grown⟩
    · obtain rfl : j = cnt := by omega
      have hdn := hide hat.out.done
      go_wp2
      go_ret2
      have hz := hdn.out
      rw [HQ.out] at hz
      simp only [Prod.mk.injEq] at hz
      obtain ⟨z1, z2, z3⟩ := hz
      subst z1 z2 z3
      refine ⟨?_, fun _ => by rw [← hpj.out]; exact hM.out, hM.out.grown⟩
      have : (UInt16.ofNat v).toNat = v := by simp; omega
      rw [this]; rfl
end Go.Proofs.Ytbljbmeifmpfoaa

namespace Go.Proofs.Ytbljbmeifmpfoaa
open Go.RowKit

theorem run_indexByteS (s : ByteArray) (c : Int) (w : World) :
    (callFunc 100 #[.string s, .int .u8 c]).run Try.prog w = .ok (.value (.int .i64 (Lib.indexByte s.data.toList c.toNat.toUInt8))) w := by
  rw [run_callFunc_indexByte Try.func100 (by kernel_rfl) (by kernel_rfl) (by kernel_rfl) (by kernel_rfl), Lib.run_indexByteString]
  rfl
theorem slIndexByte_any (s : ByteArray) (c : Int) (w : World) : Calls Try.prog 89 #[.string s, .int .u8 c] w fun e w' => e = .returned (.int .i64 (Lib.indexByte s.data.toList c.toNat.toUInt8)) ∧ w = w' := by
  have hx := run_indexByteS s c
  go_enter Try.func89, Try.ntmps89
  go_wp2
  go_ret
  exact ⟨rfl, rfl⟩
theorem sIndexByte_any (s : ByteArray) (c : Int) (w : World) {i : Int} (hi : Lib.indexByte s.data.toList c.toNat.toUInt8 = i) : Calls Try.prog 68 #[.string s, .int .u8 c] w fun e w' => e = .returned (.int .i64 i) ∧ w = w' := by
  subst hi
  go_enter Try.func68, Try.ntmps68
  go_wp2_with (go_at_call 89; refine (slIndexByte_any _ _ _).mono ?_; rintro e w' ⟨rfl, rfl⟩)
  go_ret
  exact ⟨rfl, rfl⟩
/-- what the index is, of a unit -/
def escIdx (x : UInt16) : Int := Lib.indexByte [110, 116, 114, 98, 118, 102] (IntKind.u8.wrap (x.toNat : Int)).toNat.toUInt8
theorem escIdx_no {x : UInt16} (h : x.toNat < 128) (hs : simpleF x = none) : escIdx x = -1 := by
  have e : (IntKind.u8.wrap (x.toNat : Int)).toNat = x.toNat := by rw [IntKind.wrap_u8]; omega
  unfold escIdx
  rw [e]
  have hne : ∀ k : UInt16, k ∈ ([110, 116, 114, 98, 118, 102] : List UInt16) → x ≠ k := by
    intro k hk he
    subst he
    revert hs
    simp only [List.mem_cons, List.mem_nil_iff, or_false] at hk
    rcases hk with rfl | rfl | rfl | rfl | rfl | rfl <;> decide
  have hb : ∀ k : UInt16, k ∈ ([110, 116, 114, 98, 118, 102] : List UInt16) → (k.toNat.toUInt8 == x.toNat.toUInt8) = false := by
    intro k hk
    have h1 := hne k hk
    rw [beq_eq_false_iff_ne]
    intro h2
    apply h1
    refine UInt16.toNat_inj.1 ?_
    have h3 := congrArg UInt8.toNat h2
    have h4 : k.toNat < 128 := by
      simp only [List.mem_cons, List.mem_nil_iff, or_false] at hk
      rcases hk with rfl | rfl | rfl | rfl | rfl | rfl <;> decide
    simp at h3
    omega
  have b1 := hb 110 (by simp)
  have b2 := hb 116 (by simp)
  have b3 := hb 114 (by simp)
  have b4 := hb 98 (by simp)
  have b5 := hb 118 (by simp)
  have b6 := hb 102 (by simp)
  have c1 : ((110 : UInt8) == x.toNat.toUInt8) = false := b1
  have c2 : ((116 : UInt8) == x.toNat.toUInt8) = false := b2
  have c3 : ((114 : UInt8) == x.toNat.toUInt8) = false := b3
  have c4 : ((98 : UInt8) == x.toNat.toUInt8) = false := b4
  have c5 : ((118 : UInt8) == x.toNat.toUInt8) = false := b5
  have c6 : ((102 : UInt8) == x.toNat.toUInt8) = false := b6
  generalize x.toNat.toUInt8 = z at c1 c2 c3 c4 c5 c6 ⊢
  simp only [Lib.indexByte, c1, c2, c3, c4, c5, c6, Bool.false_eq_true, if_false]
  rfl
theorem simple_cases {x y : UInt16} (h : simpleF x = some y) : (x = 110 ∧ y = 10) ∨ (x = 116 ∧ y = 9) ∨ (x = 114 ∧ y = 13) ∨ (x = 98 ∧ y = 8) ∨ (x = 118 ∧ y = 11) ∨ (x = 102 ∧ y = 12) := by
  unfold simpleF at h
  repeat' split at h
  all_goals simp_all
theorem escF_at {u : List UInt16} {k : Nat} (h : k < u.length) : escF (u.drop k) = if (simpleF u[k]).isSome = true then (0, (simpleF u[k]).getD 0, 1) else escR u[k] (u.drop (k + 1)) := by
  rw [List.drop_eq_getElem_cons h]; rfl
end Go.Proofs.Ytbljbmeifmpfoaa

namespace Go.Proofs.Ytbljbmeifmpfoaa
open Go.RowKit

theorem ret_ui {a b : UInt16} {m n : Nat} (h : a = b) (h2 : m = n) : Ending.returned (.tuple #[.int .u16 (a.toNat : Int), .int .i64 (m : Int)]) = .returned (.tuple #[.int .u16 (b.toNat : Int), .int .i64 (n : Int)]) := by rw [h, h2]
theorem more_ok {e n m k : Nat} {y z : UInt16} (h : more 1 (e, z, n) = (e, y, m)) (he : e = 0) : z = y ∧ k + 1 + n = k + m := by
  subst he
  unfold more at h
  rw [if_pos rfl] at h
  simp only [Prod.mk.injEq] at h
  exact ⟨h.2.1, by omega⟩
theorem more_pair (p : Nat × UInt16 × Nat) : (more 1 p).1 = p.1 ∧ (more 1 p).2.1 = p.2.1 ∧ (p.1 = 0 → (more 1 p).2.2 = 1 + p.2.2) := by
  unfold more
  split
  · rename_i h; exact ⟨h.symm, rfl, fun _ => rfl⟩
  · rename_i h; exact ⟨rfl, rfl, fun h2 => absurd h2 h⟩

theorem triple {a b c : Nat} {x y : UInt16} {d : Nat} (h : (a, x, b) = (c, y, d)) : a = c ∧ x = y ∧ b = d := by
  simp only [Prod.mk.injEq] at h
  exact h
theorem code_end {w wc w3 : World} {g n c k e e1 m m1 : Nat} {A : Option Addr} {y y1 : UInt16} (h : more 1 (e1, y1, m1) = (e, y, m)) (hM : e1 = 0 → Mv wc w3 g A n c (k + 1 + m1)) (hG : wc.grownBy w3 (some g)) (hw : w.grownBy wc (some g)) :
    Ending.returned (.tuple #[.int .u16 (y1.toNat : Int), .int .i64 (e1 : Int)]) = .returned (.tuple #[.int .u16 (y.toNat : Int), .int .i64 (e : Int)]) ∧ (e = 0 → Mv w w3 g A n c (k + m)) ∧ w.grownBy w3 (some g) := by
  obtain ⟨q1, q2, q3⟩ := more_pair (e1, y1, m1)
  rw [h] at q1 q2 q3
  simp only at q1 q2 q3
  subst q1 q2
  refine ⟨rfl, fun he => ?_, grown_trans hw hG⟩
  have := q3 he
  have hm := hM he
  rw [show k + m = k + 1 + m1 by omega]
  exact ⟨hm.rd, grown_trans hw hm.grown⟩

set_option maxHeartbeats 8000000 in
set_option maxRecDepth 100000 in
theorem lescape_any {A : Option Addr} {c g B k n : Nat} {u : List UInt16} {w : World} (hr : Rd w g A n c k) (hn : u.length = n) (ha : Reads w B 1 A n (u16s u)) (hB : B ≤ g) (hk : k ≤ n) (hl : n ≤ 4096) {m e : Nat} {y : UInt16} (hq : escF (u.drop k) = (e, y, m)) :
    Calls Try.prog 46 #[.pointer (some ⟨g, 0, none⟩)] w fun ev w' => ev = .returned (.tuple #[.int .u16 (y.toNat : Int), .int .i64 (e : Int)]) ∧ (e = 0 → Mv w w' g A n c (k + m)) ∧ w.grownBy w' (some g) := by
  subst hn
  have hg := hr.lt
  have hc0 := hr.c0
  have hc1 := hr.c1
  have hf1 := hr.f1
  by_cases hlt : k < u.length
  · rw [escF_at hlt] at hq
    have hM0 := hide (Mv.refl hr)
    have HA := hide ha
    obtain ⟨blk, off, rfl, _, hcell⟩ := ha.spotL (by omega)
    have hca := hcell k hlt
    have hx := u[k].toNat_lt
    obtain ⟨x, hxx⟩ : ∃ x, u[k] = x := ⟨_, rfl⟩
    rw [hxx] at hca hq hx
    have hlt2 : (k : Int) < (u.length : Int) := by omega
    have hne : ((k : Int) == (u.length : Int)) = false := beq_eq_false_iff_ne.2 (by omega)
    have HQ := hide hq
    clear hcell hxx hq ha hr
    cases hs : simpleF x with
    | some z =>
      have hq := HQ.out
      rw [hs] at hq
      simp only [Option.isSome_some, if_true, Option.getD_some, Prod.mk.injEq] at hq
      obtain ⟨q1, q2, q3⟩ := hq
      have HE := hide q1
      have HY := hide q2
      have HM := hide q3
      clear q1 q2 q3 HQ
      rcases simple_cases hs with ⟨rfl, rfl⟩ | ⟨rfl, rfl⟩ | ⟨rfl, rfl⟩ | ⟨rfl, rfl⟩ | ⟨rfl, rfl⟩ | ⟨rfl, rfl⟩
      all_goals clear hs
      all_goals
        go_enter Try.func46, Try.ntmps46
        go_wp2_with fail
        go_quiet (fail)
        go_wp2_with fail
        go_quiet (fail)
        go_wp2_with (go_at_call 68; refine (sIndexByte_any _ _ _ (by rfl)).mono ?_; rintro e1 w1 ⟨rfl, rfl⟩)
        go_ret2
        obtain rfl := HY.out
        obtain rfl := HE.out
        exact ⟨rfl, fun _ => by rw [← HM.out]; exact (Mv.step (hM0.out.drewN _) (by omega)).below ((Below.refl _ _).alloc (Nat.le_refl _) _), ((Mv.step (hM0.out.drewN _) (k' := k + 1) (by omega)).below ((Below.refl _ _).alloc (Nat.le_refl _) _)).grown⟩
    | none =>
      have HR := hide (show escR x (u.drop (k + 1)) = (e, y, m) by have h := HQ.out; rw [hs] at h; simpa using h)
      obtain ⟨i, hi⟩ : ∃ i, Lib.indexByte (⟨#[110, 116, 114, 98, 118, 102]⟩ : ByteArray).data.toList (IntKind.u8.wrap (x.toNat : Int)).toNat.toUInt8 = i := ⟨_, rfl⟩
      have HI := hide hi
      have hi1 : x.toNat < 128 → i = -1 := fun h => by rw [← hi]; exact escIdx_no h hs
      have HI1 := hide hi1
      clear hi hi1 hs HQ
      go_enter Try.func46, Try.ntmps46
      go_wp2_with fail
      go_quiet (fail)
      go_wp2_with fail
      go_quiet (fail)
      go_upto_region 6 with (go_at_call 68; refine (sIndexByte_any _ _ _ HI.out).mono ?_; rintro e1 w1 ⟨rfl, rfl⟩)
      go_cut [41] (fun v wx => v = .bool false ∧ Hid (Mv w wx g (some ⟨blk, off, none⟩) u.length c (k + 1)))
      case first =>
        by_cases hx8 : x.toNat < 128
        · obtain rfl := HI1.out hx8
          go_wp2_with fail
          go_meet
          exact ⟨rfl, Mv.step (hM0.out.drewN _) (by omega)⟩
        · have hx9 : ¬ (x.toNat : Int) < 128 := by omega
          go_wp2_with fail
          go_meet
          exact ⟨rfl, Mv.step (hM0.out.drewN _) (by omega)⟩
      case rest =>
        obtain ⟨hv, hM⟩ := hcut
        subst hv
        clear hc0 hc1 hf1 hca hne HI HI1 hM0
        have har := hide (HA.out.grown hM.out.grown hB (Nat.le_of_lt hg))
        have hk1 : k + 1 ≤ u.length := hlt
        have hR := HR.out
        unfold escR at hR
        obtain ⟨d, hd⟩ : ∃ d, isAt 0 isDigit (u.drop (k + 1)) = d := ⟨_, rfl⟩
        obtain ⟨b, hb⟩ : ∃ d, starts [123] (u.drop (k + 1)) = d := ⟨_, rfl⟩
        rw [hd, hb] at hR
        have HD := hide hd
        have HB := hide hb
        clear hd hb HR
        by_cases h48 : x.toNat = 48
        · have e48 : ((x.toNat : Int) == 48) = true := by rw [h48]; rfl
          have hdg : isDigit x = true := isDigit_iff.2 (by omega)
          rw [h48] at hR
          cases d with
          | false =>
            have HZ := hide (show (0, (0 : UInt16), 1) = (e, y, m) by simpa using hR)
            clear hR h48
            go_wp2_with (first | (go_at_call 27; refine (lis_digit (j := 0) hM.out.rd rfl har.out hk1 hl (by omega) HD.out).mono ?_; rintro e2 w2 ⟨rfl, m2, hw2⟩; subst hw2) | (go_at_call 24; refine (ldigit_any _ _).mono ?_; rintro e2 w2 ⟨rfl, rfl⟩) | (go_at_call 19; refine (lline_any _ _).mono ?_; rintro e2 w2 ⟨rfl, rfl⟩) | (go_at_call 39; refine (lparts_any _ _).mono ?_; rintro e2 w2 ⟨rfl, rfl⟩))
            go_ret2
            obtain ⟨z1, z2, z3⟩ := triple HZ.out
            subst z1 z2 z3
            exact ⟨rfl, fun _ => hM.out.drewN _, (hM.out.drewN _).grown⟩
          | true =>
            have HZ := hide (show (5, (0 : UInt16), 0) = (e, y, m) by rw [hdg] at hR; simpa using hR)
            clear hR h48
            go_wp2_with (first | (go_at_call 27; refine (lis_digit (j := 0) hM.out.rd rfl har.out hk1 hl (by omega) HD.out).mono ?_; rintro e2 w2 ⟨rfl, m2, hw2⟩; subst hw2) | (go_at_call 24; refine (ldigit_any _ _).mono ?_; rintro e2 w2 ⟨rfl, rfl⟩) | (go_at_call 19; refine (lline_any _ _).mono ?_; rintro e2 w2 ⟨rfl, rfl⟩) | (go_at_call 39; refine (lparts_any _ _).mono ?_; rintro e2 w2 ⟨rfl, rfl⟩))
            go_ret2
            obtain ⟨z1, z2, z3⟩ := triple HZ.out
            subst z1 z2 z3
            exact ⟨rfl, fun h => absurd h (by decide), (hM.out.drewN _).grown⟩
        have e48 : ((x.toNat : Int) == 48) = false := beq_eq_false_iff_ne.2 (by omega)
        rw [show (x.toNat == 48) = false from beq_eq_false_iff_ne.2 h48] at hR
        simp only [Bool.false_and, Bool.false_eq_true, if_false] at hR
        clear h48
        cases hdg : isDigit x with
        | true =>
          rw [hdg, if_pos rfl] at hR
          have HZ := hide hR
          clear hR
          go_wp2_with (first | (go_at_call 27; refine (lis_digit (j := 0) hM.out.rd rfl har.out hk1 hl (by omega) HD.out).mono ?_; rintro e2 w2 ⟨rfl, m2, hw2⟩; subst hw2) | (go_at_call 24; refine (ldigit_any _ _).mono ?_; rintro e2 w2 ⟨rfl, rfl⟩) | (go_at_call 19; refine (lline_any _ _).mono ?_; rintro e2 w2 ⟨rfl, rfl⟩) | (go_at_call 39; refine (lparts_any _ _).mono ?_; rintro e2 w2 ⟨rfl, rfl⟩))
          go_ret2
          obtain ⟨z1, z2, z3⟩ := triple HZ.out
          subst z1 z2 z3
          exact ⟨rfl, fun h => absurd h (by decide), hM.out.grown⟩
        | false =>
          rw [hdg] at hR
          simp only [Bool.false_eq_true, if_false] at hR
          cases hln : isLine x with
          | true =>
            rw [hln] at hR
            have HZ := hide (show (6, (0 : UInt16), 0) = (e, y, m) by simpa using hR)
            clear hR
            go_wp2_with (first | (go_at_call 27; refine (lis_digit (j := 0) hM.out.rd rfl har.out hk1 hl (by omega) HD.out).mono ?_; rintro e2 w2 ⟨rfl, m2, hw2⟩; subst hw2) | (go_at_call 24; refine (ldigit_any _ _).mono ?_; rintro e2 w2 ⟨rfl, rfl⟩) | (go_at_call 19; refine (lline_any _ _).mono ?_; rintro e2 w2 ⟨rfl, rfl⟩) | (go_at_call 39; refine (lparts_any _ _).mono ?_; rintro e2 w2 ⟨rfl, rfl⟩))
            go_ret2
            obtain ⟨z1, z2, z3⟩ := triple HZ.out
            subst z1 z2 z3
            exact ⟨rfl, fun h => absurd h (by decide), hM.out.grown⟩
          | false =>
            rw [hln] at hR
            cases hfr : isFar x with
            | true =>
              rw [hfr] at hR
              have HZ := hide (show (6, (0 : UInt16), 0) = (e, y, m) by simpa using hR)
              clear hR
              go_wp2_with (first | (go_at_call 27; refine (lis_digit (j := 0) hM.out.rd rfl har.out hk1 hl (by omega) HD.out).mono ?_; rintro e2 w2 ⟨rfl, m2, hw2⟩; subst hw2) | (go_at_call 24; refine (ldigit_any _ _).mono ?_; rintro e2 w2 ⟨rfl, rfl⟩) | (go_at_call 19; refine (lline_any _ _).mono ?_; rintro e2 w2 ⟨rfl, rfl⟩) | (go_at_call 39; refine (lparts_any _ _).mono ?_; rintro e2 w2 ⟨rfl, rfl⟩))
              go_ret2
              obtain ⟨z1, z2, z3⟩ := triple HZ.out
              subst z1 z2 z3
              exact ⟨rfl, fun h => absurd h (by decide), hM.out.grown⟩
            | false =>
              rw [hfr] at hR
              by_cases h117 : x.toNat = 117
              · have e117 : ((x.toNat : Int) == 117) = true := by rw [h117]; rfl
                have e120 : ((x.toNat : Int) == 120) = false := by rw [h117]; rfl
                rw [h117] at hR
                clear h117
                cases b with
                | true =>
                  have HZ := hide (show (6, (0 : UInt16), 0) = (e, y, m) by simpa using hR)
                  clear hR
                  go_wp2_with (first | (go_at_call 27; refine (lis_digit (j := 0) hM.out.rd rfl har.out hk1 hl (by omega) HD.out).mono ?_; rintro e2 w2 ⟨rfl, m2, hw2⟩; subst hw2) | (go_at_call 24; refine (ldigit_any _ _).mono ?_; rintro e2 w2 ⟨rfl, rfl⟩) | (go_at_call 19; refine (lline_any _ _).mono ?_; rintro e2 w2 ⟨rfl, rfl⟩) | (go_at_call 39; refine (lparts_any _ _).mono ?_; rintro e2 w2 ⟨rfl, rfl⟩) | (go_at_call 20; refine (lhas_any ⟨#[123]⟩ hM.out.rd rfl har.out hk1 hl (by decide) HB.out).mono ?_; rintro e2 w2 ⟨rfl, m2, hw2⟩; subst hw2))
                  go_ret2
                  obtain ⟨z1, z2, z3⟩ := triple HZ.out
                  subst z1 z2 z3
                  exact ⟨rfl, fun h => absurd h (by decide), (hM.out.drewN _).grown⟩
                | false =>
                  have hR2 : more 1 (codeF 4 (u.drop (k + 1))) = (e, y, m) := by simpa using hR
                  obtain ⟨⟨e1, y1, m1⟩, hcq⟩ : ∃ z, codeF 4 (u.drop (k + 1)) = z := ⟨_, rfl⟩
                  rw [hcq] at hR2
                  have HZ := hide hR2
                  have HCQ := hide hcq
                  clear hR hR2 hcq
                  go_wp2_with (first | (go_at_call 27; refine (lis_digit (j := 0) hM.out.rd rfl har.out hk1 hl (by omega) HD.out).mono ?_; rintro e2 w2 ⟨rfl, m2, hw2⟩; subst hw2) | (go_at_call 24; refine (ldigit_any _ _).mono ?_; rintro e2 w2 ⟨rfl, rfl⟩) | (go_at_call 19; refine (lline_any _ _).mono ?_; rintro e2 w2 ⟨rfl, rfl⟩) | (go_at_call 39; refine (lparts_any _ _).mono ?_; rintro e2 w2 ⟨rfl, rfl⟩) | (go_at_call 20; refine (lhas_any ⟨#[123]⟩ hM.out.rd rfl har.out hk1 hl (by decide) HB.out).mono ?_; rintro e2 w2 ⟨rfl, m2, hw2⟩; subst hw2) | (go_at_call 69; refine (lcode_any (cnt := 4) (hM.out.rd.drewN _) rfl (har.out.drewN _) hB hk1 hl (by omega) HCQ.out).mono ?_; rintro e3 w3 ⟨rfl, hM3, hG3⟩))
                  go_ret2
                  exact code_end HZ.out hM3 hG3 (hM.out.drewN _).grown
              · have e117 : ((x.toNat : Int) == 117) = false := beq_eq_false_iff_ne.2 (by omega)
                rw [show (x.toNat == 117) = false from beq_eq_false_iff_ne.2 h117] at hR
                simp only [Bool.or_self, Bool.false_and, Bool.false_eq_true, if_false] at hR
                by_cases h120 : x.toNat = 120
                · have e120 : ((x.toNat : Int) == 120) = true := by rw [h120]; rfl
                  rw [if_pos h120] at hR
                  obtain ⟨⟨e1, y1, m1⟩, hcq⟩ : ∃ z, codeF 2 (u.drop (k + 1)) = z := ⟨_, rfl⟩
                  rw [hcq] at hR
                  have HZ := hide hR
                  have HCQ := hide hcq
                  clear hR hcq h117 h120
                  go_wp2_with (first | (go_at_call 27; refine (lis_digit (j := 0) hM.out.rd rfl har.out hk1 hl (by omega) HD.out).mono ?_; rintro e2 w2 ⟨rfl, m2, hw2⟩; subst hw2) | (go_at_call 24; refine (ldigit_any _ _).mono ?_; rintro e2 w2 ⟨rfl, rfl⟩) | (go_at_call 19; refine (lline_any _ _).mono ?_; rintro e2 w2 ⟨rfl, rfl⟩) | (go_at_call 39; refine (lparts_any _ _).mono ?_; rintro e2 w2 ⟨rfl, rfl⟩) | (go_at_call 20; refine (lhas_any ⟨#[123]⟩ hM.out.rd rfl har.out hk1 hl (by decide) HB.out).mono ?_; rintro e2 w2 ⟨rfl, m2, hw2⟩; subst hw2) | (go_at_call 69; refine (lcode_any (cnt := 2) hM.out.rd rfl har.out hB hk1 hl (by omega) HCQ.out).mono ?_; rintro e3 w3 ⟨rfl, hM3, hG3⟩))
                  go_ret2
                  exact code_end HZ.out hM3 hG3 hM.out.grown
                · have e120 : ((x.toNat : Int) == 120) = false := beq_eq_false_iff_ne.2 (by omega)
                  rw [if_neg h120, if_neg h117] at hR
                  have HZ := hide hR
                  clear hR h117 h120
                  go_wp2_with (first | (go_at_call 27; refine (lis_digit (j := 0) hM.out.rd rfl har.out hk1 hl (by omega) HD.out).mono ?_; rintro e2 w2 ⟨rfl, m2, hw2⟩; subst hw2) | (go_at_call 24; refine (ldigit_any _ _).mono ?_; rintro e2 w2 ⟨rfl, rfl⟩) | (go_at_call 19; refine (lline_any _ _).mono ?_; rintro e2 w2 ⟨rfl, rfl⟩) | (go_at_call 39; refine (lparts_any _ _).mono ?_; rintro e2 w2 ⟨rfl, rfl⟩) | (go_at_call 20; refine (lhas_any ⟨#[123]⟩ hM.out.rd rfl har.out hk1 hl (by decide) HB.out).mono ?_; rintro e2 w2 ⟨rfl, m2, hw2⟩; subst hw2))
                  go_ret2
                  obtain ⟨z1, z2, z3⟩ := triple HZ.out
                  subst z1 z2 z3
                  exact ⟨rfl, fun _ => hM.out, hM.out.grown⟩
  · obtain rfl : k = u.length := by omega
    rw [List.drop_length] at hq
    have HQ := hide hq
    have hM0 := hide (Mv.refl hr)
    clear hq hr ha
    go_enter Try.func46, Try.ntmps46
    go_wp2_with fail
    go_quiet (fail)
    go_wp2
    go_ret2
    have hq := HQ.out
    simp only [escF, Prod.mk.injEq] at hq
    obtain ⟨q1, q2, q3⟩ := hq
    subst q1 q2 q3
    exact ⟨rfl, fun h => absurd h (by decide), (hM0.out.drewN _).grown⟩
end Go.Proofs.Ytbljbmeifmpfoaa

namespace Go.Proofs.Ytbljbmeifmpfoaa
open Go.RowKit

theorem quo_fuel (q : UInt16) : ∀ (f g : Nat) (l : List UInt16) (acc : List UInt16), l.length < f → l.length < g → quoN q f l acc = quoN q g l acc := by
  intro f
  induction f with
  | zero => intro g l acc hf _; omega
  | succ f ih =>
    intro g l acc hf hg
    obtain ⟨g, rfl⟩ : ∃ m, g = m + 1 := ⟨g - 1, by omega⟩
    cases l with
    | nil => rfl
    | cons x r =>
      simp only [List.length_cons] at hf hg
      unfold quoN
      rw [ih g r (acc ++ [x]) (by omega) (by omega)]
      by_cases he : (escF r).1 ≠ 0
      · simp only [he, if_true, ne_eq, not_false_eq_true]
      · have h5 := esc_len (Decidable.not_not.1 he)
        rw [ih g (r.drop (escF r).2.2) (acc ++ [(escF r).2.1]) (by rw [List.length_drop]; omega) (by rw [List.length_drop]; omega)]
/-- from a place on, with the units so far -/
def quoL (q : UInt16) (l acc : List UInt16) : Nat × List UInt16 × Nat := quoN q (l.length + 1) l acc
def plusQ (n : Nat) (p : Nat × List UInt16 × Nat) : Nat × List UInt16 × Nat := (p.1, p.2.1, n + p.2.2)
theorem quoL_nil (q : UInt16) (acc : List UInt16) : quoL q [] acc = (5, [], 0) := rfl
theorem quoL_line {q x : UInt16} {r acc : List UInt16} (h : isLine x = true) : quoL q (x :: r) acc = (5, [], 0) := by
  unfold quoL; rw [quoN, if_pos h]
theorem quoL_end {q : UInt16} {r acc : List UInt16} (h : isLine q = false) : quoL q (q :: r) acc = (0, acc, 1) := by
  unfold quoL; rw [quoN, if_neg (by rw [h]; simp), if_pos rfl]
theorem quoL_plain {q x : UInt16} {r acc : List UInt16} (h : isLine x = false) (h2 : x ≠ q) (h3 : x.toNat ≠ 92) : quoL q (x :: r) acc = plusQ 1 (quoL q r (acc ++ [x])) := by
  unfold quoL; rw [quoN, if_neg (by rw [h]; simp), if_neg h2, if_neg h3]; rfl
theorem quoL_bad {q x : UInt16} {r acc : List UInt16} (h : isLine x = false) (h2 : x ≠ q) (h3 : x.toNat = 92) (h4 : (escF r).1 ≠ 0) : quoL q (x :: r) acc = ((escF r).1, [], 0) := by
  unfold quoL; rw [quoN, if_neg (by rw [h]; simp), if_neg h2, if_pos h3, if_pos h4]
theorem quoL_esc {q x y : UInt16} {r acc : List UInt16} {n : Nat} (h : isLine x = false) (h2 : x ≠ q) (h3 : x.toNat = 92) (h4 : escF r = (0, y, n)) : quoL q (x :: r) acc = plusQ (1 + n) (quoL q (r.drop n) (acc ++ [y])) := by
  have h5 := esc_len (l := r) (by rw [h4])
  rw [h4] at h5
  unfold quoL
  rw [quoN, if_neg (by rw [h]; simp), if_neg h2, if_pos h3, h4, if_neg (by simp)]
  simp only [List.length_cons]
  rw [quo_fuel q (r.length + 1) ((r.drop n).length + 1) _ _ (by rw [List.length_drop]; omega) (by omega)]
  rfl
end Go.Proofs.Ytbljbmeifmpfoaa
