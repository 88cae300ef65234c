/- big.trim, big.made, big.digits: walked. No condition but the lengths. -/
import Derived.Test.YtngcikgjdeomdaaBigSpec
import Derived.Test.YtngcikgjdeomdaaLexBase
import Derived.Test.YtngcikgjdeomdaaSmall
import Derived.Laws.OwnMore
namespace Go.Proofs.Ytngcikgjdeomdaa
open Go.RowKit

def u32s (l : List Nat) : List Value := l.map fun n : Nat => Value.int .u32 (n : Int)
theorem u32s_len (l : List Nat) : (u32s l).length = l.length := by simp [u32s]
theorem u32s_get {l : List Nat} {j : Nat} (h : j < l.length) : (u32s l)[j]? = some (.int .u32 (l[j] : Int)) := by
  simp [u32s, List.getElem?_eq_getElem h]
theorem u32s_take (l : List Nat) (k : Nat) : (u32s l).take k = u32s (l.take k) := by simp [u32s]
theorem u32s_app (l r : List Nat) : u32s l ++ u32s r = u32s (l ++ r) := by simp [u32s]
/-- The head of a slice that a call has made. -/
theorem own_take {w : World} {base : Nat} {e : TypeId} {A : Option Addr} {n c j : Nat} {xs : List Value} (h : w.ownsRow base e 1 (.slice A n c) n xs) (hj : j ≤ n) : w.ownsRow base e 1 (.slice A j c) j (xs.take j) := by
  refine ⟨by rw [List.length_take, h.1]; omega, ?_⟩
  rcases h.2 with ⟨h1, h2⟩ | ⟨g, cap, cur, h1, hb, hg, hn, hc, hs, ht⟩
  · left
    injection h1 with h3 h4 h5
    subst h2
    obtain rfl : j = 0 := by omega
    exact ⟨by rw [h3, h5], rfl⟩
  · right
    injection h1 with h3 h4 h5
    subst h3 h5
    refine ⟨g, c, cur, rfl, hb, hg, by omega, hc, hs, ?_⟩
    rw [← ht, List.take_take]
    congr 1
    omega
theorem Reads.spotV {w : World} {B n : Nat} {A : Option Addr} {xs : List Value} (h : Reads w B 1 A n xs) (h0 : 0 < n) :
    ∃ b off, A = some ⟨b, off, none⟩ ∧ b < B ∧ ∀ j u, xs[j]? = some u → w.cell? ⟨b, off + j, none⟩ = some u := by
  obtain ⟨ad, u, e, hb, hx, hc⟩ := h.at_ h0
  have hs : ad.spot = none := by
    cases hsp : ad.spot with
    | none => rfl
    | some s =>
      exfalso
      rw [Addr.add_zero] at hc
      simp only [World.cell?, hsp] at hc
      split at hc
      · simp at hc
      · cases hc
  obtain ⟨b, off, sp⟩ := ad
  simp only at hs
  subst hs
  refine ⟨b, off, e, hb, fun j v hv => ?_⟩
  have hj : j < n := by
    have := (List.getElem?_eq_some_iff.1 hv).1
    have h1 := h.1
    omega
  obtain ⟨ad', u', e', _, hx', h1⟩ := h.at_ hj
  rw [e] at e'
  injection e' with e'
  subst e'
  rw [Addr.add_lit] at h1
  rw [h1, ← hx', hv]

set_option maxHeartbeats 2000000 in
set_option maxRecDepth 1000000 in
theorem btrim_is {A : Option Addr} {c B n m : Nat} {xs : List Nat} {w : World} (hn : xs.length = n) (ha : Reads w B 1 A n (u32s xs)) (hl : n ≤ 4096) (hc : n ≤ c) (hc2 : c ≤ maxLen) (hm : (trimL xs).length = m) :
    Calls Try.prog 92 #[.slice A n c] w fun e w' => e = .returned (.slice A m c) ∧ w = w' := by
  have HA := hide ha
  have HM := hide hm
  have HN := hide hn
  unfold maxLen at hc2
  clear ha hm hn
  go_enter Try.func92, Try.ntmps92
  go_wp2
  go_loop [0] (fun v => ∃ j : Nat, v = .slice A j c ∧ j ≤ n ∧ Hid (trimL (xs.take j) = trimL xs)) (fun v => match v with | .slice _ j _ => j | _ => 0)
  case atStart => exact ⟨n, rfl, Nat.le_refl _, hide (by rw [← HN.out, List.take_length])⟩
  case round =>
    obtain ⟨j, rfl, hj, hT⟩ := hrel
    cases j with
    | zero =>
      have hz := hide (show m = 0 by
        have := hT.out
        rw [List.take_zero] at this
        rw [← HM.out, ← this]; rfl)
      go_wp2
      go_ret
      obtain rfl := hz.out
      exact ⟨rfl, rfl⟩
    | succ i =>
      have hx := HN.out
      obtain ⟨b, off, rfl, hbB, hcell⟩ := HA.out.spotV (by omega)
      have hi : i < xs.length := by omega
      have hca := hcell i _ (u32s_get hi)
      have hsn := hide (show xs.take (i + 1) = xs.take i ++ [xs[i]] from List.take_succ_eq_append_getElem hi)
      obtain ⟨x, hxx⟩ : ∃ x, xs[i] = x := ⟨_, rfl⟩
      rw [hxx] at hca hsn
      clear hcell hxx hx
      by_cases h0 : x = 0
      · have e1 : ((x : Int) == 0) = true := by rw [h0]; rfl
        have hz := hide (show trimL (xs.take i) = trimL xs by rw [← hT.out, hsn.out, h0, trimL_zero])
        clear h0
        go_wp2
        go_round
        case rel => exact ⟨i, rfl, by omega, hz.out⟩
        case measure => simp
      · have e1 : ((x : Int) == 0) = false := beq_eq_false_iff_ne.2 (by omega)
        have hz := hide (show m = i + 1 by
          rw [← HM.out, ← hT.out, hsn.out, trimL_stop h0, List.length_append, List.length_take]
          simp; omega)
        clear h0
        go_wp2
        go_ret
        obtain rfl := hz.out
        exact ⟨rfl, rfl⟩
def madeV (m : Nat) (A : Option Addr) (c : Nat) : Value := if m = 0 then .slice none 0 0 else .slice A m c
theorem ret_v {a b : Value} (h : a = b) : Ending.returned a = .returned b := by rw [h]
set_option maxHeartbeats 2000000 in
set_option maxRecDepth 1000000 in
theorem bmade_is {A : Option Addr} {c B n m : Nat} {xs : List Nat} {w : World} (hn : xs.length = n) (ha : Reads w B 1 A n (u32s xs)) (hB : B ≤ w.heap.size) (hl : n ≤ 4096) (hc : n ≤ c) (hc2 : c ≤ maxLen) (hm : (trimL xs).length = m) :
    Calls Try.prog 93 #[.slice A n c, .bool false] w fun e w' => e = .returned (.agg #[.bool false, madeV m A c]) ∧ Below w.heap.size w w' := by
  have HA := hide (ha.alloc hB (.cells #[.bool false, .slice none 0 0] 37))
  have HM := hide hm
  have HN := hide hn
  clear ha hm hn
  by_cases h0 : m = 0
  · have HI := hide (show madeV m A c = .slice none 0 0 from if_pos h0)
    have e1 : ((m : Int) == 0) = true := by rw [h0]; rfl
    clear h0
    go_enter Try.func93, Try.ntmps93
    go_wp2_with (go_at_call 92; refine (btrim_is HN.out HA.out hl hc hc2 HM.out).mono ?_; rintro e w' ⟨rfl, rfl⟩)
    rw [HI.out]
    exact bodyPost_ret (v := .agg #[.bool false, .slice none 0 0]) (by simp [results, Try.results93, go_sem]) rfl ⟨rfl, (Below.refl _ _).alloc (Nat.le_refl _) _⟩
  · have HI := hide (show madeV m A c = .slice A m c from if_neg h0)
    have e1 : ((m : Int) == 0) = false := beq_eq_false_iff_ne.2 (by omega)
    clear h0
    go_enter Try.func93, Try.ntmps93
    go_wp2_with (go_at_call 92; refine (btrim_is HN.out HA.out hl hc hc2 HM.out).mono ?_; rintro e w' ⟨rfl, rfl⟩)
    rw [HI.out]
    exact bodyPost_ret (v := .agg #[.bool false, .slice A m c]) (by simp [results, Try.results93, go_sem]) rfl ⟨rfl, (Below.refl _ _).alloc (Nat.le_refl _) _⟩

/-- digits as bytes -/
theorem asc_at {s : ByteArray} {l : List UInt16} (h : s.data.toList = asc l) (hd : ∀ x ∈ l, isDigit x = true) : s.size = l.length ∧ ∀ i (hi : i < s.size) (hj : i < l.length), s[i].toNat = l[i].toNat ∧ 48 ≤ s[i].toNat ∧ s[i].toNat ≤ 57 := by
  have h1 : s.size = l.length := by
    have := congrArg List.length h
    simpa [asc] using this
  refine ⟨h1, fun i hi hj => ?_⟩
  have h2 : s.data.toList[i]? = (asc l)[i]? := by rw [h]
  have h3 : s[i] = l[i].toUInt8 := by
    have e1 : s.data.toList[i]? = some s[i] := by
      rw [List.getElem?_eq_getElem (by simpa using hi)]; rfl
    have e2 : (asc l)[i]? = some l[i].toUInt8 := by simp [asc, List.getElem?_eq_getElem hj]
    rw [e1, e2] at h2
    exact Option.some.inj h2
  have h4 := hd l[i] (List.getElem_mem hj)
  simp only [isDigit, Bool.and_eq_true, decide_eq_true_eq] at h4
  have h5 : l[i].toUInt8.toNat = l[i].toNat % 256 := rfl
  rw [h3, h5]
  omega
set_option maxHeartbeats 2000000 in
set_option maxRecDepth 100000 in
theorem bdigits_is {s : ByteArray} {l : List UInt16} (h : s.data.toList = asc l) (hd : ∀ x ∈ l, isDigit x = true) (h0 : 0 < l.length) (hz : l[0] ≠ 48 ∨ l = [48]) (hl : l.length ≤ 4096) (w : World) :
    Calls Try.prog 91 #[.string s] w fun e w' => e = .returned (.bool true) ∧ w = w' := by
  obtain ⟨hs, hget⟩ := asc_at h hd
  have HG := hide (show ∀ i (hi : i < s.size), 48 ≤ s[i].toNat ∧ s[i].toNat ≤ 57 from fun i hi => (hget i hi (by omega)).2)
  have hs1 : s.size ≤ 4096 := by omega
  have hs0 : 0 < s.size := by omega
  have hem : s.toList ≠ [] := by
    rw [ByteArray.toList_eq, h]
    intro h2
    have := congrArg List.length h2
    rw [asc, List.length_map, List.length_nil] at this
    omega
  have e1 : (s.toList == []) = false := beq_eq_false_iff_ne.2 hem
  have e2 : s.toList.isEmpty = false := by
    cases hh : s.toList with
    | nil => exact absurd hh hem
    | cons => rfl
  have hcase : ((s[0].toNat : Int) != 48) = true ∨ s = ⟨#[48]⟩ := by
    rcases hz with hz | hz
    · left
      rw [bne_iff_ne]
      intro h3
      have := (hget 0 hs0 h0).1
      exact hz (UInt16.toNat_inj.1 (by show l[0].toNat = 48; omega))
    · right
      have h4 : s = ⟨#[48]⟩ := by
        cases s with
        | mk d =>
          simp only at h
          rw [hz] at h
          have : d = #[48] := by
            apply Array.toList_inj.1
            rw [h]; rfl
          rw [this]
      exact h4
  clear hget h hz hem
  rcases hcase with h3 | rfl
  · go_enter Try.func91, Try.ntmps91
    go_wp2
    go_loop [6] (fun i => ∃ k : Nat, k ≤ s.size ∧ i = .int .i64 k) (fun i => s.size - (intOf i).toNat)
    case atStart => exact ⟨0, Nat.zero_le _, rfl⟩
    case round =>
      obtain ⟨k, hk, rfl⟩ := hrel
      by_cases hlt : k < s.size
      · have hb := HG.out k hlt
        go_wp2
        go_round
        case rel => exact ⟨k + 1, by omega, by go_num⟩
        case measure => simp [intOf]; omega
      · go_wp2
        go_ret
        exact ⟨rfl, rfl⟩
  · clear e1 e2 HG hs hs1 hs0
    go_enter Try.func91, Try.ntmps91
    go_wp2
    go_loop [6] (fun i => ∃ k : Nat, k ≤ 1 ∧ i = .int .i64 k) (fun i => 1 - (intOf i).toNat)
    case atStart => exact ⟨0, Nat.zero_le _, rfl⟩
    case round =>
      obtain ⟨k, hk, rfl⟩ := hrel
      by_cases hlt : k = 0
      · subst hlt
        go_wp2
        go_round
        case rel => exact ⟨1, by omega, rfl⟩
        case measure => simp [intOf]
      · obtain rfl : k = 1 := by omega
        go_wp2
        go_ret
        exact ⟨rfl, rfl⟩
end Go.Proofs.Ytngcikgjdeomdaa
