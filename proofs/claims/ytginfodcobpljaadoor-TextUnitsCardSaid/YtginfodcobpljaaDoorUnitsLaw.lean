/- Bytes as units, in plain Lean: what well formed bytes are when they are cut, or joined. No program is walked here. -/
import Derived.Test.YtginfodcobpljaaDoorSpecU
namespace Go.Proofs.YtginfodcobpljaaDoor
open Go.Lib

theorem isBad_iff (p : Nat × Nat) : isBad p = true ↔ p.1 = 65533 ∧ p.2 ≤ 1 := by simp [isBad]
theorem isBad_not (p : Nat × Nat) : isBad p = false ↔ ¬ (p.1 = 65533 ∧ p.2 ≤ 1) := by rw [← isBad_iff]; simp
set_option maxHeartbeats 4000000 in
theorem decodeN_same {n m b0 b1 b2 b3 c1 c2 c3 : Nat} (hg : isBad (decodeN n b0 b1 b2 b3) = false) (hm : (decodeN n b0 b1 b2 b3).2 ≤ m)
    (h1 : 1 < (decodeN n b0 b1 b2 b3).2 → c1 = b1) (h2 : 2 < (decodeN n b0 b1 b2 b3).2 → c2 = b2) (h3 : 3 < (decodeN n b0 b1 b2 b3).2 → c3 = b3) : decodeN m b0 c1 c2 c3 = decodeN n b0 b1 b2 b3 := by
  rw [isBad_not] at hg
  by_cases k0 : b0 < 128
  · simp only [decodeN, k0, if_true]
  by_cases k1 : b0 / 32 = 6 ∧ (1 < n ∧ b1 / 64 = 2)
  · by_cases k2 : b0 % 32 * 64 + b1 % 64 ≥ 128
    · have e : decodeN n b0 b1 b2 b3 = (b0 % 32 * 64 + b1 % 64, 2) := by simp only [decodeN, k0, k1, k2, and_self, if_true, if_false]
      rw [e] at hm h1 ⊢
      have := h1 (by omega)
      subst this
      have k3 : 1 < m := by simp only at hm; omega
      simp only [decodeN, k0, k1, k2, k3, and_self, if_true, if_false]
    · have e : decodeN n b0 b1 b2 b3 = (65533, 1) := by simp only [decodeN, k0, k1, k2, and_self, if_true, if_false]
      rw [e] at hg
      exact absurd ⟨rfl, Nat.le_refl _⟩ hg
  by_cases k2 : b0 / 16 = 14 ∧ (1 < n ∧ b1 / 64 = 2) ∧ (2 < n ∧ b2 / 64 = 2)
  · by_cases k3 : b0 % 16 * 4096 + b1 % 64 * 64 + b2 % 64 ≥ 2048 ∧ (b0 % 16 * 4096 + b1 % 64 * 64 + b2 % 64 < 55296 ∨ (57344 ≤ b0 % 16 * 4096 + b1 % 64 * 64 + b2 % 64 ∧ b0 % 16 * 4096 + b1 % 64 * 64 + b2 % 64 ≤ 1114111))
    · have e : decodeN n b0 b1 b2 b3 = (b0 % 16 * 4096 + b1 % 64 * 64 + b2 % 64, 3) := by
        unfold decodeN
        rw [if_neg k0, if_neg k1, if_pos k2, if_pos k3]
      rw [e] at hm h1 h2 ⊢
      have := h1 (by omega)
      have := h2 (by omega)
      subst c1 c2
      have k4 : 1 < m ∧ 2 < m := by simp only at hm; omega
      unfold decodeN
      rw [if_neg k0, if_neg (by omega), if_pos ⟨k2.1, ⟨k4.1, k2.2.1.2⟩, k4.2, k2.2.2.2⟩, if_pos k3]
    · have e : decodeN n b0 b1 b2 b3 = (65533, 1) := by
        unfold decodeN
        rw [if_neg k0, if_neg k1, if_pos k2, if_neg k3]
      rw [e] at hg
      exact absurd ⟨rfl, Nat.le_refl _⟩ hg
  by_cases k3 : b0 / 8 = 30 ∧ (1 < n ∧ b1 / 64 = 2) ∧ (2 < n ∧ b2 / 64 = 2) ∧ (3 < n ∧ b3 / 64 = 2)
  · by_cases k4 : b0 % 8 * 262144 + b1 % 64 * 4096 + b2 % 64 * 64 + b3 % 64 ≥ 65536 ∧ (b0 % 8 * 262144 + b1 % 64 * 4096 + b2 % 64 * 64 + b3 % 64 < 55296 ∨ (57344 ≤ b0 % 8 * 262144 + b1 % 64 * 4096 + b2 % 64 * 64 + b3 % 64 ∧ b0 % 8 * 262144 + b1 % 64 * 4096 + b2 % 64 * 64 + b3 % 64 ≤ 1114111))
    · have e : decodeN n b0 b1 b2 b3 = (b0 % 8 * 262144 + b1 % 64 * 4096 + b2 % 64 * 64 + b3 % 64, 4) := by
        unfold decodeN
        rw [if_neg k0, if_neg k1, if_neg k2, if_pos k3, if_pos k4]
      rw [e] at hm h1 h2 h3 ⊢
      have := h1 (by omega)
      have := h2 (by omega)
      have := h3 (by omega)
      subst c1 c2 c3
      have k5 : 1 < m ∧ 2 < m ∧ 3 < m := by simp only at hm; omega
      unfold decodeN
      rw [if_neg k0, if_neg (by omega), if_neg (by omega), if_pos ⟨k3.1, ⟨k5.1, k3.2.1.2⟩, ⟨k5.2.1, k3.2.2.1.2⟩, k5.2.2, k3.2.2.2.2⟩, if_pos k4]
    · have e : decodeN n b0 b1 b2 b3 = (65533, 1) := by
        unfold decodeN
        rw [if_neg k0, if_neg k1, if_neg k2, if_pos k3, if_neg k4]
      rw [e] at hg
      exact absurd ⟨rfl, Nat.le_refl _⟩ hg
  · have e : decodeN n b0 b1 b2 b3 = (65533, 1) := by
      unfold decodeN
      rw [if_neg k0, if_neg k1, if_neg k2, if_neg k3]
    rw [e] at hg
    exact absurd ⟨rfl, Nat.le_refl _⟩ hg
theorem decodeN_width {n b0 b1 b2 b3 : Nat} (h : 1 < (decodeN n b0 b1 b2 b3).2) :
    128 ≤ b0 ∧ ((decodeN n b0 b1 b2 b3).2 = 2 ∧ b0 / 32 = 6 ∨ (decodeN n b0 b1 b2 b3).2 = 3 ∧ b0 / 16 = 14 ∨ (decodeN n b0 b1 b2 b3).2 = 4 ∧ b0 / 8 = 30) := by
  unfold decodeN at h ⊢
  repeat' split
  all_goals first | (exfalso; simp_all; omega) | omega | (simp_all; omega) | simp_all
theorem decodeN_short {n m b0 b1 b2 b3 c1 c2 c3 : Nat} (hm : m < (decodeN n b0 b1 b2 b3).2) (h0 : 0 < m) : isBad (decodeN m b0 c1 c2 c3) = true := by
  have h := decodeN_width (n := n) (b0 := b0) (b1 := b1) (b2 := b2) (b3 := b3) (by omega)
  obtain ⟨h1, h2⟩ := h
  have e : decodeN m b0 c1 c2 c3 = (65533, 1) := by
    unfold decodeN
    rw [if_neg (by omega)]
    rcases h2 with ⟨h3, h4⟩ | ⟨h3, h4⟩ | ⟨h3, h4⟩
    · rw [if_neg (by omega), if_neg (by omega), if_neg (by omega)]
    · rw [if_neg (by omega), if_neg (by omega), if_neg (by omega)]
    · rw [if_neg (by omega), if_neg (by omega), if_neg (by omega)]
  rw [e]
  rfl
theorem getD_take {l c : List UInt8} {k j : Nat} (h : c.take k = l.take k) (hj : j < k) : c.getD j 0 = l.getD j 0 := by
  have e := congrArg (·[j]?) h
  simp only [List.getElem?_take, hj, if_true] at e
  simp only [List.getD_eq_getElem?_getD, e]
theorem dec_same {l c : List UInt8} (h0 : 0 < l.length) (hg : isBad (dec l) = false) (h : c.take (dec l).2 = l.take (dec l).2) : dec c = dec l := by
  have hk := dec_ok h0
  have hlen : (dec l).2 ≤ c.length := by
    have := congrArg List.length h
    simp only [List.length_take] at this
    omega
  have e0 : c.getD 0 0 = l.getD 0 0 := getD_take h (by omega)
  have e1 : 1 < (dec l).2 → (c.getD 1 0).toNat = (l.getD 1 0).toNat := fun hh => by rw [getD_take h hh]
  have e2 : 2 < (dec l).2 → (c.getD 2 0).toNat = (l.getD 2 0).toNat := fun hh => by rw [getD_take h hh]
  have e3 : 3 < (dec l).2 → (c.getD 3 0).toNat = (l.getD 3 0).toNat := fun hh => by rw [getD_take h hh]
  unfold dec at hg hlen e1 e2 e3 ⊢
  rw [e0]
  exact decodeN_same hg hlen e1 e2 e3
theorem dec_short {l : List UInt8} {k : Nat} (hk : 0 < k) (h : k < (dec l).2) : isBad (dec (l.take k)) = true := by
  have hl : 0 < l.length := by
    cases l with
    | nil => simp [dec, decodeN] at h; omega
    | cons x r => simp
  have hok := dec_ok hl
  have e0 : (l.take k).getD 0 0 = l.getD 0 0 := getD_take (k := 1) (by rw [List.take_take]; congr 1; omega) (by omega)
  unfold dec at h ⊢
  rw [e0]
  refine decodeN_short (n := l.length) (b1 := (l.getD 1 0).toNat) (b2 := (l.getD 2 0).toNat) (b3 := (l.getD 3 0).toNat) ?_ ?_
  · rw [List.length_take]
    exact Nat.lt_of_le_of_lt (Nat.min_le_left _ _) h
  · rw [List.length_take]
    omega

/-- Well formed bytes with others behind them. -/
theorem units_join (b : List UInt8) : ∀ (n : Nat) (a : List UInt8), a.length = n → (unitsF a).2 = none → unitsF (a ++ b) = ((unitsF a).1 ++ (unitsF b).1, (unitsF b).2.map (· + a.length)) := by
  intro n
  induction n using Nat.strongRecOn with
  | _ n ih =>
    intro a hn ha
    by_cases h0 : a.length = 0
    · have := List.eq_nil_of_length_eq_zero h0
      subst this
      rw [unitsF_nil]
      cases hb : (unitsF b).2 <;> simp [← hb]
    · have h0 : 0 < a.length := by omega
      by_cases hbad : isBad (dec a) = true
      · rw [unitsF_bad h0 hbad] at ha
        simp at ha
      · have hg : isBad (dec a) = false := by simpa using hbad
        have hok := dec_ok h0
        have hd : dec (a ++ b) = dec a := dec_same h0 hg (by rw [List.take_append_of_le_length (by omega)])
        have hrest : (a ++ b).drop (dec a).2 = a.drop (dec a).2 ++ b := List.drop_append_of_le_length (by omega)
        rw [unitsF_good h0 hg] at ha
        simp only [Option.map_eq_none_iff] at ha
        have hi := ih (a.drop (dec a).2).length (by rw [List.length_drop]; omega) (a.drop (dec a).2) rfl ha
        rw [unitsF_good (b := a ++ b) (by simp; omega) (by rw [hd]; exact hg), hd, hrest, hi, unitsF_good h0 hg]
        simp only [List.append_assoc, Option.map_map, Prod.mk.injEq, true_and]
        congr 1
        funext x
        simp only [Function.comp, List.length_drop]
        omega

/-- Well formed bytes, cut off. -/
theorem units_cut : ∀ (n : Nat) (b : List UInt8) (cut : Nat), b.length = n → cut ≤ b.length → (unitsF b).2 = none →
    ((unitsF (b.take cut)).2 = none → (unitsF (b.take cut)).1 <+: (unitsF b).1) ∧
    (∀ k, (unitsF (b.take cut)).2 = some k → k < cut ∧ cut - k < 4 ∧ (unitsF (b.take k)).2 = none ∧ (unitsF (b.take k)).1 <+: (unitsF b).1) := by
  intro n
  induction n using Nat.strongRecOn with
  | _ n ih =>
    intro b cut hn hc hb
    by_cases h0 : cut = 0
    · subst h0
      rw [List.take_zero, unitsF_nil]
      exact ⟨fun _ => List.nil_prefix, fun k hk => by simp at hk⟩
    · have hl : 0 < b.length := by omega
      by_cases hbad : isBad (dec b) = true
      · rw [unitsF_bad hl hbad] at hb
        simp at hb
      · have hg : isBad (dec b) = false := by simpa using hbad
        have hok := dec_ok hl
        rw [unitsF_good hl hg] at hb
        simp only [Option.map_eq_none_iff] at hb
        by_cases hw : cut < (dec b).2
        · have hs := dec_short (l := b) (by omega) hw
          rw [unitsF_bad (by rw [List.length_take]; omega) hs]
          refine ⟨fun h => by simp at h, fun k hk => ?_⟩
          simp only [Option.some.injEq] at hk
          subst hk
          rw [List.take_zero, unitsF_nil]
          exact ⟨by omega, by omega, rfl, List.nil_prefix⟩
        · have hd : ∀ m, (dec b).2 ≤ m → dec (b.take m) = dec b := fun m hm => dec_same hl hg (by rw [List.take_take]; congr 1; omega)
          have hrest : ∀ m, (b.take m).drop (dec b).2 = (b.drop (dec b).2).take (m - (dec b).2) := fun m => by rw [List.drop_take]
          obtain ⟨i1, i2⟩ := ih (b.drop (dec b).2).length (by rw [List.length_drop]; omega) (b.drop (dec b).2) (cut - (dec b).2) rfl (by rw [List.length_drop]; omega) hb
          have hu : ∀ m, (dec b).2 ≤ m → m ≤ b.length → unitsF (b.take m) = (enc16 (dec b).1 ++ (unitsF ((b.drop (dec b).2).take (m - (dec b).2))).1, (unitsF ((b.drop (dec b).2).take (m - (dec b).2))).2.map (· + (dec b).2)) := fun m hm hm2 => by
            rw [unitsF_good (b := b.take m) (by rw [List.length_take]; omega) (by rw [hd m hm]; exact hg), hd m hm, hrest]
          rw [hu cut (by omega) hc, unitsF_good hl hg]
          refine ⟨fun h => ?_, fun k hk => ?_⟩
          · simp only [Option.map_eq_none_iff] at h
            obtain ⟨s, hs⟩ := i1 h
            exact ⟨s, by simp only [List.append_assoc]; rw [hs]⟩
          · simp only [Option.map_eq_some_iff] at hk
            obtain ⟨k', hk', rfl⟩ := hk
            obtain ⟨j1, j2, j3, j4⟩ := i2 k' hk'
            rw [hu (k' + (dec b).2) (by omega) (by omega), Nat.add_sub_cancel]
            refine ⟨by omega, by omega, by simp only [j3, Option.map_none], ?_⟩
            obtain ⟨s, hs⟩ := j4
            exact ⟨s, by simp only [List.append_assoc]; rw [hs]⟩
theorem enc16_len {p : Nat × Nat} (h : 1 ≤ p.2) (h4 : 65536 ≤ p.1 → p.2 = 4) : (enc16 p.1).length ≤ p.2 := by
  unfold enc16
  split
  · simpa using h
  · rw [h4 (by omega)]; simp
/-- There are no more units than bytes; a bad sign lies ahead of the end. -/
theorem units_size : ∀ (n : Nat) (b : List UInt8), b.length = n → (unitsF b).1.length ≤ b.length ∧ ∀ k, (unitsF b).2 = some k → k < b.length := by
  intro n
  induction n using Nat.strongRecOn with
  | _ n ih =>
    intro b hn
    by_cases h0 : b.length = 0
    · have := List.eq_nil_of_length_eq_zero h0
      subst this
      rw [unitsF_nil]
      exact ⟨Nat.le_refl _, fun k hk => by simp at hk⟩
    · have hl : 0 < b.length := by omega
      by_cases hbad : isBad (dec b) = true
      · rw [unitsF_bad hl hbad]
        exact ⟨Nat.zero_le _, fun k hk => by simp at hk; omega⟩
      · have hg : isBad (dec b) = false := by simpa using hbad
        have hok := dec_ok hl
        obtain ⟨i1, i2⟩ := ih (b.drop (dec b).2).length (by rw [List.length_drop]; omega) (b.drop (dec b).2) rfl
        rw [unitsF_good hl hg]
        rw [List.length_drop] at i1 i2
        have he := enc16_len hok.1 hok.2.2.2.2.2
        refine ⟨by simp only [List.length_append]; omega, fun k hk => ?_⟩
        simp only [Option.map_eq_some_iff] at hk
        obtain ⟨k', hk', rfl⟩ := hk
        have := i2 k' hk'
        omega
theorem uOut_len (b : List UInt8) : (uOut b).length ≤ 4096 := by
  unfold uOut
  split
  · simp
  · have := (units_size _ b rfl).1
    split
    · omega
    · simp
theorem uAt_lt (b : List UInt8) : uAt b ≤ 4096 := by
  unfold uAt
  split
  · simp
  · cases h : (unitsF b).2 with
    | none => simp
    | some k => have := (units_size _ b rfl).2 k h; simp; omega
end Go.Proofs.YtginfodcobpljaaDoor
