/- text.value, text.Key, text.strange: their contracts. No condition but the lengths. -/
import Derived.Test.YtginfodcobpljaaDoorSearch
import Derived.Test.YtginfodcobpljaaDoorAscii
namespace Go.Proofs.YtginfodcobpljaaDoor
open Go.RowKit


/-- value: the number, where it is not too great. -/
def Valued (d : List UInt16) (w : World) (e : Ending) (w' : World) : Prop := ∃ n : Int, e = .returned (.tuple #[.int .i64 n, .bool (decide (decVal d ≤ 9007199254740991))]) ∧ (decVal d ≤ 9007199254740991 → n = decVal d) ∧ w = w'

set_option maxHeartbeats 400000 in
theorem value_any {A : Option Addr} {c B : Nat} {xs : List UInt16} {w : World} (ha : Reads w B 1 A xs.length (u16s xs)) (hl : xs.length ≤ 70368744177664) (hd : ∀ x ∈ xs, isDigit x = true) :
    Calls Tryd.prog 41 #[.slice A xs.length c] w (Valued xs w) := by
  have HD := hide hd
  clear hd
  go_enter Tryd.func41, Tryd.ntmps41
  go_wp2
  go_loop [4, 9] (fun n i => ∃ k : Nat, k ≤ xs.length ∧ i = .int .i64 k ∧ n = .int .i64 (decVal (xs.take k)) ∧ decVal (xs.take k) < 9007199254750991) (fun _ i => xs.length - (intOf i).toNat)
  case atStart => exact ⟨0, Nat.zero_le _, rfl, rfl, Nat.zero_lt_succ _⟩
  case round =>
    obtain ⟨k, hk, rfl, rfl, hn⟩ := hrel
    by_cases hlt : k < xs.length
    · obtain ⟨ad, rfl, _, hca⟩ := ha.u16 hlt
      have h3 : (k : Int) < (xs.length : Int) := by omega
      obtain ⟨hx1, hx2⟩ := isDigit_iff.1 (HD.out xs[k] (List.getElem_mem _))
      have h10 := decVal_take_lt xs k hlt
      have hsu := decVal_take_succ xs k hlt
      have HS := hide hsu
      clear hsu
      obtain ⟨m, hm⟩ : ∃ m, decVal (xs.take k) = m := ⟨_, rfl⟩
      rw [hm] at hn h10 ⊢
      have HM := hide hm
      clear hm
      by_cases hbig : 900719925474099 < m
      · go_wp2
        go_ret2
        exact ⟨0, ret_ib rfl (decide_eq_false (by omega)).symm, fun h => by omega, rfl⟩
      · go_wp2
        go_round
        case rel => exact ⟨k + 1, by omega, by go_num, by rw [HS.out, HM.out]; go_num, by rw [HS.out, HM.out]; omega⟩
        case measure => simp [intOf]; omega
    · go_wp2
      go_ret2
      have hkk : xs.take k = xs := List.take_of_length_le (by omega)
      rw [hkk]
      refine ⟨decVal xs, ret_ib rfl ?_, fun _ => rfl, rfl⟩
      exact decide_eq_decide.2 (by omega)


theorem ret_nokey {u : List UInt16} (h : keyOk u = false) : Ending.returned (.tuple #[.int .i64 0, .bool false]) = .returned (.tuple #[.int .i64 (keyF u), .bool (keyOk u)]) := by
  rw [keyF, h]; rfl

set_option maxHeartbeats 1000000 in
/-- text.Key: the place that the units are, and whether they are one. -/
theorem key_any {A : Option Addr} {c B : Nat} {xs : List UInt16} {w : World} (ha : Reads w B 1 A xs.length (u16s xs)) (hl : xs.length ≤ 70368744177664) :
    Calls Tryd.prog 16 #[.slice A xs.length c] w fun e w' => e = .returned (.tuple #[.int .i64 (keyF xs), .bool (keyOk xs)]) ∧ w = w' := by
  by_cases h0 : xs.length = 0
  · have hx : xs = [] := List.eq_nil_of_length_eq_zero h0
    subst hx
    go_enter Tryd.func16, Tryd.ntmps16
    go_wp2
    go_ret2
    exact ⟨rfl, rfl⟩
  have hz0 : 0 < xs.length := by omega
  clear h0
  have e0 : ((xs.length : Int) == 0) = false := beq_eq_false_iff_ne.2 (by omega)
  by_cases h10 : 10 < xs.length
  · have HK := hide (keyOk_long (u := xs) (by omega))
    go_enter Tryd.func16, Tryd.ntmps16
    go_wp2
    go_ret2
    exact ⟨ret_nokey HK.out, rfl⟩
  obtain ⟨ad, hA, _, hca⟩ := ha.u16 (k := 0) hz0
  subst hA
  rw [Addr.add_zero] at hca
  have hz : (0 : Int) < (xs.length : Int) := by omega
  by_cases hlead : xs[0] = 48 ∧ 1 < xs.length
  · have HK := hide (keyOk_lead hz0 hlead.1 hlead.2)
    have e1 : ((xs[0].toNat : Int) == 48) = true := by rw [hlead.1]; rfl
    have e2 : (1 : Int) < xs.length := by have := hlead.2; omega
    clear hlead
    go_enter Tryd.func16, Tryd.ntmps16
    go_wp2
    go_ret2
    exact ⟨ret_nokey HK.out, rfl⟩
  have hlead2 : ((xs[0].toNat : Int) == 48) = false ∨ (((xs[0].toNat : Int) == 48) = true ∧ ¬ (1 : Int) < xs.length) := by
    by_cases h : xs[0] = 48
    · right
      exact ⟨by rw [h]; rfl, fun h2 => hlead ⟨h, by omega⟩⟩
    · left
      rw [beq_eq_false_iff_ne]
      intro h2
      exact h (UInt16.toNat_inj.1 (by simp; omega))
  have HL := hide hlead
  clear hlead
  rcases hlead2 with e1 | ⟨e1, e2⟩
  all_goals
    go_enter Tryd.func16, Tryd.ntmps16
    go_wp2
    go_loop [4, 28] (fun n i => ∃ k : Nat, k ≤ xs.length ∧ i = .int .i64 k ∧ n = .int .i64 (decVal (xs.take k)) ∧ decVal (xs.take k) < 10 ^ k ∧ Hid (∀ x ∈ xs.take k, isDigit x = true)) (fun _ i => xs.length - (intOf i).toNat)
    case atStart => exact ⟨0, Nat.zero_le _, rfl, rfl, Nat.zero_lt_succ _, fun x hx => by simp at hx⟩
    case round =>
      obtain ⟨k, hk, rfl, rfl, hn, hdig⟩ := hrel
      by_cases hlt : k < xs.length
      · obtain ⟨ad', hA, _, hcb⟩ := ha.u16 hlt
        cases hA
        have h3 : (k : Int) < (xs.length : Int) := by omega
        have hp : decVal (xs.take k) < 10000000000 := Nat.lt_of_lt_of_le hn (Nat.le_trans (Nat.pow_le_pow_right (by omega) (show k ≤ 10 by omega)) (by decide))
        cases hd : isDigit xs[k] with
        | false =>
          have HK := hide (keyOk_odd (List.getElem_mem hlt) hd)
          clear hn
          go_wp2_with (go_at_call 36; refine (digit_any _ _).mono ?_; rintro e w' ⟨rfl, rfl⟩)
          go_ret2
          exact ⟨ret_nokey HK.out, rfl⟩
        | true =>
          obtain ⟨hx1, hx2⟩ := isDigit_iff.1 hd
          have HS := hide (decVal_take_succ xs k hlt)
          obtain ⟨m, hm⟩ : ∃ m, decVal (xs.take k) = m := ⟨_, rfl⟩
          rw [hm] at hp hn ⊢
          have HM := hide hm
          have HN := hide hn
          clear hm hn
          go_wp2_with (go_at_call 36; refine (digit_any _ _).mono ?_; rintro e w' ⟨rfl, rfl⟩)
          go_round
          case rel =>
            refine ⟨k + 1, by omega, by go_num, by rw [HS.out, HM.out]; go_num, ?_, ?_⟩
            · rw [HS.out, HM.out, Nat.pow_succ]; have := HN.out; omega
            · intro x hx
              rw [List.take_succ_eq_append_getElem hlt, List.mem_append] at hx
              rcases hx with hx | hx
              · exact hdig.out x hx
              · simp at hx; rw [hx]; exact hd
          case measure => simp [intOf]; omega
      · have hkk : xs.take k = xs := List.take_of_length_le (by omega)
        rw [hkk] at hdig hn ⊢
        have HK := hide (keyOk_at hz0 (by omega) HL.out hdig.out)
        obtain ⟨m, hm⟩ : ∃ m, decVal xs = m := ⟨_, rfl⟩
        rw [hm] at hn ⊢
        have HM := hide hm
        clear hn hkk hm
        by_cases hs : m ≤ 4294967294
        · go_wp2
          go_ret2
          exact ⟨ret_ib (by rw [keyF, HK.out, HM.out, if_pos (by simpa using hs)]) (by rw [HK.out, HM.out]; simpa using hs), rfl⟩
        · go_wp2
          go_ret2
          exact ⟨ret_nokey (by rw [HK.out, HM.out]; simpa using hs), rfl⟩
end Go.Proofs.YtginfodcobpljaaDoor
