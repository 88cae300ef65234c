/- text.value, text.Key, text.strange: their contracts. No condition but the lengths. -/
import Derived.Test.YtngcikgjdeomdaaSearch
import Derived.Test.YtngcikgjdeomdaaAscii
namespace Go.Proofs.Ytngcikgjdeomdaa
open Go.RowKit


/-- value: the number, where it is not too great. -/
def Valued (d : List UInt16) (w : World) (e : Ending) (w' : World) : Prop := ∃ n : Int, e = .returned (.tuple #[.int .i64 n, .bool (decide (decVal d ≤ 9007199254740991))]) ∧ (decVal d ≤ 9007199254740991 → n = decVal d) ∧ w = w'

set_option maxHeartbeats 400000 in
theorem value_any {A : Option Addr} {c B : Nat} {xs : List UInt16} {w : World} (ha : Reads w B 1 A xs.length (u16s xs)) (hl : xs.length ≤ 70368744177664) (hd : ∀ x ∈ xs, isDigit x = true) :
    Calls Try.prog 81 #[.slice A xs.length c] w (Valued xs w) := by
  have HD := hide hd
  clear hd
  go_enter Try.func81, Try.ntmps81
  go_wp2
  go_loop [4, 9] (fun n i => ∃ k : Nat, k ≤ xs.length ∧ i = .int .i64 k ∧ n = .int .i64 (decVal (xs.take k)) ∧ decVal (xs.take k) < 9007199254750991) (fun _ i => xs.length - (intOf i).toNat)
  case atStart => exact ⟨0, Nat.zero_le _, rfl, rfl, Nat.zero_lt_succ _⟩
  case round =>
    obtain ⟨k, hk, rfl, rfl, hn⟩ := hrel
    by_cases hlt : k < xs.length
    · obtain ⟨ad, rfl, _, hca⟩ := ha.u16 hlt
      have h3 : (k : Int) < (xs.length : Int) := by omega
      obtain ⟨hx1, hx2⟩ := isDigit_iff.1 (HD.out xs[k] (List.getElem_mem _))
      have h10 := decVal_take_lt xs k hlt
      have hsu := decVal_take_succ xs k hlt
      have HS := hide hsu
      clear hsu
      obtain ⟨m, hm⟩ : ∃ m, decVal (xs.take k) = m := ⟨_, rfl⟩
      rw [hm] at hn h10 ⊢
      have HM := hide hm
      clear hm
      by_cases hbig : 900719925474099 < m
      · go_wp2
        go_ret2
        exact ⟨0, ret_ib rfl (decide_eq_false (by omega)).symm, fun h => by omega, rfl⟩
      · go_wp2
        go_round
        case rel => exact ⟨k + 1, by omega, by go_num, by rw [HS.out, HM.out]; go_num, by rw [HS.out, HM.out]; omega⟩
        case measure => simp [intOf]; omega
    · go_wp2
      go_ret2
      have hkk : xs.take k = xs := List.take_of_length_le (by omega)
      rw [hkk]
      refine ⟨decVal xs, ret_ib rfl ?_, fun _ => rfl, rfl⟩
      exact decide_eq_decide.2 (by omega)


end Go.Proofs.Ytngcikgjdeomdaa
