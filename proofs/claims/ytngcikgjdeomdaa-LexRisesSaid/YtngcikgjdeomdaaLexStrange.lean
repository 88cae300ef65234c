/- The reader's strange, walked: does something stand here that makes a number of a form that is left out? -/
import Derived.Test.YtngcikgjdeomdaaLexIs
namespace Go.Proofs.Ytngcikgjdeomdaa
open Go.RowKit

set_option maxHeartbeats 2000000 in
set_option maxRecDepth 100000 in
theorem lstrange1_any (x : UInt16) (Z : Nat) (zero : Bool) (w : World) (hz : w.cell? ⟨Z, 0, none⟩ = some (.bool zero)) : Calls Try.prog 74 #[.int .u16 (x.toNat : Int), .pointer (some ⟨Z, 0, none⟩)] w fun e w' => e = .returned (.bool (oddAfter zero x)) ∧ w = w' := by
  by_cases h0 : x.toNat = 46
  · have e0 : ((x.toNat : Int) == 46) = true := by rw [h0]; rfl
    have HR := hide (show oddAfter zero x = true by unfold oddAfter; rw [h0]; cases zero <;> rfl)
    clear h0
    go_enter Try.func74, Try.ntmps74
    go_wp2
    go_ret
    exact ⟨ret_bool HR.out.symm, rfl⟩
  have e0 : ((x.toNat : Int) == 46) = false := beq_eq_false_iff_ne.2 (by omega)
  by_cases h1 : x.toNat = 101
  · have e1 : ((x.toNat : Int) == 101) = true := by rw [h1]; rfl
    have HR := hide (show oddAfter zero x = true by unfold oddAfter; rw [h1]; cases zero <;> rfl)
    clear h1
    go_enter Try.func74, Try.ntmps74
    go_wp2
    go_ret
    exact ⟨ret_bool HR.out.symm, rfl⟩
  have e1 : ((x.toNat : Int) == 101) = false := beq_eq_false_iff_ne.2 (by omega)
  by_cases h2 : x.toNat = 69
  · have e2 : ((x.toNat : Int) == 69) = true := by rw [h2]; rfl
    have HR := hide (show oddAfter zero x = true by unfold oddAfter; rw [h2]; cases zero <;> rfl)
    clear h2
    go_enter Try.func74, Try.ntmps74
    go_wp2
    go_ret
    exact ⟨ret_bool HR.out.symm, rfl⟩
  have e2 : ((x.toNat : Int) == 69) = false := beq_eq_false_iff_ne.2 (by omega)
  by_cases h3 : x.toNat = 95
  · have e3 : ((x.toNat : Int) == 95) = true := by rw [h3]; rfl
    have HR := hide (show oddAfter zero x = true by unfold oddAfter; rw [h3]; cases zero <;> rfl)
    clear h3
    go_enter Try.func74, Try.ntmps74
    go_wp2
    go_ret
    exact ⟨ret_bool HR.out.symm, rfl⟩
  have e3 : ((x.toNat : Int) == 95) = false := beq_eq_false_iff_ne.2 (by omega)
  by_cases h4 : x.toNat = 120
  · have e4 : ((x.toNat : Int) == 120) = true := by rw [h4]; rfl
    have HR := hide (show oddAfter zero x = zero by unfold oddAfter; rw [h4]; cases zero <;> rfl)
    clear h4
    go_enter Try.func74, Try.ntmps74
    go_wp2
    go_ret
    exact ⟨ret_bool HR.out.symm, rfl⟩
  have e4 : ((x.toNat : Int) == 120) = false := beq_eq_false_iff_ne.2 (by omega)
  by_cases h5 : x.toNat = 88
  · have e5 : ((x.toNat : Int) == 88) = true := by rw [h5]; rfl
    have HR := hide (show oddAfter zero x = zero by unfold oddAfter; rw [h5]; cases zero <;> rfl)
    clear h5
    go_enter Try.func74, Try.ntmps74
    go_wp2
    go_ret
    exact ⟨ret_bool HR.out.symm, rfl⟩
  have e5 : ((x.toNat : Int) == 88) = false := beq_eq_false_iff_ne.2 (by omega)
  by_cases h6 : x.toNat = 111
  · have e6 : ((x.toNat : Int) == 111) = true := by rw [h6]; rfl
    have HR := hide (show oddAfter zero x = zero by unfold oddAfter; rw [h6]; cases zero <;> rfl)
    clear h6
    go_enter Try.func74, Try.ntmps74
    go_wp2
    go_ret
    exact ⟨ret_bool HR.out.symm, rfl⟩
  have e6 : ((x.toNat : Int) == 111) = false := beq_eq_false_iff_ne.2 (by omega)
  by_cases h7 : x.toNat = 79
  · have e7 : ((x.toNat : Int) == 79) = true := by rw [h7]; rfl
    have HR := hide (show oddAfter zero x = zero by unfold oddAfter; rw [h7]; cases zero <;> rfl)
    clear h7
    go_enter Try.func74, Try.ntmps74
    go_wp2
    go_ret
    exact ⟨ret_bool HR.out.symm, rfl⟩
  have e7 : ((x.toNat : Int) == 79) = false := beq_eq_false_iff_ne.2 (by omega)
  by_cases h8 : x.toNat = 98
  · have e8 : ((x.toNat : Int) == 98) = true := by rw [h8]; rfl
    have HR := hide (show oddAfter zero x = zero by unfold oddAfter; rw [h8]; cases zero <;> rfl)
    clear h8
    go_enter Try.func74, Try.ntmps74
    go_wp2
    go_ret
    exact ⟨ret_bool HR.out.symm, rfl⟩
  have e8 : ((x.toNat : Int) == 98) = false := beq_eq_false_iff_ne.2 (by omega)
  by_cases h9 : x.toNat = 66
  · have e9 : ((x.toNat : Int) == 66) = true := by rw [h9]; rfl
    have HR := hide (show oddAfter zero x = zero by unfold oddAfter; rw [h9]; cases zero <;> rfl)
    clear h9
    go_enter Try.func74, Try.ntmps74
    go_wp2
    go_ret
    exact ⟨ret_bool HR.out.symm, rfl⟩
  have e9 : ((x.toNat : Int) == 66) = false := beq_eq_false_iff_ne.2 (by omega)
  have HR := hide (show oddAfter zero x = false by
    unfold oddAfter
    rw [show (x.toNat == 46) = false from beq_eq_false_iff_ne.2 h0, show (x.toNat == 101) = false from beq_eq_false_iff_ne.2 h1, show (x.toNat == 69) = false from beq_eq_false_iff_ne.2 h2, show (x.toNat == 95) = false from beq_eq_false_iff_ne.2 h3, show (x.toNat == 120) = false from beq_eq_false_iff_ne.2 h4, show (x.toNat == 88) = false from beq_eq_false_iff_ne.2 h5, show (x.toNat == 111) = false from beq_eq_false_iff_ne.2 h6, show (x.toNat == 79) = false from beq_eq_false_iff_ne.2 h7, show (x.toNat == 98) = false from beq_eq_false_iff_ne.2 h8, show (x.toNat == 66) = false from beq_eq_false_iff_ne.2 h9]
    cases zero <;> rfl)
  clear h0 h1 h2 h3 h4 h5 h6 h7 h8 h9
  go_enter Try.func74, Try.ntmps74
  go_wp2
  go_ret
  exact ⟨ret_bool HR.out.symm, rfl⟩
set_option maxHeartbeats 2000000 in
set_option maxRecDepth 100000 in
theorem lis_strange {A : Option Addr} {c g B k j n Z : Nat} {zero : Bool} {u : List UInt16} {w : World} (hz : w.cell? ⟨Z, 0, none⟩ = some (.bool zero)) (hr : Rd w g A n c k) (hn : u.length = n) (ha : Reads w B 1 A n (u16s u)) (hk : k ≤ n) (hl : n ≤ 4096) (hj : j ≤ 4096) {q : Bool} (hq : isAt j (oddAfter zero) (u.drop k) = q) :
    Calls Try.prog 48 #[.pointer (some ⟨g, 0, none⟩), .int .i64 (j : Int), .func (.func 74) #[] #[.pointer (some ⟨Z, 0, none⟩)]] w fun e w' => e = .returned (.bool q) ∧ ∃ m, w' = w.drewN m := by
  subst hn
  have hc0 := hr.c0
  have hc1 := hr.c1
  by_cases hin : k + j < u.length
  · have hin2 : (k : Int) + (j : Int) < (u.length : Int) := by omega
    have HQ := hide (show oddAfter zero u[k + j] = q by rw [← hq, isAt_in hin])
    obtain ⟨b, off, rfl, _, hcell⟩ := ha.spotL (by omega)
    have hca := hcell (k + j) hin
    obtain ⟨x, hx⟩ : ∃ x, u[k + j] = x := ⟨_, rfl⟩
    rw [hx] at hca HQ
    have HZ := hide hz
    clear hcell hq hx hr hz
    go_enter Try.func48, Try.ntmps48
    go_wp2_with fail
    go_quiet (first | (go_at_call 74; refine Calls.quiet_of_same ((lstrange1_any _ _ _ _ (by exact HZ.out)).mono fun _ _ h => same_of h)))
    go_wp2
    go_ret
    exact ⟨ret_bool HQ.out, _, rfl⟩
  · have hin2 : ¬ (k : Int) + (j : Int) < (u.length : Int) := by omega
    have hin3 : decide ((k : Int) + (j : Int) < (u.length : Int)) = false := decide_eq_false hin2
    have HQ := hide (show false = q by rw [← hq, isAt_out hin])
    clear hin hq hr
    go_enter Try.func48, Try.ntmps48
    go_wp2_with fail
    go_quiet (fail)
    go_wp2
    go_ret
    exact ⟨ret_bool HQ.out, _, rfl⟩
set_option maxHeartbeats 2000000 in
set_option maxRecDepth 100000 in
theorem lstrange_any {A : Option Addr} {c g B k n : Nat} {zero : Bool} {u : List UInt16} {w : World} (hr : Rd w g A n c k) (hn : u.length = n) (ha : Reads w B 1 A n (u16s u)) (hB : B ≤ g) (hk : k ≤ n) (hl : n ≤ 4096) {q : Bool} (hq : isAt 0 (oddAfter zero) (u.drop k) = q) :
    Calls Try.prog 63 #[.pointer (some ⟨g, 0, none⟩), .bool zero] w fun e w' => e = .returned (.bool q) ∧ Below w.heap.size w w' := by
  have HR := hide (hr.alloc (.cells #[.bool zero] 4))
  have hg := hr.lt
  have HA := hide (ha.alloc (Nat.le_trans hB (Nat.le_of_lt hg)) (.cells #[.bool zero] 4))
  have HZ := hide (show (w.alloc (.cells #[.bool zero] 4)).cell? ⟨w.heap.size, 0, none⟩ = some (.bool zero) by go_simp)
  have HQ := hide hq
  clear hr ha hq
  go_enter Try.func63, Try.ntmps63
  go_wp2_with fail
  refine (lis_strange (j := 0) HZ.out HR.out hn HA.out hk hl (by omega) HQ.out).mono ?_
  rintro e1 w1 ⟨rfl, m, hw⟩
  have hb : Below w.heap.size w w1 := by rw [hw]; exact below_drewN ((Below.refl _ w).alloc (Nat.le_refl _) _) m
  clear hw
  go_wp2
  go_ret
  exact ⟨rfl, hb⟩
end Go.Proofs.Ytngcikgjdeomdaa
