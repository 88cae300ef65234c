/- Joined for a claim: LexIs. -/
import Derived.Test.YtbljbmeifmpfoaaK05
namespace Go.Proofs.Ytbljbmeifmpfoaa
open Go.RowKit

theorem Reads.spotL {w : World} {B n : Nat} {A : Option Addr} {l : List UInt16} (h : Reads w B 1 A n (u16s l)) (h0 : 0 < l.length) :
    ∃ b off, A = some ⟨b, off, none⟩ ∧ b < B ∧ ∀ j (hj : j < l.length), w.cell? ⟨b, off + j, none⟩ = some (.int .u16 (l[j].toNat : Int)) := by
  obtain ⟨ad, e, hb, hc⟩ := h.u16_0 h0
  have hs : ad.spot = none := by
    cases hsp : ad.spot with
    | none => rfl
    | some s =>
      exfalso
      simp only [World.cell?, hsp] at hc
      split at hc
      · simp at hc
      · cases hc
  obtain ⟨b, off, sp⟩ := ad
  simp only at hs
  subst hs
  refine ⟨b, off, e, hb, fun j hj => ?_⟩
  obtain ⟨ad', e', _, h1⟩ := h.u16 hj
  rw [e] at e'
  injection e' with e'
  subst e'
  rw [Addr.add_lit] at h1
  exact h1
theorem isAt_in {u : List UInt16} {k j : Nat} {p : UInt16 → Bool} (h : k + j < u.length) : isAt j p (u.drop k) = p u[k + j] := by
  unfold isAt
  rw [List.getElem?_drop, List.getElem?_eq_getElem h]; rfl
theorem isAt_out {u : List UInt16} {k j : Nat} {p : UInt16 → Bool} (h : ¬ k + j < u.length) : isAt j p (u.drop k) = false := by
  unfold isAt
  rw [List.getElem?_drop, List.getElem?_eq_none (by omega)]; rfl
theorem same_of {α : Type} {e e' : α} {w w' : World} (h : e = e' ∧ w = w') : e = e' ∧ w' = w := ⟨h.1, h.2.symm⟩

set_option maxHeartbeats 2000000 in
set_option maxRecDepth 100000 in
theorem lis_letter {A : Option Addr} {c g B k j n : Nat} {u : List UInt16} {w : World} (hr : Rd w g A n c k) (hn : u.length = n) (ha : Reads w B 1 A n (u16s u)) (hk : k ≤ n) (hl : n ≤ 4096) (hj : j ≤ 4096) {q : Bool} (hq : isAt j isLet (u.drop k) = q) :
    Calls Try.prog 27 #[.pointer (some ⟨g, 0, none⟩), .int .i64 (j : Int), .func (.func 22) #[] #[]] w fun e w' => e = .returned (.bool q) ∧ ∃ m, w' = w.drewN m := by
  subst hn
  have hc0 := hr.c0
  have hc1 := hr.c1
  by_cases hin : k + j < u.length
  · have hin2 : (k : Int) + (j : Int) < (u.length : Int) := by omega
    have HQ := hide (show isLet u[k + j] = q by rw [← hq, isAt_in hin])
    obtain ⟨b, off, rfl, _, hcell⟩ := ha.spotL (by omega)
    have hca := hcell (k + j) hin
    obtain ⟨x, hx⟩ : ∃ x, u[k + j] = x := ⟨_, rfl⟩
    rw [hx] at hca HQ
    clear hcell hq hx hr
    go_enter Try.func27, Try.ntmps27
    go_wp2_with fail
    go_quiet (first | (go_at_call 22; refine Calls.quiet_of_same ((lletter_any _ _).mono fun _ _ h => same_of h)))
    go_wp2
    go_ret
    exact ⟨ret_bool HQ.out, _, rfl⟩
  · have hin2 : ¬ (k : Int) + (j : Int) < (u.length : Int) := by omega
    have hin3 : decide ((k : Int) + (j : Int) < (u.length : Int)) = false := decide_eq_false hin2
    have HQ := hide (show false = q by rw [← hq, isAt_out hin])
    clear hin hq hr
    go_enter Try.func27, Try.ntmps27
    go_wp2_with fail
    go_quiet (fail)
    go_wp2
    go_ret
    exact ⟨ret_bool HQ.out, _, rfl⟩

set_option maxHeartbeats 2000000 in
set_option maxRecDepth 100000 in
theorem lis_digit {A : Option Addr} {c g B k j n : Nat} {u : List UInt16} {w : World} (hr : Rd w g A n c k) (hn : u.length = n) (ha : Reads w B 1 A n (u16s u)) (hk : k ≤ n) (hl : n ≤ 4096) (hj : j ≤ 4096) {q : Bool} (hq : isAt j isDigit (u.drop k) = q) :
    Calls Try.prog 27 #[.pointer (some ⟨g, 0, none⟩), .int .i64 (j : Int), .func (.func 24) #[] #[]] w fun e w' => e = .returned (.bool q) ∧ ∃ m, w' = w.drewN m := by
  subst hn
  have hc0 := hr.c0
  have hc1 := hr.c1
  by_cases hin : k + j < u.length
  · have hin2 : (k : Int) + (j : Int) < (u.length : Int) := by omega
    have HQ := hide (show isDigit u[k + j] = q by rw [← hq, isAt_in hin])
    obtain ⟨b, off, rfl, _, hcell⟩ := ha.spotL (by omega)
    have hca := hcell (k + j) hin
    obtain ⟨x, hx⟩ : ∃ x, u[k + j] = x := ⟨_, rfl⟩
    rw [hx] at hca HQ
    clear hcell hq hx hr
    go_enter Try.func27, Try.ntmps27
    go_wp2_with fail
    go_quiet (first | (go_at_call 24; refine Calls.quiet_of_same ((ldigit_any _ _).mono fun _ _ h => same_of h)))
    go_wp2
    go_ret
    exact ⟨ret_bool HQ.out, _, rfl⟩
  · have hin2 : ¬ (k : Int) + (j : Int) < (u.length : Int) := by omega
    have hin3 : decide ((k : Int) + (j : Int) < (u.length : Int)) = false := decide_eq_false hin2
    have HQ := hide (show false = q by rw [← hq, isAt_out hin])
    clear hin hq hr
    go_enter Try.func27, Try.ntmps27
    go_wp2_with fail
    go_quiet (fail)
    go_wp2
    go_ret
    exact ⟨ret_bool HQ.out, _, rfl⟩

set_option maxHeartbeats 2000000 in
set_option maxRecDepth 100000 in
theorem lis_run {A : Option Addr} {c g B k j n : Nat} {u : List UInt16} {w : World} (hr : Rd w g A n c k) (hn : u.length = n) (ha : Reads w B 1 A n (u16s u)) (hk : k ≤ n) (hl : n ≤ 4096) (hj : j ≤ 4096) {q : Bool} (hq : isAt j isRun (u.drop k) = q) :
    Calls Try.prog 27 #[.pointer (some ⟨g, 0, none⟩), .int .i64 (j : Int), .func (.func 41) #[] #[]] w fun e w' => e = .returned (.bool q) ∧ ∃ m, w' = w.drewN m := by
  subst hn
  have hc0 := hr.c0
  have hc1 := hr.c1
  by_cases hin : k + j < u.length
  · have hin2 : (k : Int) + (j : Int) < (u.length : Int) := by omega
    have HQ := hide (show isRun u[k + j] = q by rw [← hq, isAt_in hin])
    obtain ⟨b, off, rfl, _, hcell⟩ := ha.spotL (by omega)
    have hca := hcell (k + j) hin
    obtain ⟨x, hx⟩ : ∃ x, u[k + j] = x := ⟨_, rfl⟩
    rw [hx] at hca HQ
    clear hcell hq hx hr
    go_enter Try.func27, Try.ntmps27
    go_wp2_with fail
    go_quiet (first | (go_at_call 41; refine Calls.quiet_of_same ((lrun1_any _ _).mono fun _ _ h => same_of h)))
    go_wp2
    go_ret
    exact ⟨ret_bool HQ.out, _, rfl⟩
  · have hin2 : ¬ (k : Int) + (j : Int) < (u.length : Int) := by omega
    have hin3 : decide ((k : Int) + (j : Int) < (u.length : Int)) = false := decide_eq_false hin2
    have HQ := hide (show false = q by rw [← hq, isAt_out hin])
    clear hin hq hr
    go_enter Try.func27, Try.ntmps27
    go_wp2_with fail
    go_quiet (fail)
    go_wp2
    go_ret
    exact ⟨ret_bool HQ.out, _, rfl⟩

set_option maxHeartbeats 2000000 in
set_option maxRecDepth 100000 in
theorem lis_hex {A : Option Addr} {c g B k j n : Nat} {u : List UInt16} {w : World} (hr : Rd w g A n c k) (hn : u.length = n) (ha : Reads w B 1 A n (u16s u)) (hk : k ≤ n) (hl : n ≤ 4096) (hj : j ≤ 4096) {q : Bool} (hq : isAt j isHex (u.drop k) = q) :
    Calls Try.prog 27 #[.pointer (some ⟨g, 0, none⟩), .int .i64 (j : Int), .func (.func 90) #[] #[]] w fun e w' => e = .returned (.bool q) ∧ ∃ m, w' = w.drewN m := by
  subst hn
  have hc0 := hr.c0
  have hc1 := hr.c1
  by_cases hin : k + j < u.length
  · have hin2 : (k : Int) + (j : Int) < (u.length : Int) := by omega
    have HQ := hide (show isHex u[k + j] = q by rw [← hq, isAt_in hin])
    obtain ⟨b, off, rfl, _, hcell⟩ := ha.spotL (by omega)
    have hca := hcell (k + j) hin
    obtain ⟨x, hx⟩ : ∃ x, u[k + j] = x := ⟨_, rfl⟩
    rw [hx] at hca HQ
    clear hcell hq hx hr
    go_enter Try.func27, Try.ntmps27
    go_wp2_with fail
    go_quiet (first | (go_at_call 90; refine Calls.quiet_of_same ((lcode1_any _ _).mono fun _ _ h => same_of h)))
    go_wp2
    go_ret
    exact ⟨ret_bool HQ.out, _, rfl⟩
  · have hin2 : ¬ (k : Int) + (j : Int) < (u.length : Int) := by omega
    have hin3 : decide ((k : Int) + (j : Int) < (u.length : Int)) = false := decide_eq_false hin2
    have HQ := hide (show false = q by rw [← hq, isAt_out hin])
    clear hin hq hr
    go_enter Try.func27, Try.ntmps27
    go_wp2_with fail
    go_quiet (fail)
    go_wp2
    go_ret
    exact ⟨ret_bool HQ.out, _, rfl⟩
end Go.Proofs.Ytbljbmeifmpfoaa
