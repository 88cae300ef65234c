/- The reader's code, walked: a unit of so many digits of sixteen. -/
import Derived.Test.YtngcikgjdeomdaaLexHas
import Derived.Deep.LoopGhost
namespace Go.Proofs.Ytngcikgjdeomdaa
open Go.RowKit

theorem hexVal_app (l r : List UInt16) : ∀ v, hexVal v (l ++ r) = hexVal (hexVal v l) r := by
  induction l with
  | nil => intro v; rfl
  | cons x l ih => intro v; exact ih _
theorem hexVal_snoc (l : List UInt16) (x : UInt16) : hexVal 0 (l ++ [x]) = 16 * hexVal 0 l + hexF x := by rw [hexVal_app]; rfl
theorem or16 {a b : Nat} (ha : a < 4096) (hb : b < 16) : bits .or .u16 ((16 * a : Nat) : Int) (b : Int) = ((16 * a + b : Nat) : Int) := by
  have e1 : (BitVec.ofInt 16 ((16 * a : Nat) : Int)).toNat = 16 * a := by rw [BitVec.ofInt_natCast, BitVec.toNat_ofNat]; omega
  have e2 : (BitVec.ofInt 16 (b : Int)).toNat = b := by rw [BitVec.ofInt_natCast, BitVec.toNat_ofNat]; omega
  show IntKind.u16.wrap ((BitVec.ofInt 16 ((16 * a : Nat) : Int) ||| BitVec.ofInt 16 (b : Int)).toNat : Int) = _
  rw [BitVec.toNat_or, e1, e2, show 16 * a = 2 ^ 4 * a from rfl, ← Nat.two_pow_add_eq_or_of_lt (by omega : b < 2 ^ 4), IntKind.wrap_u16]
  omega
/-- how far the loop is -/
def AtCode (u : List UInt16) (k j v : Nat) : Prop := j ≤ (u.drop k).length ∧ v = hexVal 0 ((u.drop k).take j) ∧ ((u.drop k).take j).all isHex = true ∧ v < 16 ^ j
theorem AtCode.step {u : List UInt16} {k j v : Nat} (h : AtCode u k j v) (hp : k + j < u.length) (hx : isHex u[k + j] = true) : AtCode u k (j + 1) (16 * v + hexF u[k + j]) := by
  obtain ⟨h1, h2, h3, h4⟩ := h
  have hjl : j < (u.drop k).length := by rw [List.length_drop]; omega
  have ht : (u.drop k).take (j + 1) = (u.drop k).take j ++ [u[k + j]] := by rw [List.take_succ_eq_append_getElem hjl, List.getElem_drop]
  have h16 : hexF u[k + j] < 16 := of_decide_eq_true hx
  refine ⟨by omega, by rw [ht, hexVal_snoc, h2], by rw [ht, List.all_append, h3]; simp [hx], ?_⟩
  rw [Nat.pow_succ]; omega
theorem AtCode.stepP {u : List UInt16} {k j v p : Nat} (h : AtCode u k j v) (e : p = k + j) (hp : p < u.length) (hx : isHex u[p] = true) : AtCode u k (j + 1) (16 * v + hexF u[p]) := by
  subst e
  exact h.step hp hx
theorem AtCode.done {u : List UInt16} {k j v : Nat} (h : AtCode u k j v) : codeF j (u.drop k) = (0, UInt16.ofNat v, j) := by
  obtain ⟨h1, h2, h3, _⟩ := h
  unfold codeF
  rw [if_pos (by rw [h3, decide_eq_true h1]; rfl), h2]
theorem AtCode.bad {u : List UInt16} {k j v cnt : Nat} (_h : AtCode u k j v) (hj : j < cnt) (hx : isAt 0 isHex (u.drop (k + j)) = false) : codeF cnt (u.drop k) = (5, 0, 0) := by
  unfold codeF
  rw [if_neg]
  intro hc
  simp only [Bool.and_eq_true, decide_eq_true_eq] at hc
  obtain ⟨c1, c2⟩ := hc
  rw [List.length_drop] at c1
  have hp : k + j < u.length := by omega
  have hm : u[k + j] ∈ (u.drop k).take cnt := by
    rw [List.mem_iff_getElem?]
    exact ⟨j, by rw [List.getElem?_take, if_pos hj, List.getElem?_drop, List.getElem?_eq_getElem hp]⟩
  have h4 := List.all_eq_true.1 c2 _ hm
  have h5 := isAt_in (u := u) (k := k + j) (j := 0) (p := isHex) (by omega)
  rw [h5] at hx
  simp only [Nat.add_zero] at hx
  rw [h4] at hx
  cases hx

set_option maxHeartbeats 4000000 in
set_option maxRecDepth 100000 in
theorem lcode_any {A : Option Addr} {c g B k n cnt : Nat} {u : List UInt16} {w : World} (hr : Rd w g A n c k) (hn : u.length = n) (ha : Reads w B 1 A n (u16s u)) (hB : B ≤ g) (hk : k ≤ n) (hl : n ≤ 4096) (hcnt : cnt ≤ 4) {m e : Nat} {y : UInt16} (hq : codeF cnt (u.drop k) = (e, y, m)) :
    Calls Try.prog 84 #[.pointer (some ⟨g, 0, none⟩), .int .i64 (cnt : Int)] w fun ev w' => ev = .returned (.tuple #[.int .u16 (y.toNat : Int), .int .i64 (e : Int)]) ∧ (e = 0 → Mv w w' g A n c (k + m)) ∧ w.grownBy w' (some g) := by
  subst hn
  have HQ := hide hq
  have HA := hide ha
  have hg := hr.lt
  have hM0 := hide (Mv.refl hr)
  clear hq ha hr
  go_enter Try.func84, Try.ntmps84
  go_wp2
  go_loopg [6, 8] cnt (fun r v i wr => ∃ j vn p, j + r = cnt ∧ i = .int .i64 (j : Nat) ∧ v = .int .u16 (vn : Nat) ∧ vn < 65536 ∧ Hid (p = k + j) ∧ Hid (Mv w wr g A u.length c p) ∧ Hid (AtCode u k j vn))
  case atStart => exact ⟨0, 0, k, by omega, rfl, rfl, by omega, rfl, hM0, Nat.zero_le _, rfl, rfl, by decide⟩
  case round =>
    obtain ⟨j, v, p, hjr, rfl, rfl, hv, hpj, hM, hat⟩ := hrel
    have har := hide (HA.out.grown hM.out.grown hB (Nat.le_of_lt hg))
    have hjk : p ≤ u.length := by have := hat.out.1; have := hpj.out; rw [List.length_drop] at *; omega
    by_cases hlt : j < cnt
    · cases hqx : isAt 0 isHex (u.drop p) with
      | true =>
        have hp : p < u.length := by
          rcases Nat.lt_or_ge p u.length with h | h
          · exact h
          · rw [isAt_out (u := u) (k := p) (j := 0) (p := isHex) (by omega)] at hqx; cases hqx
        have hxx : isHex u[p] = true := by
          have h5 := isAt_in (u := u) (k := p) (j := 0) (p := isHex) (by omega)
          rw [h5] at hqx
          simpa using hqx
        have hsp := hide (hat.out.stepP hpj.out hp hxx)
        have h16 : hexF u[p] < 16 := of_decide_eq_true hxx
        have hv4 : v < 4096 := by
          have := hat.out.2.2.2
          have h2 : 16 ^ j ≤ 16 ^ 3 := Nat.pow_le_pow_right (by omega) (by omega)
          omega
        have HI := hide hqx
        clear hqx hxx
        go_wp2_with fail
        refine (lis_hex (j := 0) hM.out.rd rfl har.out hjk hl (by omega) HI.out).mono ?_
        rintro e1 w1 ⟨rfl, m1, hw1⟩
        have hM1 := hide (show Mv w w1 g A u.length c p by rw [hw1]; exact hM.out.drewN m1)
        have har1 := hide (show Reads w1 B 1 A u.length (u16s u) by rw [hw1]; exact har.out.drewN m1)
        clear hw1
        have hc0 := hM1.out.rd.c0
        have hc1 := hM1.out.rd.c1
        have hf1 := hM1.out.rd.f1
        obtain ⟨blk, off, rfl, _, hcell⟩ := har1.out.spotL (by omega)
        have hca := hcell p hp
        have hin : (p : Int) < (u.length : Int) := by omega
        obtain ⟨x, hxx⟩ : ∃ x, u[p] = x := ⟨_, rfl⟩
        rw [hxx] at hca hsp h16
        have HH := hide (or16 hv4 h16)
        clear hcell hxx
        go_wp2_with fail
        go_quiet (first | (go_at_call 103; refine Calls.quiet_of_same ((lhex_any _ _).mono fun _ _ h => same_of h)))
        go_wp2
        go_roundg (gk - 1)
        case measure => omega
        case rel =>
          refine ⟨j + 1, 16 * v + hexF x, p + 1, by omega, by go_num, congrArg (Value.int .u16) (by rw [show (v : Int) * 16 = ((16 * v : Nat) : Int) by omega]; exact HH.out), by omega, ?_, ?_, hsp.out⟩
          · have := hpj.out
            exact hide (by omega)
          · exact Mv.step (hM1.out.drewN _) (by omega)
      | false =>
        have HI := hide hqx
        have hbad := hide (hat.out.bad hlt (by rw [← hpj.out]; exact hqx))
        clear hqx
        go_wp2_with fail
        refine (lis_hex (j := 0) hM.out.rd rfl har.out hjk hl (by omega) HI.out).mono ?_
        rintro e1 w1 ⟨rfl, m1, hw1⟩
        subst hw1
        go_wp2
        go_ret2
        have hz := hbad.out
        rw [HQ.out] at hz
        simp only [Prod.mk.injEq] at hz
        obtain ⟨z1, z2, z3⟩ := hz
        subst z1 z2 z3
        exact ⟨rfl, fun h => absurd h (by decide), (hM.out.drewN m1).grown⟩
    · obtain rfl : j = cnt := by omega
      have hdn := hide hat.out.done
      go_wp2
      go_ret2
      have hz := hdn.out
      rw [HQ.out] at hz
      simp only [Prod.mk.injEq] at hz
      obtain ⟨z1, z2, z3⟩ := hz
      subst z1 z2 z3
      refine ⟨?_, fun _ => by rw [← hpj.out]; exact hM.out, hM.out.grown⟩
      have : (UInt16.ofNat v).toNat = v := by simp; omega
      rw [this]; rfl
end Go.Proofs.Ytngcikgjdeomdaa
