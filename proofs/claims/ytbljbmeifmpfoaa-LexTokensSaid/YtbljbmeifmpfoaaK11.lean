/- Joined for a claim: LT1, LT4, LT4h, LT5. -/
import Derived.Test.YtbljbmeifmpfoaaK01
import Derived.Test.YtbljbmeifmpfoaaK04
import Derived.Test.YtbljbmeifmpfoaaK06
import Derived.Test.YtbljbmeifmpfoaaK10
import Derived.Test.YtbljbmeifmpfoaaK08
namespace Go.Proofs.Ytbljbmeifmpfoaa
open Go.RowKit

theorem rat_any {A : Option Addr} {B n c i : Nat} {u : List UInt16} {w : World} (hn : u.length = n) (ha : Reads w B 1 A n (u16s u)) :
    Calls Try.prog 14 #[.slice A n c, .int .i64 (i : Int)] w fun e w' => e = .returned (.int .u16 ((atU u i).toNat : Int)) ∧ w = w' := by
  subst hn
  by_cases h : i < u.length
  · have h1 : (i : Int) < (u.length : Int) := by omega
    obtain ⟨b, o, rfl, _, hc⟩ := ha.spotL (by omega)
    have hci := hc i h
    rw [atU_in h]
    obtain ⟨x, hx⟩ : ∃ x, u[i] = x := ⟨_, rfl⟩
    rw [hx] at hci ⊢
    obtain ⟨n, hn⟩ : ∃ n, u.length = n := ⟨_, rfl⟩
    rw [hn] at h1 h ⊢
    clear hc hx ha hn
    go_enter Try.func14, Try.ntmps14
    go_wp2_with fail
    go_ret
    exact ⟨rfl, rfl⟩
  · have h1 : ¬ (i : Int) < (u.length : Int) := by omega
    rw [atU_out h]
    obtain ⟨n, hn⟩ : ∃ n, u.length = n := ⟨_, rfl⟩
    rw [hn] at h1 h ⊢
    clear ha hn
    go_enter Try.func14, Try.ntmps14
    go_wp2_with fail
    go_ret
    exact ⟨rfl, rfl⟩
theorem rfar_any (x : UInt16) (w : World) : Calls Try.prog 29 #[.int .u16 (x.toNat : Int)] w fun e w' => e = .returned (.bool (isFar x)) ∧ w = w' := by
  obtain ⟨q, hq⟩ : ∃ q, isFar x = q := ⟨_, rfl⟩
  have HQ := hide hq
  rw [hq]
  unfold isFar at hq
  obtain ⟨X, hX⟩ : ∃ X : Int, (x.toNat : Int) = X := ⟨_, rfl⟩
  have e1 : (X == 8232) = (x.toNat == 8232) := by rw [Bool.eq_iff_iff, beq_iff_eq, beq_iff_eq]; omega
  have e2 : (X == 8233) = (x.toNat == 8233) := by rw [Bool.eq_iff_iff, beq_iff_eq, beq_iff_eq]; omega
  rw [← e1, ← e2] at hq
  rw [hX]
  clear e1 e2 HQ hX
  cases h1 : (X == 8232) with
  | true =>
    rw [h1] at hq
    obtain rfl : q = true := by rw [← hq]; rfl
    clear hq
    go_enter Try.func29, Try.ntmps29
    go_wp2_with fail
    go_ret
    exact ⟨rfl, rfl⟩
  | false =>
    rw [h1, Bool.false_or] at hq
    go_enter Try.func29, Try.ntmps29
    go_wp2_with fail
    go_ret
    exact ⟨rfl, rfl⟩
/-- the loop of run -/
def AtRunR (p : UInt16 → Bool) (u : List UInt16) (i k : Nat) : Prop := i ≤ k ∧ k ≤ u.length ∧ k + ((u.drop k).takeWhile p).length = i + ((u.drop i).takeWhile p).length
theorem AtRunR.start {p : UInt16 → Bool} {u : List UInt16} {i : Nat} (h : i ≤ u.length) : AtRunR p u i i := ⟨Nat.le_refl _, h, rfl⟩
theorem AtRunR.step {p : UInt16 → Bool} {u : List UInt16} {i k : Nat} (h : AtRunR p u i k) (hk : k < u.length) (hp : p u[k] = true) : AtRunR p u i (k + 1) := by
  refine ⟨by have := h.1; omega, hk, ?_⟩
  have h3 := h.2.2
  rw [List.drop_eq_getElem_cons hk, List.takeWhile_cons, if_pos hp, List.length_cons] at h3
  omega
theorem AtRunR.stop {p : UInt16 → Bool} {u : List UInt16} {i k : Nat} (h : AtRunR p u i k) (hk : k < u.length) (hp : p u[k] = false) : k = i + ((u.drop i).takeWhile p).length := by
  have h3 := h.2.2
  rw [List.drop_eq_getElem_cons hk, List.takeWhile_cons, if_neg (by rw [hp]; simp)] at h3
  simpa using h3
theorem AtRunR.done {p : UInt16 → Bool} {u : List UInt16} {i : Nat} (h : AtRunR p u i u.length) : u.length = i + ((u.drop i).takeWhile p).length := by
  have h3 := h.2.2
  rw [List.drop_length] at h3
  simpa using h3
def runP (l : Bool) (x : UInt16) : Bool := isDigit x || (l && isLet x)
set_option maxHeartbeats 4000000 in
theorem rrun_any {A : Option Addr} {B n c i r : Nat} {u : List UInt16} {w : World} (l : Bool) (hn : u.length = n) (ha : Reads w B 1 A n (u16s u)) (hi : i ≤ n) (hl : n ≤ 1000000) (hr : i + ((u.drop i).takeWhile (runP l)).length = r) :
    Calls Try.prog 49 #[.slice A n c, .int .i64 (i : Int), .bool l] w fun e w' => e = .returned (.int .i64 (r : Int)) ∧ w = w' := by
  subst hn
  have HR := hide hr
  have HA := hide ha
  have HST := hide (AtRunR.start (p := runP l) hi)
  clear hr ha
  go_enter Try.func49, Try.ntmps49
  go_wp2_with fail
  go_loopw [1] (fun v wr => ∃ k : Nat, v = .int .i64 (k : Int) ∧ Hid (AtRunR (runP l) u i k) ∧ w = wr) (fun v _ => u.length - (intOf v).toNat)
  case atStart => exact ⟨i, rfl, HST.out, rfl⟩
  case round =>
    obtain ⟨k, rfl, hat, rfl⟩ := hrel
    have hk := hat.out.2.1
    by_cases hlt : k < u.length
    · have h1 : (k : Int) < (u.length : Int) := by omega
      obtain ⟨b, o, rfl, _, hc⟩ := HA.out.spotL (by omega)
      have hck := hc k hlt
      have hst := hide (fun h => hat.out.step hlt h)
      have hsp := hide (fun h => (hat.out.stop hlt h).trans HR.out)
      obtain ⟨x, hx⟩ : ∃ x, u[k] = x := ⟨_, rfl⟩
      rw [hx] at hck hst hsp
      have CD := hide (rdigit_any x w)
      have CL := hide (rletter_any x w)
      obtain ⟨d, hd⟩ : ∃ d, isDigit x = d := ⟨_, rfl⟩
      obtain ⟨t, ht⟩ : ∃ t, isLet x = t := ⟨_, rfl⟩
      have hP : runP l x = (d || (l && t)) := by unfold runP; rw [hd, ht]
      rw [hd] at CD
      rw [ht] at CL
      rw [hP] at hst hsp
      clear hc hx hd ht hP
      cases d with
      | true =>
        have HS := hide (hst.out rfl)
        clear hst hsp
        go_wp2_with fail
        refine CD.out.mono ?_
        rintro e w1 ⟨rfl, rfl⟩
        go_wp2_with fail
        go_roundw
        case rel => exact ⟨k + 1, by go_num, HS.out, by first | rfl | exact trivial⟩
        case measure => simp [intOf]; omega
      | false =>
        cases l with
        | false =>
          have HS := hide (hsp.out rfl)
          clear hst hsp
          go_wp2_with fail
          refine CD.out.mono ?_
          rintro e w1 ⟨rfl, rfl⟩
          go_wp2_with fail
          go_ret
          exact ⟨by rw [HS.out]; rfl, rfl⟩
        | true =>
          cases t with
          | true =>
            have HS := hide (hst.out rfl)
            clear hst hsp
            go_wp2_with fail
            refine CD.out.mono ?_
            rintro e w1 ⟨rfl, rfl⟩
            go_wp2_with fail
            refine CL.out.mono ?_
            rintro e w1 ⟨rfl, rfl⟩
            go_wp2_with fail
            go_roundw
            case rel => exact ⟨k + 1, by go_num, HS.out, by first | rfl | exact trivial⟩
            case measure => simp [intOf]; omega
          | false =>
            have HS := hide (hsp.out rfl)
            clear hst hsp
            go_wp2_with fail
            refine CD.out.mono ?_
            rintro e w1 ⟨rfl, rfl⟩
            go_wp2_with fail
            refine CL.out.mono ?_
            rintro e w1 ⟨rfl, rfl⟩
            go_wp2_with fail
            go_ret
            exact ⟨by rw [HS.out]; rfl, rfl⟩
    · have h1 : ¬ (k : Int) < (u.length : Int) := by omega
      obtain rfl : k = u.length := by omega
      have HS := hide (hat.out.done.trans HR.out)
      clear hat
      go_wp2_with fail
      go_ret
      exact ⟨by rw [HS.out]; rfl, rfl⟩
set_option maxHeartbeats 400000 in
theorem r3plain_any {A : Option Addr} {c B : Nat} {xs : List UInt16} {w : World} (hB : B ≤ w.heap.size) (ha : Reads w B 1 A xs.length (u16s xs)) (hl : xs.length ≤ 70368744177664) :
    Calls Try.prog 55 #[.slice A xs.length c] w fun e w' => e = .returned (.tuple #[.string (plainF xs), .bool (plainOk xs)]) ∧ Below w.heap.size w w' := by
  obtain ⟨i0, hi0, hz0, hz1, hz2⟩ := info_parts Try.info_u8
  go_enter Try.func55, Try.ntmps55
  go_wp2
  go_loopw [4, 5] (fun v i wr => ∃ k : Nat, k ≤ xs.length ∧ i = .int .i64 k ∧ Hid (plainOk (xs.take k) = true) ∧ Made w wr 5 v (u8s ((xs.take k).map (·.toUInt8)))) (fun _ i _ => xs.length - (intOf i).toNat)
  case atStart => exact ⟨0, Nat.zero_le _, rfl, rfl, Made.nil _ _⟩
  case round =>
    obtain ⟨k, hk, rfl, hok, hm⟩ := hrel
    by_cases hlt : k < xs.length
    · obtain ⟨ad, hA, _, hca⟩ := (ha.below (hm.below.mono hB)).u16 hlt
      subst hA
      have h3 : (k : Int) < (xs.length : Int) := by omega
      have hlen : (u8s ((xs.take k).map (·.toUInt8))).length ≤ k := by simp [u8s]; omega
      have hx := xs[k].toNat_lt
      by_cases hp : xs[k].toNat ≤ 127
      · have HC := hide (plain_cell hp)
        have HS := hide (plain_snoc xs k hlt)
        have HO : Hid (plainOk (xs.take (k + 1)) = true) := by
          rw [List.take_succ_eq_append_getElem hlt, plainOk, List.all_append]
          have := hok.out
          rw [plainOk] at this
          rw [this]
          simp [hp, Hid]
        have hp2 : ¬ (128 : Int) ≤ (xs[k].toNat : Int) := by omega
        go_wp2_with (at_builtin; refine wpList_lit rfl _ _ 80 rfl 5 i0 _ 1 Try.underlying80 hi0 hz0 hz1 hz2 rfl _ _ rfl hm _ 1 1 rfl rfl rfl (by omega) (by omega) ?_; intro v' w' hm')
        go_roundw
        case rel => exact ⟨k + 1, by omega, by go_num, HO, hm'.cells (by rw [HS.out, HC.out])⟩
        case measure => simp [intOf]; omega
      · have HO : Hid (plainOk xs = false) := List.all_eq_false.2 ⟨xs[k], List.getElem_mem _, by simpa using hp⟩
        have hp2 : (128 : Int) ≤ (xs[k].toNat : Int) := by omega
        go_wp2
        go_ret2
        exact ⟨ret_sb (by rw [plainF, HO.out]; rfl) HO.out.symm, hm.below⟩
    · have hkk : xs.take k = xs := List.take_of_length_le (by omega)
      rw [hkk] at hok hm
      obtain ⟨A', c', rfl, _, _, hr⟩ := hm.u8
      rw [List.length_map] at hr ⊢
      have hs := run_str (c := c') hr
      go_wp2
      go_ret2
      exact ⟨ret_sb (by rw [plainF, hok.out]; rfl) hok.out.symm, hm.below⟩

set_option maxHeartbeats 400000 in
theorem rascii5_any {A : Option Addr} {c B m : Nat} {xs : List UInt16} {w : World} (hm : xs.length = m) (hB : B ≤ w.heap.size) (ha : Reads w B 1 A m (u16s xs)) (hl : m ≤ 1000000) (hp : plainOk xs = true) :
    Calls Try.prog 50 #[.slice A m c] w fun e w' => e = .returned (.string ⟨(asc xs).toArray⟩) ∧ Below w.heap.size w w' := by
  subst hm
  have hf : plainF xs = ⟨(asc xs).toArray⟩ := by rw [plainF, hp]; rfl
  have C := hide (r3plain_any (c := c) hB ha (by omega))
  rw [hf, hp] at C
  clear ha hp hf
  go_enter Try.func50, Try.ntmps50
  go_wp2_with fail
  refine C.out.mono ?_
  rintro e w1 ⟨rfl, hb⟩
  have HB := hide hb
  clear hb
  go_wp2_with fail
  go_ret
  exact ⟨rfl, HB.out⟩
end Go.Proofs.Ytbljbmeifmpfoaa

namespace Go.Proofs.Ytbljbmeifmpfoaa
open Go.RowKit

theorem rem_nil (long nl st : Bool) : remGo long [] nl st = (0, false, if long = true then 5 else leftF st) := rfl
theorem rem_cons (long : Bool) (x : UInt16) (r : List UInt16) (nl st : Bool) : remGo long (x :: r) nl st = if (long && starts [42, 47] (x :: r)) = true then (2, nl, leftF st)
    else if (!long && isLine x) = true then (0, false, leftF st)
    else plus 1 (remGo long r (nl || isLine x) (st || isFar x)) := by rw [remGo]
/-- the loop of remark -/
def AtRemR (long : Bool) (u : List UInt16) (r : Nat × Bool × Nat) (k : Nat) (nl st : Bool) : Prop := k ≤ u.length ∧ plus k (remGo long (u.drop k) nl st) = r
def starT (long : Bool) (u : List UInt16) (k : Nat) : Bool := long && ((atU u k).toNat == 42 && (atU u (k + 1)).toNat == 47)
theorem AtRemR.open {long nl st : Bool} {u : List UInt16} {r : Nat × Bool × Nat} {k : Nat} (h : AtRemR long u r k nl st) (hk : k < u.length) :
    plus k (if starT long u k = true then (2, nl, leftF st) else if (!long && isLine u[k]) = true then (0, false, leftF st) else plus 1 (remGo long (u.drop (k + 1)) (nl || isLine u[k]) (st || isFar u[k]))) = r := by
  have h2 := h.2
  have e := starts_two (a := 42) (b := 47) (by decide) hk
  rw [List.drop_eq_getElem_cons hk] at h2 e
  rw [rem_cons, e] at h2
  exact h2
theorem AtRemR.close {long nl st : Bool} {u : List UInt16} {r : Nat × Bool × Nat} {k : Nat} (h : AtRemR long u r k nl st) (hk : k < u.length) (h1 : starT long u k = true) : (k + 2, nl, leftF st) = r := by
  have h2 := h.open hk
  rw [if_pos h1] at h2
  exact h2
theorem AtRemR.line {long nl st : Bool} {u : List UInt16} {r : Nat × Bool × Nat} {k : Nat} (h : AtRemR long u r k nl st) (hk : k < u.length) (h1 : starT long u k = false) (h3 : (!long && isLine u[k]) = true) : (k, false, leftF st) = r := by
  have h2 := h.open hk
  rw [if_neg (by rw [h1]; simp), if_pos h3] at h2
  exact h2
theorem AtRemR.step {long nl st : Bool} {u : List UInt16} {r : Nat × Bool × Nat} {k : Nat} (h : AtRemR long u r k nl st) (hk : k < u.length) (h1 : starT long u k = false) (h3 : (!long && isLine u[k]) = false) : AtRemR long u r (k + 1) (nl || isLine u[k]) (st || isFar u[k]) := by
  have h2 := h.open hk
  rw [if_neg (by rw [h1]; simp), if_neg (by rw [h3]; simp)] at h2
  refine ⟨hk, ?_⟩
  rw [← h2]
  unfold plus
  simp only [Nat.add_assoc]
theorem AtRemR.done {long nl st : Bool} {u : List UInt16} {r : Nat × Bool × Nat} (h : AtRemR long u r u.length nl st) : (u.length, false, if long = true then 5 else leftF st) = r := by
  have h2 := h.2
  rw [List.drop_length, rem_nil] at h2
  exact h2
theorem AtRemR.start {long : Bool} {u : List UInt16} {i : Nat} (h : i + 2 ≤ u.length) (hs : starts [47, 42] (u.drop i) = long) : AtRemR long u (plus i (remarkF (u.drop i))) (i + 2) false false := by
  refine ⟨h, ?_⟩
  unfold remarkF
  rw [hs, List.drop_drop]
  unfold plus
  simp only [Nat.add_assoc]
theorem left_of (st : Bool) : leftF (st || true) = 6 := by rw [Bool.or_true]; rfl
theorem ret3_of {k k2 : Nat} {b b2 : Bool} {e e2 : Nat} (h : (k, b, e) = (k2, b2, e2)) : Ending.returned (.tuple #[.int .i64 (k : Int), .bool b, .int .i64 (e : Int)]) = .returned (.tuple #[.int .i64 (k2 : Int), .bool b2, .int .i64 (e2 : Int)]) := by
  simp only [Prod.mk.injEq] at h
  rw [h.1, h.2.1, h.2.2]
theorem rem_end {k k2 m : Nat} {b b2 nl : Bool} {e : Nat} (h : (k, b, e) = (m, nl, e)) (h2 : e = 0 → k2 = k ∧ b2 = b) : e = 0 → k2 = m ∧ b2 = nl := by
  simp only [Prod.mk.injEq] at h
  intro he
  exact ⟨(h2 he).1.trans h.1, (h2 he).2.trans h.2.1⟩
/-- what a remark comes to: past an error the places are left open -/
def RemQ (r : Nat × Bool × Nat) (e : Ending) : Prop := ∃ (k : Nat) (b : Bool), e = .returned (.tuple #[.int .i64 (k : Int), .bool b, .int .i64 (r.2.2 : Int)]) ∧ (r.2.2 = 0 → k = r.1 ∧ b = r.2.1)
theorem RemQ.all {k : Nat} {b : Bool} {e : Nat} {r : Nat × Bool × Nat} (h : (k, b, e) = r) : RemQ r (.returned (.tuple #[.int .i64 (k : Int), .bool b, .int .i64 (e : Int)])) := by
  subst h
  exact ⟨k, b, rfl, fun _ => ⟨rfl, rfl⟩⟩
theorem RemQ.bad {k k2 : Nat} {b b2 : Bool} {e : Nat} {r : Nat × Bool × Nat} (h : (k2, b2, e) = r) (he : e ≠ 0) : RemQ r (.returned (.tuple #[.int .i64 (k : Int), .bool b, .int .i64 (e : Int)])) := by
  subst h
  exact ⟨k, b, rfl, fun h => absurd h he⟩

set_option maxHeartbeats 8000000 in
set_option maxRecDepth 1000000 in
theorem rremark_any {A : Option Addr} {B n c i : Nat} {u : List UInt16} {w : World} (long : Bool) (hn : u.length = n) (hB : B ≤ w.heap.size) (ha : Reads w B 1 A n (u16s u)) (hi : i + 2 ≤ n) (hl : n ≤ 1000000) (hy : (atU u (i + 1)).toNat = if long = true then 42 else 47) (hs : starts [47, 42] (u.drop i) = long) {r : Nat × Bool × Nat} (hr : plus i (remarkF (u.drop i)) = r) :
    Calls Try.prog 15 #[.slice A n c, .int .i64 (i : Int)] w fun e w' => RemQ r e ∧ Below w.heap.size w w' := by
  subst hn
  have HA := hide ha
  have HST := hide (show AtRemR long u r (i + 2) false false by rw [← hr]; exact AtRemR.start hi hs)
  have hir : (i : Int) + 1 < (u.length : Int) := by omega
  have hii : i + 1 < u.length := by omega
  obtain ⟨b0, o0, rfl, _, hc0⟩ := HA.out.spotL (by omega)
  have hci := hc0 (i + 1) hii
  rw [atU_in hii] at hy
  obtain ⟨y, hyy⟩ : ∃ y, u[i + 1] = y := ⟨_, rfl⟩
  rw [hyy] at hci hy
  have hB0 : b0 < w.heap.size := World.block_lt_of_cell? w _ hci
  have hy47 : ((y.toNat : Int) == 47) = !long := by
    cases long <;> (rw [Bool.eq_iff_iff, beq_iff_eq]; simp at hy ⊢; omega)
  obtain ⟨ln, hln0⟩ : ∃ ln, (!long) = ln := ⟨_, rfl⟩
  rw [hln0] at hy47
  have HL0 := hide hln0
  clear hr hs ha hc0 hyy hy hln0
  go_enter Try.func15, Try.ntmps15
  go_wp2_with fail
  go_loopw [8, 9, 10] (fun ve vb vk wr => ∃ (k : Nat) (nl st : Bool), vk = .int .i64 (k : Int) ∧ vb = .bool nl ∧ ve = .int .i64 (leftF st : Int) ∧ Hid (AtRemR long u r k nl st) ∧ Hid (Below w.heap.size w wr)) (fun _ _ v _ => u.length - (intOf v).toNat)
  case atStart => exact ⟨i + 2, false, false, by go_num, rfl, rfl, HST.out, Below.refl _ _⟩
  case round =>
    clear HST hci hy47 hir hi hii
    obtain ⟨k, nl, st, rfl, rfl, rfl, hat, hbw⟩ := hrel
    have hk := hat.out.1
    by_cases hlt : k < u.length
    · have h1 : (k : Int) < (u.length : Int) := by omega
      have h2 : decide ((k : Int) < (u.length : Int)) = true := decide_eq_true h1
      have har := hide (HA.out.below (hbw.out.mono hB))
      obtain ⟨b1, o1, ho1, _, hc⟩ := har.out.spotL (by omega)
      obtain ⟨rfl, rfl⟩ : b0 = b1 ∧ o0 = o1 := by simpa using ho1
      have hck := hc k hlt
      have CY := hide (rat_any (w := wr) (c := c) (i := k + 1) rfl har.out)
      have HCL := hide (fun h => hat.out.close hlt h)
      have HLN := hide (fun h h' => hat.out.line hlt h h')
      have HSP := hide (fun h h' => hat.out.step hlt h h')
      have hst0 : ∀ x y : UInt16, u[k] = x → atU u (k + 1) = y → starT long u k = (long && (x.toNat == 42 && y.toNat == 47)) := by
        rintro x y rfl rfl
        unfold starT
        rw [atU_in hlt]
      obtain ⟨x, hx⟩ : ∃ x, u[k] = x := ⟨_, rfl⟩
      obtain ⟨y1, hy1⟩ : ∃ y1, atU u (k + 1) = y1 := ⟨_, rfl⟩
      have CF := hide (rfar_any x wr)
      have HS0 := hide (hst0 x y1 hx hy1)
      rw [hx] at hck HLN HSP
      rw [hy1] at CY
      obtain ⟨X, hX⟩ : ∃ X : Int, (x.toNat : Int) = X := ⟨_, rfl⟩
      obtain ⟨Y, hY⟩ : ∃ Y : Int, (y1.toNat : Int) = Y := ⟨_, rfl⟩
      rw [hX] at hck CF
      rw [hY] at CY
      have HX := hide hX
      have HY := hide hY
      cases long with
      | false =>
        obtain rfl : true = ln := HL0.out
        by_cases x10 : X = 10
        · subst x10
          have HE := hide (HLN.out (by rw [HS0.out]; rfl) (by show isLine x = true; unfold isLine; rw [show x.toNat = 10 by have := HX.out; omega]; rfl))
          clear HLN HCL HSP HS0 HX HY
          go_wp2_with fail
          go_ret3
          exact ⟨RemQ.all HE.out, hbw.out⟩
        by_cases x13 : X = 13
        · subst x13
          have HE := hide (HLN.out (by rw [HS0.out]; rfl) (by show isLine x = true; unfold isLine; rw [show x.toNat = 13 by have := HX.out; omega]; rfl))
          clear HLN HCL HSP HS0 HX HY
          go_wp2_with fail
          go_ret3
          exact ⟨RemQ.all HE.out, hbw.out⟩
        have e10 : (X == 10) = false := beq_eq_false_iff_ne.2 x10
        have e13 : (X == 13) = false := beq_eq_false_iff_ne.2 x13
        have hln : isLine x = false := by
          unfold isLine
          rw [show (x.toNat == 10) = false from beq_eq_false_iff_ne.2 (by have := HX.out; omega), show (x.toNat == 13) = false from beq_eq_false_iff_ne.2 (by have := HX.out; omega)]
          rfl
        have HLI := hide hln
        clear x10 x13 hln
        obtain ⟨q, hq⟩ : ∃ q, isFar x = q := ⟨_, rfl⟩
        have HS := hide (HSP.out (by rw [HS0.out]; rfl) (by rw [HLI.out]; rfl))
        rw [hq] at CF HS
        rw [HLI.out, Bool.or_false] at HS
        clear hq HLN HCL HSP HS0 HX HY
        cases nl
        all_goals
          cases q with
          | true =>
            go_wp2_with fail
            refine CF.out.mono ?_
            rintro e1 w1 ⟨rfl, rfl⟩
            go_wp2_with fail
            refine ⟨⟨k + 1, _, true, by go_num, by first | rfl | exact trivial, rfl, by have := HS.out; rw [Bool.or_true] at this; exact this, hbw.out⟩, by simp [intOf]; omega⟩
          | false =>
            go_wp2_with fail
            refine CF.out.mono ?_
            rintro e1 w1 ⟨rfl, rfl⟩
            go_wp2_with fail
            refine ⟨⟨k + 1, _, st, by go_num, by first | rfl | exact trivial, rfl, by have := HS.out; rw [Bool.or_false] at this; exact this, hbw.out⟩, by simp [intOf]; omega⟩
      | true =>
        obtain rfl : false = ln := HL0.out
        have CF0 := hide (fun (h : isFar x = false) => (show Calls Try.prog 29 #[.int .u16 X] wr fun e w' => e = .returned (.bool false) ∧ wr = w' from by have := CF.out; rwa [h] at this))
        by_cases x42 : X = 42
        · subst x42
          have hf0 : isFar x = false := by unfold isFar; rw [show x.toNat = 42 by have := HX.out; omega]; rfl
          by_cases y47 : Y = 47
          · subst y47
            have HE := hide (HCL.out (by rw [HS0.out, show x.toNat = 42 by have := HX.out; omega, show y1.toNat = 47 by have := HY.out; omega]; rfl))
            clear HLN HCL HSP HS0 HX HY hf0 CF0 CF
            go_wp2_with fail
            refine CY.out.mono ?_
            rintro e1 w1 ⟨rfl, rfl⟩
            go_wp2_with fail
            go_ret3
            exact ⟨RemQ.all HE.out, hbw.out⟩
          · have ey : (Y == 47) = false := beq_eq_false_iff_ne.2 y47
            have HS := hide (HSP.out (by rw [HS0.out, show (y1.toNat == 47) = false from beq_eq_false_iff_ne.2 (by have := HY.out; omega), Bool.and_false]; rfl) rfl)
            rw [show isLine x = false by unfold isLine; rw [show x.toNat = 42 by have := HX.out; omega]; rfl, hf0, Bool.or_false, Bool.or_false] at HS
            have CG := hide (CF0.out hf0)
            clear HLN HCL HSP HS0 HX HY hf0 CF0 CF y47
            cases nl
            all_goals
              go_wp2_with fail
              refine CY.out.mono ?_
              rintro e1 w1 ⟨rfl, rfl⟩
              go_wp2_with fail
              refine CG.out.mono ?_
              rintro e1 w1 ⟨rfl, rfl⟩
              go_wp2_with fail
              refine ⟨⟨k + 1, _, st, by go_num, by first | rfl | exact trivial, rfl, HS.out, hbw.out⟩, by simp [intOf]; omega⟩
        have e42 : (X == 42) = false := beq_eq_false_iff_ne.2 x42
        have HS := hide (HSP.out (by rw [HS0.out, show (x.toNat == 42) = false from beq_eq_false_iff_ne.2 (by have := HX.out; omega)]; rfl) rfl)
        by_cases xl : X = 10 ∨ X = 13
        · obtain ⟨hll, hf0⟩ := line_of (x := x) (by have := HX.out; omega)
          rw [hll, hf0, Bool.or_true, Bool.or_false] at HS
          have CG := hide (CF0.out hf0)
          clear HLN HCL HSP HS0 hf0 hll HX HY CF0 CF x42 e42
          rcases xl with rfl | rfl <;> cases nl
          all_goals
            go_wp2_with fail
            refine CG.out.mono ?_
            rintro e1 w1 ⟨rfl, rfl⟩
            go_wp2_with fail
            refine ⟨⟨k + 1, true, st, by go_num, by first | rfl | exact trivial, rfl, HS.out, hbw.out⟩, by simp [intOf]; omega⟩
        have e10 : (X == 10) = false := beq_eq_false_iff_ne.2 (fun h => xl (.inl h))
        have e13 : (X == 13) = false := beq_eq_false_iff_ne.2 (fun h => xl (.inr h))
        rw [show isLine x = false by
          unfold isLine
          rw [show (x.toNat == 10) = false from beq_eq_false_iff_ne.2 (fun h => xl (.inl (by have := HX.out; omega))), show (x.toNat == 13) = false from beq_eq_false_iff_ne.2 (fun h => xl (.inr (by have := HX.out; omega)))]
          rfl, Bool.or_false] at HS
        obtain ⟨q, hq⟩ : ∃ q, isFar x = q := ⟨_, rfl⟩
        rw [hq] at CF HS
        clear hq HLN HCL HSP HS0 HX HY CF0 x42 xl
        cases nl
        all_goals
          cases q with
          | true =>
            go_wp2_with fail
            refine CF.out.mono ?_
            rintro e1 w1 ⟨rfl, rfl⟩
            go_wp2_with fail
            refine ⟨⟨k + 1, _, true, by go_num, by first | rfl | exact trivial, rfl, by have := HS.out; rw [Bool.or_true] at this; exact this, hbw.out⟩, by simp [intOf]; omega⟩
          | false =>
            go_wp2_with fail
            refine CF.out.mono ?_
            rintro e1 w1 ⟨rfl, rfl⟩
            go_wp2_with fail
            refine ⟨⟨k + 1, _, st, by go_num, by first | rfl | exact trivial, rfl, by have := HS.out; rw [Bool.or_false] at this; exact this, hbw.out⟩, by simp [intOf]; omega⟩
    · have h1 : ¬ (k : Int) < (u.length : Int) := by omega
      have h2 : decide ((k : Int) < (u.length : Int)) = false := decide_eq_false h1
      obtain rfl : k = u.length := by omega
      have HD := hide hat.out.done
      clear hat
      cases long with
      | true =>
        obtain rfl : false = ln := HL0.out
        go_wp2_with fail
        go_ret3
        exact ⟨RemQ.bad HD.out (by decide), hbw.out⟩
      | false =>
        obtain rfl : true = ln := HL0.out
        go_wp2_with fail
        go_ret3
        exact ⟨RemQ.all HD.out, hbw.out⟩
end Go.Proofs.Ytbljbmeifmpfoaa

namespace Go.Proofs.Ytbljbmeifmpfoaa
open Go.RowKit

theorem hexD {x : UInt16} (h : 48 ≤ x.toNat ∧ x.toNat ≤ 57) : hexF x = x.toNat - 48 := by unfold hexF; rw [if_pos (isDigit_iff.2 h)]
theorem hexL {x : UInt16} (h : 97 ≤ x.toNat ∧ x.toNat ≤ 102) : hexF x = x.toNat - 87 := by
  unfold hexF
  rw [if_neg (fun h2 => by have := isDigit_iff.1 h2; omega), if_pos h]
theorem hexU {x : UInt16} (h : 65 ≤ x.toNat ∧ x.toNat ≤ 70) : hexF x = x.toNat - 55 := by
  unfold hexF
  rw [if_neg (fun h2 => by have := isDigit_iff.1 h2; omega), if_neg (by omega), if_pos h]
theorem hexN {x : UInt16} (h : ¬ (48 ≤ x.toNat ∧ x.toNat ≤ 57)) (h2 : ¬ (97 ≤ x.toNat ∧ x.toNat ≤ 102)) (h3 : ¬ (65 ≤ x.toNat ∧ x.toNat ≤ 70)) : isHex x = false := by
  unfold isHex hexF
  rw [if_neg (fun h4 => h (isDigit_iff.1 h4)), if_neg h2, if_neg h3]
  rfl
theorem hexB {x : UInt16} (h : hexF x < 16) : isHex x = true := decide_eq_true h
def HexQ (cnt : Nat) (r : Nat × UInt16 × Nat) (e : Ending) : Prop := ∃ z : Int, e = .returned (.int .i64 z) ∧ ((z = -1 ∧ r = (5, 0, 0)) ∨ (∃ v : Nat, v < 65536 ∧ z = (v : Int) ∧ r = (0, UInt16.ofNat v, cnt)))
theorem HexQ.bad {cnt : Nat} {r : Nat × UInt16 × Nat} (h : (5, 0, 0) = r) : HexQ cnt r (.returned (.int .i64 (-1))) := ⟨-1, rfl, .inl ⟨rfl, h.symm⟩⟩
theorem pow4 {j : Nat} (h : j ≤ 4) : 16 ^ j ≤ 65536 := Nat.pow_le_pow_right (by decide) h
set_option maxHeartbeats 8000000 in
set_option maxRecDepth 1000000 in
theorem rhex_any {A : Option Addr} {B n c i cnt : Nat} {u : List UInt16} {w : World} (hn : u.length = n) (ha : Reads w B 1 A n (u16s u)) (hi : i ≤ 1000000) (hcnt : cnt ≤ 4) {r : Nat × UInt16 × Nat} (hr : codeF cnt (u.drop i) = r) :
    Calls Try.prog 78 #[.slice A n c, .int .i64 (i : Int), .int .i64 (cnt : Int)] w fun e w' => HexQ cnt r e ∧ w = w' := by
  subst hn
  have HR := hide hr
  have HN := hide (Eq.refl u.length)
  have hin := hide (show AtCode u i 0 0 from ⟨Nat.zero_le _, rfl, rfl, by decide⟩)
  have HCY := hide (fun (p : Nat) => rat_any (w := w) (c := c) (i := p) rfl ha)
  obtain ⟨N, hN⟩ : ∃ N, u.length = N := ⟨_, rfl⟩
  have HNN := hide hN
  rw [hN] at HCY ⊢
  clear hr ha hN HN
  go_enter Try.func78, Try.ntmps78
  go_wp2_with fail
  go_loopw [7, 8] (fun vv vk wr => ∃ (j v p : Nat), j ≤ cnt ∧ vk = .int .i64 (p : Int) ∧ Hid (p = i + j) ∧ vv = .int .i64 (v : Int) ∧ Hid (AtCode u i j v) ∧ w = wr) (fun _ v _ => i + cnt - (intOf v).toNat)
  case atStart => exact ⟨0, 0, i, Nat.zero_le _, rfl, rfl, rfl, hin.out, rfl⟩
  case round =>
    clear hin
    obtain ⟨j, v, p, hj, rfl, hp, rfl, hat, rfl⟩ := hrel
    have hv : v < 65536 := Nat.lt_of_lt_of_le hat.out.2.2.2 (pow4 (by omega))
    have hpj := hp.out
    by_cases hjc : j < cnt
    · have l1 : (p : Int) < (i : Int) + (cnt : Int) := by omega
      have l2 : decide ((p : Int) < (i : Int) + (cnt : Int)) = true := decide_eq_true l1
      have l3 : decide (p < i + cnt) = true := decide_eq_true (by omega)
      clear hpj
      have CY := hide (HCY.out p)
      obtain ⟨x, hx⟩ : ∃ x, atU u p = x := ⟨_, rfl⟩
      rw [hx] at CY
      have HBD := hide (fun (h : isHex x = false) => hat.out.bad hjc (by rw [isAt_atU (p := isHex) (by decide), Nat.add_zero, ← hp.out, hx]; exact h))
      have hxb := x.toNat_lt
      by_cases hpn : p < N
      · have l4 : ¬ (N : Int) ≤ (p : Int) := by omega
        have l5 : decide ((N : Int) ≤ (p : Int)) = false := decide_eq_false l4
        have HST := hide (fun (h : hexF x < 16) => (show AtCode u i (j + 1) (16 * v + hexF x) by
          have hpu : p < u.length := by rw [HNN.out]; exact hpn
          have := hat.out.stepP hp.out hpu (by rw [← atU_in hpu, hx]; exact hexB h)
          rwa [← atU_in hpu, hx] at this))
        obtain ⟨X, hX⟩ : ∃ X : Int, (x.toNat : Int) = X := ⟨_, rfl⟩
        have HX := hide hX
        rw [hX] at CY
        have hX0 : 0 ≤ X := by omega
        have hX1 : X < 65536 := by omega
        clear hat hX
        by_cases c1 : 48 ≤ X ∧ X ≤ 57
        · obtain ⟨c1, c2⟩ := c1
          have hf := hexD (x := x) (by have := HX.out; omega)
          have hs := hide (HST.out (by rw [hf]; have := HX.out; omega))
          rw [hf] at hs
          clear HST HBD hf
          go_wp2_with fail
          refine CY.out.mono ?_
          rintro e1 w1 ⟨rfl, rfl⟩
          go_wp2_with fail
          go_roundw
          case rel => exact ⟨j + 1, _, p + 1, by omega, by go_num, by rw [hp.out]; rfl, by have := HX.out; exact congrArg (Value.int .i64) (by omega), hs.out, by first | rfl | exact trivial⟩
          case measure => simp [intOf]; omega
        by_cases c2 : 97 ≤ X ∧ X ≤ 102
        · obtain ⟨c2, c3⟩ := c2
          have hf := hexL (x := x) (by have := HX.out; omega)
          have hs := hide (HST.out (by rw [hf]; have := HX.out; omega))
          rw [hf] at hs
          have c4 : ¬ X ≤ 57 := by omega
          clear HST HBD hf c1
          go_wp2_with fail
          refine CY.out.mono ?_
          rintro e1 w1 ⟨rfl, rfl⟩
          go_wp2_with fail
          go_roundw
          case rel => exact ⟨j + 1, _, p + 1, by omega, by go_num, by rw [hp.out]; rfl, by have := HX.out; exact congrArg (Value.int .i64) (by omega), hs.out, by first | rfl | exact trivial⟩
          case measure => simp [intOf]; omega
        by_cases c3 : 65 ≤ X ∧ X ≤ 70
        · obtain ⟨c3, c5⟩ := c3
          have hf := hexU (x := x) (by have := HX.out; omega)
          have hs := hide (HST.out (by rw [hf]; have := HX.out; omega))
          rw [hf] at hs
          have c4 : ¬ X ≤ 57 := by omega
          have c6 : ¬ 97 ≤ X := by omega
          clear HST HBD hf c1 c2
          go_wp2_with fail
          refine CY.out.mono ?_
          rintro e1 w1 ⟨rfl, rfl⟩
          go_wp2_with fail
          go_roundw
          case rel => exact ⟨j + 1, _, p + 1, by omega, by go_num, by rw [hp.out]; rfl, by have := HX.out; exact congrArg (Value.int .i64) (by omega), hs.out, by first | rfl | exact trivial⟩
          case measure => simp [intOf]; omega
        have hb := hide ((HBD.out (hexN (by have := HX.out; omega) (by have := HX.out; omega) (by have := HX.out; omega))).symm.trans HR.out)
        obtain ⟨b1, hb1⟩ : ∃ b : Bool, decide (48 ≤ X) = b := ⟨_, rfl⟩
        obtain ⟨b2, hb2⟩ : ∃ b : Bool, decide (97 ≤ X) = b := ⟨_, rfl⟩
        obtain ⟨b3, hb3⟩ : ∃ b : Bool, decide (65 ≤ X) = b := ⟨_, rfl⟩
        have d1 : b1 = true → decide (X ≤ 57) = false := fun h => by subst h; have := of_decide_eq_true hb1; exact decide_eq_false (by omega)
        have d2 : b2 = true → decide (X ≤ 102) = false := fun h => by subst h; have := of_decide_eq_true hb2; exact decide_eq_false (by omega)
        have d3 : b3 = true → decide (X ≤ 70) = false := fun h => by subst h; have := of_decide_eq_true hb3; exact decide_eq_false (by omega)
        clear HST HBD c1 c2 c3 HX
        cases b1 <;> cases b2 <;> cases b3
        all_goals
          first
          | (exfalso; simp only [decide_eq_true_eq, decide_eq_false_iff_not] at hb1 hb2 hb3; omega)
          | (simp only [decide_eq_true_eq, decide_eq_false_iff_not] at hb1 hb2 hb3
             first | replace d1 := of_decide_eq_false (d1 rfl) | clear d1
             first | replace d2 := of_decide_eq_false (d2 rfl) | clear d2
             first | replace d3 := of_decide_eq_false (d3 rfl) | clear d3
             go_wp2_with fail
             refine CY.out.mono ?_
             rintro e1 w1 ⟨rfl, rfl⟩
             go_wp2_with fail
             go_ret
             exact ⟨HexQ.bad hb.out, rfl⟩)
      · have l4 : (N : Int) ≤ (p : Int) := by omega
        have l5 : decide ((N : Int) ≤ (p : Int)) = true := decide_eq_true l4
        have hb := hide ((HBD.out (by rw [← hx, atU_out (by rw [HNN.out]; exact hpn)]; decide)).symm.trans HR.out)
        clear hat HBD hx
        go_wp2_with fail
        refine CY.out.mono ?_
        rintro e1 w1 ⟨rfl, rfl⟩
        go_wp2_with fail
        go_ret
        exact ⟨HexQ.bad hb.out, rfl⟩
    · have l1 : ¬ (p : Int) < (i : Int) + (cnt : Int) := by omega
      have l2 : decide ((p : Int) < (i : Int) + (cnt : Int)) = false := decide_eq_false l1
      have l3 : decide (p < i + cnt) = false := decide_eq_false (by omega)
      obtain rfl : j = cnt := by omega
      have hb := hide (hat.out.done.symm.trans HR.out)
      clear hat hpj
      go_wp2_with fail
      go_ret
      exact ⟨⟨_, rfl, .inr ⟨v, hv, rfl, hb.out.symm⟩⟩, rfl⟩
end Go.Proofs.Ytbljbmeifmpfoaa

namespace Go.Proofs.Ytbljbmeifmpfoaa
open Go.RowKit

def NotS (k : Nat) (x : UInt16) : Prop := (0 < k → x.toNat ≠ 110) ∧ (1 < k → x.toNat ≠ 116) ∧ (2 < k → x.toNat ≠ 114) ∧ (3 < k → x.toNat ≠ 98) ∧ (4 < k → x.toNat ≠ 118) ∧ (5 < k → x.toNat ≠ 102)
theorem NotS.start (x : UInt16) : NotS 0 x := ⟨fun h => absurd h (by decide), fun h => absurd h (by decide), fun h => absurd h (by decide), fun h => absurd h (by decide), fun h => absurd h (by decide), fun h => absurd h (by decide)⟩
theorem NotS.none {x : UInt16} (h : NotS 6 x) : simpleF x = none := by
  obtain ⟨h0, h1, h2, h3, h4, h5⟩ := h
  have g : ∀ {a : UInt16} {n : Nat}, a.toNat = n → x.toNat ≠ n → ¬ x = a := fun ha hn e => hn (by rw [e, ha])
  unfold simpleF
  rw [if_neg (g (a := 110) (n := 110) rfl (h0 (by decide))), if_neg (g (a := 116) (n := 116) rfl (h1 (by decide))), if_neg (g (a := 114) (n := 114) rfl (h2 (by decide))), if_neg (g (a := 98) (n := 98) rfl (h3 (by decide))), if_neg (g (a := 118) (n := 118) rfl (h4 (by decide))), if_neg (g (a := 102) (n := 102) rfl (h5 (by decide)))]
theorem esc_hit {x z : UInt16} {r : List UInt16} (h : simpleF x = some z) : escF (x :: r) = (0, z, 1) := by rw [escF_cons, h]; rfl
theorem esc_rest {x : UInt16} {r : List UInt16} (h : NotS 6 x) : escF (x :: r) = escR x r := by rw [escF_cons, h.none]; rfl
theorem u16_eq {x a : UInt16} (h : x.toNat = a.toNat) : x = a := UInt16.toNat_inj.1 h
/-- what escape returns -/
def escE (r : Nat × UInt16 × Nat) : Ending := .returned (.tuple #[.int .u16 (r.2.1.toNat : Int), .int .i64 (r.2.2 : Int), .int .i64 (r.1 : Int)])
theorem escE.of {e : Nat} {y : UInt16} {m : Nat} {r : Nat × UInt16 × Nat} (h : (e, y, m) = r) : Ending.returned (.tuple #[.int .u16 (y.toNat : Int), .int .i64 (m : Int), .int .i64 (e : Int)]) = escE r := by rw [← h]; rfl
theorem escE.code {cnt v : Nat} {r : Nat × UInt16 × Nat} (hv : v < 65536) (h : more 1 (0, UInt16.ofNat v, cnt) = r) : Ending.returned (.tuple #[.int .u16 (v : Int), .int .i64 ((1 : Int) + (cnt : Int)), .int .i64 0]) = escE r := by
  subst h
  unfold escE more
  rw [if_pos rfl]
  show _ = Ending.returned (.tuple #[.int .u16 ((UInt16.ofNat v).toNat : Int), .int .i64 ((1 + cnt : Nat) : Int), .int .i64 0])
  rw [show (UInt16.ofNat v).toNat = v from by rw [UInt16.toNat_ofNat']; omega, Int.natCast_add]
  rfl

set_option maxHeartbeats 8000000 in
set_option maxRecDepth 1000000 in
theorem rescape_any {A : Option Addr} {B n c i : Nat} {u : List UInt16} {w : World} (hn : u.length = n) (ha : Reads w B 1 A n (u16s u)) (hi : i < n) (hl : n ≤ 1000000) {r : Nat × UInt16 × Nat} (hr : escF (u.drop i) = r) :
    Calls Try.prog 54 #[.slice A n c, .int .i64 (i : Int)] w fun e w' => e = escE r ∧ Below w.heap.size w w' := by
  subst hn
  have HA := hide ha
  have hx0 : u.drop i = u[i] :: u.drop (i + 1) := List.drop_eq_getElem_cons hi
  have CX := hide (rat_any (w := w) (c := c) (i := i) rfl ha)
  have CY := hide (rat_any (w := w) (c := c) (i := i + 1) rfl ha)
  rw [atU_in hi] at CX
  obtain ⟨x, hx⟩ : ∃ x, u[i] = x := ⟨_, rfl⟩
  rw [hx] at CX hx0
  rw [hx0] at hr
  obtain ⟨y1, hy1⟩ : ∃ y1, atU u (i + 1) = y1 := ⟨_, rfl⟩
  rw [hy1] at CY
  have HY1 := hide hy1
  have HR := hide hr
  have CD := hide (rdigit_any x w)
  have CE := hide (rdigit_any y1 w)
  have CF := hide (rfar_any x w)
  have hx1 := x.toNat_lt
  obtain ⟨X, hX⟩ : ∃ X : Int, (x.toNat : Int) = X := ⟨_, rfl⟩
  obtain ⟨Y, hY⟩ : ∃ Y : Int, (y1.toNat : Int) = Y := ⟨_, rfl⟩
  have HX := hide hX
  have HY := hide hY
  have hX0 : 0 ≤ X := by omega
  have hX1 : X < 65536 := by omega
  rw [hX] at CX CD CF
  rw [hY] at CY CE
  clear hr hx0 hx ha hy1 hX hY
  go_enter Try.func54, Try.ntmps54
  go_wp2_with fail
  refine CX.out.mono ?_
  rintro e1 w1 ⟨rfl, rfl⟩
  clear CX
  go_wp2_with fail
  go_loopw [9] (fun vk wr => ∃ k : Nat, vk = .int .i64 (k : Int) ∧ k ≤ 6 ∧ Hid (NotS k x) ∧ w = wr) (fun v _ => 6 - (intOf v).toNat)
  case atStart => exact ⟨0, rfl, by decide, NotS.start x, rfl⟩
  case round =>
    obtain ⟨k, rfl, hk, hns, rfl⟩ := hrel
    obtain rfl | rfl | rfl | rfl | rfl | rfl | rfl : k = 0 ∨ k = 1 ∨ k = 2 ∨ k = 3 ∨ k = 4 ∨ k = 5 ∨ k = 6 := by omega
    · clear hk
      have hs0 : (((⟨#[110, 116, 114, 98, 118, 102]⟩ : ByteArray)[0]'(by decide)).toNat : Int) = 110 := rfl
      by_cases hc : X = 110
      · have hz := hide (show escF (x :: u.drop (i + 1)) = (0, 10, 1) from esc_hit (by rw [u16_eq (x := x) (a := 110) (by have := HX.out; rw [hc] at this; exact Int.ofNat_inj.1 this)]; rfl))
        subst hc
        clear CY CD CE CF HX HY
        go_wp2_with fail
        go_ret3
        exact ⟨escE.of (e := 0) (y := 10) (m := 1) (hz.out.symm.trans HR.out), (Below.refl _ _).alloc (Nat.le_refl _) _⟩
      · have hce : (X == 110) = false := beq_eq_false_iff_ne.2 hc
        have hn2 := hide (show NotS 1 x by
          obtain ⟨h0, h1, h2, h3, h4, h5⟩ := hns.out
          have := HX.out
          exact ⟨fun _ => by first | exact h0 (by decide) | omega, fun h => by first | exact absurd h (by decide) | exact h1 (by decide) | omega, fun h => by first | exact absurd h (by decide) | exact h2 (by decide) | omega, fun h => by first | exact absurd h (by decide) | exact h3 (by decide) | omega, fun h => by first | exact absurd h (by decide) | exact h4 (by decide) | omega, fun h => by first | exact absurd h (by decide) | exact h5 (by decide) | omega⟩)
        clear hns hc CY CD CE CF
        go_wp2_with fail
        go_roundw
        case rel => exact ⟨1, rfl, by decide, hn2.out, by first | rfl | exact trivial⟩
        case measure => simp [intOf]
    · clear hk
      have hs1 : (((⟨#[110, 116, 114, 98, 118, 102]⟩ : ByteArray)[1]'(by decide)).toNat : Int) = 116 := rfl
      by_cases hc : X = 116
      · have hz := hide (show escF (x :: u.drop (i + 1)) = (0, 9, 1) from esc_hit (by rw [u16_eq (x := x) (a := 116) (by have := HX.out; rw [hc] at this; exact Int.ofNat_inj.1 this)]; rfl))
        subst hc
        clear CY CD CE CF HX HY
        go_wp2_with fail
        go_ret3
        exact ⟨escE.of (e := 0) (y := 9) (m := 1) (hz.out.symm.trans HR.out), (Below.refl _ _).alloc (Nat.le_refl _) _⟩
      · have hce : (X == 116) = false := beq_eq_false_iff_ne.2 hc
        have hn2 := hide (show NotS 2 x by
          obtain ⟨h0, h1, h2, h3, h4, h5⟩ := hns.out
          have := HX.out
          exact ⟨fun _ => by first | exact h0 (by decide) | omega, fun h => by first | exact absurd h (by decide) | exact h1 (by decide) | omega, fun h => by first | exact absurd h (by decide) | exact h2 (by decide) | omega, fun h => by first | exact absurd h (by decide) | exact h3 (by decide) | omega, fun h => by first | exact absurd h (by decide) | exact h4 (by decide) | omega, fun h => by first | exact absurd h (by decide) | exact h5 (by decide) | omega⟩)
        clear hns hc CY CD CE CF
        go_wp2_with fail
        go_roundw
        case rel => exact ⟨2, rfl, by decide, hn2.out, by first | rfl | exact trivial⟩
        case measure => simp [intOf]
    · clear hk
      have hs2 : (((⟨#[110, 116, 114, 98, 118, 102]⟩ : ByteArray)[2]'(by decide)).toNat : Int) = 114 := rfl
      by_cases hc : X = 114
      · have hz := hide (show escF (x :: u.drop (i + 1)) = (0, 13, 1) from esc_hit (by rw [u16_eq (x := x) (a := 114) (by have := HX.out; rw [hc] at this; exact Int.ofNat_inj.1 this)]; rfl))
        subst hc
        clear CY CD CE CF HX HY
        go_wp2_with fail
        go_ret3
        exact ⟨escE.of (e := 0) (y := 13) (m := 1) (hz.out.symm.trans HR.out), (Below.refl _ _).alloc (Nat.le_refl _) _⟩
      · have hce : (X == 114) = false := beq_eq_false_iff_ne.2 hc
        have hn2 := hide (show NotS 3 x by
          obtain ⟨h0, h1, h2, h3, h4, h5⟩ := hns.out
          have := HX.out
          exact ⟨fun _ => by first | exact h0 (by decide) | omega, fun h => by first | exact absurd h (by decide) | exact h1 (by decide) | omega, fun h => by first | exact absurd h (by decide) | exact h2 (by decide) | omega, fun h => by first | exact absurd h (by decide) | exact h3 (by decide) | omega, fun h => by first | exact absurd h (by decide) | exact h4 (by decide) | omega, fun h => by first | exact absurd h (by decide) | exact h5 (by decide) | omega⟩)
        clear hns hc CY CD CE CF
        go_wp2_with fail
        go_roundw
        case rel => exact ⟨3, rfl, by decide, hn2.out, by first | rfl | exact trivial⟩
        case measure => simp [intOf]
    · clear hk
      have hs3 : (((⟨#[110, 116, 114, 98, 118, 102]⟩ : ByteArray)[3]'(by decide)).toNat : Int) = 98 := rfl
      by_cases hc : X = 98
      · have hz := hide (show escF (x :: u.drop (i + 1)) = (0, 8, 1) from esc_hit (by rw [u16_eq (x := x) (a := 98) (by have := HX.out; rw [hc] at this; exact Int.ofNat_inj.1 this)]; rfl))
        subst hc
        clear CY CD CE CF HX HY
        go_wp2_with fail
        go_ret3
        exact ⟨escE.of (e := 0) (y := 8) (m := 1) (hz.out.symm.trans HR.out), (Below.refl _ _).alloc (Nat.le_refl _) _⟩
      · have hce : (X == 98) = false := beq_eq_false_iff_ne.2 hc
        have hn2 := hide (show NotS 4 x by
          obtain ⟨h0, h1, h2, h3, h4, h5⟩ := hns.out
          have := HX.out
          exact ⟨fun _ => by first | exact h0 (by decide) | omega, fun h => by first | exact absurd h (by decide) | exact h1 (by decide) | omega, fun h => by first | exact absurd h (by decide) | exact h2 (by decide) | omega, fun h => by first | exact absurd h (by decide) | exact h3 (by decide) | omega, fun h => by first | exact absurd h (by decide) | exact h4 (by decide) | omega, fun h => by first | exact absurd h (by decide) | exact h5 (by decide) | omega⟩)
        clear hns hc CY CD CE CF
        go_wp2_with fail
        go_roundw
        case rel => exact ⟨4, rfl, by decide, hn2.out, by first | rfl | exact trivial⟩
        case measure => simp [intOf]
    · clear hk
      have hs4 : (((⟨#[110, 116, 114, 98, 118, 102]⟩ : ByteArray)[4]'(by decide)).toNat : Int) = 118 := rfl
      by_cases hc : X = 118
      · have hz := hide (show escF (x :: u.drop (i + 1)) = (0, 11, 1) from esc_hit (by rw [u16_eq (x := x) (a := 118) (by have := HX.out; rw [hc] at this; exact Int.ofNat_inj.1 this)]; rfl))
        subst hc
        clear CY CD CE CF HX HY
        go_wp2_with fail
        go_ret3
        exact ⟨escE.of (e := 0) (y := 11) (m := 1) (hz.out.symm.trans HR.out), (Below.refl _ _).alloc (Nat.le_refl _) _⟩
      · have hce : (X == 118) = false := beq_eq_false_iff_ne.2 hc
        have hn2 := hide (show NotS 5 x by
          obtain ⟨h0, h1, h2, h3, h4, h5⟩ := hns.out
          have := HX.out
          exact ⟨fun _ => by first | exact h0 (by decide) | omega, fun h => by first | exact absurd h (by decide) | exact h1 (by decide) | omega, fun h => by first | exact absurd h (by decide) | exact h2 (by decide) | omega, fun h => by first | exact absurd h (by decide) | exact h3 (by decide) | omega, fun h => by first | exact absurd h (by decide) | exact h4 (by decide) | omega, fun h => by first | exact absurd h (by decide) | exact h5 (by decide) | omega⟩)
        clear hns hc CY CD CE CF
        go_wp2_with fail
        go_roundw
        case rel => exact ⟨5, rfl, by decide, hn2.out, by first | rfl | exact trivial⟩
        case measure => simp [intOf]
    · clear hk
      have hs5 : (((⟨#[110, 116, 114, 98, 118, 102]⟩ : ByteArray)[5]'(by decide)).toNat : Int) = 102 := rfl
      by_cases hc : X = 102
      · have hz := hide (show escF (x :: u.drop (i + 1)) = (0, 12, 1) from esc_hit (by rw [u16_eq (x := x) (a := 102) (by have := HX.out; rw [hc] at this; exact Int.ofNat_inj.1 this)]; rfl))
        subst hc
        clear CY CD CE CF HX HY
        go_wp2_with fail
        go_ret3
        exact ⟨escE.of (e := 0) (y := 12) (m := 1) (hz.out.symm.trans HR.out), (Below.refl _ _).alloc (Nat.le_refl _) _⟩
      · have hce : (X == 102) = false := beq_eq_false_iff_ne.2 hc
        have hn2 := hide (show NotS 6 x by
          obtain ⟨h0, h1, h2, h3, h4, h5⟩ := hns.out
          have := HX.out
          exact ⟨fun _ => by first | exact h0 (by decide) | omega, fun h => by first | exact absurd h (by decide) | exact h1 (by decide) | omega, fun h => by first | exact absurd h (by decide) | exact h2 (by decide) | omega, fun h => by first | exact absurd h (by decide) | exact h3 (by decide) | omega, fun h => by first | exact absurd h (by decide) | exact h4 (by decide) | omega, fun h => by first | exact absurd h (by decide) | exact h5 (by decide) | omega⟩)
        clear hns hc CY CD CE CF
        go_wp2_with fail
        go_roundw
        case rel => exact ⟨6, rfl, by decide, hn2.out, by first | rfl | exact trivial⟩
        case measure => simp [intOf]
    · have hE := hide ((esc_rest (r := u.drop (i + 1)) hns.out).symm.trans HR.out)
      obtain ⟨n0, n1, n2, n3, n4, n5⟩ := hns.out
      clear HR hns hk
      have hR := hE.out
      unfold escR at hR
      rw [isAt_atU (p := isDigit) (by decide), Nat.add_zero, starts_one (c := 123) (by decide), HY1.out] at hR
      by_cases h48 : X = 48
      · have hx48 : x.toNat = 48 := by have := HX.out; omega
        have hdg : isDigit x = true := isDigit_iff.2 (by omega)
        rw [hx48, hdg] at hR
        rw [hdg] at CD
        subst h48
        obtain ⟨d, hd⟩ : ∃ d, isDigit y1 = d := ⟨_, rfl⟩
        rw [hd] at hR CE
        cases d with
        | false =>
          have HZ := hide (show (0, (0 : UInt16), 1) = r by simpa using hR)
          clear hR hdg hx48 hd hE n0 n1 n2 n3 n4 n5 CD CF
          go_wp2_with (first | (go_at_call 14; refine CY.out.mono ?_; rintro e2 w2 ⟨rfl, rfl⟩) | (go_at_call 32; refine CE.out.mono ?_; rintro e2 w2 ⟨rfl, rfl⟩) | (go_at_call 29; refine CF.out.mono ?_; rintro e2 w2 ⟨rfl, rfl⟩))
          go_ret3
          exact ⟨escE.of (e := 0) (y := 0) (m := 1) HZ.out, Below.refl _ _⟩
        | true =>
          have HZ := hide (show (5, (0 : UInt16), 0) = r by simpa using hR)
          clear hR hdg hx48 hd hE n0 n1 n2 n3 n4 n5 CF
          go_wp2_with (first | (go_at_call 14; refine CY.out.mono ?_; rintro e2 w2 ⟨rfl, rfl⟩; go_wp2_with fail; refine CE.out.mono ?_; rintro e2 w2 ⟨rfl, rfl⟩) | (go_at_call 32; refine CD.out.mono ?_; rintro e2 w2 ⟨rfl, rfl⟩))
          go_ret3
          exact ⟨escE.of (e := 5) (y := 0) (m := 0) HZ.out, Below.refl _ _⟩
      have e48 : (X == 48) = false := beq_eq_false_iff_ne.2 h48
      rw [show (x.toNat == 48) = false from beq_eq_false_iff_ne.2 (by have := HX.out; omega)] at hR
      simp only [Bool.false_and, Bool.false_eq_true, if_false] at hR
      obtain ⟨d, hd⟩ : ∃ d, isDigit x = d := ⟨_, rfl⟩
      rw [hd] at hR CD
      clear h48 hE
      cases d with
      | true =>
        have HZ := hide (show (5, (0 : UInt16), 0) = r by simpa using hR)
        clear hR hd n0 n1 n2 n3 n4 n5 CE CF CY
        go_wp2_with (first | (go_at_call 14; refine CY.out.mono ?_; rintro e2 w2 ⟨rfl, rfl⟩) | (go_at_call 32; refine CD.out.mono ?_; rintro e2 w2 ⟨rfl, rfl⟩) | (go_at_call 29; refine CF.out.mono ?_; rintro e2 w2 ⟨rfl, rfl⟩))
        go_ret3
        exact ⟨escE.of (e := 5) (y := 0) (m := 0) HZ.out, Below.refl _ _⟩
      | false =>
        simp only [Bool.false_eq_true, if_false] at hR
        by_cases hl : X = 10 ∨ X = 13
        · have hll := (line_of (x := x) (by have := HX.out; omega)).1
          have HZ := hide (show (6, (0 : UInt16), 0) = r by rw [hll] at hR; simpa using hR)
          clear hR hd hll n0 n1 n2 n3 n4 n5 CE CF CY HX
          rcases hl with rfl | rfl
          all_goals
            go_wp2_with (first | (go_at_call 14; refine CY.out.mono ?_; rintro e2 w2 ⟨rfl, rfl⟩) | (go_at_call 32; refine CD.out.mono ?_; rintro e2 w2 ⟨rfl, rfl⟩) | (go_at_call 29; refine CF.out.mono ?_; rintro e2 w2 ⟨rfl, rfl⟩))
            go_ret3
            exact ⟨escE.of (e := 6) (y := 0) (m := 0) HZ.out, Below.refl _ _⟩
        have e10 : (X == 10) = false := beq_eq_false_iff_ne.2 (fun h => hl (.inl h))
        have e13 : (X == 13) = false := beq_eq_false_iff_ne.2 (fun h => hl (.inr h))
        rw [show isLine x = false by
          unfold isLine
          rw [show (x.toNat == 10) = false from beq_eq_false_iff_ne.2 (fun h => hl (.inl (by have := HX.out; omega))), show (x.toNat == 13) = false from beq_eq_false_iff_ne.2 (fun h => hl (.inr (by have := HX.out; omega)))]
          rfl, Bool.false_or] at hR
        obtain ⟨q, hq⟩ : ∃ q, isFar x = q := ⟨_, rfl⟩
        rw [hq] at hR CF
        clear hl hq hd
        cases q with
        | true =>
          have HZ := hide (show (6, (0 : UInt16), 0) = r by simpa using hR)
          clear hR n0 n1 n2 n3 n4 n5 CE CY HX
          go_wp2_with (first | (go_at_call 14; refine CY.out.mono ?_; rintro e2 w2 ⟨rfl, rfl⟩) | (go_at_call 32; refine CD.out.mono ?_; rintro e2 w2 ⟨rfl, rfl⟩) | (go_at_call 29; refine CF.out.mono ?_; rintro e2 w2 ⟨rfl, rfl⟩))
          go_ret3
          exact ⟨escE.of (e := 6) (y := 0) (m := 0) HZ.out, Below.refl _ _⟩
        | false =>
          rw [Bool.false_or] at hR
          by_cases h117 : X = 117
          · have hx117 : x.toNat = 117 := by have := HX.out; omega
            rw [hx117] at hR
            by_cases hy : Y = 123
            · have HZ := hide (show (6, (0 : UInt16), 0) = r by rw [show y1.toNat = 123 by have := HY.out; omega] at hR; simpa using hR)
              subst hy h117
              clear hR n0 n1 n2 n3 n4 n5 CE HX hx117 HY
              go_wp2_with (first | (go_at_call 14; refine CY.out.mono ?_; rintro e2 w2 ⟨rfl, rfl⟩) | (go_at_call 32; refine CD.out.mono ?_; rintro e2 w2 ⟨rfl, rfl⟩) | (go_at_call 29; refine CF.out.mono ?_; rintro e2 w2 ⟨rfl, rfl⟩))
              go_ret3
              exact ⟨escE.of (e := 6) (y := 0) (m := 0) HZ.out, Below.refl _ _⟩
            · have ey : (Y == 123) = false := beq_eq_false_iff_ne.2 hy
              have HZ := hide (show more 1 (codeF 4 (u.drop (i + 1))) = r by
                rw [show (y1.toNat == (123 : UInt8).toNat) = false from beq_eq_false_iff_ne.2 (by show y1.toNat ≠ 123; have := HY.out; omega)] at hR
                simpa using hR)
              have CH := hide (rhex_any (c := c) (i := i + 1) (cnt := 4) (w := w) rfl HA.out (by omega) (by decide) rfl)
              subst h117
              clear hR n0 n1 n2 n3 n4 n5 CE HX hx117 HY hy
              go_wp2_with (first | (go_at_call 14; refine CY.out.mono ?_; rintro e2 w2 ⟨rfl, rfl⟩) | (go_at_call 32; refine CD.out.mono ?_; rintro e2 w2 ⟨rfl, rfl⟩) | (go_at_call 29; refine CF.out.mono ?_; rintro e2 w2 ⟨rfl, rfl⟩))
              go_at_call 78
              refine CH.out.mono ?_
              rintro e2 w2 ⟨⟨z, rfl, hz⟩, rfl⟩
              rcases hz with ⟨rfl, h5⟩ | ⟨v, hv, rfl, h0⟩
              · have HZ2 := hide (show (5, (0 : UInt16), 0) = r by rw [← HZ.out, h5]; rfl)
                clear h5
                go_wp2_with fail
                go_ret3
                exact ⟨escE.of (e := 5) (y := 0) (m := 0) HZ2.out, Below.refl _ _⟩
              · have HZ2 := hide (show more 1 (0, UInt16.ofNat v, 4) = r by rw [← HZ.out, h0])
                clear h0
                have hvI : ¬ (v : Int) < 0 := by omega
                go_wp2_with fail
                go_ret3
                exact ⟨escE.code hv HZ2.out, Below.refl _ _⟩
          · have e117 : (X == 117) = false := beq_eq_false_iff_ne.2 h117
            have hx117 : ¬ x.toNat = 117 := by have := HX.out; omega
            rw [show (x.toNat == 117) = false from beq_eq_false_iff_ne.2 hx117, if_neg hx117] at hR
            simp only [Bool.false_and, Bool.false_eq_true, if_false] at hR
            by_cases h120 : X = 120
            · have hx120 : x.toNat = 120 := by have := HX.out; omega
              rw [if_pos hx120] at hR
              have HZ := hide hR
              have CH := hide (rhex_any (c := c) (i := i + 1) (cnt := 2) (w := w) rfl HA.out (by omega) (by decide) rfl)
              subst h120
              clear hR n0 n1 n2 n3 n4 n5 CE HX hx117 HY h117 hx120
              go_wp2_with (first | (go_at_call 14; refine CY.out.mono ?_; rintro e2 w2 ⟨rfl, rfl⟩) | (go_at_call 32; refine CD.out.mono ?_; rintro e2 w2 ⟨rfl, rfl⟩) | (go_at_call 29; refine CF.out.mono ?_; rintro e2 w2 ⟨rfl, rfl⟩))
              go_at_call 78
              refine CH.out.mono ?_
              rintro e2 w2 ⟨⟨z, rfl, hz⟩, rfl⟩
              rcases hz with ⟨rfl, h5⟩ | ⟨v, hv, rfl, h0⟩
              · have HZ2 := hide (show (5, (0 : UInt16), 0) = r by rw [← HZ.out, h5]; rfl)
                clear h5
                go_wp2_with fail
                go_ret3
                exact ⟨escE.of (e := 5) (y := 0) (m := 0) HZ2.out, Below.refl _ _⟩
              · have HZ2 := hide (show more 1 (0, UInt16.ofNat v, 2) = r by rw [← HZ.out, h0])
                clear h0
                have hvI : ¬ (v : Int) < 0 := by omega
                go_wp2_with fail
                go_ret3
                exact ⟨escE.code hv HZ2.out, Below.refl _ _⟩
            · have e120 : (X == 120) = false := beq_eq_false_iff_ne.2 h120
              have HZ := hide (show (0, x, 1) = r by rw [if_neg (by have := HX.out; omega)] at hR; exact hR)
              clear hR n0 n1 n2 n3 n4 n5 CE hx117 HY h117 h120
              go_wp2_with (first | (go_at_call 14; refine CY.out.mono ?_; rintro e2 w2 ⟨rfl, rfl⟩) | (go_at_call 32; refine CD.out.mono ?_; rintro e2 w2 ⟨rfl, rfl⟩) | (go_at_call 29; refine CF.out.mono ?_; rintro e2 w2 ⟨rfl, rfl⟩))
              go_ret3
              exact ⟨by rw [← HX.out]; exact escE.of (e := 0) (y := x) (m := 1) HZ.out, Below.refl _ _⟩
end Go.Proofs.Ytbljbmeifmpfoaa
