/- Joined for a claim: Strange, Number, DecLaw, LexNum, LT7. -/
import Derived.Test.YtbljbmeifmpfoaaK15
import Derived.Deep.CutBlock
import Derived.Deep.DeepCutAuto
import Derived.Deep.RegionHeld3
import Derived.Test.YtbljbmeifmpfoaaK14
import Derived.Test.YtbljbmeifmpfoaaK01
import Derived.OwnWalk
import Derived.Deep.RegionWith
namespace Go.Proofs.Ytbljbmeifmpfoaa
open Go.RowKit

theorem ascii_odd (w : World) : Calls Try.prog 10 #[.string ⟨#[120, 88, 111, 79, 46, 43, 45, 95]⟩] w fun e w' => ∃ A c, e = .returned (.slice A oddUnits.length c) ∧ Reads w' w'.heap.size 1 A oddUnits.length (u16s oddUnits) ∧ Below w.heap.size w w' := by
  refine (ascii_any _ w (by decide)).mono ?_
  rintro e w' ⟨v, rfl, hm⟩
  have hm' : Made w w' 41 v (u16s oddUnits) := hm
  obtain ⟨A, c, rfl, _, _, hr⟩ := hm'.u16
  exact ⟨A, c, rfl, hr, hm'.below⟩

set_option maxHeartbeats 1000000 in
theorem strange_any {A : Option Addr} {c B : Nat} {xs : List UInt16} {w : World} (hB : B ≤ w.heap.size) (ha : Reads w B 1 A xs.length (u16s xs)) (hl : xs.length ≤ 70368744177664) :
    Calls Try.prog 61 #[.slice A xs.length c] w fun e w' => e = .returned (.bool (strangeF xs)) ∧ Below w.heap.size w w' := by
  go_enter Try.func61, Try.ntmps61
  go_wp2
  go_loopw [3, 8] (fun s i wr => ∃ k : Nat, k ≤ xs.length ∧ i = .int .i64 k ∧ s = .bool ((xs.take k).any isDigit) ∧ Hid ((xs.take k).all okUnit = true) ∧ Below w.heap.size w wr) (fun _ i _ => xs.length - (intOf i).toNat)
  case atStart => exact ⟨0, Nat.zero_le _, rfl, rfl, rfl, Below.refl _ _⟩
  case round =>
    obtain ⟨k, hk, rfl, rfl, hok, hnx⟩ := hrel
    by_cases hlt : k < xs.length
    · obtain ⟨ad, hA, _, hca⟩ := (ha.below (hnx.mono hB)).u16 hlt
      subst hA
      have h3 : (k : Int) < (xs.length : Int) := by omega
      have hx := xs[k].toNat_lt
      have hsu : (xs.take (k + 1)).any isDigit = ((xs.take k).any isDigit || isDigit xs[k]) := by rw [List.take_succ_eq_append_getElem hlt]; simp only [List.any_append, List.any_cons, List.any_nil, Bool.or_false]
      have hal : (xs.take (k + 1)).all okUnit = okUnit xs[k] := by rw [List.take_succ_eq_append_getElem hlt, List.all_append, hok.out]; simp only [List.all_cons, List.all_nil, Bool.and_true, Bool.true_and]
      have hbad : okUnit xs[k] = false → strangeF xs = false := by
        intro h
        have : xs.all okUnit = false := List.all_eq_false.2 ⟨xs[k], List.getElem_mem _, by simp [h]⟩
        simp [strangeF, this]
      have HS := hide hsu
      have HA := hide hal
      have HB := hide hbad
      clear hsu hal hbad
      obtain ⟨s, hs⟩ : ∃ s, (xs.take k).any isDigit = s := ⟨_, rfl⟩
      rw [hs]
      have HK := hide hs
      clear hs
      cases hd : isDigit xs[k] with
      | true =>
        have ho := okUnit_digit hd
        have HO := hide ho
        clear ho
        cases s
        all_goals
          go_wp2_with (go_at_call 65; refine (digit_any _ _).mono ?_; rintro e w' ⟨rfl, rfl⟩)
          go_roundw
          case rel => exact ⟨k + 1, by omega, by go_num, by rw [HS.out, HK.out, hd]; rfl, HA.out.trans HO.out, hnx⟩
          case measure => simp [intOf]; omega
      | false =>
        by_cases r1 : 97 ≤ xs[k].toNat ∧ xs[k].toNat ≤ 102
        · have HO : Hid (okUnit xs[k] = true) := by simp [okUnit, r1.1, r1.2, Hid]
          obtain ⟨r1, r2⟩ := r1
          cases s
          all_goals
            go_wp2_with (go_at_call 65; refine (digit_any _ _).mono ?_; rintro e w' ⟨rfl, rfl⟩)
            go_roundw
            case rel => exact ⟨k + 1, by omega, by go_num, by rw [HS.out, HK.out, hd]; rfl, HA.out.trans HO.out, hnx⟩
            case measure => simp [intOf]; omega
        by_cases r2 : 65 ≤ xs[k].toNat ∧ xs[k].toNat ≤ 70
        · have HO : Hid (okUnit xs[k] = true) := by simp [okUnit, r2.1, r2.2, Hid]
          obtain ⟨r2, r3⟩ := r2
          clear r1
          have r4 : ¬ (97 : Int) ≤ xs[k].toNat := by omega
          cases s
          all_goals
            go_wp2_with (go_at_call 65; refine (digit_any _ _).mono ?_; rintro e w' ⟨rfl, rfl⟩)
            go_roundw
            case rel => exact ⟨k + 1, by omega, by go_num, by rw [HS.out, HK.out, hd]; rfl, HA.out.trans HO.out, hnx⟩
            case measure => simp [intOf]; omega
        have hod : okUnit xs[k] = decide (xs[k] ∈ oddUnits) := by
          have e1 : (decide (97 ≤ xs[k].toNat) && decide (xs[k].toNat ≤ 102)) = false := by simpa using r1
          have e2 : (decide (65 ≤ xs[k].toNat) && decide (xs[k].toNat ≤ 70)) = false := by simpa using r2
          rw [okUnit, hd, e1, e2]; rfl
        have HO := hide hod
        clear hod
        obtain ⟨m, hm⟩ : ∃ m, decide (xs[k] ∈ oddUnits) = m := ⟨_, rfl⟩
        have HM := hide hm
        clear hm
        cases m with
        | true =>
          cases s
          all_goals
            go_wp2_with (first | (go_at_call 65; refine (digit_any _ _).mono ?_; rintro e w' ⟨rfl, rfl⟩) | (go_at_call 10; refine (ascii_odd _).mono ?_; rintro e w1 ⟨A1, c1, rfl, hr1, hb1⟩) | (go_at_call 82; refine (scontains_any _ hr1 (by decide)).mono ?_; rintro e w2 ⟨rfl, rfl⟩; rw [HM.out]))
            all_goals go_roundw
            all_goals first | exact ⟨k + 1, by omega, by go_num, by rw [HS.out, HK.out, hd]; rfl, HA.out.trans (HO.out.trans HM.out), hnx.trans (hb1.mono hnx.size)⟩ | (simp [intOf]; omega)
        | false =>
          have HB' := hide (HB.out (HO.out.trans HM.out))
          cases s
          all_goals
            go_wp2_with (first | (go_at_call 65; refine (digit_any _ _).mono ?_; rintro e w' ⟨rfl, rfl⟩) | (go_at_call 10; refine (ascii_odd _).mono ?_; rintro e w1 ⟨A1, c1, rfl, hr1, hb1⟩) | (go_at_call 82; refine (scontains_any _ hr1 (by decide)).mono ?_; rintro e w2 ⟨rfl, rfl⟩; rw [HM.out]))
            all_goals go_ret
            all_goals exact ⟨ret_bool HB'.out.symm, hnx.trans (hb1.mono hnx.size)⟩
    · go_wp2
      go_ret
      have hkk : xs.take k = xs := List.take_of_length_le (by omega)
      rw [hkk] at hok ⊢
      exact ⟨ret_bool (by rw [strangeF, hok.out]; rfl), hnx⟩

/-- The closure of text.Number: no digit. -/
theorem nodigit_any (x : UInt16) (w : World) : Calls Try.prog 64 #[.int .u16 (x.toNat : Int)] w fun e w' => e = .returned (.bool (!isDigit x)) ∧ w = w' := by
  go_enter Try.func64, Try.ntmps64
  go_wp2_with (go_at_call 65; refine (digit_any _ _).mono ?_; rintro e w' ⟨rfl, rfl⟩)
  go_ret
  exact ⟨rfl, rfl⟩

def HasOdd (xs : List UInt16) : Prop := xs.any (fun x => !isDigit x) = true

set_option maxHeartbeats 400000 in
theorem sindexfunc_any {A : Option Addr} {c B : Nat} {xs : List UInt16} {w : World} (ha : Reads w B 1 A xs.length (u16s xs)) (hl : xs.length ≤ 70368744177664) :
    Calls Try.prog 84 #[.slice A xs.length c, .func (.func 64) #[] #[]] w (Found (HasOdd xs) w) := by
  go_enter Try.func84, Try.ntmps84
  go_wp2
  go_loop [8] (fun i => ∃ k : Nat, k ≤ xs.length ∧ i = .int .i64 k ∧ Hid ((xs.take k).any (fun x => !isDigit x) = false)) (fun i => xs.length - (intOf i).toNat)
  case atStart => exact ⟨0, Nat.zero_le _, rfl, rfl⟩
  case round =>
    obtain ⟨k, hk, rfl, hno⟩ := hrel
    by_cases hlt : k < xs.length
    · obtain ⟨ad, hA, _, hca⟩ := ha.u16 hlt
      subst hA
      have h3 : (k : Int) < (xs.length : Int) := by omega
      cases hd : isDigit xs[k] with
      | false =>
        have HX := hide (show HasOdd xs from List.any_eq_true.2 ⟨xs[k], List.getElem_mem _, by rw [hd]; rfl⟩)
        go_wp2_with (go_at_call 64; refine (nodigit_any _ _).mono ?_; rintro e w' ⟨rfl, rfl⟩)
        go_ret
        exact ⟨k, rfl, ⟨fun _ => by omega, fun _ => HX.out⟩, rfl⟩
      | true =>
        have HX := hide hd
        go_wp2_with (go_at_call 64; refine (nodigit_any _ _).mono ?_; rintro e w' ⟨rfl, rfl⟩)
        go_round
        case rel => exact ⟨k + 1, by omega, by go_num, by rw [List.take_succ_eq_append_getElem hlt, List.any_append, hno.out]; simp [Hid, HX.out]⟩
        case measure => simp [intOf]; omega
    · go_wp2
      go_ret
      refine ⟨-1, rfl, ⟨fun h => absurd h ?_, fun h => by omega⟩, rfl⟩
      have h1 := hno.out
      rw [List.take_of_length_le (by omega)] at h1
      rw [HasOdd, h1]; simp

theorem scontainsfunc_any {A : Option Addr} {c B : Nat} {xs : List UInt16} {w : World} (ha : Reads w B 1 A xs.length (u16s xs)) (hl : xs.length ≤ 70368744177664) :
    Calls Try.prog 63 #[.slice A xs.length c, .func (.func 64) #[] #[]] w fun e w' => e = .returned (.bool (!xs.all isDigit)) ∧ w = w' := by
  go_enter Try.func63, Try.ntmps63
  go_wp2_with fail
  refine (sindexfunc_any ha hl).mono ?_
  rintro e w' ⟨k, rfl, hk, rfl⟩
  have HK := hide hk
  clear hk
  go_wp2
  go_ret
  refine ⟨ret_bool ?_, rfl⟩
  have h1 := HK.out
  rw [Bool.eq_iff_iff, decide_eq_true_eq, ← h1, HasOdd]
  simp
end Go.Proofs.Ytbljbmeifmpfoaa

namespace Go.Proofs.Ytbljbmeifmpfoaa
open Go.RowKit

/-- a slice of units, its cells below block B -/
def Sl (w : World) (B : Nat) (v : Value) (ys : List UInt16) : Prop := ∃ A c, v = .slice A ys.length c ∧ ys.length ≤ c ∧ c ≤ maxLen ∧ Reads w B 1 A ys.length (u16s ys)
def lenOf : Value → Nat | .slice _ n _ => n | _ => 0

theorem Sl.cut1 {w : World} {B c : Nat} {ad : Addr} {ys : List UInt16} (hr : Reads w B 1 (some ad) ys.length (u16s ys)) (h0 : 0 < ys.length) (hc : ys.length ≤ c) (hc2 : c ≤ maxLen) :
    Sl w B (.slice (if c = 1 then some ad else some ⟨ad.block, ad.off + 1, none⟩) (ys.length - 1) (c - 1)) (ys.drop 1) := by
  have hl : (ys.drop 1).length = ys.length - 1 := List.length_drop
  refine ⟨_, c - 1, by rw [hl], by rw [hl]; omega, by omega, ?_⟩
  exact hr.cut16 (k := 1) h0 hc
theorem Sl.less1 {w : World} {B c : Nat} {A : Option Addr} {ys : List UInt16} (hr : Reads w B 1 A ys.length (u16s ys)) (hc : ys.length ≤ c) (hc2 : c ≤ maxLen) :
    Sl w B (.slice A (ys.length - 1) c) (ys.take (ys.length - 1)) := by
  have hl : (ys.take (ys.length - 1)).length = ys.length - 1 := by rw [List.length_take]; omega
  exact ⟨A, c, by rw [hl], by rw [hl]; omega, hc2, hr.take16 (by omega)⟩
theorem signOf_at {ts : List UInt16} (h : 0 < ts.length) : signOf ts = ((ts[0].toNat : Int) == 45) := by
  cases ts with
  | nil => simp at h
  | cons x r =>
    rw [Bool.eq_iff_iff, signOf]
    simp only [List.headD_cons, beq_iff_eq, List.getElem_cons_zero, ← UInt16.toNat_inj]
    simp
    omega
def isSigned (ts : List UInt16) : Bool := signOf ts || ts.headD 0 == 43
theorem isSigned_at {ts : List UInt16} (h : 0 < ts.length) : isSigned ts = (signOf ts || ((ts[0].toNat : Int) == 43)) := by
  cases ts with
  | nil => simp at h
  | cons x r =>
    rw [isSigned]
    congr 1
    rw [Bool.eq_iff_iff]
    simp only [List.headD_cons, beq_iff_eq, List.getElem_cons_zero, ← UInt16.toNat_inj]
    simp
    omega
theorem restOf_eq (ts : List UInt16) : restOf ts = if isSigned ts = true then ts.drop 1 else ts := by
  simp [restOf, isSigned, signOf]
theorem trimR_nil : trimR [] = [] := rfl
theorem trimR_blank {ys : List UInt16} (h : 0 < ys.length) (hb : isBlank (ys[ys.length - 1]'(by omega)) = true) : trimR ys = trimR (ys.take (ys.length - 1)) := by
  have e : ys = ys.take (ys.length - 1) ++ [ys[ys.length - 1]'(by omega)] := by
    rw [← List.take_succ_eq_append_getElem (by omega), List.take_of_length_le (by omega)]
  conv => lhs; rw [e]
  rw [trimR, List.reverse_append]
  show (List.dropWhile isBlank (_ :: (ys.take (ys.length - 1)).reverse)).reverse = _
  rw [List.dropWhile_cons_of_pos hb]; rfl
theorem trimR_stop {ys : List UInt16} (h : 0 < ys.length) (hb : isBlank (ys[ys.length - 1]'(by omega)) = false) : trimR ys = ys := by
  have e : ys = ys.take (ys.length - 1) ++ [ys[ys.length - 1]'(by omega)] := by
    rw [← List.take_succ_eq_append_getElem (by omega), List.take_of_length_le (by omega)]
  have e2 : trimR (ys.take (ys.length - 1) ++ [ys[ys.length - 1]'(by omega)]) = ys.take (ys.length - 1) ++ [ys[ys.length - 1]'(by omega)] := by
    rw [trimR, List.reverse_append]
    show (List.dropWhile isBlank (_ :: (ys.take (ys.length - 1)).reverse)).reverse = _
    rw [List.dropWhile_cons_of_neg (by simp [hb])]
    simp only [List.reverse_cons, List.reverse_reverse]
  rw [← e] at e2
  exact e2
theorem dropB {ys : List UInt16} (h : 0 < ys.length) (hb : isBlank ys[0] = true) : ys.dropWhile isBlank = (ys.drop 1).dropWhile isBlank := by
  cases ys with
  | nil => simp at h
  | cons y ys => simp only [List.getElem_cons_zero] at hb; rw [List.dropWhile_cons_of_pos hb]; rfl
theorem dropS {ys : List UInt16} (h : 0 < ys.length) (hb : isBlank ys[0] = false) : ys.dropWhile isBlank = ys := by
  cases ys with
  | nil => simp at h
  | cons y ys => simp only [List.getElem_cons_zero] at hb; rw [List.dropWhile_cons_of_neg (by simp [hb])]

theorem strange_at {A : Option Addr} {c B D : Nat} {xs : List UInt16} {W w : World} (hb : Below D W w) (hBD : B ≤ D) (hD : D ≤ W.heap.size) (ha : Reads W B 1 A xs.length (u16s xs)) (hl : xs.length ≤ 70368744177664) :
    Calls Try.prog 61 #[.slice A xs.length c] w fun e w' => e = .returned (.bool (strangeF xs)) ∧ Below w.heap.size w w' ∧ Below D W w' := by
  have hs := hb.size
  refine (strange_any (B := B) (by omega) (ha.below (hb.mono hBD)) hl).mono ?_
  rintro e w' ⟨rfl, hb'⟩
  exact ⟨rfl, hb', hb.trans (hb'.mono (by omega))⟩
theorem bcell {W w1 : World} (hb : Below W.heap.size W w1) : (∀ b o, b < W.heap.size → w1.cell? ⟨b, o, none⟩ = W.cell? ⟨b, o, none⟩) ∧ (∀ b o, b < W.heap.size → w1.frozen? ⟨b, o, none⟩ = W.frozen? ⟨b, o, none⟩) :=
  ⟨fun b o h => hb.cell (p := ⟨b, o, none⟩) h, fun b o h => hb.frozen (p := ⟨b, o, none⟩) h⟩

/-- The cells of a number that lies in block g. -/
def NumAt (w : World) (g : Nat) (k n : Int) : Prop :=
  w.cell? ⟨g, 0, none⟩ = some (.int .i64 k) ∧ w.cell? ⟨g, 1, none⟩ = some (.int .i64 n) ∧ w.frozen? ⟨g, 0, none⟩ = false ∧ w.frozen? ⟨g, 1, none⟩ = false
theorem NumAt.below {D g : Nat} {k n : Int} {w w' : World} (h : NumAt w g k n) (hb : Below D w w') (hg : g < D) : NumAt w' g k n :=
  ⟨(hb.cell (p := ⟨g, 0, none⟩) hg).trans h.1, (hb.cell (p := ⟨g, 1, none⟩) hg).trans h.2.1, (hb.frozen (p := ⟨g, 0, none⟩) hg).trans h.2.2.1, (hb.frozen (p := ⟨g, 1, none⟩) hg).trans h.2.2.2⟩

theorem new_cells {W w2 : World} {a b : Value} {T : TypeId} (hb : Below (W.drew.alloc (.cells #[a, b] T)).heap.size (W.drew.alloc (.cells #[a, b] T)) w2) :
    w2.cell? ⟨W.heap.size, 0, none⟩ = some a ∧ w2.cell? ⟨W.heap.size, 1, none⟩ = some b ∧ w2.frozen? ⟨W.heap.size, 0, none⟩ = false ∧ w2.frozen? ⟨W.heap.size, 1, none⟩ = false := by
  have h : W.heap.size < (W.drew.alloc (.cells #[a, b] T)).heap.size := by simp
  refine ⟨(hb.cell (p := ⟨W.heap.size, 0, none⟩) h).trans ?_, (hb.cell (p := ⟨W.heap.size, 1, none⟩) h).trans ?_, (hb.frozen (p := ⟨W.heap.size, 0, none⟩) h).trans ?_, (hb.frozen (p := ⟨W.heap.size, 1, none⟩) h).trans ?_⟩
  all_goals go_simp
theorem below_alloc' {D : Nat} {W w' : World} (hDW : D ≤ W.heap.size) (hb : Below D W w') (o : Obj) : Below D W (w'.alloc o) := hb.alloc (Nat.le_trans hDW hb.size) o
theorem below_set2 {D : Nat} {W w' : World} (hDW : D ≤ W.heap.size) (hb : Below D W w') (a b : Value) : Below D W ((w'.setCell ⟨W.heap.size, 0, none⟩ a).setCell ⟨W.heap.size, 1, none⟩ b) :=
  (hb.setCell (p := ⟨W.heap.size, 0, none⟩) hDW a).setCell (p := ⟨W.heap.size, 1, none⟩) hDW b
theorem NumAt.new (w : World) (k n : Int) (T : TypeId) : NumAt (w.alloc (.cells #[.int .i64 k, .int .i64 n] T)) w.heap.size k n := ⟨by go_simp, by go_simp, by go_simp, by go_simp⟩
theorem NumAt.set {w : World} {g : Nat} {a b : Value} (h0 : w.cell? ⟨g, 0, none⟩ = some a) (h1 : w.cell? ⟨g, 1, none⟩ = some b) (f0 : w.frozen? ⟨g, 0, none⟩ = false) (f1 : w.frozen? ⟨g, 1, none⟩ = false) (k n : Int) :
    NumAt ((w.setCell ⟨g, 0, none⟩ (.int .i64 k)).setCell ⟨g, 1, none⟩ (.int .i64 n)) g k n := ⟨by go_simp, by go_simp, by go_simp, by go_simp⟩
theorem size_set2 (w : World) (a b : Addr) (x y : Value) : ((w.setCell a x).setCell b y).heap.size = w.heap.size := by simp
theorem held_of {D g : Nat} {k n : Int} {W w' : World} (h : NumAt W g k n) (hg : g < D) (hb : Below D W w') : w'.cell? ⟨g, 0, none⟩ = some (.int .i64 k) ∧ w'.cell? ⟨g, 1, none⟩ = some (.int .i64 n) ∧ Below D W w' :=
  ⟨(h.below hb hg).1, (h.below hb hg).2.1, hb⟩

theorem ascii_inf (w : World) : Calls Try.prog 10 #[.string ⟨#[73, 110, 102, 105, 110, 105, 116, 121]⟩] w fun e w' => ∃ A c, e = .returned (.slice A infinity.length c) ∧ Reads w' w'.heap.size 1 A infinity.length (u16s infinity) ∧ Below w.heap.size w w' := by
  refine (ascii_any _ w (by decide)).mono ?_
  rintro e w' ⟨v, rfl, hm⟩
  have hm' : Made w w' 41 v (u16s infinity) := hm
  obtain ⟨A, c, rfl, _, _, hr⟩ := hm'.u16
  exact ⟨A, c, rfl, hr, hm'.below⟩

/-- k, n, ok: the number without its sign, in the forms that Neg takes. -/
def BaseOk (ts : List UInt16) (k n : Int) (ok : Bool) : Prop := baseT ts = (⟨k, n⟩, ok) ∧ ((k = 2 ∧ n = 0) ∨ (k = 3 ∧ n = 0) ∨ (k = 0 ∧ 0 ≤ n ∧ n ≤ 9007199254740991))
theorem BaseOk.inf {ts : List UInt16} (h : restOf ts = infinity) : BaseOk ts 3 0 (!strangeF ts) := by
  refine ⟨?_, Or.inr (Or.inl ⟨rfl, rfl⟩)⟩
  rw [strange_inf h, baseT, if_pos h]; rfl

theorem BaseOk.dig {ts : List UInt16} (h : ¬ restOf ts = infinity) (hd : restOf ts ≠ [] ∧ (restOf ts).all isDigit = true) (hf : decVal (restOf ts) ≤ 9007199254740991) : BaseOk ts 0 (decVal (restOf ts)) true :=
  ⟨by rw [baseT, if_neg h, if_pos hd, if_pos hf], Or.inr (Or.inr ⟨rfl, by omega, by omega⟩)⟩
theorem BaseOk.odd {ts : List UInt16} (h : ¬ restOf ts = infinity) (hd : ¬ (restOf ts ≠ [] ∧ (restOf ts).all isDigit = true)) : BaseOk ts 2 0 (!strangeF ts) :=
  ⟨by rw [baseT, if_neg h, if_neg hd], Or.inl ⟨rfl, rfl⟩⟩
theorem numT_eq {ts : List UInt16} (h0 : 0 < ts.length) : numT ts = (if signOf ts = true then negNm (baseT ts).1 else (baseT ts).1, (baseT ts).2) := by
  rw [numT, if_neg (List.ne_nil_of_length_pos h0)]
theorem numT_big {ts : List UInt16} (h0 : 0 < ts.length) (h : ¬ restOf ts = infinity) (hd : restOf ts ≠ [] ∧ (restOf ts).all isDigit = true) (hf : ¬ decVal (restOf ts) ≤ 9007199254740991) : numT ts = (⟨2, 0⟩, false) := by
  rw [numT_eq h0, baseT, if_neg h, if_pos hd, if_neg hf]
  by_cases hs : signOf ts = true
  · rw [if_pos hs]; rfl
  · rw [if_neg hs]
theorem numT_pos {ts : List UInt16} {k n : Int} {ok : Bool} (h0 : 0 < ts.length) (hs : false = signOf ts) (hb : BaseOk ts k n ok) : numT ts = (⟨k, n⟩, ok) := by
  rw [numT_eq h0, hb.1, if_neg (by rw [← hs]; simp)]
theorem numT_neg {ts : List UInt16} {k n : Int} {ok : Bool} (h0 : 0 < ts.length) (hs : true = signOf ts) (hb : BaseOk ts k n ok) : numT ts = (negNm ⟨k, n⟩, ok) := by
  rw [numT_eq h0, hb.1, if_pos hs.symm]
theorem neg_base {ts : List UInt16} {k n : Int} {ok : Bool} (hb : BaseOk ts k n ok) (w : World) :
    Calls Try.prog 67 #[.agg #[.int .i64 k, .int .i64 n]] w fun e w' => e = .returned (.agg #[.int .i64 (negNm ⟨k, n⟩).kind, .int .i64 (negNm ⟨k, n⟩).n]) ∧ Below w.heap.size w w' := by
  rcases hb.2 with ⟨rfl, rfl⟩ | ⟨rfl, rfl⟩ | ⟨rfl, h1, h2⟩
  · exact neg_nan w
  · exact neg_inf w
  · by_cases h3 : n = 0
    · subst h3; exact neg_nought w
    · have e : negNm ⟨0, n⟩ = ⟨0, -n⟩ := by simp [negNm, h3]
      rw [e]
      exact neg_whole n (by omega) h2 w
theorem below_two {D : Nat} {wc w3 w4 : World} (h3 : Below wc.heap.size wc w3) (h4 : Below w3.heap.size w3 w4) (hD : D ≤ wc.heap.size) : Below D wc w4 :=
  (h3.mono hD).trans (h4.mono (Nat.le_trans hD h3.size))
theorem below_setg {D g : Nat} {W w' : World} (hD : D ≤ g) (hb : Below D W w') (a b : Value) : Below D W ((w'.setCell ⟨g, 0, none⟩ a).setCell ⟨g, 1, none⟩ b) :=
  (hb.setCell (p := ⟨g, 0, none⟩) hD a).setCell (p := ⟨g, 1, none⟩) hD b
theorem fin_set {ts : List UInt16} {D b g : Nat} {w wc w4 : World} {x y : Value} (hN0 : NumAt wc b 0 0) (hbel : Below b w wc) (hb : Below D wc w4) (hbD : b < D) (hDg : D ≤ g)
    (q0 : w4.cell? ⟨g, 0, none⟩ = some x) (q1 : w4.cell? ⟨g, 1, none⟩ = some y) (q2 : w4.frozen? ⟨g, 0, none⟩ = false) (q3 : w4.frozen? ⟨g, 1, none⟩ = false) (k n : Int) {ok : Bool} (h : BaseOk ts k n ok) :
    NumAt ((w4.setCell ⟨g, 0, none⟩ (.int .i64 k)).setCell ⟨g, 1, none⟩ (.int .i64 n)) g k n ∧ NumAt ((w4.setCell ⟨g, 0, none⟩ (.int .i64 k)).setCell ⟨g, 1, none⟩ (.int .i64 n)) b 0 0 ∧
      Below b w ((w4.setCell ⟨g, 0, none⟩ (.int .i64 k)).setCell ⟨g, 1, none⟩ (.int .i64 n)) ∧ g < ((w4.setCell ⟨g, 0, none⟩ (.int .i64 k)).setCell ⟨g, 1, none⟩ (.int .i64 n)).heap.size ∧ BaseOk ts k n ok := by
  have h1 := below_setg hDg hb (.int .i64 k) (.int .i64 n)
  exact ⟨NumAt.set q0 q1 q2 q3 k n, hN0.below h1 hbD, hbel.trans (h1.mono (by omega)), by rw [size_set2]; exact World.block_lt_of_cell? w4 _ q0, h⟩
theorem fin_keep {ts : List UInt16} {D b g : Nat} {w wc w4 : World} (hN0 : NumAt wc b 0 0) (hbel : Below b w wc) (hb : Below D wc w4) (hbD : b < D)
    {k n : Int} (q : NumAt w4 g k n) {ok : Bool} (h : BaseOk ts k n ok) :
    NumAt w4 g k n ∧ NumAt w4 b 0 0 ∧ Below b w w4 ∧ g < w4.heap.size ∧ BaseOk ts k n ok :=
  ⟨q, hN0.below hb hbD, hbel.trans (hb.mono (by omega)), World.block_lt_of_cell? w4 _ q.1, h⟩

set_option maxHeartbeats 4000000 in
set_option maxRecDepth 100000 in
theorem number_any {A : Option Addr} {c B : Nat} {xs : List UInt16} {w : World} (hB : B ≤ w.heap.size) (ha : Reads w B 1 A xs.length (u16s xs)) (hc : xs.length ≤ c) (hc2 : c ≤ maxLen) (hl : xs.length ≤ 70368744177664) :
    Calls Try.prog 45 #[.slice A xs.length c] w fun e w' => e = .returned (.tuple #[.agg #[.int .i64 (numF xs).1.kind, .int .i64 (numF xs).1.n], .bool (numF xs).2]) ∧ Below w.heap.size w w' := by
  go_enter Try.func45, Try.ntmps45
  go_upto_block 0 with (fail)
  go_cut [0] (fun v wx => wx = w.alloc (.cells #[.int .i64 0, .int .i64 0] 35) ∧ ∃ ys, Sl w B v ys ∧ Hid (ys = xs.dropWhile isBlank) ∧ ys.length ≤ xs.length)
  case first =>
    go_wp2_with fail
    go_loop [0] (fun v => ∃ ys, Sl w B v ys ∧ Hid (ys.dropWhile isBlank = xs.dropWhile isBlank) ∧ ys.length ≤ xs.length) (fun v => lenOf v)
    case atStart => exact ⟨xs, ⟨A, c, rfl, hc, hc2, ha⟩, rfl, Nat.le_refl _⟩
    case round =>
      obtain ⟨ys, ⟨A', c', rfl, hc1, hc3, hr⟩, heq, hle⟩ := hrel
      by_cases h0 : 0 < ys.length
      · obtain ⟨ad, hA, hlt, hca⟩ := (hr.alloc hB (.cells #[.int .i64 0, .int .i64 0] 35)).u16_0 h0
        subst hA
        have hz : (0 : Int) < (ys.length : Int) := by omega
        cases hb : isBlank ys[0] with
        | true =>
          have HB := hide (dropB h0 hb)
          have HC := hide (Sl.cut1 hr h0 hc1 hc3)
          go_wp2_with (go_at_call 60; refine (blank_any _ _).mono ?_; rintro e w' ⟨rfl, rfl⟩)
          go_round
          case rel => exact ⟨ys.drop 1, HC.out, HB.out.symm.trans heq.out, by rw [List.length_drop]; omega⟩
          case measure => simp [lenOf]; omega
        | false =>
          have HB := hide (dropS h0 hb)
          go_wp2_with (go_at_call 60; refine (blank_any _ _).mono ?_; rintro e w' ⟨rfl, rfl⟩)
          go_meet
          exact ⟨rfl, ys, ⟨some ad, c', rfl, hc1, hc3, hr⟩, HB.out.symm.trans heq.out, hle⟩
      · go_wp2
        go_meet
        have h1 : ys = [] := List.eq_nil_of_length_eq_zero (by omega)
        exact ⟨rfl, ys, ⟨A', c', rfl, hc1, hc3, hr⟩, by have := heq.out; rw [h1] at this ⊢; exact this, hle⟩
  case rest =>
    obtain ⟨hw, ys, hys, hyl, hyle⟩ := hcut
    subst hw
    go_upto_block 2 with (fail)
    go_cut [0] (fun v wx => wx = w.alloc (.cells #[.int .i64 0, .int .i64 0] 35) ∧ ∃ ts, Sl w B v ts ∧ Hid (ts = trimF xs) ∧ ts.length ≤ xs.length)
    case first =>
      go_wp2_with fail
      go_loop [0] (fun v => ∃ zs, Sl w B v zs ∧ Hid (trimR zs = trimR ys) ∧ zs.length ≤ xs.length) (fun v => lenOf v)
      case atStart => exact ⟨ys, hys, rfl, hyle⟩
      case round =>
        obtain ⟨zs, ⟨A', c', rfl, hc1, hc3, hr⟩, heq, hle⟩ := hrel
        by_cases h0 : 0 < zs.length
        · obtain ⟨ad, hA, hlt, hca⟩ := (hr.alloc hB (.cells #[.int .i64 0, .int .i64 0] 35)).u16 (k := zs.length - 1) (by omega)
          subst hA
          have hz : (0 : Int) < (zs.length : Int) := by omega
          have hca' : (w.alloc (.cells #[.int .i64 0, .int .i64 0] 35)).cell? (ad.add ((zs.length : Int) - 1).toNat) = some (.int .u16 ((zs[zs.length - 1]'(by omega)).toNat : Int)) := by
            rw [show ((zs.length : Int) - 1).toNat = zs.length - 1 from by omega]; exact hca
          cases hb : isBlank (zs[zs.length - 1]'(by omega)) with
          | true =>
            have HB := hide (trimR_blank h0 hb)
            have HC := hide (Sl.less1 hr hc1 hc3)
            go_wp2_with (go_at_call 60; refine (blank_any _ _).mono ?_; rintro e w' ⟨rfl, rfl⟩)
            go_round
            case rel => exact ⟨zs.take (zs.length - 1), HC.out, HB.out.symm.trans heq.out, by rw [List.length_take]; omega⟩
            case measure => simp [lenOf]; omega
          | false =>
            have HB := hide (trimR_stop h0 hb)
            go_wp2_with (go_at_call 60; refine (blank_any _ _).mono ?_; rintro e w' ⟨rfl, rfl⟩)
            go_meet
            exact ⟨rfl, zs, ⟨some ad, c', rfl, hc1, hc3, hr⟩, HB.out.symm.trans (heq.out.trans (by rw [hyl.out]; rfl)), hle⟩
        · go_wp2
          go_meet
          have h1 : zs = [] := List.eq_nil_of_length_eq_zero (by omega)
          have h2 : trimR zs = trimF xs := heq.out.trans (by rw [hyl.out]; rfl)
          exact ⟨rfl, zs, ⟨A', c', rfl, hc1, hc3, hr⟩, by rw [h1] at h2 ⊢; exact h2, hle⟩
    case rest =>
      obtain ⟨hw, ts, ⟨A1, c1, hv, hc1, hc3, hr⟩, htl, htle⟩ := hcut
      subst hw
      subst hv
      clear hyl hys hyle ys
      have hN := hide (show numF xs = numT ts by rw [numF, htl.out])
      clear htl
      by_cases h0 : ts.length = 0
      · have h1 : ts = [] := List.eq_nil_of_length_eq_zero h0
        have hN2 := hide (show numF xs = (⟨0, 0⟩, true) by rw [hN.out, h1]; rfl)
        clear hN
        subst h1
        go_wp2
        go_returns
        rw [hN2.out]
        exact ⟨rfl, by go_grown⟩
      have e0 : ((ts.length : Int) == 0) = false := beq_eq_false_iff_ne.2 (by omega)
      have hpos : 0 < ts.length := by omega
      clear h0
      have hz : (0 : Int) < (ts.length : Int) := by omega
      have hb0 := hide (hr.u16_0 hpos)
      go_upto_region 8 with (fail)
      go_cut [5, 6] (fun d s wx => d = .slice A1 ts.length c1 ∧ (∃ sg, s = .bool sg ∧ Hid (sg = signOf ts)) ∧ ∃ n, wx = ((w.alloc (.cells #[.int .i64 0, .int .i64 0] 35)).alloc (.cells #[.int .i64 2, .int .i64 0] 35)).drewN n)
      case first =>
        obtain ⟨ad, hA, _, hca⟩ := ((hr.alloc hB (.cells #[.int .i64 0, .int .i64 0] 35)).alloc (Nat.le_trans hB (by simp)) (.cells #[.int .i64 2, .int .i64 0] 35)).u16_0 hpos
        subst hA
        go_quiet (fail)
        go_wp2_with fail
        go_meet
        exact ⟨rfl, ⟨_, rfl, (signOf_at hpos).symm⟩, _, rfl⟩
      case rest =>
        obtain ⟨hd, ⟨sg, hs, hsg⟩, n, hw⟩ := hcut
        subst hd hs hw
        go_upto_region 9 with (fail)
        go_cut [55] (fun s wx => (∃ si, s = .bool si ∧ Hid (si = isSigned ts)) ∧ wx = ((w.alloc (.cells #[.int .i64 0, .int .i64 0] 35)).alloc (.cells #[.int .i64 2, .int .i64 0] 35)).drewN n)
        case first =>
          obtain ⟨ad, hA, _, hca⟩ := (((hr.alloc hB (.cells #[.int .i64 0, .int .i64 0] 35)).alloc (Nat.le_trans hB (by simp)) (.cells #[.int .i64 2, .int .i64 0] 35)).drewN n).u16_0 hpos
          subst hA
          have HI := hide (isSigned_at hpos)
          cases sg
          · go_wp2_with fail
            go_meet
            exact ⟨⟨_, rfl, by rw [HI.out, ← hsg.out]; rfl⟩, rfl⟩
          · go_wp2_with fail
            go_meet
            exact ⟨⟨_, rfl, by rw [HI.out, ← hsg.out]; rfl⟩, rfl⟩
        case rest =>
          obtain ⟨⟨si, hs, hsi⟩, hw⟩ := hcut
          subst hs hw
          go_upto_if 55 with (fail)
          go_cut [5] (fun d wx => Sl w B d (restOf ts) ∧ wx = ((w.alloc (.cells #[.int .i64 0, .int .i64 0] 35)).alloc (.cells #[.int .i64 2, .int .i64 0] 35)).drewN n)
          case first =>
            obtain ⟨ad, hA, _, hca⟩ := hr.u16_0 hpos
            subst hA
            have HR := hide (restOf_eq ts)
            cases si
            · go_wp2_with fail
              go_meet
              exact ⟨by rw [HR.out, if_neg (by rw [← hsi.out]; simp)]; exact ⟨_, c1, rfl, hc1, hc3, hr⟩, rfl⟩
            · have HC := hide (Sl.cut1 hr hpos hc1 hc3)
              by_cases hcc : c1 = 1
              · subst hcc
                go_wp2_with fail
                go_meet
                have hz2 : ts.length - 1 = 0 := by omega
                exact ⟨by rw [HR.out, if_pos hsi.out.symm]; have h := HC.out; rw [hz2] at h; exact h, rfl⟩
              · rw [if_neg hcc] at HC
                go_wp2_with fail
                go_meet
                exact ⟨by rw [HR.out, if_pos hsi.out.symm]; exact HC.out, rfl⟩
          case rest =>
            obtain ⟨⟨A2, c2, hd, hd1, hd3, hd4⟩, hw⟩ := hcut
            subst hd hw
            clear hsi
            go_upto_region 11 with (fail)
            have hWs : (((w.alloc (.cells #[.int .i64 0, .int .i64 0] 35)).alloc (.cells #[.int .i64 2, .int .i64 0] 35)).drewN n).heap.size = w.heap.size + 2 := by simp
            have hWb : Below w.heap.size w (((w.alloc (.cells #[.int .i64 0, .int .i64 0] 35)).alloc (.cells #[.int .i64 2, .int .i64 0] 35)).drewN n) := below_drewN (by go_grown) n
            have hW1 : NumAt (((w.alloc (.cells #[.int .i64 0, .int .i64 0] 35)).alloc (.cells #[.int .i64 2, .int .i64 0] 35)).drewN n) w.heap.size 0 0 := ⟨by go_simp, by go_simp, by go_simp, by go_simp⟩
            have hW2 : NumAt (((w.alloc (.cells #[.int .i64 0, .int .i64 0] 35)).alloc (.cells #[.int .i64 2, .int .i64 0] 35)).drewN n) (w.heap.size + 1) 2 0 := ⟨by go_simp, by go_simp, by go_simp, by go_simp⟩
            have hr' : Reads (((w.alloc (.cells #[.int .i64 0, .int .i64 0] 35)).alloc (.cells #[.int .i64 2, .int .i64 0] 35)).drewN n) B 1 A1 ts.length (u16s ts) := hr.below (hWb.mono hB)
            have hd4' : Reads (((w.alloc (.cells #[.int .i64 0, .int .i64 0] 35)).alloc (.cells #[.int .i64 2, .int .i64 0] 35)).drewN n) B 1 A2 (restOf ts).length (u16s (restOf ts)) := hd4.below (hWb.mono hB)
            have htle' : ts.length ≤ 70368744177664 := by omega
            generalize (((w.alloc (.cells #[.int .i64 0, .int .i64 0] 35)).alloc (.cells #[.int .i64 2, .int .i64 0] 35)).drewN n) = W at *
            have hr0 := hr'
            have hDlt : w.heap.size + 1 < w.heap.size + 2 := by omega
            have hBD : B ≤ w.heap.size + 2 := by omega
            have hDW : w.heap.size + 2 ≤ W.heap.size := by omega
            have HWS := hide hWs
            clear hWs
            have hc0 := hW2.1
            have hc1' := hW2.2.1
            have hbW : Below (w.heap.size + 2) W W := Below.refl _ _
            have HR0 := hide hr0
            clear hr0
            go_cut [7, 8] (fun p s wx => (∃ g, p = .pointer (some ⟨g, 0, none⟩) ∧ w.heap.size + 2 ≤ g ∧ NumAt wx g 2 0 ∧ g < wx.heap.size) ∧ s = .bool (!strangeF ts) ∧ Below (w.heap.size + 2) W wx)
            case first =>
              go_region_held3 (fun w' => w'.cell? ⟨w.heap.size + 1, 0, none⟩ = some (.int .i64 2) ∧ w'.cell? ⟨w.heap.size + 1, 1, none⟩ = some (.int .i64 0) ∧ Below (w.heap.size + 2) W w')
                (first
                  | (exact held_of hW2 hDlt (by assumption))
                  | (exact held_of hW2 hDlt (Below.refl _ _).drew)
                  | (exact held_of hW2 hDlt (below_alloc' hDW (by assumption) _))
                  | (exact held_of hW2 hDlt (below_alloc' hDW (Below.refl _ _).drew _))
                  | (exact held_of hW2 hDlt (below_set2 hDW (by assumption) _ _))
                  | go_keep)
                (first
                  | (go_at_call 61; go_split_ands; refine (strange_at (D := w.heap.size + 2) (W := W) ?_ hBD hDW HR0.out htle').mono ?_; (first | assumption | exact (Below.refl _ _).drew | exact below_alloc' hDW (Below.refl _ _).drew _); rintro e w2 ⟨rfl, hb2, hb3⟩; (try (have hnew := new_cells hb2; have n0 := hnew.1; have n1 := hnew.2.1; have n2 := hnew.2.2.1; have n3 := hnew.2.2.2; clear hnew))))
              all_goals have hs3 := hb3.size
              all_goals (go_wp2_with fail; go_meet)
              · exact ⟨⟨_, rfl, by omega, NumAt.new _ _ _ _, by simp⟩, rfl, below_alloc' hDW hb3 _⟩
              · exact ⟨⟨_, rfl, hDW, NumAt.set n0 n1 n2 n3 _ _, by rw [size_set2]; exact World.block_lt_of_cell? w2 _ n0⟩, rfl, below_set2 hDW hb3 _ _⟩
            case rest =>
              obtain ⟨⟨g, hp, hDg, hg, hgl⟩, hs, hbw⟩ := hcut
              subst hp hs
              have hNum := hide hg
              have hN0 := hide (hW1.below hbw (show w.heap.size < w.heap.size + 2 by omega))
              have hN1 := hide (hW2.below hbw hDlt)
              have hrd := hide (hd4'.below (hbw.mono hBD))
              have hbel := hide (hWb.trans (hbw.mono (show w.heap.size ≤ w.heap.size + 2 by omega)))
              have hsz := hbw.size
              have hDs : w.heap.size + 2 ≤ wc.heap.size := by omega
              have hDlt0 : w.heap.size < w.heap.size + 2 := by omega
              have hDg := hDg
              clear hg hW1 hW2 hd4' hWb hc0 hc1' hbW
              have hrlen : (restOf ts).length ≤ 70368744177664 := by
                have h : (restOf ts).length ≤ ts.length := by
                  rw [restOf_eq]; split
                  · rw [List.length_drop]; omega
                  · exact Nat.le_refl _
                omega
              go_upto_block 4 with (fail)
              go_cut [8] (fun ok wx => ∃ k n okb, ok = .bool okb ∧ NumAt wx g k n ∧ NumAt wx w.heap.size 0 0 ∧ Below w.heap.size w wx ∧ g < wx.heap.size ∧ BaseOk ts k n okb)
              case first =>
                by_cases hinf : restOf ts = infinity
                · have HB := hide (BaseOk.inf hinf)
                  have HI := hide hinf
                  clear hinf
                  go_wp2_with (first | (go_at_call 10; refine (ascii_inf _).mono ?_; rintro e w3 ⟨A3, c3, rfl, hr3, hb3⟩; have hs3 := hb3.size) | (go_at_call 62; refine (same_any (Nat.le_refl _) ((hrd.out.below (hb3.mono (by omega))).more (by omega)) hr3 hrlen (by decide)).mono ?_; rintro e w4 ⟨rfl, hb4⟩; rw [decide_eq_true HI.out]; have hb34 := below_two hb3 hb4 hDs; obtain ⟨q0, q1, q2, q3⟩ := (hNum.out.below hb3 hgl).below hb4 (by omega); obtain ⟨p0, p1, p2, p3⟩ := hN0.out.below hb34 hDlt0; obtain ⟨r0, r1, r2, r3⟩ := hN1.out.below hb34 hDlt))
                  go_meet
                  exact ⟨3, 0, _, rfl, fin_set hN0.out hbel.out hb34 hDlt0 hDg q0 q1 q2 q3 3 0 HB.out⟩
                · have HI := hide hinf
                  clear hinf
                  by_cases hdig : restOf ts ≠ [] ∧ (restOf ts).all isDigit = true
                  · have hlz : (0 : Int) < ((restOf ts).length : Int) := by have := List.length_pos_iff.2 hdig.1; omega
                    have HA := hide hdig.2
                    have HDG := hide (List.all_eq_true.1 hdig.2)
                    have HDD := hide hdig
                    clear hdig
                    by_cases hfit : decVal (restOf ts) ≤ 9007199254740991
                    · have HF := hide hfit
                      clear hfit
                      go_wp2_with (first | (go_at_call 10; refine (ascii_inf _).mono ?_; rintro e w3 ⟨A3, c3, rfl, hr3, hb3⟩; have hs3 := hb3.size) | (go_at_call 62; refine (same_any (Nat.le_refl _) ((hrd.out.below (hb3.mono (by omega))).more (by omega)) hr3 hrlen (by decide)).mono ?_; rintro e w4 ⟨rfl, hb4⟩; rw [decide_eq_false HI.out]; have hb34 := below_two hb3 hb4 hDs; obtain ⟨q0, q1, q2, q3⟩ := (hNum.out.below hb3 hgl).below hb4 (by omega); obtain ⟨p0, p1, p2, p3⟩ := hN0.out.below hb34 hDlt0; obtain ⟨r0, r1, r2, r3⟩ := hN1.out.below hb34 hDlt) | (go_at_call 63; refine (scontainsfunc_any ((hrd.out.below (hb34.mono hBD))) hrlen).mono ?_; rintro e w5 ⟨rfl, rfl⟩; rw [HA.out]) | (go_at_call 66; refine (value_any ((hrd.out.below (hb34.mono hBD))) hrlen HDG.out).mono ?_; rintro e w5 ⟨nv, rfl, hnv, rfl⟩; have HNV := hide hnv; clear hnv; rw [decide_eq_true HF.out]))
                      go_meet
                      have hnv := HNV.out HF.out
                      subst hnv
                      exact ⟨0, _, _, rfl, fin_set hN0.out hbel.out hb34 hDlt0 hDg q0 q1 q2 q3 0 _ (BaseOk.dig HI.out HDD.out HF.out)⟩
                    · have HF := hide hfit
                      clear hfit
                      have HN2 := hide (hN.out.trans (numT_big hpos HI.out HDD.out HF.out))
                      go_wp2_with (first | (go_at_call 10; refine (ascii_inf _).mono ?_; rintro e w3 ⟨A3, c3, rfl, hr3, hb3⟩; have hs3 := hb3.size) | (go_at_call 62; refine (same_any (Nat.le_refl _) ((hrd.out.below (hb3.mono (by omega))).more (by omega)) hr3 hrlen (by decide)).mono ?_; rintro e w4 ⟨rfl, hb4⟩; rw [decide_eq_false HI.out]; have hb34 := below_two hb3 hb4 hDs; obtain ⟨q0, q1, q2, q3⟩ := (hNum.out.below hb3 hgl).below hb4 (by omega); obtain ⟨p0, p1, p2, p3⟩ := hN0.out.below hb34 hDlt0; obtain ⟨r0, r1, r2, r3⟩ := hN1.out.below hb34 hDlt) | (go_at_call 63; refine (scontainsfunc_any ((hrd.out.below (hb34.mono hBD))) hrlen).mono ?_; rintro e w5 ⟨rfl, rfl⟩; rw [HA.out]) | (go_at_call 66; refine (value_any ((hrd.out.below (hb34.mono hBD))) hrlen HDG.out).mono ?_; rintro e w5 ⟨nv, rfl, hnv, rfl⟩; have HNV := hide hnv; clear hnv; rw [decide_eq_false HF.out]))
                      obtain ⟨f0, f1, _, _⟩ := NumAt.set p0 p1 p2 p3 2 0
                      refine bodyPost_ret (v := .tuple #[.agg #[.int .i64 2, .int .i64 0], .bool false]) (by simp [results, Try.results45, go_sem, f0, f1]) rfl ?_
                      rw [HN2.out]
                      exact ⟨rfl, hbel.out.trans ((below_setg (Nat.le_refl _) (hb34.mono (by omega)) _ _))⟩
                  · have HDD := hide hdig
                    by_cases hnil : (restOf ts).length = 0
                    · clear hdig
                      have hlz : ¬ (0 : Int) < ((restOf ts).length : Int) := by omega
                      have HNIL := hide hnil
                      clear hnil
                      go_wp2_with (first | (go_at_call 10; refine (ascii_inf _).mono ?_; rintro e w3 ⟨A3, c3, rfl, hr3, hb3⟩; have hs3 := hb3.size) | (go_at_call 62; refine (same_any (Nat.le_refl _) ((hrd.out.below (hb3.mono (by omega))).more (by omega)) hr3 hrlen (by decide)).mono ?_; rintro e w4 ⟨rfl, hb4⟩; rw [decide_eq_false HI.out]; have hb34 := below_two hb3 hb4 hDs; obtain ⟨q0, q1, q2, q3⟩ := (hNum.out.below hb3 hgl).below hb4 (by omega); obtain ⟨p0, p1, p2, p3⟩ := hN0.out.below hb34 hDlt0; obtain ⟨r0, r1, r2, r3⟩ := hN1.out.below hb34 hDlt))
                      go_meet
                      exact ⟨2, 0, _, rfl, fin_keep hN0.out hbel.out hb34 hDlt0 ⟨q0, q1, q2, q3⟩ (BaseOk.odd HI.out HDD.out)⟩
                    · have hlz : (0 : Int) < ((restOf ts).length : Int) := by omega
                      have hal : (restOf ts).all isDigit = false := by
                        cases h : (restOf ts).all isDigit with
                        | false => rfl
                        | true => exact absurd ⟨fun h2 => hnil (by rw [h2]; rfl), h⟩ hdig
                      have HA := hide hal
                      clear hdig hnil hal
                      go_wp2_with (first | (go_at_call 10; refine (ascii_inf _).mono ?_; rintro e w3 ⟨A3, c3, rfl, hr3, hb3⟩; have hs3 := hb3.size) | (go_at_call 62; refine (same_any (Nat.le_refl _) ((hrd.out.below (hb3.mono (by omega))).more (by omega)) hr3 hrlen (by decide)).mono ?_; rintro e w4 ⟨rfl, hb4⟩; rw [decide_eq_false HI.out]; have hb34 := below_two hb3 hb4 hDs; obtain ⟨q0, q1, q2, q3⟩ := (hNum.out.below hb3 hgl).below hb4 (by omega); obtain ⟨p0, p1, p2, p3⟩ := hN0.out.below hb34 hDlt0; obtain ⟨r0, r1, r2, r3⟩ := hN1.out.below hb34 hDlt) | (go_at_call 63; refine (scontainsfunc_any ((hrd.out.below (hb34.mono hBD))) hrlen).mono ?_; rintro e w5 ⟨rfl, rfl⟩; rw [HA.out]))
                      go_meet
                      exact ⟨2, 0, _, rfl, fin_keep hN0.out hbel.out hb34 hDlt0 ⟨q0, q1, q2, q3⟩ (BaseOk.odd HI.out HDD.out)⟩
              case rest =>
                obtain ⟨k, nn, okb, hok, hg, hz0, hbf, hgl2, hbase⟩ := hcut
                subst hok
                have HBS := hide hbase
                clear hbase
                have HG := hide hg
                have HZ := hide hz0
                obtain ⟨q0, q1, q2, q3⟩ := hg
                obtain ⟨p0, p1, p2, p3⟩ := hz0
                have hgw : w.heap.size < g := by omega
                cases sg with
                | false =>
                  have HN2 := hide (hN.out.trans (numT_pos hpos hsg.out HBS.out))
                  go_wp2
                  obtain ⟨f0, f1, _, _⟩ := NumAt.set p0 p1 p2 p3 k nn
                  refine bodyPost_ret (v := .tuple #[.agg #[.int .i64 k, .int .i64 nn], .bool okb]) (by simp [results, Try.results45, go_sem, f0, f1]) rfl ?_
                  rw [HN2.out]
                  exact ⟨rfl, below_setg (Nat.le_refl _) hbf _ _⟩
                | true =>
                  have HN2 := hide (hN.out.trans (numT_neg hpos hsg.out HBS.out))
                  go_wp2_with (go_at_call 67; refine (neg_base HBS.out _).mono ?_; rintro e w6 ⟨rfl, hb6⟩; obtain ⟨t0, t1, t2, t3⟩ := HG.out.below hb6 hgl2; obtain ⟨s0, s1, s2, s3⟩ := HZ.out.below hb6 (by omega); have hs6 := hb6.size)
                  have hbz := below_setg (D := w.heap.size + 1) (g := g) (by omega) (Below.refl _ w6) (.int .i64 (negNm ⟨k, nn⟩).kind) (.int .i64 (negNm ⟨k, nn⟩).n)
                  obtain ⟨z0, z1, z2, z3⟩ := (HZ.out.below hb6 (by omega)).below hbz (by omega)
                  obtain ⟨f0, f1, _, _⟩ := NumAt.set z0 z1 z2 z3 (negNm ⟨k, nn⟩).kind (negNm ⟨k, nn⟩).n
                  refine bodyPost_ret (v := .tuple #[.agg #[.int .i64 (negNm ⟨k, nn⟩).kind, .int .i64 (negNm ⟨k, nn⟩).n], .bool okb]) (by simp [results, Try.results45, go_sem, f0, f1]) rfl ?_
                  rw [HN2.out]
                  exact ⟨rfl, below_setg (Nat.le_refl _) ((hbf.trans (hb6.mono (by omega))).trans (hbz.mono (by omega))) _ _⟩
end Go.Proofs.Ytbljbmeifmpfoaa

namespace Go.Proofs.Ytbljbmeifmpfoaa

theorem ascii_app (a b : List UInt8) : ascii (a ++ b) = ascii a ++ ascii b := by simp [ascii]
theorem ascii_len (a : List UInt8) : (ascii a).length = a.length := by simp [ascii]
theorem ascii_chr {n : Nat} (h : n < 256) : ascii [chr n] = [UInt16.ofNat n] := by
  simp only [ascii, List.map_cons, List.map_nil, List.cons.injEq, and_true]
  refine UInt16.toNat_inj.1 ?_
  have h1 := chr_nat h
  simp [h1]
  omega
theorem not_blank_digit {x : UInt16} (h : isDigit x = true) : isBlank x = false := by
  have := isDigit_iff.1 h
  simp [isBlank]
  omega
theorem dropW_none {u : List UInt16} (h : ∀ x ∈ u, isBlank x = false) : u.dropWhile isBlank = u := by
  cases u with
  | nil => rfl
  | cons x r => simp [List.dropWhile, h x (by simp)]
theorem trimF_none {u : List UInt16} (h : ∀ x ∈ u, isBlank x = false) : trimF u = u := by
  unfold trimF trimR
  rw [dropW_none h, dropW_none (fun x hx => h x (by simpa using hx)), List.reverse_reverse]
theorem decVal_pos {l : List UInt16} (h0 : 0 < l.length) (hd : isDigit l[0] = true) (h : l[0] ≠ 48) : 0 < decVal l := by
  cases l with
  | nil => simp at h0
  | cons x r =>
    have hx := isDigit_iff.1 hd
    simp only [List.getElem_cons_zero] at hx h
    have hn : x.toNat ≠ 48 := fun e => h (UInt16.toNat_inj.1 e)
    show 0 < decGo (10 * 0 + (x.toNat - 48)) r
    have := decGo_ge (10 * 0 + (x.toNat - 48)) r
    omega
theorem decS_digits (u : List UInt16) : ∀ n, u.length = n → 0 < n → (∀ x ∈ u, isDigit x = true) → (∀ h : 0 < u.length, 1 < u.length → u[0] ≠ 48) → ascii (decS (decVal u)) = u := by
  intro n
  induction n generalizing u with
  | zero => intro _ h; omega
  | succ n ih =>
    intro hl _ hd hz
    obtain ⟨l, x, rfl⟩ : ∃ l x, u = l ++ [x] := ⟨u.dropLast, u.getLast (by intro h; simp [h] at hl), (List.dropLast_concat_getLast _).symm⟩
    have hx := isDigit_iff.1 (hd x (by simp))
    have hl' : l.length = n := by simpa using hl
    have hof : UInt16.ofNat (48 + (x.toNat - 48)) = x := by
      refine UInt16.toNat_inj.1 ?_
      have := x.toNat_lt
      simp
      omega
    rw [decVal_snoc]
    by_cases h0 : n = 0
    · subst h0
      have : l = [] := List.eq_nil_of_length_eq_zero hl'
      subst this
      have h1 : 10 * decVal [] + (x.toNat - 48) = x.toNat - 48 := by show 10 * 0 + (x.toNat - 48) = _; omega
      rw [h1, decS_lo (by omega), ascii_chr (by omega), hof]
      rfl
    · have hlz : 0 < l.length := by omega
      have hz0 : l[0] ≠ 48 := by
        have := hz (by simp) (by simp; omega)
        rwa [List.getElem_append_left hlz] at this
      have hp := decVal_pos hlz (hd _ (by simp)) hz0
      rw [decS_hi (by omega), ascii_app, ascii_chr (by omega)]
      have h1 : (10 * decVal l + (x.toNat - 48)) / 10 = decVal l := by omega
      have h2 : (10 * decVal l + (x.toNat - 48)) % 10 = x.toNat - 48 := by omega
      rw [h1, h2, hof, ih l hl' (by omega) (fun y hy => hd y (by simp [hy])) (fun _ _ => hz0)]

theorem num_digits {u : List UInt16} (h0 : 0 < u.length) (hd : ∀ x ∈ u, isDigit x = true) (hf : decVal u ≤ 9007199254740991) : numF u = (⟨0, decVal u⟩, true) := by
  have hx := isDigit_iff.1 (hd _ (List.getElem_mem h0))
  have hne : u ≠ [] := List.ne_nil_of_length_pos h0
  obtain ⟨x, r, rfl⟩ := List.exists_cons_of_ne_nil hne
  simp only [List.getElem_cons_zero] at hx
  have hs : signOf (x :: r) = false := by
    simp only [signOf, List.headD_cons, beq_eq_false_iff_ne]
    rintro rfl
    simp at hx
  have hr : restOf (x :: r) = x :: r := by
    unfold restOf
    rw [if_neg]
    simp only [List.headD_cons]
    rintro (rfl | rfl) <;> simp at hx
  have hi : x :: r ≠ infinity := by
    intro h
    have h73 : x = 73 := by injection h
    rw [h73] at hx
    simp at hx
  unfold numF
  rw [trimF_none (fun x hx => not_blank_digit (hd x hx))]
  unfold numT
  rw [if_neg hne, hs]
  unfold baseT
  have hall := List.all_eq_true.2 hd
  simp only [hr, hi, hf, hall, ne_eq, hne, not_false_eq_true, and_self, if_true, if_false, Bool.false_eq_true]

theorem keyOk_parts {u : List UInt16} (h : keyOk u = true) : 0 < u.length ∧ u.length ≤ 10 ∧ (∀ h0 : 0 < u.length, 1 < u.length → u[0] ≠ 48) ∧ (∀ x ∈ u, isDigit x = true) ∧ decVal u ≤ 4294967294 := by
  have h1 := keyOk_len h
  simp only [keyOk, Bool.and_eq_true, decide_eq_true_eq, Bool.not_eq_true', List.all_eq_true, Bool.and_eq_false_iff, decide_eq_false_iff_not] at h
  refine ⟨h1.1, h1.2, fun h0 hl e => ?_, fun x hx => h.1.2 x hx, h.2⟩
  rcases h.1.1.2 with h3 | h3
  · exact h3 (by rw [List.getElem?_eq_getElem h0, e])
  · exact h3 hl
theorem key_num {u : List UInt16} (h : keyOk u = true) : numF u = (⟨0, (keyF u : Int)⟩, true) ∧ ascii (decS (keyF u)) = u ∧ keyF u ≤ 4294967294 := by
  obtain ⟨h0, h1, h2, h3, h4⟩ := keyOk_parts h
  have hk : keyF u = decVal u := by rw [keyF, if_pos h]
  rw [hk]
  exact ⟨num_digits h0 h3 (by omega), decS_digits u _ rfl h0 h3 h2, h4⟩
theorem key_none {u : List UInt16} (h : keyOk u = false) : keyF u = 0 := by rw [keyF, h]; rfl

theorem decS_pos (n : Nat) : 0 < (decS n).length := by
  by_cases h : n < 10
  · rw [decS_lo h]; simp
  · rw [decS_hi h]; simp
theorem decS_all (n : Nat) : ∀ x ∈ ascii (decS n), isDigit x = true := by
  induction n using Nat.strongRecOn with
  | _ n ih =>
    have hone : ∀ m, m < 10 → isDigit (UInt16.ofNat (48 + m)) = true := by
      intro m hm
      rw [isDigit_iff]
      simp
      omega
    by_cases h : n < 10
    · rw [decS_lo h, ascii_chr (by omega)]
      intro x hx
      rw [List.mem_singleton] at hx
      subst hx
      exact hone n h
    · rw [decS_hi h, ascii_app, ascii_chr (by omega)]
      intro x hx
      rcases List.mem_append.1 hx with hx | hx
      · exact ih (n / 10) (by omega) x hx
      · rw [List.mem_singleton] at hx
        subst hx
        exact hone _ (by omega)
theorem decS_val (n : Nat) : decVal (ascii (decS n)) = n := by
  induction n using Nat.strongRecOn with
  | _ n ih =>
    have hone : ∀ m, m < 10 → (UInt16.ofNat (48 + m)).toNat - 48 = m := by
      intro m hm
      simp
      omega
    by_cases h : n < 10
    · rw [decS_lo h, ascii_chr (by omega)]
      show 10 * 0 + ((UInt16.ofNat (48 + n)).toNat - 48) = n
      rw [hone n h]
      omega
    · rw [decS_hi h, ascii_app, ascii_chr (by omega), decVal_snoc, ih (n / 10) (by omega), hone _ (by omega)]
      omega
theorem decS_head (n : Nat) : ∀ h : 0 < (ascii (decS n)).length, 1 < (ascii (decS n)).length → (ascii (decS n))[0] ≠ 48 := by
  induction n using Nat.strongRecOn with
  | _ n ih =>
    by_cases h : n < 10
    · intro _ h1
      rw [decS_lo h] at h1
      simp [ascii] at h1
    · intro h0 _
      have hl : 0 < (ascii (decS (n / 10))).length := by rw [ascii_len]; exact decS_pos _
      have e : (ascii (decS n))[0] = (ascii (decS (n / 10)))[0] := by
        have : ascii (decS n) = ascii (decS (n / 10)) ++ ascii [chr (48 + n % 10)] := by rw [decS_hi h, ascii_app]
        rw [List.getElem_of_eq this]
        exact List.getElem_append_left hl
      rw [e]
      by_cases h1 : n / 10 < 10
      · have e2 : ascii (decS (n / 10)) = [UInt16.ofNat (48 + n / 10)] := by rw [decS_lo h1, ascii_chr (by omega)]
        rw [List.getElem_of_eq e2]
        simp only [List.getElem_cons_zero]
        intro hh
        have := congrArg UInt16.toNat hh
        simp at this
        omega
      · refine ih (n / 10) (by omega) hl ?_
        rw [decS_hi h1, ascii_app, List.length_append, ascii_len]
        have := decS_pos (n / 10 / 10)
        simp [ascii]
        omega
theorem decS_len_le {k : Nat} : ∀ {n : Nat}, n < 10 ^ (k + 1) → (decS n).length ≤ k + 1 := by
  induction k with
  | zero => intro n h; rw [decS_lo (by simpa using h)]; simp
  | succ k ih =>
    intro n h
    by_cases h1 : n < 10
    · rw [decS_lo h1]; simp
    · rw [decS_hi h1]
      have := @ih (n / 10) (by rw [Nat.pow_succ] at h; omega)
      simp
      omega
theorem key_dec (n : Nat) : keyOk (ascii (decS n)) = decide (n ≤ 4294967294) ∧ (n ≤ 4294967294 → keyF (ascii (decS n)) = n) := by
  have h0 : 0 < (ascii (decS n)).length := by rw [ascii_len]; exact decS_pos n
  by_cases h10 : (ascii (decS n)).length ≤ 10
  · have e := keyOk_at h0 h10 (fun ⟨a, b⟩ => decS_head n h0 b a) (decS_all n)
    rw [decS_val] at e
    exact ⟨e, fun h => by rw [keyF, e, decS_val, if_pos (by simpa using h)]⟩
  · have hn : ¬ n ≤ 4294967294 := fun h => h10 (by rw [ascii_len]; exact decS_len_le (by omega))
    exact ⟨by rw [keyOk_long (fun h => h10 h.2)]; simp [hn], fun h => absurd h hn⟩
theorem num_dec {n : Nat} (h : n ≤ 9007199254740991) : numF (ascii (decS n)) = (⟨0, (n : Int)⟩, true) := by
  have := num_digits (u := ascii (decS n)) (by rw [ascii_len]; exact decS_pos n) (decS_all n) (by rw [decS_val]; exact h)
  rwa [decS_val] at this
theorem noughts_all {u : List UInt16} (h : ∀ x ∈ u, isDigit x = true) (k : Nat) : ∀ x ∈ List.replicate k 48 ++ u, isDigit x = true := by
  intro x hx
  rcases List.mem_append.1 hx with hx | hx
  · rw [List.eq_of_mem_replicate hx]; rfl
  · exact h x hx
theorem noughts_val (u : List UInt16) (k : Nat) : decVal (List.replicate k 48 ++ u) = decVal u := by
  induction k with
  | zero => rfl
  | succ k ih =>
    show decGo (10 * 0 + ((48 : UInt16).toNat - 48)) (List.replicate k 48 ++ u) = _
    exact ih
theorem noughts_num {n : Nat} (h : n ≤ 9007199254740991) (k : Nat) : numF (List.replicate k 48 ++ ascii (decS n)) = (⟨0, (n : Int)⟩, true) := by
  have := num_digits (u := List.replicate k 48 ++ ascii (decS n)) (by rw [List.length_append, ascii_len]; have := decS_pos n; omega) (noughts_all (decS_all n) k) (by rw [noughts_val, decS_val]; exact h)
  rwa [noughts_val, decS_val] at this
theorem noughts_key (n k : Nat) (h : 0 < k) : keyOk (List.replicate k 48 ++ ascii (decS n)) = false := by
  obtain ⟨k, rfl⟩ : ∃ j, k = j + 1 := ⟨k - 1, by omega⟩
  have := decS_pos n
  exact keyOk_lead (by simp; omega) (by simp [List.replicate]) (by simp [ascii_len]; omega)
end Go.Proofs.Ytbljbmeifmpfoaa

namespace Go.Proofs.Ytbljbmeifmpfoaa
open Go.RowKit

theorem num_digits_big {u : List UInt16} (h0 : 0 < u.length) (hd : ∀ x ∈ u, isDigit x = true) (hf : ¬ decVal u ≤ 9007199254740991) : numF u = (⟨2, 0⟩, false) := by
  have hx := isDigit_iff.1 (hd _ (List.getElem_mem h0))
  have hne : u ≠ [] := List.ne_nil_of_length_pos h0
  obtain ⟨x, r, rfl⟩ := List.exists_cons_of_ne_nil hne
  simp only [List.getElem_cons_zero] at hx
  have hs : signOf (x :: r) = false := by
    simp only [signOf, List.headD_cons, beq_eq_false_iff_ne]
    rintro rfl
    simp at hx
  have hr : restOf (x :: r) = x :: r := by
    unfold restOf
    rw [if_neg]
    simp only [List.headD_cons]
    rintro (rfl | rfl) <;> simp at hx
  have hi : x :: r ≠ infinity := by
    intro h
    have h73 : x = 73 := by injection h
    rw [h73] at hx
    simp at hx
  unfold numF
  rw [trimF_none (fun x hx => not_blank_digit (hd x hx))]
  unfold numT
  rw [if_neg hne, hs]
  unfold baseT
  have hall := List.all_eq_true.2 hd
  simp only [hr, hi, hf, hall, ne_eq, hne, not_false_eq_true, and_self, if_true, if_false, Bool.false_eq_true]
theorem lnum_is {A : Option Addr} {c B m : Nat} {xs : List UInt16} {w : World} (hB : B ≤ w.heap.size) (hm : xs.length = m) (ha : Reads w B 1 A m (u16s xs)) (hc : m ≤ c) (hc2 : c ≤ maxLen) (hl : m ≤ 70368744177664) {k n : Int} {ok : Bool} (h : numF xs = (⟨k, n⟩, ok)) :
    Calls Try.prog 45 #[.slice A m c] w fun e w' => e = .returned (.tuple #[.agg #[.int .i64 k, .int .i64 n], .bool ok]) ∧ Below w.heap.size w w' := by
  subst hm
  have := number_any hB ha hc hc2 hl
  rw [h] at this
  exact this
theorem lrun_digit_is {A : Option Addr} {c g B k n : Nat} {u : List UInt16} {w : World} {sv : ByteArray} (hr : Rd w g A n c k) (hn : u.length = n) (ha : Reads w B 1 A n (u16s u)) (hB : B ≤ g) (hk : k ≤ n) (hl : n ≤ 4096) {l : List UInt16} (hq : (u.drop k).takeWhile isDigit = l) (hs : sv = ⟨(asc l).toArray⟩) :
    Calls Try.prog 40 #[.pointer (some ⟨g, 0, none⟩), .func (.func 24) #[] #[]] w fun e w' => e = .returned (.string sv) ∧ Mv w w' g A n c (k + l.length) := by
  subst hs
  exact lrun_digit hr hn ha hB hk hl hq
theorem ascii_asc {d : List UInt16} (hd : ∀ x ∈ d, isDigit x = true) : ascii (asc d) = d := by
  unfold ascii asc
  rw [List.map_map]
  conv => rhs; rw [← List.map_id d]
  refine List.map_congr_left fun x hx => ?_
  have h := isDigit_iff.1 (hd x hx)
  refine UInt16.toNat_inj.1 ?_
  show x.toNat % 256 = x.toNat
  omega
/-- text.Ascii at digits -/
theorem lascii_is {s : ByteArray} {d : List UInt16} (hs : s.data.toList = asc d) (hd : ∀ x ∈ d, isDigit x = true) (hl : d.length ≤ 4096) (w : World) :
    Calls Try.prog 10 #[.string s] w fun e w' => ∃ A c, e = .returned (.slice A d.length c) ∧ Reads w' w'.heap.size 1 A d.length (u16s d) ∧ d.length ≤ c ∧ c ≤ maxLen ∧ Below w.heap.size w w' := by
  have hsz : s.size = d.length := by
    have := congrArg List.length hs
    simpa [asc] using this
  refine (ascii_any s w (by omega)).mono ?_
  rintro e w' ⟨v, rfl, hm⟩
  have hb := hm.below
  rw [hs, ascii_asc hd] at hm
  obtain ⟨A, c, rfl, h1, h2, h3⟩ := hm.u16
  exact ⟨A, c, rfl, h3, h1, h2, hb⟩
theorem numT_lead {d r : List UInt16} {e m : Nat} {t : Tok} (h : (isAt 0 (fun x => x.toNat == 48) d && !decide (d = [48])) = true) (hq : numT' d r = (e, t, m)) : 5 = e ∧ noTok = t ∧ 0 = m := by
  unfold numT' at hq
  rw [if_pos h] at hq
  exact ans_bad hq
theorem numT_n {d r : List UInt16} {e m : Nat} {t : Tok} (h : (isAt 0 (fun x => x.toNat == 48) d && !decide (d = [48])) = false) (h2 : starts [110] r = true) (hq : numT' d r = (e, t, m)) : bigT (decVal d) d.length (r.drop 1) = (e, t, m) := by
  unfold numT' at hq
  rw [if_neg (by rw [h]; simp), if_pos h2] at hq
  exact hq
theorem numT_odd {d r : List UInt16} {e m : Nat} {t : Tok} (h : (isAt 0 (fun x => x.toNat == 48) d && !decide (d = [48])) = false) (h2 : starts [110] r = false) (h3 : isAt 0 (oddAfter (decide (d = [48]))) r = true) (hq : numT' d r = (e, t, m)) : 6 = e ∧ noTok = t ∧ 0 = m := by
  unfold numT' at hq
  rw [if_neg (by rw [h]; simp), if_neg (by rw [h2]; simp), if_pos h3] at hq
  exact ans_bad hq
theorem numT_let {d r : List UInt16} {e m : Nat} {t : Tok} (h : (isAt 0 (fun x => x.toNat == 48) d && !decide (d = [48])) = false) (h2 : starts [110] r = false) (h3 : isAt 0 (oddAfter (decide (d = [48]))) r = false) (h4 : isAt 0 isLet r = true) (hq : numT' d r = (e, t, m)) : 5 = e ∧ noTok = t ∧ 0 = m := by
  unfold numT' at hq
  rw [if_neg (by rw [h]; simp), if_neg (by rw [h2]; simp), if_neg (by rw [h3]; simp), if_pos h4] at hq
  exact ans_bad hq
theorem numT_over {d r : List UInt16} {e m : Nat} {t : Tok} (h : (isAt 0 (fun x => x.toNat == 48) d && !decide (d = [48])) = false) (h2 : starts [110] r = false) (h3 : isAt 0 (oddAfter (decide (d = [48]))) r = false) (h4 : isAt 0 isLet r = false) (h5 : ¬ decVal d ≤ 9007199254740991) (hq : numT' d r = (e, t, m)) : 6 = e ∧ noTok = t ∧ 0 = m := by
  unfold numT' at hq
  rw [if_neg (by rw [h]; simp), if_neg (by rw [h2]; simp), if_neg (by rw [h3]; simp), if_neg (by rw [h4]; simp), if_pos (by omega)] at hq
  exact ans_bad hq
theorem numT_good {d r : List UInt16} {e m : Nat} {t : Tok} (h : (isAt 0 (fun x => x.toNat == 48) d && !decide (d = [48])) = false) (h2 : starts [110] r = false) (h3 : isAt 0 (oddAfter (decide (d = [48]))) r = false) (h4 : isAt 0 isLet r = false) (h5 : decVal d ≤ 9007199254740991) (hq : numT' d r = (e, t, m)) : 0 = e ∧ { noTok with kind := 2, nn := decVal d } = t ∧ d.length = m := by
  unfold numT' at hq
  rw [if_neg (by rw [h]; simp), if_neg (by rw [h2]; simp), if_neg (by rw [h3]; simp), if_neg (by rw [h4]; simp), if_neg (by omega)] at hq
  exact ans_of hq

set_option maxHeartbeats 8000000 in
set_option maxRecDepth 100000 in
theorem lnumber_any {A : Option Addr} {c g B k n : Nat} {u : List UInt16} {w : World} (hr : Rd w g A n c k) (hn : u.length = n) (ha : Reads w B 1 A n (u16s u)) (hB : B ≤ g) (hk : k < u.length) (hdk : isDigit u[k] = true) (hl : n ≤ 4096) {m e : Nat} {t : Tok} (hq : numberT (u.drop k) = (e, t, m)) :
    Calls Try.prog 25 #[.pointer (some ⟨g, 0, none⟩)] w fun ev w' => ∃ v, ev = .returned (.tuple #[v, .int .i64 (e : Int)]) ∧ (e ≠ 0 → v = noV) ∧ (e = 0 → TokV w' w.heap.size t v ∧ Mv w w' g A n c (k + m)) ∧ w.grownBy w' (some g) := by
  subst hn
  have hg := hr.lt
  obtain ⟨d, hdd⟩ : ∃ d, (u.drop k).takeWhile isDigit = d := ⟨_, rfl⟩
  have hd : ∀ x ∈ d, isDigit x = true := by
    rw [← hdd]
    exact List.all_eq_true.1 List.all_takeWhile
  have hd0 : d = u[k] :: (u.drop (k + 1)).takeWhile isDigit := by rw [← hdd, List.drop_eq_getElem_cons hk, List.takeWhile_cons_of_pos hdk]
  have h0 : 0 < d.length := by rw [hd0]; simp
  have hle : k + d.length ≤ u.length := by
    have h1 := takeWhile_le isDigit (u.drop k)
    rw [hdd, List.length_drop] at h1
    omega
  unfold numberT at hq
  rw [hdd, List.drop_drop] at hq
  obtain ⟨sv, hsv⟩ : ∃ sv : ByteArray, sv = ⟨(asc d).toArray⟩ := ⟨_, rfl⟩
  have hsd : sv.data.toList = asc d := by rw [hsv]
  obtain ⟨hsz, hget⟩ := asc_at hsd hd
  have hs0 : 0 < sv.size := by omega
  obtain ⟨q, hqq⟩ : ∃ q, ((sv[0].toNat : Int) == 48) = q := ⟨_, rfl⟩
  obtain ⟨z, hzz⟩ : ∃ z, decide (d = [48]) = z := ⟨_, rfl⟩
  have hlead : (isAt 0 (fun x => x.toNat == 48) d && !decide (d = [48])) = (q && !z) := by
    rw [hzz]
    congr 1
    have h1 := (hget 0 hs0 h0).1
    have h2 : isAt 0 (fun x => x.toNat == 48) d = (d[0].toNat == 48) := by
      unfold isAt
      rw [List.getElem?_eq_getElem h0]; rfl
    rw [h2, ← h1, ← hqq, Bool.eq_iff_iff, beq_iff_eq, beq_iff_eq]
    omega
  have hst : (sv.toList == [48]) = z := by
    rw [txt_eq, hsd, ← hzz, Bool.eq_iff_iff, decide_eq_true_eq, decide_eq_true_eq]
    constructor
    · intro h
      rw [← ascii_asc hd, h]; rfl
    · intro h
      rw [h]; rfl
  have hnl : (q && !z) = false → d[0] ≠ 48 ∨ d = [48] := by
    intro h
    cases hzc : z with
    | true => right; exact of_decide_eq_true (by rw [hzz, hzc])
    | false =>
      left
      intro h3
      rw [hzc] at h
      have h4 : q = false := by simpa using h
      rw [h4, beq_eq_false_iff_ne] at hqq
      have h1 := (hget 0 hs0 h0).1
      rw [h3] at h1
      exact hqq (by rw [h1]; rfl)
  obtain ⟨b, hb⟩ : ∃ b, starts [110] (u.drop (k + d.length)) = b := ⟨_, rfl⟩
  obtain ⟨bo, hbo⟩ : ∃ b, isAt 0 (oddAfter z) (u.drop (k + d.length)) = b := ⟨_, rfl⟩
  obtain ⟨bl, hbl⟩ : ∃ b, isAt 0 isLet (u.drop (k + d.length)) = b := ⟨_, rfl⟩
  have HL := hide hdd
  have HD := hide hd
  have HSV := hide hsv
  have HSD := hide hsd
  have HQ := hide hq
  have HLEAD := hide hlead
  have HNL := hide hnl
  have HB := hide hb
  have HBO := hide hbo
  have HBL := hide hbl
  have HZ := hide hzz
  have HA := hide ha
  have hR := hide (hr.alloc (.cells zero9.toArray 40))
  have hAl := hide (ha.alloc (Nat.le_trans hB (Nat.le_of_lt hg)) (.cells zero9.toArray 40))
  have HZ0 := hide (Blk.new w zero9 40)
  have hG0 := hide (grown_alloc w (.cells zero9.toArray 40) (some g))
  have hdl : d.length ≤ 4096 := by omega
  clear hdd hd hd0 hsv hsd hq hlead hnl hb hbo hbl hzz ha hr hget hsz
  go_enter Try.func25, Try.ntmps25
  go_wp2_with fail
  refine (lrun_digit_is hR.out rfl hAl.out hB (Nat.le_of_lt hk) hl HL.out HSV.out).mono ?_
  rintro e1 w1 ⟨rfl, hM1⟩
  have hS1 := hide (show SgS w w1 g A u.length c (k + d.length) from ⟨⟨hM1.rd, grown_trans hG0.out hM1.grown⟩, HZ0.out.grown hM1.grown (by omega)⟩)
  clear hM1 hR hAl HZ0 hG0
  go_upto_region 3 with (fail)
  go_cut [12] (fun v wx => v = .bool (q && !z) ∧ wx = w1)
  case first =>
    cases q <;> cases z
    all_goals
      go_wp2_with fail
      go_meet
      exact ⟨rfl, rfl⟩
  case rest =>
    obtain ⟨hv, hwx⟩ := hcut
    subst hv hwx
    obtain ⟨ld, hld⟩ : ∃ b, (q && !z) = b := ⟨_, rfl⟩
    rw [hld] at HLEAD HNL ⊢
    clear hld hqq hst
    cases ld with
    | true =>
      obtain ⟨b0', fb0⟩ := hS1.out.zero.2 0 (by decide)
      obtain ⟨b1', fb1⟩ := hS1.out.zero.2 1 (by decide)
      obtain ⟨b2', fb2⟩ := hS1.out.zero.2 2 (by decide)
      obtain ⟨b3', fb3⟩ := hS1.out.zero.2 3 (by decide)
      obtain ⟨b4', fb4⟩ := hS1.out.zero.2 4 (by decide)
      obtain ⟨b5', fb5⟩ := hS1.out.zero.2 5 (by decide)
      obtain ⟨b6', fb6⟩ := hS1.out.zero.2 6 (by decide)
      obtain ⟨b7', fb7⟩ := hS1.out.zero.2 7 (by decide)
      obtain ⟨b8', fb8⟩ := hS1.out.zero.2 8 (by decide)
      go_wp2_with fail
      obtain ⟨q0, q1, q2, q3, q4, q5, q6, q7, q8⟩ := set9_cells (v0 := .int .i64 0) (v1 := .string ⟨#[]⟩) (v2 := .slice none 0 0) (v3 := .int .i64 0) (v4 := .int .i64 0) (v5 := .bool false) (v6 := .slice none 0 0) (v7 := .int .i64 0) (v8 := .bool false) hS1.out.zero rfl
      refine bodyPost_ret (v := .tuple #[.agg #[.int .i64 0, .string ⟨#[]⟩, .slice none 0 0, .int .i64 0, .int .i64 0, .bool false, .slice none 0 0, .int .i64 0, .bool false], .int .i64 5]) (by simp [results, Try.results25, go_sem, q0, q1, q2, q3, q4, q5, q6, q7, q8]) rfl ?_
      obtain ⟨z1, z2, z3⟩ := numT_lead HLEAD.out HQ.out
      subst z1
      exact ⟨_, rfl, fun _ => rfl, fun h => absurd h (by decide), (set9_mv hS1.out.mv (Nat.le_refl _) hg).grown⟩
    | false =>
      have HNZ := hide (HNL.out rfl)
      clear HNL
      go_wp2_with fail
      refine (lhas_any ⟨#[110]⟩ hS1.out.mv.rd rfl (HA.out.grown hS1.out.mv.grown hB (Nat.le_of_lt hg)) hle hl (by decide) HB.out).mono ?_
      rintro e2 w2 ⟨rfl, m2, hw2⟩
      have hS2 := hide (show SgS w w2 g A u.length c (k + d.length) by rw [hw2]; exact hS1.out.drewN hg m2)
      clear hw2 m2 hS1
      cases b with
      | true =>
        have hkd : k + d.length + 1 ≤ u.length := by
          have := starts_len HB.out
          rw [List.length_drop] at this
          simp at this
          omega
        have HQB := hide (numT_n HLEAD.out HB.out HQ.out)
        rw [List.drop_drop] at HQB
        have hc1 := hS2.out.mv.rd.c1
        have hf1 := hS2.out.mv.rd.f1
        have hM3 := hide (Mv.step hS2.out.mv (k' := k + d.length + 1) (z := (((k + d.length : Nat) : Int) + 1)) (by omega))
        have hz3 := hide (hS2.out.zero.setOther (S := g) (i := 1) (by omega) (.int .i64 (((k + d.length : Nat) : Int) + 1)))
        obtain ⟨p, hp⟩ : ∃ p, k + d.length = p := ⟨_, rfl⟩
        rw [hp] at hc1 hM3 hz3
        go_wp2_with fail
        refine (lbigint_any (m := m) (e := e) (t := t) HSD.out HD.out h0 HNZ.out hdl (by exact hM3.out.rd) rfl (HA.out.grown hM3.out.grown hB (Nat.le_of_lt hg)) hB (by omega) hl (by rw [← hp]; exact HQB.out)).mono ?_
        rintro e4 w4 ⟨v, rfl, hbad, hgood, hG4⟩
        have hz4 := hide (hz3.out.grown hG4 (by omega))
        have HBAD := hide hbad
        have HGOOD := hide hgood
        have HG4 := hide (grown_trans hM3.out.grown hG4)
        have hsz4 : w.heap.size < w2.heap.size := hS2.out.zero.1
        have hszs : (w2.setCell ⟨g, 1, none⟩ (.int .i64 ((p : Int) + 1))).heap.size = w2.heap.size := by simp
        have HSZ := hide hszs
        clear hbad hgood hG4 hszs hc1 hf1
        obtain ⟨b0', fb0⟩ := hz4.out.2 0 (by decide)
        obtain ⟨b1', fb1⟩ := hz4.out.2 1 (by decide)
        obtain ⟨b2', fb2⟩ := hz4.out.2 2 (by decide)
        obtain ⟨b3', fb3⟩ := hz4.out.2 3 (by decide)
        obtain ⟨b4', fb4⟩ := hz4.out.2 4 (by decide)
        obtain ⟨b5', fb5⟩ := hz4.out.2 5 (by decide)
        obtain ⟨b6', fb6⟩ := hz4.out.2 6 (by decide)
        obtain ⟨b7', fb7⟩ := hz4.out.2 7 (by decide)
        obtain ⟨b8', fb8⟩ := hz4.out.2 8 (by decide)
        by_cases he : e = 0
        · obtain ⟨⟨vs, vm, hv, ho1, ho2⟩, hM4, hm4⟩ := HGOOD.out he
          subst hv
          obtain ⟨As, cs, rfl, _, _⟩ := own_shape ho1
          obtain ⟨Am, cm, rfl, _, _⟩ := own_shape ho2
          rw [HSZ.out] at ho1 ho2
          have HO1 := hide ho1
          have HO2 := hide ho2
          have HM4 := hide (Mv.then hM3.out hM4)
          have HE := hide he
          have Hm4 := hide hm4
          obtain ⟨ls, hls⟩ : ∃ l, t.str.length = l := ⟨_, rfl⟩
          obtain ⟨lm, hlm⟩ : ∃ l, t.mag.length = l := ⟨_, rfl⟩
          rw [hls, hlm]
          rw [hls] at HO1
          rw [hlm] at HO2
          have HLS := hide hls
          have HLM := hide hlm
          clear ho1 ho2 hM4 hm4 he hls hlm
          go_wp2_with fail
          obtain ⟨q0, q1, q2, q3, q4, q5, q6, q7, q8⟩ := set9_cells (v0 := .int .i64 (t.kind : Int)) (v1 := .string ⟨t.text.toArray⟩) (v2 := .slice As ls cs) (v3 := .int .i64 t.nk) (v4 := .int .i64 t.nn) (v5 := .bool false) (v6 := .slice Am lm cm) (v7 := .int .i64 (t.pos : Int)) (v8 := .bool t.nl) hz4.out rfl
          refine bodyPost_ret (v := .tuple #[.agg #[.int .i64 (t.kind : Int), .string ⟨t.text.toArray⟩, .slice As ls cs, .int .i64 t.nk, .int .i64 t.nn, .bool false, .slice Am lm cm, .int .i64 (t.pos : Int), .bool t.nl], .int .i64 (e : Int)]) (by simp [results, Try.results25, go_sem, q0, q1, q2, q3, q4, q5, q6, q7, q8]) rfl ?_
          refine ⟨_, rfl, fun h => absurd HE.out h, fun _ => ⟨⟨_, _, rfl, ?_, ?_⟩, ?_⟩, set9_grownM HG4.out (Nat.le_refl _)⟩
          · rw [HLS.out]; exact own_base (set9_own HO1.out hsz4) (by omega)
          · rw [HLM.out]; exact own_base (set9_own HO2.out hsz4) (by omega)
          · rw [Hm4.out, show k + (d.length + 1) = p + 1 by omega]
            exact set9_mv HM4.out (Nat.le_refl _) hg
        · obtain rfl := HBAD.out he
          unfold noV
          go_wp2_with fail
          obtain ⟨q0, q1, q2, q3, q4, q5, q6, q7, q8⟩ := set9_cells (v0 := .int .i64 0) (v1 := .string ⟨#[]⟩) (v2 := .slice none 0 0) (v3 := .int .i64 0) (v4 := .int .i64 0) (v5 := .bool false) (v6 := .slice none 0 0) (v7 := .int .i64 0) (v8 := .bool false) hz4.out rfl
          refine bodyPost_ret (v := .tuple #[.agg #[.int .i64 0, .string ⟨#[]⟩, .slice none 0 0, .int .i64 0, .int .i64 0, .bool false, .slice none 0 0, .int .i64 0, .bool false], .int .i64 (e : Int)]) (by simp [results, Try.results25, go_sem, q0, q1, q2, q3, q4, q5, q6, q7, q8]) rfl ?_
          exact ⟨_, rfl, fun _ => rfl, fun h => absurd h he, set9_grownM HG4.out (Nat.le_refl _)⟩
      | false =>
        go_wp2_with fail
        refine (lstrange_any hS2.out.mv.rd rfl (HA.out.grown hS2.out.mv.grown hB (Nat.le_of_lt hg)) hB hle hl HBO.out).mono ?_
        rintro e3 w3 ⟨rfl, hb3⟩
        have hS3 := hide (hS2.out.below hg hb3)
        clear hb3 hS2
        cases bo with
        | true =>
          obtain ⟨b0', fb0⟩ := hS3.out.zero.2 0 (by decide)
          obtain ⟨b1', fb1⟩ := hS3.out.zero.2 1 (by decide)
          obtain ⟨b2', fb2⟩ := hS3.out.zero.2 2 (by decide)
          obtain ⟨b3', fb3⟩ := hS3.out.zero.2 3 (by decide)
          obtain ⟨b4', fb4⟩ := hS3.out.zero.2 4 (by decide)
          obtain ⟨b5', fb5⟩ := hS3.out.zero.2 5 (by decide)
          obtain ⟨b6', fb6⟩ := hS3.out.zero.2 6 (by decide)
          obtain ⟨b7', fb7⟩ := hS3.out.zero.2 7 (by decide)
          obtain ⟨b8', fb8⟩ := hS3.out.zero.2 8 (by decide)
          go_wp2_with fail
          obtain ⟨q0, q1, q2, q3, q4, q5, q6, q7, q8⟩ := set9_cells (v0 := .int .i64 0) (v1 := .string ⟨#[]⟩) (v2 := .slice none 0 0) (v3 := .int .i64 0) (v4 := .int .i64 0) (v5 := .bool false) (v6 := .slice none 0 0) (v7 := .int .i64 0) (v8 := .bool false) hS3.out.zero rfl
          refine bodyPost_ret (v := .tuple #[.agg #[.int .i64 0, .string ⟨#[]⟩, .slice none 0 0, .int .i64 0, .int .i64 0, .bool false, .slice none 0 0, .int .i64 0, .bool false], .int .i64 6]) (by simp [results, Try.results25, go_sem, q0, q1, q2, q3, q4, q5, q6, q7, q8]) rfl ?_
          obtain ⟨z1, z2, z3⟩ := numT_odd HLEAD.out HB.out (by rw [HZ.out]; exact HBO.out) HQ.out
          subst z1
          exact ⟨_, rfl, fun _ => rfl, fun h => absurd h (by decide), (set9_mv hS3.out.mv (Nat.le_refl _) hg).grown⟩
        | false =>
          go_wp2_with fail
          refine (lis_letter (j := 0) hS3.out.mv.rd rfl (HA.out.grown hS3.out.mv.grown hB (Nat.le_of_lt hg)) hle hl (by omega) HBL.out).mono ?_
          rintro e4 w4 ⟨rfl, m4, hw4⟩
          have hS4 := hide (show SgS w w4 g A u.length c (k + d.length) by rw [hw4]; exact hS3.out.drewN hg m4)
          clear hw4 m4 hS3
          cases bl with
          | true =>
            obtain ⟨b0', fb0⟩ := hS4.out.zero.2 0 (by decide)
            obtain ⟨b1', fb1⟩ := hS4.out.zero.2 1 (by decide)
            obtain ⟨b2', fb2⟩ := hS4.out.zero.2 2 (by decide)
            obtain ⟨b3', fb3⟩ := hS4.out.zero.2 3 (by decide)
            obtain ⟨b4', fb4⟩ := hS4.out.zero.2 4 (by decide)
            obtain ⟨b5', fb5⟩ := hS4.out.zero.2 5 (by decide)
            obtain ⟨b6', fb6⟩ := hS4.out.zero.2 6 (by decide)
            obtain ⟨b7', fb7⟩ := hS4.out.zero.2 7 (by decide)
            obtain ⟨b8', fb8⟩ := hS4.out.zero.2 8 (by decide)
            go_wp2_with fail
            obtain ⟨q0, q1, q2, q3, q4, q5, q6, q7, q8⟩ := set9_cells (v0 := .int .i64 0) (v1 := .string ⟨#[]⟩) (v2 := .slice none 0 0) (v3 := .int .i64 0) (v4 := .int .i64 0) (v5 := .bool false) (v6 := .slice none 0 0) (v7 := .int .i64 0) (v8 := .bool false) hS4.out.zero rfl
            refine bodyPost_ret (v := .tuple #[.agg #[.int .i64 0, .string ⟨#[]⟩, .slice none 0 0, .int .i64 0, .int .i64 0, .bool false, .slice none 0 0, .int .i64 0, .bool false], .int .i64 5]) (by simp [results, Try.results25, go_sem, q0, q1, q2, q3, q4, q5, q6, q7, q8]) rfl ?_
            obtain ⟨z1, z2, z3⟩ := numT_let HLEAD.out HB.out (by rw [HZ.out]; exact HBO.out) HBL.out HQ.out
            subst z1
            exact ⟨_, rfl, fun _ => rfl, fun h => absurd h (by decide), (set9_mv hS4.out.mv (Nat.le_refl _) hg).grown⟩
          | false =>
            go_wp2_with fail
            refine (lascii_is HSD.out HD.out hdl _).mono ?_
            rintro e5 w5 ⟨Aa, ca, rfl, hra, hca1, hca2, hb5⟩
            have hS5 := hide (hS4.out.below hg hb5)
            have HRA := hide hra
            clear hb5 hS4 hra
            by_cases hbig : decVal d ≤ 9007199254740991
            · have HN := hide (num_digits h0 HD.out hbig)
              have HBIG := hide hbig
              clear hbig
              go_wp2_with fail
              refine (lnum_is (Nat.le_refl _) rfl HRA.out hca1 hca2 (by omega) HN.out).mono ?_
              rintro e6 w6 ⟨rfl, hb6⟩
              have hS6 := hide (show SgS w (w6.alloc (.cells #[.int .i64 0, .int .i64 (decVal d : Int)] 35)) g A u.length c (k + d.length) from ((hS5.out.below hg hb6).below hg ((Below.refl _ _).alloc (Nat.le_refl _) _)))
              obtain ⟨dv, hdv⟩ : ∃ dv, decVal d = dv := ⟨_, rfl⟩
              rw [hdv] at hS6 ⊢
              have HDV := hide hdv
              clear hb6 hS5 hdv
              obtain ⟨b0', fb0⟩ := hS6.out.zero.2 0 (by decide)
              obtain ⟨b1', fb1⟩ := hS6.out.zero.2 1 (by decide)
              obtain ⟨b2', fb2⟩ := hS6.out.zero.2 2 (by decide)
              obtain ⟨b3', fb3⟩ := hS6.out.zero.2 3 (by decide)
              obtain ⟨b4', fb4⟩ := hS6.out.zero.2 4 (by decide)
              obtain ⟨b5', fb5⟩ := hS6.out.zero.2 5 (by decide)
              obtain ⟨b6', fb6⟩ := hS6.out.zero.2 6 (by decide)
              obtain ⟨b7', fb7⟩ := hS6.out.zero.2 7 (by decide)
              obtain ⟨b8', fb8⟩ := hS6.out.zero.2 8 (by decide)
              go_wp2_with fail
              obtain ⟨q0, q1, q2, q3, q4, q5, q6, q7, q8⟩ := set9_cells (v0 := .int .i64 2) (v1 := .string ⟨#[]⟩) (v2 := .slice none 0 0) (v3 := .int .i64 0) (v4 := .int .i64 (dv : Int)) (v5 := .bool false) (v6 := .slice none 0 0) (v7 := .int .i64 0) (v8 := .bool false) hS6.out.zero rfl
              refine bodyPost_ret (v := .tuple #[.agg #[.int .i64 2, .string ⟨#[]⟩, .slice none 0 0, .int .i64 0, .int .i64 (dv : Int), .bool false, .slice none 0 0, .int .i64 0, .bool false], .int .i64 0]) (by simp [results, Try.results25, go_sem, q0, q1, q2, q3, q4, q5, q6, q7, q8]) rfl ?_
              obtain ⟨z1, z2, z3⟩ := numT_good HLEAD.out HB.out (by rw [HZ.out]; exact HBO.out) HBL.out HBIG.out HQ.out
              subst z1 z2 z3
              exact ⟨_, rfl, fun h => absurd rfl h, fun _ => ⟨⟨_, _, by rw [HDV.out]; rfl, World.ownsRow_nil _ _ _ _, World.ownsRow_nil _ _ _ _⟩, set9_mv hS6.out.mv (Nat.le_refl _) hg⟩, (set9_mv hS6.out.mv (Nat.le_refl _) hg).grown⟩
            · have HN := hide (num_digits_big h0 HD.out hbig)
              have HBIG := hide hbig
              clear hbig
              go_wp2_with fail
              refine (lnum_is (Nat.le_refl _) rfl HRA.out hca1 hca2 (by omega) HN.out).mono ?_
              rintro e6 w6 ⟨rfl, hb6⟩
              have hS6 := hide (show SgS w (w6.alloc (.cells #[.int .i64 2, .int .i64 0] 35)) g A u.length c (k + d.length) from ((hS5.out.below hg hb6).below hg ((Below.refl _ _).alloc (Nat.le_refl _) _)))
              clear hb6 hS5
              obtain ⟨b0', fb0⟩ := hS6.out.zero.2 0 (by decide)
              obtain ⟨b1', fb1⟩ := hS6.out.zero.2 1 (by decide)
              obtain ⟨b2', fb2⟩ := hS6.out.zero.2 2 (by decide)
              obtain ⟨b3', fb3⟩ := hS6.out.zero.2 3 (by decide)
              obtain ⟨b4', fb4⟩ := hS6.out.zero.2 4 (by decide)
              obtain ⟨b5', fb5⟩ := hS6.out.zero.2 5 (by decide)
              obtain ⟨b6', fb6⟩ := hS6.out.zero.2 6 (by decide)
              obtain ⟨b7', fb7⟩ := hS6.out.zero.2 7 (by decide)
              obtain ⟨b8', fb8⟩ := hS6.out.zero.2 8 (by decide)
              go_wp2_with fail
              obtain ⟨q0, q1, q2, q3, q4, q5, q6, q7, q8⟩ := set9_cells (v0 := .int .i64 0) (v1 := .string ⟨#[]⟩) (v2 := .slice none 0 0) (v3 := .int .i64 0) (v4 := .int .i64 0) (v5 := .bool false) (v6 := .slice none 0 0) (v7 := .int .i64 0) (v8 := .bool false) hS6.out.zero rfl
              refine bodyPost_ret (v := .tuple #[.agg #[.int .i64 0, .string ⟨#[]⟩, .slice none 0 0, .int .i64 0, .int .i64 0, .bool false, .slice none 0 0, .int .i64 0, .bool false], .int .i64 6]) (by simp [results, Try.results25, go_sem, q0, q1, q2, q3, q4, q5, q6, q7, q8]) rfl ?_
              obtain ⟨z1, z2, z3⟩ := numT_over HLEAD.out HB.out (by rw [HZ.out]; exact HBO.out) HBL.out HBIG.out HQ.out
              subst z1
              exact ⟨_, rfl, fun _ => rfl, fun h => absurd h (by decide), (set9_mv hS6.out.mv (Nat.le_refl _) hg).grown⟩
end Go.Proofs.Ytbljbmeifmpfoaa

namespace Go.Proofs.Ytbljbmeifmpfoaa
open Go.RowKit

theorem r1nan_any (w : World) : Calls Try.prog 77 #[] w fun e w' => e = .returned (.agg #[.int .i64 2, .int .i64 0]) ∧ Below w.heap.size w w' := by
  go_enter Try.func77, Try.ntmps77
  go_wp2
  go_returns
  exact ⟨rfl, by go_grown⟩
theorem r1kind_any (k : Int) (w : World) : Calls Try.prog 74 #[.int .i64 k] w fun e w' => e = .returned (.agg #[.int .i64 k, .int .i64 0]) ∧ Below w.heap.size w w' := by
  go_enter Try.func74, Try.ntmps74
  go_wp2
  go_returns
  exact ⟨rfl, by go_grown⟩
theorem r1text_2 (w : World) : Calls Try.prog 73 #[.agg #[.int .i64 2, .int .i64 0]] w fun e w' => e = .returned (.string ⟨#[78, 97, 78]⟩) ∧ Below w.heap.size w w' := by
  go_enter Try.func73, Try.ntmps73
  go_wp2
  go_returns
  exact ⟨rfl, by go_grown⟩
theorem r1text_3 (w : World) : Calls Try.prog 73 #[.agg #[.int .i64 3, .int .i64 0]] w fun e w' => e = .returned (.string ⟨#[73, 110, 102, 105, 110, 105, 116, 121]⟩) ∧ Below w.heap.size w w' := by
  go_enter Try.func73, Try.ntmps73
  go_wp2
  go_returns
  exact ⟨rfl, by go_grown⟩
theorem r1text_4 (w : World) : Calls Try.prog 73 #[.agg #[.int .i64 4, .int .i64 0]] w fun e w' => e = .returned (.string ⟨#[45, 73, 110, 102, 105, 110, 105, 116, 121]⟩) ∧ Below w.heap.size w w' := by
  go_enter Try.func73, Try.ntmps73
  go_wp2
  go_returns
  exact ⟨rfl, by go_grown⟩
theorem r1of_ok (n : Nat) (h : n ≤ 9007199254740991) (w : World) : Calls Try.prog 75 #[.int .i64 (n : Int)] w fun e w' => e = .returned (.tuple #[.agg #[.int .i64 0, .int .i64 (n : Int)], .bool true]) ∧ Below w.heap.size w w' := by
  have h1 : ¬ (n : Int) < -9007199254740991 := by omega
  have h2 : ¬ (9007199254740991 : Int) < (n : Int) := by omega
  go_enter Try.func75, Try.ntmps75
  go_wp2
  go_returns
  exact ⟨rfl, by go_grown⟩
theorem r1of_no (n : Nat) (h : 9007199254740991 < n) (w : World) : Calls Try.prog 75 #[.int .i64 (n : Int)] w fun e w' => e = .returned (.tuple #[.agg #[.int .i64 2, .int .i64 0], .bool false]) ∧ Below w.heap.size w w' := by
  have h1 : ¬ (n : Int) < -9007199254740991 := by omega
  have h2 : (9007199254740991 : Int) < (n : Int) := by omega
  go_enter Try.func75, Try.ntmps75
  go_wp2
  go_returns
  exact ⟨rfl, by go_grown⟩
end Go.Proofs.Ytbljbmeifmpfoaa
