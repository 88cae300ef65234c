/- text.Number: its contract. No condition but the lengths. -/
import Derived.Test.YtngcikgjdeomdaaStrange
import Derived.Deep.CutBlock
import Derived.Deep.DeepCutAuto
import Derived.Deep.RegionHeld3
namespace Go.Proofs.Ytngcikgjdeomdaa
open Go.RowKit

/-- a slice of units, its cells below block B -/
def Sl (w : World) (B : Nat) (v : Value) (ys : List UInt16) : Prop := ∃ A c, v = .slice A ys.length c ∧ ys.length ≤ c ∧ c ≤ maxLen ∧ Reads w B 1 A ys.length (u16s ys)
def lenOf : Value → Nat | .slice _ n _ => n | _ => 0

theorem Sl.cut1 {w : World} {B c : Nat} {ad : Addr} {ys : List UInt16} (hr : Reads w B 1 (some ad) ys.length (u16s ys)) (h0 : 0 < ys.length) (hc : ys.length ≤ c) (hc2 : c ≤ maxLen) :
    Sl w B (.slice (if c = 1 then some ad else some ⟨ad.block, ad.off + 1, none⟩) (ys.length - 1) (c - 1)) (ys.drop 1) := by
  have hl : (ys.drop 1).length = ys.length - 1 := List.length_drop
  refine ⟨_, c - 1, by rw [hl], by rw [hl]; omega, by omega, ?_⟩
  exact hr.cut16 (k := 1) h0 hc
theorem Sl.less1 {w : World} {B c : Nat} {A : Option Addr} {ys : List UInt16} (hr : Reads w B 1 A ys.length (u16s ys)) (hc : ys.length ≤ c) (hc2 : c ≤ maxLen) :
    Sl w B (.slice A (ys.length - 1) c) (ys.take (ys.length - 1)) := by
  have hl : (ys.take (ys.length - 1)).length = ys.length - 1 := by rw [List.length_take]; omega
  exact ⟨A, c, by rw [hl], by rw [hl]; omega, hc2, hr.take16 (by omega)⟩
theorem signOf_at {ts : List UInt16} (h : 0 < ts.length) : signOf ts = ((ts[0].toNat : Int) == 45) := by
  cases ts with
  | nil => simp at h
  | cons x r =>
    rw [Bool.eq_iff_iff, signOf]
    simp only [List.headD_cons, beq_iff_eq, List.getElem_cons_zero, ← UInt16.toNat_inj]
    simp
    omega
def isSigned (ts : List UInt16) : Bool := signOf ts || ts.headD 0 == 43
theorem isSigned_at {ts : List UInt16} (h : 0 < ts.length) : isSigned ts = (signOf ts || ((ts[0].toNat : Int) == 43)) := by
  cases ts with
  | nil => simp at h
  | cons x r =>
    rw [isSigned]
    congr 1
    rw [Bool.eq_iff_iff]
    simp only [List.headD_cons, beq_iff_eq, List.getElem_cons_zero, ← UInt16.toNat_inj]
    simp
    omega
theorem restOf_eq (ts : List UInt16) : restOf ts = if isSigned ts = true then ts.drop 1 else ts := by
  simp [restOf, isSigned, signOf]
theorem trimR_nil : trimR [] = [] := rfl
theorem trimR_blank {ys : List UInt16} (h : 0 < ys.length) (hb : isBlank (ys[ys.length - 1]'(by omega)) = true) : trimR ys = trimR (ys.take (ys.length - 1)) := by
  have e : ys = ys.take (ys.length - 1) ++ [ys[ys.length - 1]'(by omega)] := by
    rw [← List.take_succ_eq_append_getElem (by omega), List.take_of_length_le (by omega)]
  conv => lhs; rw [e]
  rw [trimR, List.reverse_append]
  show (List.dropWhile isBlank (_ :: (ys.take (ys.length - 1)).reverse)).reverse = _
  rw [List.dropWhile_cons_of_pos hb]; rfl
theorem trimR_stop {ys : List UInt16} (h : 0 < ys.length) (hb : isBlank (ys[ys.length - 1]'(by omega)) = false) : trimR ys = ys := by
  have e : ys = ys.take (ys.length - 1) ++ [ys[ys.length - 1]'(by omega)] := by
    rw [← List.take_succ_eq_append_getElem (by omega), List.take_of_length_le (by omega)]
  have e2 : trimR (ys.take (ys.length - 1) ++ [ys[ys.length - 1]'(by omega)]) = ys.take (ys.length - 1) ++ [ys[ys.length - 1]'(by omega)] := by
    rw [trimR, List.reverse_append]
    show (List.dropWhile isBlank (_ :: (ys.take (ys.length - 1)).reverse)).reverse = _
    rw [List.dropWhile_cons_of_neg (by simp [hb])]
    simp only [List.reverse_cons, List.reverse_reverse]
  rw [← e] at e2
  exact e2
theorem dropB {ys : List UInt16} (h : 0 < ys.length) (hb : isBlank ys[0] = true) : ys.dropWhile isBlank = (ys.drop 1).dropWhile isBlank := by
  cases ys with
  | nil => simp at h
  | cons y ys => simp only [List.getElem_cons_zero] at hb; rw [List.dropWhile_cons_of_pos hb]; rfl
theorem dropS {ys : List UInt16} (h : 0 < ys.length) (hb : isBlank ys[0] = false) : ys.dropWhile isBlank = ys := by
  cases ys with
  | nil => simp at h
  | cons y ys => simp only [List.getElem_cons_zero] at hb; rw [List.dropWhile_cons_of_neg (by simp [hb])]

theorem strange_at {A : Option Addr} {c B D : Nat} {xs : List UInt16} {W w : World} (hb : Below D W w) (hBD : B ≤ D) (hD : D ≤ W.heap.size) (ha : Reads W B 1 A xs.length (u16s xs)) (hl : xs.length ≤ 70368744177664) :
    Calls Try.prog 76 #[.slice A xs.length c] w fun e w' => e = .returned (.bool (strangeF xs)) ∧ Below w.heap.size w w' ∧ Below D W w' := by
  have hs := hb.size
  refine (strange_any (B := B) (by omega) (ha.below (hb.mono hBD)) hl).mono ?_
  rintro e w' ⟨rfl, hb'⟩
  exact ⟨rfl, hb', hb.trans (hb'.mono (by omega))⟩
theorem bcell {W w1 : World} (hb : Below W.heap.size W w1) : (∀ b o, b < W.heap.size → w1.cell? ⟨b, o, none⟩ = W.cell? ⟨b, o, none⟩) ∧ (∀ b o, b < W.heap.size → w1.frozen? ⟨b, o, none⟩ = W.frozen? ⟨b, o, none⟩) :=
  ⟨fun b o h => hb.cell (p := ⟨b, o, none⟩) h, fun b o h => hb.frozen (p := ⟨b, o, none⟩) h⟩

/-- The cells of a number that lies in block g. -/
def NumAt (w : World) (g : Nat) (k n : Int) : Prop :=
  w.cell? ⟨g, 0, none⟩ = some (.int .i64 k) ∧ w.cell? ⟨g, 1, none⟩ = some (.int .i64 n) ∧ w.frozen? ⟨g, 0, none⟩ = false ∧ w.frozen? ⟨g, 1, none⟩ = false
theorem NumAt.below {D g : Nat} {k n : Int} {w w' : World} (h : NumAt w g k n) (hb : Below D w w') (hg : g < D) : NumAt w' g k n :=
  ⟨(hb.cell (p := ⟨g, 0, none⟩) hg).trans h.1, (hb.cell (p := ⟨g, 1, none⟩) hg).trans h.2.1, (hb.frozen (p := ⟨g, 0, none⟩) hg).trans h.2.2.1, (hb.frozen (p := ⟨g, 1, none⟩) hg).trans h.2.2.2⟩

theorem new_cells {W w2 : World} {a b : Value} {T : TypeId} (hb : Below (W.drew.alloc (.cells #[a, b] T)).heap.size (W.drew.alloc (.cells #[a, b] T)) w2) :
    w2.cell? ⟨W.heap.size, 0, none⟩ = some a ∧ w2.cell? ⟨W.heap.size, 1, none⟩ = some b ∧ w2.frozen? ⟨W.heap.size, 0, none⟩ = false ∧ w2.frozen? ⟨W.heap.size, 1, none⟩ = false := by
  have h : W.heap.size < (W.drew.alloc (.cells #[a, b] T)).heap.size := by simp
  refine ⟨(hb.cell (p := ⟨W.heap.size, 0, none⟩) h).trans ?_, (hb.cell (p := ⟨W.heap.size, 1, none⟩) h).trans ?_, (hb.frozen (p := ⟨W.heap.size, 0, none⟩) h).trans ?_, (hb.frozen (p := ⟨W.heap.size, 1, none⟩) h).trans ?_⟩
  all_goals go_simp
theorem below_alloc' {D : Nat} {W w' : World} (hDW : D ≤ W.heap.size) (hb : Below D W w') (o : Obj) : Below D W (w'.alloc o) := hb.alloc (Nat.le_trans hDW hb.size) o
theorem below_set2 {D : Nat} {W w' : World} (hDW : D ≤ W.heap.size) (hb : Below D W w') (a b : Value) : Below D W ((w'.setCell ⟨W.heap.size, 0, none⟩ a).setCell ⟨W.heap.size, 1, none⟩ b) :=
  (hb.setCell (p := ⟨W.heap.size, 0, none⟩) hDW a).setCell (p := ⟨W.heap.size, 1, none⟩) hDW b
theorem NumAt.new (w : World) (k n : Int) (T : TypeId) : NumAt (w.alloc (.cells #[.int .i64 k, .int .i64 n] T)) w.heap.size k n := ⟨by go_simp, by go_simp, by go_simp, by go_simp⟩
theorem NumAt.set {w : World} {g : Nat} {a b : Value} (h0 : w.cell? ⟨g, 0, none⟩ = some a) (h1 : w.cell? ⟨g, 1, none⟩ = some b) (f0 : w.frozen? ⟨g, 0, none⟩ = false) (f1 : w.frozen? ⟨g, 1, none⟩ = false) (k n : Int) :
    NumAt ((w.setCell ⟨g, 0, none⟩ (.int .i64 k)).setCell ⟨g, 1, none⟩ (.int .i64 n)) g k n := ⟨by go_simp, by go_simp, by go_simp, by go_simp⟩
theorem size_set2 (w : World) (a b : Addr) (x y : Value) : ((w.setCell a x).setCell b y).heap.size = w.heap.size := by simp
theorem held_of {D g : Nat} {k n : Int} {W w' : World} (h : NumAt W g k n) (hg : g < D) (hb : Below D W w') : w'.cell? ⟨g, 0, none⟩ = some (.int .i64 k) ∧ w'.cell? ⟨g, 1, none⟩ = some (.int .i64 n) ∧ Below D W w' :=
  ⟨(h.below hb hg).1, (h.below hb hg).2.1, hb⟩

theorem ascii_inf (w : World) : Calls Try.prog 20 #[.string ⟨#[73, 110, 102, 105, 110, 105, 116, 121]⟩] w fun e w' => ∃ A c, e = .returned (.slice A infinity.length c) ∧ Reads w' w'.heap.size 1 A infinity.length (u16s infinity) ∧ Below w.heap.size w w' := by
  refine (ascii_any _ w (by decide)).mono ?_
  rintro e w' ⟨v, rfl, hm⟩
  have hm' : Made w w' 32 v (u16s infinity) := hm
  obtain ⟨A, c, rfl, _, _, hr⟩ := hm'.u16
  exact ⟨A, c, rfl, hr, hm'.below⟩

/-- k, n, ok: the number without its sign, in the forms that Neg takes. -/
def BaseOk (ts : List UInt16) (k n : Int) (ok : Bool) : Prop := baseT ts = (⟨k, n⟩, ok) ∧ ((k = 2 ∧ n = 0) ∨ (k = 3 ∧ n = 0) ∨ (k = 0 ∧ 0 ≤ n ∧ n ≤ 9007199254740991))
theorem BaseOk.inf {ts : List UInt16} (h : restOf ts = infinity) : BaseOk ts 3 0 (!strangeF ts) := by
  refine ⟨?_, Or.inr (Or.inl ⟨rfl, rfl⟩)⟩
  rw [strange_inf h, baseT, if_pos h]; rfl

theorem BaseOk.dig {ts : List UInt16} (h : ¬ restOf ts = infinity) (hd : restOf ts ≠ [] ∧ (restOf ts).all isDigit = true) (hf : decVal (restOf ts) ≤ 9007199254740991) : BaseOk ts 0 (decVal (restOf ts)) true :=
  ⟨by rw [baseT, if_neg h, if_pos hd, if_pos hf], Or.inr (Or.inr ⟨rfl, by omega, by omega⟩)⟩
theorem BaseOk.odd {ts : List UInt16} (h : ¬ restOf ts = infinity) (hd : ¬ (restOf ts ≠ [] ∧ (restOf ts).all isDigit = true)) : BaseOk ts 2 0 (!strangeF ts) :=
  ⟨by rw [baseT, if_neg h, if_neg hd], Or.inl ⟨rfl, rfl⟩⟩
theorem numT_eq {ts : List UInt16} (h0 : 0 < ts.length) : numT ts = (if signOf ts = true then negNm (baseT ts).1 else (baseT ts).1, (baseT ts).2) := by
  rw [numT, if_neg (List.ne_nil_of_length_pos h0)]
theorem numT_big {ts : List UInt16} (h0 : 0 < ts.length) (h : ¬ restOf ts = infinity) (hd : restOf ts ≠ [] ∧ (restOf ts).all isDigit = true) (hf : ¬ decVal (restOf ts) ≤ 9007199254740991) : numT ts = (⟨2, 0⟩, false) := by
  rw [numT_eq h0, baseT, if_neg h, if_pos hd, if_neg hf]
  by_cases hs : signOf ts = true
  · rw [if_pos hs]; rfl
  · rw [if_neg hs]
theorem numT_pos {ts : List UInt16} {k n : Int} {ok : Bool} (h0 : 0 < ts.length) (hs : false = signOf ts) (hb : BaseOk ts k n ok) : numT ts = (⟨k, n⟩, ok) := by
  rw [numT_eq h0, hb.1, if_neg (by rw [← hs]; simp)]
theorem numT_neg {ts : List UInt16} {k n : Int} {ok : Bool} (h0 : 0 < ts.length) (hs : true = signOf ts) (hb : BaseOk ts k n ok) : numT ts = (negNm ⟨k, n⟩, ok) := by
  rw [numT_eq h0, hb.1, if_pos hs.symm]
theorem neg_base {ts : List UInt16} {k n : Int} {ok : Bool} (hb : BaseOk ts k n ok) (w : World) :
    Calls Try.prog 82 #[.agg #[.int .i64 k, .int .i64 n]] w fun e w' => e = .returned (.agg #[.int .i64 (negNm ⟨k, n⟩).kind, .int .i64 (negNm ⟨k, n⟩).n]) ∧ Below w.heap.size w w' := by
  rcases hb.2 with ⟨rfl, rfl⟩ | ⟨rfl, rfl⟩ | ⟨rfl, h1, h2⟩
  · exact neg_nan w
  · exact neg_inf w
  · by_cases h3 : n = 0
    · subst h3; exact neg_nought w
    · have e : negNm ⟨0, n⟩ = ⟨0, -n⟩ := by simp [negNm, h3]
      rw [e]
      exact neg_whole n (by omega) h2 w
theorem below_two {D : Nat} {wc w3 w4 : World} (h3 : Below wc.heap.size wc w3) (h4 : Below w3.heap.size w3 w4) (hD : D ≤ wc.heap.size) : Below D wc w4 :=
  (h3.mono hD).trans (h4.mono (Nat.le_trans hD h3.size))
theorem below_setg {D g : Nat} {W w' : World} (hD : D ≤ g) (hb : Below D W w') (a b : Value) : Below D W ((w'.setCell ⟨g, 0, none⟩ a).setCell ⟨g, 1, none⟩ b) :=
  (hb.setCell (p := ⟨g, 0, none⟩) hD a).setCell (p := ⟨g, 1, none⟩) hD b
theorem fin_set {ts : List UInt16} {D b g : Nat} {w wc w4 : World} {x y : Value} (hN0 : NumAt wc b 0 0) (hbel : Below b w wc) (hb : Below D wc w4) (hbD : b < D) (hDg : D ≤ g)
    (q0 : w4.cell? ⟨g, 0, none⟩ = some x) (q1 : w4.cell? ⟨g, 1, none⟩ = some y) (q2 : w4.frozen? ⟨g, 0, none⟩ = false) (q3 : w4.frozen? ⟨g, 1, none⟩ = false) (k n : Int) {ok : Bool} (h : BaseOk ts k n ok) :
    NumAt ((w4.setCell ⟨g, 0, none⟩ (.int .i64 k)).setCell ⟨g, 1, none⟩ (.int .i64 n)) g k n ∧ NumAt ((w4.setCell ⟨g, 0, none⟩ (.int .i64 k)).setCell ⟨g, 1, none⟩ (.int .i64 n)) b 0 0 ∧
      Below b w ((w4.setCell ⟨g, 0, none⟩ (.int .i64 k)).setCell ⟨g, 1, none⟩ (.int .i64 n)) ∧ g < ((w4.setCell ⟨g, 0, none⟩ (.int .i64 k)).setCell ⟨g, 1, none⟩ (.int .i64 n)).heap.size ∧ BaseOk ts k n ok := by
  have h1 := below_setg hDg hb (.int .i64 k) (.int .i64 n)
  exact ⟨NumAt.set q0 q1 q2 q3 k n, hN0.below h1 hbD, hbel.trans (h1.mono (by omega)), by rw [size_set2]; exact World.block_lt_of_cell? w4 _ q0, h⟩
theorem fin_keep {ts : List UInt16} {D b g : Nat} {w wc w4 : World} (hN0 : NumAt wc b 0 0) (hbel : Below b w wc) (hb : Below D wc w4) (hbD : b < D)
    {k n : Int} (q : NumAt w4 g k n) {ok : Bool} (h : BaseOk ts k n ok) :
    NumAt w4 g k n ∧ NumAt w4 b 0 0 ∧ Below b w w4 ∧ g < w4.heap.size ∧ BaseOk ts k n ok :=
  ⟨q, hN0.below hb hbD, hbel.trans (hb.mono (by omega)), World.block_lt_of_cell? w4 _ q.1, h⟩

set_option maxHeartbeats 4000000 in
set_option maxRecDepth 100000 in
theorem number_any {A : Option Addr} {c B : Nat} {xs : List UInt16} {w : World} (hB : B ≤ w.heap.size) (ha : Reads w B 1 A xs.length (u16s xs)) (hc : xs.length ≤ c) (hc2 : c ≤ maxLen) (hl : xs.length ≤ 70368744177664) :
    Calls Try.prog 64 #[.slice A xs.length c] w fun e w' => e = .returned (.tuple #[.agg #[.int .i64 (numF xs).1.kind, .int .i64 (numF xs).1.n], .bool (numF xs).2]) ∧ Below w.heap.size w w' := by
  go_enter Try.func64, Try.ntmps64
  go_upto_block 0 with (fail)
  go_cut [0] (fun v wx => wx = w.alloc (.cells #[.int .i64 0, .int .i64 0] 34) ∧ ∃ ys, Sl w B v ys ∧ Hid (ys = xs.dropWhile isBlank) ∧ ys.length ≤ xs.length)
  case first =>
    go_wp2_with fail
    go_loop [0] (fun v => ∃ ys, Sl w B v ys ∧ Hid (ys.dropWhile isBlank = xs.dropWhile isBlank) ∧ ys.length ≤ xs.length) (fun v => lenOf v)
    case atStart => exact ⟨xs, ⟨A, c, rfl, hc, hc2, ha⟩, rfl, Nat.le_refl _⟩
    case round =>
      obtain ⟨ys, ⟨A', c', rfl, hc1, hc3, hr⟩, heq, hle⟩ := hrel
      by_cases h0 : 0 < ys.length
      · obtain ⟨ad, hA, hlt, hca⟩ := (hr.alloc hB (.cells #[.int .i64 0, .int .i64 0] 34)).u16_0 h0
        subst hA
        have hz : (0 : Int) < (ys.length : Int) := by omega
        cases hb : isBlank ys[0] with
        | true =>
          have HB := hide (dropB h0 hb)
          have HC := hide (Sl.cut1 hr h0 hc1 hc3)
          go_wp2_with (go_at_call 75; refine (blank_any _ _).mono ?_; rintro e w' ⟨rfl, rfl⟩)
          go_round
          case rel => exact ⟨ys.drop 1, HC.out, HB.out.symm.trans heq.out, by rw [List.length_drop]; omega⟩
          case measure => simp [lenOf]; omega
        | false =>
          have HB := hide (dropS h0 hb)
          go_wp2_with (go_at_call 75; refine (blank_any _ _).mono ?_; rintro e w' ⟨rfl, rfl⟩)
          go_meet
          exact ⟨rfl, ys, ⟨some ad, c', rfl, hc1, hc3, hr⟩, HB.out.symm.trans heq.out, hle⟩
      · go_wp2
        go_meet
        have h1 : ys = [] := List.eq_nil_of_length_eq_zero (by omega)
        exact ⟨rfl, ys, ⟨A', c', rfl, hc1, hc3, hr⟩, by have := heq.out; rw [h1] at this ⊢; exact this, hle⟩
  case rest =>
    obtain ⟨hw, ys, hys, hyl, hyle⟩ := hcut
    subst hw
    go_upto_block 2 with (fail)
    go_cut [0] (fun v wx => wx = w.alloc (.cells #[.int .i64 0, .int .i64 0] 34) ∧ ∃ ts, Sl w B v ts ∧ Hid (ts = trimF xs) ∧ ts.length ≤ xs.length)
    case first =>
      go_wp2_with fail
      go_loop [0] (fun v => ∃ zs, Sl w B v zs ∧ Hid (trimR zs = trimR ys) ∧ zs.length ≤ xs.length) (fun v => lenOf v)
      case atStart => exact ⟨ys, hys, rfl, hyle⟩
      case round =>
        obtain ⟨zs, ⟨A', c', rfl, hc1, hc3, hr⟩, heq, hle⟩ := hrel
        by_cases h0 : 0 < zs.length
        · obtain ⟨ad, hA, hlt, hca⟩ := (hr.alloc hB (.cells #[.int .i64 0, .int .i64 0] 34)).u16 (k := zs.length - 1) (by omega)
          subst hA
          have hz : (0 : Int) < (zs.length : Int) := by omega
          have hca' : (w.alloc (.cells #[.int .i64 0, .int .i64 0] 34)).cell? (ad.add ((zs.length : Int) - 1).toNat) = some (.int .u16 ((zs[zs.length - 1]'(by omega)).toNat : Int)) := by
            rw [show ((zs.length : Int) - 1).toNat = zs.length - 1 from by omega]; exact hca
          cases hb : isBlank (zs[zs.length - 1]'(by omega)) with
          | true =>
            have HB := hide (trimR_blank h0 hb)
            have HC := hide (Sl.less1 hr hc1 hc3)
            go_wp2_with (go_at_call 75; refine (blank_any _ _).mono ?_; rintro e w' ⟨rfl, rfl⟩)
            go_round
            case rel => exact ⟨zs.take (zs.length - 1), HC.out, HB.out.symm.trans heq.out, by rw [List.length_take]; omega⟩
            case measure => simp [lenOf]; omega
          | false =>
            have HB := hide (trimR_stop h0 hb)
            go_wp2_with (go_at_call 75; refine (blank_any _ _).mono ?_; rintro e w' ⟨rfl, rfl⟩)
            go_meet
            exact ⟨rfl, zs, ⟨some ad, c', rfl, hc1, hc3, hr⟩, HB.out.symm.trans (heq.out.trans (by rw [hyl.out]; rfl)), hle⟩
        · go_wp2
          go_meet
          have h1 : zs = [] := List.eq_nil_of_length_eq_zero (by omega)
          have h2 : trimR zs = trimF xs := heq.out.trans (by rw [hyl.out]; rfl)
          exact ⟨rfl, zs, ⟨A', c', rfl, hc1, hc3, hr⟩, by rw [h1] at h2 ⊢; exact h2, hle⟩
    case rest =>
      obtain ⟨hw, ts, ⟨A1, c1, hv, hc1, hc3, hr⟩, htl, htle⟩ := hcut
      subst hw
      subst hv
      clear hyl hys hyle ys
      have hN := hide (show numF xs = numT ts by rw [numF, htl.out])
      clear htl
      by_cases h0 : ts.length = 0
      · have h1 : ts = [] := List.eq_nil_of_length_eq_zero h0
        have hN2 := hide (show numF xs = (⟨0, 0⟩, true) by rw [hN.out, h1]; rfl)
        clear hN
        subst h1
        go_wp2
        go_returns
        rw [hN2.out]
        exact ⟨rfl, by go_grown⟩
      have e0 : ((ts.length : Int) == 0) = false := beq_eq_false_iff_ne.2 (by omega)
      have hpos : 0 < ts.length := by omega
      clear h0
      have hz : (0 : Int) < (ts.length : Int) := by omega
      have hb0 := hide (hr.u16_0 hpos)
      go_upto_region 8 with (fail)
      go_cut [5, 6] (fun d s wx => d = .slice A1 ts.length c1 ∧ (∃ sg, s = .bool sg ∧ Hid (sg = signOf ts)) ∧ ∃ n, wx = ((w.alloc (.cells #[.int .i64 0, .int .i64 0] 34)).alloc (.cells #[.int .i64 2, .int .i64 0] 34)).drewN n)
      case first =>
        obtain ⟨ad, hA, _, hca⟩ := ((hr.alloc hB (.cells #[.int .i64 0, .int .i64 0] 34)).alloc (Nat.le_trans hB (by simp)) (.cells #[.int .i64 2, .int .i64 0] 34)).u16_0 hpos
        subst hA
        go_quiet (fail)
        go_wp2_with fail
        go_meet
        exact ⟨rfl, ⟨_, rfl, (signOf_at hpos).symm⟩, _, rfl⟩
      case rest =>
        obtain ⟨hd, ⟨sg, hs, hsg⟩, n, hw⟩ := hcut
        subst hd hs hw
        go_upto_region 9 with (fail)
        go_cut [55] (fun s wx => (∃ si, s = .bool si ∧ Hid (si = isSigned ts)) ∧ wx = ((w.alloc (.cells #[.int .i64 0, .int .i64 0] 34)).alloc (.cells #[.int .i64 2, .int .i64 0] 34)).drewN n)
        case first =>
          obtain ⟨ad, hA, _, hca⟩ := (((hr.alloc hB (.cells #[.int .i64 0, .int .i64 0] 34)).alloc (Nat.le_trans hB (by simp)) (.cells #[.int .i64 2, .int .i64 0] 34)).drewN n).u16_0 hpos
          subst hA
          have HI := hide (isSigned_at hpos)
          cases sg
          · go_wp2_with fail
            go_meet
            exact ⟨⟨_, rfl, by rw [HI.out, ← hsg.out]; rfl⟩, rfl⟩
          · go_wp2_with fail
            go_meet
            exact ⟨⟨_, rfl, by rw [HI.out, ← hsg.out]; rfl⟩, rfl⟩
        case rest =>
          obtain ⟨⟨si, hs, hsi⟩, hw⟩ := hcut
          subst hs hw
          go_upto_if 55 with (fail)
          go_cut [5] (fun d wx => Sl w B d (restOf ts) ∧ wx = ((w.alloc (.cells #[.int .i64 0, .int .i64 0] 34)).alloc (.cells #[.int .i64 2, .int .i64 0] 34)).drewN n)
          case first =>
            obtain ⟨ad, hA, _, hca⟩ := hr.u16_0 hpos
            subst hA
            have HR := hide (restOf_eq ts)
            cases si
            · go_wp2_with fail
              go_meet
              exact ⟨by rw [HR.out, if_neg (by rw [← hsi.out]; simp)]; exact ⟨_, c1, rfl, hc1, hc3, hr⟩, rfl⟩
            · have HC := hide (Sl.cut1 hr hpos hc1 hc3)
              by_cases hcc : c1 = 1
              · subst hcc
                go_wp2_with fail
                go_meet
                have hz2 : ts.length - 1 = 0 := by omega
                exact ⟨by rw [HR.out, if_pos hsi.out.symm]; have h := HC.out; rw [hz2] at h; exact h, rfl⟩
              · rw [if_neg hcc] at HC
                go_wp2_with fail
                go_meet
                exact ⟨by rw [HR.out, if_pos hsi.out.symm]; exact HC.out, rfl⟩
          case rest =>
            obtain ⟨⟨A2, c2, hd, hd1, hd3, hd4⟩, hw⟩ := hcut
            subst hd hw
            clear hsi
            go_upto_region 11 with (fail)
            have hWs : (((w.alloc (.cells #[.int .i64 0, .int .i64 0] 34)).alloc (.cells #[.int .i64 2, .int .i64 0] 34)).drewN n).heap.size = w.heap.size + 2 := by simp
            have hWb : Below w.heap.size w (((w.alloc (.cells #[.int .i64 0, .int .i64 0] 34)).alloc (.cells #[.int .i64 2, .int .i64 0] 34)).drewN n) := below_drewN (by go_grown) n
            have hW1 : NumAt (((w.alloc (.cells #[.int .i64 0, .int .i64 0] 34)).alloc (.cells #[.int .i64 2, .int .i64 0] 34)).drewN n) w.heap.size 0 0 := ⟨by go_simp, by go_simp, by go_simp, by go_simp⟩
            have hW2 : NumAt (((w.alloc (.cells #[.int .i64 0, .int .i64 0] 34)).alloc (.cells #[.int .i64 2, .int .i64 0] 34)).drewN n) (w.heap.size + 1) 2 0 := ⟨by go_simp, by go_simp, by go_simp, by go_simp⟩
            have hr' : Reads (((w.alloc (.cells #[.int .i64 0, .int .i64 0] 34)).alloc (.cells #[.int .i64 2, .int .i64 0] 34)).drewN n) B 1 A1 ts.length (u16s ts) := hr.below (hWb.mono hB)
            have hd4' : Reads (((w.alloc (.cells #[.int .i64 0, .int .i64 0] 34)).alloc (.cells #[.int .i64 2, .int .i64 0] 34)).drewN n) B 1 A2 (restOf ts).length (u16s (restOf ts)) := hd4.below (hWb.mono hB)
            have htle' : ts.length ≤ 70368744177664 := by omega
            generalize (((w.alloc (.cells #[.int .i64 0, .int .i64 0] 34)).alloc (.cells #[.int .i64 2, .int .i64 0] 34)).drewN n) = W at *
            have hr0 := hr'
            have hDlt : w.heap.size + 1 < w.heap.size + 2 := by omega
            have hBD : B ≤ w.heap.size + 2 := by omega
            have hDW : w.heap.size + 2 ≤ W.heap.size := by omega
            have HWS := hide hWs
            clear hWs
            have hc0 := hW2.1
            have hc1' := hW2.2.1
            have hbW : Below (w.heap.size + 2) W W := Below.refl _ _
            have HR0 := hide hr0
            clear hr0
            go_cut [7, 8] (fun p s wx => (∃ g, p = .pointer (some ⟨g, 0, none⟩) ∧ w.heap.size + 2 ≤ g ∧ NumAt wx g 2 0 ∧ g < wx.heap.size) ∧ s = .bool (!strangeF ts) ∧ Below (w.heap.size + 2) W wx)
            case first =>
              go_region_held3 (fun w' => w'.cell? ⟨w.heap.size + 1, 0, none⟩ = some (.int .i64 2) ∧ w'.cell? ⟨w.heap.size + 1, 1, none⟩ = some (.int .i64 0) ∧ Below (w.heap.size + 2) W w')
                (first
                  | (exact held_of hW2 hDlt (by assumption))
                  | (exact held_of hW2 hDlt (Below.refl _ _).drew)
                  | (exact held_of hW2 hDlt (below_alloc' hDW (by assumption) _))
                  | (exact held_of hW2 hDlt (below_alloc' hDW (Below.refl _ _).drew _))
                  | (exact held_of hW2 hDlt (below_set2 hDW (by assumption) _ _))
                  | go_keep)
                (first
                  | (go_at_call 76; go_split_ands; refine (strange_at (D := w.heap.size + 2) (W := W) ?_ hBD hDW HR0.out htle').mono ?_; (first | assumption | exact (Below.refl _ _).drew | exact below_alloc' hDW (Below.refl _ _).drew _); rintro e w2 ⟨rfl, hb2, hb3⟩; (try (have hnew := new_cells hb2; have n0 := hnew.1; have n1 := hnew.2.1; have n2 := hnew.2.2.1; have n3 := hnew.2.2.2; clear hnew))))
              all_goals have hs3 := hb3.size
              all_goals (go_wp2_with fail; go_meet)
              · exact ⟨⟨_, rfl, by omega, NumAt.new _ _ _ _, by simp⟩, rfl, below_alloc' hDW hb3 _⟩
              · exact ⟨⟨_, rfl, hDW, NumAt.set n0 n1 n2 n3 _ _, by rw [size_set2]; exact World.block_lt_of_cell? w2 _ n0⟩, rfl, below_set2 hDW hb3 _ _⟩
            case rest =>
              obtain ⟨⟨g, hp, hDg, hg, hgl⟩, hs, hbw⟩ := hcut
              subst hp hs
              have hNum := hide hg
              have hN0 := hide (hW1.below hbw (show w.heap.size < w.heap.size + 2 by omega))
              have hN1 := hide (hW2.below hbw hDlt)
              have hrd := hide (hd4'.below (hbw.mono hBD))
              have hbel := hide (hWb.trans (hbw.mono (show w.heap.size ≤ w.heap.size + 2 by omega)))
              have hsz := hbw.size
              have hDs : w.heap.size + 2 ≤ wc.heap.size := by omega
              have hDlt0 : w.heap.size < w.heap.size + 2 := by omega
              have hDg := hDg
              clear hg hW1 hW2 hd4' hWb hc0 hc1' hbW
              have hrlen : (restOf ts).length ≤ 70368744177664 := by
                have h : (restOf ts).length ≤ ts.length := by
                  rw [restOf_eq]; split
                  · rw [List.length_drop]; omega
                  · exact Nat.le_refl _
                omega
              go_upto_block 4 with (fail)
              go_cut [8] (fun ok wx => ∃ k n okb, ok = .bool okb ∧ NumAt wx g k n ∧ NumAt wx w.heap.size 0 0 ∧ Below w.heap.size w wx ∧ g < wx.heap.size ∧ BaseOk ts k n okb)
              case first =>
                by_cases hinf : restOf ts = infinity
                · have HB := hide (BaseOk.inf hinf)
                  have HI := hide hinf
                  clear hinf
                  go_wp2_with (first | (go_at_call 20; refine (ascii_inf _).mono ?_; rintro e w3 ⟨A3, c3, rfl, hr3, hb3⟩; have hs3 := hb3.size) | (go_at_call 77; refine (same_any (Nat.le_refl _) ((hrd.out.below (hb3.mono (by omega))).more (by omega)) hr3 hrlen (by decide)).mono ?_; rintro e w4 ⟨rfl, hb4⟩; rw [decide_eq_true HI.out]; have hb34 := below_two hb3 hb4 hDs; obtain ⟨q0, q1, q2, q3⟩ := (hNum.out.below hb3 hgl).below hb4 (by omega); obtain ⟨p0, p1, p2, p3⟩ := hN0.out.below hb34 hDlt0; obtain ⟨r0, r1, r2, r3⟩ := hN1.out.below hb34 hDlt))
                  go_meet
                  exact ⟨3, 0, _, rfl, fin_set hN0.out hbel.out hb34 hDlt0 hDg q0 q1 q2 q3 3 0 HB.out⟩
                · have HI := hide hinf
                  clear hinf
                  by_cases hdig : restOf ts ≠ [] ∧ (restOf ts).all isDigit = true
                  · have hlz : (0 : Int) < ((restOf ts).length : Int) := by have := List.length_pos_iff.2 hdig.1; omega
                    have HA := hide hdig.2
                    have HDG := hide (List.all_eq_true.1 hdig.2)
                    have HDD := hide hdig
                    clear hdig
                    by_cases hfit : decVal (restOf ts) ≤ 9007199254740991
                    · have HF := hide hfit
                      clear hfit
                      go_wp2_with (first | (go_at_call 20; refine (ascii_inf _).mono ?_; rintro e w3 ⟨A3, c3, rfl, hr3, hb3⟩; have hs3 := hb3.size) | (go_at_call 77; refine (same_any (Nat.le_refl _) ((hrd.out.below (hb3.mono (by omega))).more (by omega)) hr3 hrlen (by decide)).mono ?_; rintro e w4 ⟨rfl, hb4⟩; rw [decide_eq_false HI.out]; have hb34 := below_two hb3 hb4 hDs; obtain ⟨q0, q1, q2, q3⟩ := (hNum.out.below hb3 hgl).below hb4 (by omega); obtain ⟨p0, p1, p2, p3⟩ := hN0.out.below hb34 hDlt0; obtain ⟨r0, r1, r2, r3⟩ := hN1.out.below hb34 hDlt) | (go_at_call 78; refine (scontainsfunc_any ((hrd.out.below (hb34.mono hBD))) hrlen).mono ?_; rintro e w5 ⟨rfl, rfl⟩; rw [HA.out]) | (go_at_call 81; refine (value_any ((hrd.out.below (hb34.mono hBD))) hrlen HDG.out).mono ?_; rintro e w5 ⟨nv, rfl, hnv, rfl⟩; have HNV := hide hnv; clear hnv; rw [decide_eq_true HF.out]))
                      go_meet
                      have hnv := HNV.out HF.out
                      subst hnv
                      exact ⟨0, _, _, rfl, fin_set hN0.out hbel.out hb34 hDlt0 hDg q0 q1 q2 q3 0 _ (BaseOk.dig HI.out HDD.out HF.out)⟩
                    · have HF := hide hfit
                      clear hfit
                      have HN2 := hide (hN.out.trans (numT_big hpos HI.out HDD.out HF.out))
                      go_wp2_with (first | (go_at_call 20; refine (ascii_inf _).mono ?_; rintro e w3 ⟨A3, c3, rfl, hr3, hb3⟩; have hs3 := hb3.size) | (go_at_call 77; refine (same_any (Nat.le_refl _) ((hrd.out.below (hb3.mono (by omega))).more (by omega)) hr3 hrlen (by decide)).mono ?_; rintro e w4 ⟨rfl, hb4⟩; rw [decide_eq_false HI.out]; have hb34 := below_two hb3 hb4 hDs; obtain ⟨q0, q1, q2, q3⟩ := (hNum.out.below hb3 hgl).below hb4 (by omega); obtain ⟨p0, p1, p2, p3⟩ := hN0.out.below hb34 hDlt0; obtain ⟨r0, r1, r2, r3⟩ := hN1.out.below hb34 hDlt) | (go_at_call 78; refine (scontainsfunc_any ((hrd.out.below (hb34.mono hBD))) hrlen).mono ?_; rintro e w5 ⟨rfl, rfl⟩; rw [HA.out]) | (go_at_call 81; refine (value_any ((hrd.out.below (hb34.mono hBD))) hrlen HDG.out).mono ?_; rintro e w5 ⟨nv, rfl, hnv, rfl⟩; have HNV := hide hnv; clear hnv; rw [decide_eq_false HF.out]))
                      obtain ⟨f0, f1, _, _⟩ := NumAt.set p0 p1 p2 p3 2 0
                      refine bodyPost_ret (v := .tuple #[.agg #[.int .i64 2, .int .i64 0], .bool false]) (by simp [results, Try.results64, go_sem, f0, f1]) rfl ?_
                      rw [HN2.out]
                      exact ⟨rfl, hbel.out.trans ((below_setg (Nat.le_refl _) (hb34.mono (by omega)) _ _))⟩
                  · have HDD := hide hdig
                    by_cases hnil : (restOf ts).length = 0
                    · clear hdig
                      have hlz : ¬ (0 : Int) < ((restOf ts).length : Int) := by omega
                      have HNIL := hide hnil
                      clear hnil
                      go_wp2_with (first | (go_at_call 20; refine (ascii_inf _).mono ?_; rintro e w3 ⟨A3, c3, rfl, hr3, hb3⟩; have hs3 := hb3.size) | (go_at_call 77; refine (same_any (Nat.le_refl _) ((hrd.out.below (hb3.mono (by omega))).more (by omega)) hr3 hrlen (by decide)).mono ?_; rintro e w4 ⟨rfl, hb4⟩; rw [decide_eq_false HI.out]; have hb34 := below_two hb3 hb4 hDs; obtain ⟨q0, q1, q2, q3⟩ := (hNum.out.below hb3 hgl).below hb4 (by omega); obtain ⟨p0, p1, p2, p3⟩ := hN0.out.below hb34 hDlt0; obtain ⟨r0, r1, r2, r3⟩ := hN1.out.below hb34 hDlt))
                      go_meet
                      exact ⟨2, 0, _, rfl, fin_keep hN0.out hbel.out hb34 hDlt0 ⟨q0, q1, q2, q3⟩ (BaseOk.odd HI.out HDD.out)⟩
                    · have hlz : (0 : Int) < ((restOf ts).length : Int) := by omega
                      have hal : (restOf ts).all isDigit = false := by
                        cases h : (restOf ts).all isDigit with
                        | false => rfl
                        | true => exact absurd ⟨fun h2 => hnil (by rw [h2]; rfl), h⟩ hdig
                      have HA := hide hal
                      clear hdig hnil hal
                      go_wp2_with (first | (go_at_call 20; refine (ascii_inf _).mono ?_; rintro e w3 ⟨A3, c3, rfl, hr3, hb3⟩; have hs3 := hb3.size) | (go_at_call 77; refine (same_any (Nat.le_refl _) ((hrd.out.below (hb3.mono (by omega))).more (by omega)) hr3 hrlen (by decide)).mono ?_; rintro e w4 ⟨rfl, hb4⟩; rw [decide_eq_false HI.out]; have hb34 := below_two hb3 hb4 hDs; obtain ⟨q0, q1, q2, q3⟩ := (hNum.out.below hb3 hgl).below hb4 (by omega); obtain ⟨p0, p1, p2, p3⟩ := hN0.out.below hb34 hDlt0; obtain ⟨r0, r1, r2, r3⟩ := hN1.out.below hb34 hDlt) | (go_at_call 78; refine (scontainsfunc_any ((hrd.out.below (hb34.mono hBD))) hrlen).mono ?_; rintro e w5 ⟨rfl, rfl⟩; rw [HA.out]))
                      go_meet
                      exact ⟨2, 0, _, rfl, fin_keep hN0.out hbel.out hb34 hDlt0 ⟨q0, q1, q2, q3⟩ (BaseOk.odd HI.out HDD.out)⟩
              case rest =>
                obtain ⟨k, nn, okb, hok, hg, hz0, hbf, hgl2, hbase⟩ := hcut
                subst hok
                have HBS := hide hbase
                clear hbase
                have HG := hide hg
                have HZ := hide hz0
                obtain ⟨q0, q1, q2, q3⟩ := hg
                obtain ⟨p0, p1, p2, p3⟩ := hz0
                have hgw : w.heap.size < g := by omega
                cases sg with
                | false =>
                  have HN2 := hide (hN.out.trans (numT_pos hpos hsg.out HBS.out))
                  go_wp2
                  obtain ⟨f0, f1, _, _⟩ := NumAt.set p0 p1 p2 p3 k nn
                  refine bodyPost_ret (v := .tuple #[.agg #[.int .i64 k, .int .i64 nn], .bool okb]) (by simp [results, Try.results64, go_sem, f0, f1]) rfl ?_
                  rw [HN2.out]
                  exact ⟨rfl, below_setg (Nat.le_refl _) hbf _ _⟩
                | true =>
                  have HN2 := hide (hN.out.trans (numT_neg hpos hsg.out HBS.out))
                  go_wp2_with (go_at_call 82; refine (neg_base HBS.out _).mono ?_; rintro e w6 ⟨rfl, hb6⟩; obtain ⟨t0, t1, t2, t3⟩ := HG.out.below hb6 hgl2; obtain ⟨s0, s1, s2, s3⟩ := HZ.out.below hb6 (by omega); have hs6 := hb6.size)
                  have hbz := below_setg (D := w.heap.size + 1) (g := g) (by omega) (Below.refl _ w6) (.int .i64 (negNm ⟨k, nn⟩).kind) (.int .i64 (negNm ⟨k, nn⟩).n)
                  obtain ⟨z0, z1, z2, z3⟩ := (HZ.out.below hb6 (by omega)).below hbz (by omega)
                  obtain ⟨f0, f1, _, _⟩ := NumAt.set z0 z1 z2 z3 (negNm ⟨k, nn⟩).kind (negNm ⟨k, nn⟩).n
                  refine bodyPost_ret (v := .tuple #[.agg #[.int .i64 (negNm ⟨k, nn⟩).kind, .int .i64 (negNm ⟨k, nn⟩).n], .bool okb]) (by simp [results, Try.results64, go_sem, f0, f1]) rfl ?_
                  rw [HN2.out]
                  exact ⟨rfl, below_setg (Nat.le_refl _) ((hbf.trans (hb6.mono (by omega))).trans (hbz.mono (by omega))) _ _⟩
end Go.Proofs.Ytngcikgjdeomdaa
