/- Joined for a claim: LT8, RefBig, LT2, LT3, LT9. -/
import Derived.Test.YtbljbmeifmpfoaaK16
import Derived.Test.YtbljbmeifmpfoaaK15
import Derived.Test.YtbljbmeifmpfoaaK08
import Derived.Test.YtbljbmeifmpfoaaK09
import Derived.Test.YtbljbmeifmpfoaaK02
import Derived.OwnWalk
import Derived.Deep.RegionLaw
import Derived.Deep.CutBlock
import Derived.Deep.DeepCutAuto
import Derived.Test.YtbljbmeifmpfoaaK13
namespace Go.Proofs.Ytbljbmeifmpfoaa
open Go.RowKit

/-- the number of digits, or none where it is too great -/
def NumP (v : Nat) (e : Ending) : Prop := e = .returned (.tuple #[.agg #[.int .i64 0, .int .i64 (v : Int)], .bool true]) ∧ v ≤ 9007199254740991 ∨ e = .returned (.tuple #[.agg #[.int .i64 2, .int .i64 0], .bool false]) ∧ 9007199254740991 < v
theorem asc_ascii (l : List UInt8) : asc (ascii l) = l := by
  unfold asc ascii
  rw [List.map_map]
  conv => rhs; rw [← List.map_id l]
  apply List.map_congr_left
  intro x _
  show x.toUInt16.toUInt8 = x
  simp
theorem dec_txt {s : ByteArray} {l : List UInt16} (h : s.data.toList = asc l) (hd : ∀ x ∈ l, isDigit x = true) (h0 : 0 < l.length) (hz : l[0] ≠ 48 ∨ l = [48]) : s = ⟨(decS (decVal l)).toArray⟩ := by
  have h1 := decS_digits l l.length rfl h0 hd (fun h hl => by
    rcases hz with hz | hz
    · exact hz
    · rw [hz] at hl; simp at hl)
  have h2 : asc l = decS (decVal l) := by rw [← h1, asc_ascii, h1]
  rw [← h2, ← h]
theorem big_digits {l : List UInt16} (hd : ∀ x ∈ l, isDigit x = true) (h0 : 18 ≤ l.length) (hz : l[0] ≠ 48 ∨ l = [48]) : 9007199254740991 < decVal l := by
  have hz0 : l[0] ≠ 48 := by
    rcases hz with hz | hz
    · exact hz
    · rw [hz] at h0; simp at h0
  have g : ∀ k, k ≤ l.length → 0 < k → 10 ^ (k - 1) ≤ decVal (l.take k) := by
    intro k
    induction k with
    | zero => intro _ h; omega
    | succ k ih =>
      intro hk _
      rw [decVal_take_succ l k (by omega)]
      rcases Nat.eq_zero_or_pos k with h | h
      · subst h
        have := decVal_pos (l := l) (by omega) (hd _ (List.getElem_mem _)) hz0
        have hx := isDigit_iff.1 (hd l[0] (List.getElem_mem _))
        have : l[0].toNat ≠ 48 := fun e => hz0 (UInt16.toNat_inj.1 e)
        show 1 ≤ _
        omega
      · have := ih (by omega) h
        rw [show k + 1 - 1 = (k - 1) + 1 by omega, Nat.pow_succ]
        omega
  have h1 := g l.length (Nat.le_refl _) (by omega)
  rw [List.take_length] at h1
  have h2 : 10 ^ 17 ≤ 10 ^ (l.length - 1) := Nat.pow_le_pow_right (by decide) (by omega)
  omega
theorem val_small {l : List UInt16} (hd : ∀ x ∈ l, isDigit x = true) {k : Nat} (hl : l.length < 18) : decVal (l.take k) < 100000000000000000 := by
  have h1 := decVal_lt (l := l) hd
  have h2 : 10 ^ l.length ≤ 10 ^ 17 := Nat.pow_le_pow_right (by decide) (by omega)
  have h3 := decVal_take_le l k
  omega
theorem u8_ne {s : ByteArray} {l : List UInt16} (h : s.data.toList = asc l) (hd : ∀ x ∈ l, isDigit x = true) (h0 : 0 < l.length) {c : UInt8} {r : List UInt8} (hc : c.toNat < 48 ∨ 57 < c.toNat) : (s.toList == (c :: r)) = false := by
  rw [beq_eq_false_iff_ne]
  intro h2
  rw [ByteArray.toList_eq, h] at h2
  cases l with
  | nil => simp at h0
  | cons x t =>
    have h3 : x.toUInt8 = c := by
      have : asc (x :: t) = x.toUInt8 :: asc t := rfl
      rw [this] at h2
      injection h2
    have h4 := isDigit_iff.1 (hd x (by simp))
    rw [← h3, show x.toUInt8.toNat = x.toNat % 256 by simp] at hc
    omega
theorem keep2 {w3 w5 : World} {R : Nat} {cs : List Value} {a b x y : Value} {T : TypeId} (hbk : Blk w3 R cs) (hb5 : Below (((w3.alloc (.cells #[a, b] T)).setCell ⟨w3.heap.size, 0, none⟩ x).setCell ⟨w3.heap.size, 1, none⟩ y).heap.size (((w3.alloc (.cells #[a, b] T)).setCell ⟨w3.heap.size, 0, none⟩ x).setCell ⟨w3.heap.size, 1, none⟩ y) w5) :
    w5.cell? ⟨w3.heap.size, 0, none⟩ = some x ∧ w5.cell? ⟨w3.heap.size, 1, none⟩ = some y ∧ Blk w5 R cs ∧ Below w3.heap.size w3 w5 := by
  have hlt : R < w3.heap.size := hbk.1
  have hne : w3.heap.size ≠ R := by omega
  have hbW : Below w3.heap.size w3 (((w3.alloc (.cells #[a, b] T)).setCell ⟨w3.heap.size, 0, none⟩ x).setCell ⟨w3.heap.size, 1, none⟩ y) := (((Below.refl _ _).alloc (Nat.le_refl _) _).setCell (Nat.le_refl _) _).setCell (Nat.le_refl _) _
  have hs : w3.heap.size < (((w3.alloc (.cells #[a, b] T)).setCell ⟨w3.heap.size, 0, none⟩ x).setCell ⟨w3.heap.size, 1, none⟩ y).heap.size := by simp
  obtain ⟨q0, q1⟩ := set2_cells (v0 := x) (v1 := y) (Blk.new w3 [a, b] T) rfl
  refine ⟨(hb5.cell (p := ⟨w3.heap.size, 0, none⟩) hs).trans q0, (hb5.cell (p := ⟨w3.heap.size, 1, none⟩) hs).trans q1, ?_, hbW.trans (hb5.mono (by omega))⟩
  exact (hbk.below hbW hlt).below hb5 (by omega)
theorem keep2a {w3 w5 : World} {R : Nat} {cs : List Value} {x y : Value} {T : TypeId} (hbk : Blk w3 R cs) (hb5 : Below (w3.alloc (.cells #[x, y] T)).heap.size (w3.alloc (.cells #[x, y] T)) w5) :
    w5.cell? ⟨w3.heap.size, 0, none⟩ = some x ∧ w5.cell? ⟨w3.heap.size, 1, none⟩ = some y ∧ Blk w5 R cs ∧ Below w3.heap.size w3 w5 := by
  have hlt : R < w3.heap.size := hbk.1
  have hbW : Below w3.heap.size w3 (w3.alloc (.cells #[x, y] T)) := (Below.refl _ _).alloc (Nat.le_refl _) _
  have hs : w3.heap.size < (w3.alloc (.cells #[x, y] T)).heap.size := by simp
  have hn := Blk.new w3 [x, y] T
  refine ⟨(hb5.cell (p := ⟨w3.heap.size, 0, none⟩) hs).trans (hn.2 0 (show 0 < 2 by decide)).1, (hb5.cell (p := ⟨w3.heap.size, 1, none⟩) hs).trans (hn.2 1 (show 1 < 2 by decide)).1, ?_, hbW.trans (hb5.mono (by omega))⟩
  exact (hbk.below hbW hlt).below hb5 (by omega)
set_option maxHeartbeats 8000000 in
set_option maxRecDepth 1000000 in
theorem r1parse_any {s : ByteArray} {l : List UInt16} (h : s.data.toList = asc l) (hd : ∀ x ∈ l, isDigit x = true) (h0 : 0 < l.length) (hz : l[0] ≠ 48 ∨ l = [48]) (hl : l.length ≤ 1000000) (w : World) :
    Calls Try.prog 53 #[.string s] w fun e w' => NumP (decVal l) e ∧ Below w.heap.size w w' := by
  obtain ⟨hs, hget⟩ := asc_at h hd
  have HG := hide hget
  have HS := hide hs
  have hs0 : 0 < s.size := by omega
  have hs1 : s.size ≤ 1000000 := by omega
  have hb0 := (hget 0 hs0 h0).2
  have e45 : ((s[0].toNat : Int) == 45) = false := beq_eq_false_iff_ne.2 (by omega)
  have g1 : (([78, 97, 78] : List UInt8) == s.toList) = false := by rw [Bool.beq_comm]; exact u8_ne h hd h0 (by decide)
  have g2 : (([73, 110, 102, 105, 110, 105, 116, 121] : List UInt8) == s.toList) = false := by rw [Bool.beq_comm]; exact u8_ne h hd h0 (by decide)
  have g3 : (([45, 73, 110, 102, 105, 110, 105, 116, 121] : List UInt8) == s.toList) = false := by rw [Bool.beq_comm]; exact u8_ne h hd h0 (by decide)
  have f1 := u8_ne (r := [97, 78]) (c := 78) h hd h0 (by decide)
  have f2 := u8_ne (r := [110, 102, 105, 110, 105, 116, 121]) (c := 73) h hd h0 (by decide)
  have f3 := u8_ne (r := [73, 110, 102, 105, 110, 105, 116, 121]) (c := 45) h hd h0 (by decide)
  have HTX := hide (dec_txt h hd h0 hz)
  have HBG := hide (fun h18 => big_digits hd h18 hz)
  have HSM := hide (fun (hh : l.length < 18) (k : Nat) => val_small (k := k) hd hh)
  obtain ⟨W, hW⟩ : ∃ W, w.alloc (.cells #[.int .i64 0, .int .i64 0] 35) = W := ⟨_, rfl⟩
  have bW := hide (show Below w.heap.size w W by rw [← hW]; exact (Below.refl _ _).alloc (Nat.le_refl _) _)
  have bk := hide (show Blk W w.heap.size [.int .i64 0, .int .i64 0] by rw [← hW]; exact Blk.new w _ _)
  clear h hget hs hd hz hl
  go_enter Try.func53, Try.ntmps53
  go_upto_region 1 with (fail)
  clear hW
  go_wp2_with fail
  go_loopw [4] (fun vk wr => ∃ k : Nat, vk = .int .i64 (k : Int) ∧ 2 ≤ k ∧ k ≤ 5 ∧ Hid (Below W.heap.size W wr)) (fun v _ => 5 - (intOf v).toNat)
  case atStart => exact ⟨2, rfl, by decide, by decide, Below.refl _ _⟩
  case round =>
    obtain ⟨k, rfl, hk2, hk5, hbw⟩ := hrel
    obtain rfl | rfl | rfl | rfl : k = 2 ∨ k = 3 ∨ k = 4 ∨ k = 5 := by omega
    · go_wp2_with (first | (go_at_call 74; refine (r1kind_any _ _).mono ?_; rintro e1 w1 ⟨rfl, hb1⟩; have HB1 := hide (hbw.out.trans (hb1.mono hbw.out.size))) | (go_at_call 73; refine (r1text_2 _).mono ?_; rintro e2 w2 ⟨rfl, hb2⟩; have HB2 := hide (HB1.out.trans (hb2.mono HB1.out.size))))
      go_roundw
      case rel => exact ⟨3, rfl, by decide, by decide, HB2.out⟩
      case measure => simp [intOf]
    · go_wp2_with (first | (go_at_call 74; refine (r1kind_any _ _).mono ?_; rintro e1 w1 ⟨rfl, hb1⟩; have HB1 := hide (hbw.out.trans (hb1.mono hbw.out.size))) | (go_at_call 73; refine (r1text_3 _).mono ?_; rintro e2 w2 ⟨rfl, hb2⟩; have HB2 := hide (HB1.out.trans (hb2.mono HB1.out.size))))
      go_roundw
      case rel => exact ⟨4, rfl, by decide, by decide, HB2.out⟩
      case measure => simp [intOf]
    · go_wp2_with (first | (go_at_call 74; refine (r1kind_any _ _).mono ?_; rintro e1 w1 ⟨rfl, hb1⟩; have HB1 := hide (hbw.out.trans (hb1.mono hbw.out.size))) | (go_at_call 73; refine (r1text_4 _).mono ?_; rintro e2 w2 ⟨rfl, hb2⟩; have HB2 := hide (HB1.out.trans (hb2.mono HB1.out.size))))
      go_roundw
      case rel => exact ⟨5, rfl, by decide, by decide, HB2.out⟩
      case measure => simp [intOf]
    · clear hk2 hk5 g1 g2 g3 f1 f2 f3
      have bW2 := hide (bW.out.trans (hbw.out.mono bW.out.size))
      have bk2 := hide (bk.out.below hbw.out (show w.heap.size < W.heap.size from bk.out.1))
      clear bW bk hbw
      have hRw : w.heap.size < wr.heap.size := bk2.out.1
      go_wp2_with fail
      go_loopw [5, 6] (fun vn vi wz => ∃ i v : Nat, vi = .int .i64 (i : Int) ∧ vn = .int .i64 (v : Int) ∧ i ≤ s.size ∧ Hid (v = decVal (l.take i)) ∧ Hid (18 ≤ s.size → i = 0) ∧ wr = wz) (fun _ v _ => s.size - (intOf v).toNat)
      case atStart => exact ⟨0, 0, rfl, rfl, Nat.zero_le _, rfl, fun _ => rfl, rfl⟩
      case round =>
        obtain ⟨i, v, rfl, rfl, hi, hv, h18i, rfl⟩ := hrel
        by_cases h18 : s.size < 18
        · have l1 : (s.size : Int) < 18 := by omega
          have l2 : decide ((s.size : Int) < 18) = true := decide_eq_true l1
          have hvb := HSM.out (by rw [← HS.out]; exact h18) i
          rw [← hv.out] at hvb
          by_cases hlt : i < s.size
          · have l3 : (i : Int) < (s.size : Int) := by omega
            have l4 : decide ((i : Int) < (s.size : Int)) = true := decide_eq_true l3
            have hil : i < l.length := by rw [← HS.out]; exact hlt
            obtain ⟨q1, q2, q3⟩ := HG.out i hlt hil
            have HV := hide (show 10 * v + (s[i].toNat - 48) = decVal (l.take (i + 1)) by rw [decVal_take_succ l i hil, ← hv.out, q1])
            obtain ⟨d, hd⟩ : ∃ d, s[i].toNat = d := ⟨_, rfl⟩
            have hdI : (s[i].toNat : Int) = (d : Int) := by rw [hd]
            rw [hd] at HV q2 q3
            clear q1 hd hv h18i h18
            have d1 : (48 : Int) ≤ (d : Int) := by omega
            have d2 : (d : Int) ≤ 57 := by omega
            go_wp2_with fail
            go_roundw
            case rel => exact ⟨i + 1, 10 * v + (d - 48), by go_num, by exact congrArg (Value.int .i64) (by omega), by omega, HV.out, fun h => absurd h (by omega), by first | rfl | exact trivial⟩
            case measure => simp [intOf]; omega
          · have l3 : ¬ (i : Int) < (s.size : Int) := by omega
            have l4 : decide ((i : Int) < (s.size : Int)) = false := decide_eq_false l3
            have HV := hide (show v = decVal l by rw [hv.out, show i = l.length by have := HS.out; omega, List.take_length])
            clear hv h18i h18 hi
            by_cases hvs : v ≤ 9007199254740991
            · have CO := hide (fun w0 => r1of_ok v hvs w0)
              have CD := hide (fun w0 => dec_any v (by omega) w0)
              have hst : (⟨(decS v).toArray⟩ : ByteArray) = s := by rw [HTX.out, HV.out]
              rw [hst] at CD
              have hss : (s.toList == s.toList) = true := by simp
              clear hst
              go_wp2_with fail
              refine (CO.out _).mono ?_
              rintro e3 w3 ⟨rfl, hb3⟩
              have BW3 := hide (bW2.out.trans (hb3.mono bW2.out.size))
              have bk3 := hide (bk2.out.below hb3 hRw)
              have hR3 : w.heap.size < w3.heap.size := bk3.out.1
              clear hb3
              go_wp2_with (first | (go_at_call 76; refine (CD.out _).mono ?_; rintro e5 w5 ⟨rfl, hb5⟩; (first | (obtain ⟨k0, k1, k2, k3⟩ := keep2a bk3.out hb5) | (obtain ⟨k0, k1, k2, k3⟩ := keep2 bk3.out hb5)); have K2 := hide k2; have K3 := hide (BW3.out.trans (k3.mono BW3.out.size)); obtain ⟨b0, f0⟩ := K2.out.2 0 (by decide); obtain ⟨b1, f1⟩ := K2.out.2 1 (by decide); clear hb5 k2 k3))
              obtain ⟨q0, q1⟩ := set2_cells (v0 := .int .i64 0) (v1 := .int .i64 (v : Int)) K2.out rfl
              refine bodyPost_ret (v := .tuple #[.agg #[.int .i64 0, .int .i64 (v : Int)], .bool true]) (by simp [results, Try.results53, go_sem, q0, q1]) rfl ?_
              exact ⟨.inl ⟨by rw [← HV.out], by rw [← HV.out]; exact hvs⟩, set2_below K3.out (Nat.le_refl _)⟩
            · have CO := hide (fun w0 => r1of_no v (by omega) w0)
              go_wp2_with fail
              refine (CO.out _).mono ?_
              rintro e3 w3 ⟨rfl, hb3⟩
              have BW3 := hide (bW2.out.trans (hb3.mono bW2.out.size))
              have bk3 := hide (bk2.out.below hb3 hRw)
              have hR3 : w.heap.size < w3.heap.size := bk3.out.1
              clear hb3
              go_wp2_with (first | (go_at_call 77; refine (r1nan_any _).mono ?_; rintro e5 w5 ⟨rfl, hb5⟩; (first | (obtain ⟨k0, k1, k2, k3⟩ := keep2a bk3.out hb5) | (obtain ⟨k0, k1, k2, k3⟩ := keep2 bk3.out hb5)); have K2 := hide k2; have K3 := hide (BW3.out.trans (k3.mono BW3.out.size)); obtain ⟨b0, f0⟩ := K2.out.2 0 (by decide); obtain ⟨b1, f1⟩ := K2.out.2 1 (by decide); clear hb5 k2 k3))
              obtain ⟨q0, q1⟩ := set2_cells (v0 := .int .i64 2) (v1 := .int .i64 0) K2.out rfl
              refine bodyPost_ret (v := .tuple #[.agg #[.int .i64 2, .int .i64 0], .bool false]) (by simp [results, Try.results53, go_sem, q0, q1]) rfl ?_
              exact ⟨.inr ⟨rfl, by rw [← HV.out]; omega⟩, set2_below K3.out (Nat.le_refl _)⟩
        · have l1 : ¬ (s.size : Int) < 18 := by omega
          have l2 : decide ((s.size : Int) < 18) = false := decide_eq_false l1
          obtain rfl : i = 0 := h18i.out (by omega)
          obtain rfl : v = 0 := hv.out
          have l3 : (0 : Int) < (s.size : Int) := by omega
          have hbig := hide (HBG.out (by have := HS.out; omega))
          have CO := hide (fun w0 => r1of_ok 0 (by decide) w0)
          have CD := hide (fun w0 => dec_any 0 (by decide) w0)
          rw [show (⟨(decS 0).toArray⟩ : ByteArray) = ⟨#[48]⟩ by rw [decS_lo (by decide)]; rfl] at CD
          have hne0 : (([48] : List UInt8) == s.toList) = false := by
            rw [beq_eq_false_iff_ne]
            intro h2
            have h3 : s.size = 1 := by
              have : s.data.toList.length = s.size := by simp
              rw [← this, ← ByteArray.toList_eq, ← h2]; rfl
            omega
          have hne1 : (s.toList == ([48] : List UInt8)) = false := by rw [Bool.beq_comm]; exact hne0
          clear hv h18i h18 hi
          go_wp2_with fail
          refine (CO.out _).mono ?_
          rintro e3 w3 ⟨rfl, hb3⟩
          have BW3 := hide (bW2.out.trans (hb3.mono bW2.out.size))
          have bk3 := hide (bk2.out.below hb3 hRw)
          have hR3 : w.heap.size < w3.heap.size := bk3.out.1
          clear hb3
          go_wp2_with (first | (go_at_call 76; refine (CD.out _).mono ?_; rintro e5 w5 ⟨rfl, hb5⟩; (first | (obtain ⟨k0, k1, k2, k3⟩ := keep2a bk3.out hb5) | (obtain ⟨k0, k1, k2, k3⟩ := keep2 bk3.out hb5)); have K2 := hide k2; have K3 := hide (BW3.out.trans (k3.mono BW3.out.size)); obtain ⟨b0, f0⟩ := K2.out.2 0 (by decide); obtain ⟨b1, f1⟩ := K2.out.2 1 (by decide); clear hb5 k2 k3) | (go_at_call 77; refine (r1nan_any _).mono ?_; rintro e6 w6 ⟨rfl, hb6⟩; have K4 := hide (K2.out.below hb6 K2.out.1); have K5 := hide (K3.out.trans (hb6.mono K3.out.size)); clear b0 b1 f0 f1 k0 k1; obtain ⟨b0, f0⟩ := K4.out.2 0 (by decide); obtain ⟨b1, f1⟩ := K4.out.2 1 (by decide); clear hb6))
          obtain ⟨q0, q1⟩ := set2_cells (v0 := .int .i64 2) (v1 := .int .i64 0) K4.out rfl
          refine bodyPost_ret (v := .tuple #[.agg #[.int .i64 2, .int .i64 0], .bool false]) (by simp [results, Try.results53, go_sem, q0, q1]) rfl ?_
          exact ⟨.inr ⟨rfl, hbig.out⟩, set2_below K5.out (Nat.le_refl _)⟩
end Go.Proofs.Ytbljbmeifmpfoaa

namespace Go.Proofs.Ytbljbmeifmpfoaa

def LIM (v : Nat) : List Nat := limbsN 40 v
theorem trim_lim {l : List Nat} (hl : l.length ≤ 40) (hx : ∀ x ∈ l, x < 4294967296) : trimL l = LIM (valL l) := trimL_limbsN 40 l hl hx
theorem lim_val {v : Nat} (h : v < 4294967296 ^ 40) : valL (LIM v) = v := limbsN_val 40 v h
theorem lim_lt (v : Nat) : ∀ x ∈ LIM v, x < 4294967296 := limbsN_lt 40 v
theorem lim_le {v k : Nat} (h : v < 4294967296 ^ k) : (LIM v).length ≤ k := limbsN_le k 40 v h
theorem lim_gt {v k : Nat} (hk : k < 40) (h : 4294967296 ^ k ≤ v) : k < (LIM v).length := limbsN_gt k 40 v hk h
theorem lim_limbs {v : Nat} (h : v < 4294967296 ^ 9) : LIM v = limbs v := by
  have h1 : (limbsN 9 v).length ≤ 9 := limbsN_le 9 9 v h
  have h2 := limbsN_lt 9 v
  have h3 := trimL_limbsN 40 (limbsN 9 v) (by omega) h2
  have h4 := trimL_limbsN 9 (limbsN 9 v) h1 h2
  rw [limbsN_val 9 v h] at h3 h4
  unfold LIM limbs
  rw [← h3, h4]
theorem valL_lt : ∀ (l : List Nat), (∀ x ∈ l, x < 4294967296) → valL l < 4294967296 ^ l.length := by
  intro l
  induction l with
  | nil => intro _; simp [valL]
  | cons x r ih =>
    intro h
    have h1 := ih (fun y hy => h y (List.mem_cons_of_mem _ hy))
    have h2 := h x (by simp)
    rw [valL, List.length_cons, Nat.pow_succ]
    omega
theorem valL_take (l : List Nat) (k : Nat) : valL (l.take (k + 1)) = valL (l.take k) + 4294967296 ^ k * l.getD k 0 := by
  rcases Nat.lt_or_ge k l.length with h | h
  · rw [List.take_succ_eq_append_getElem h, valL_app, List.length_take, Nat.min_eq_left (by omega)]
    simp [valL, List.getD_eq_getElem?_getD, List.getElem?_eq_getElem h]
  · rw [List.take_of_length_le (by omega), List.take_of_length_le h]
    simp [List.getD_eq_getElem?_getD, List.getElem?_eq_none h]
theorem getD_lt {l : List Nat} (h : ∀ x ∈ l, x < 4294967296) (k : Nat) : l.getD k 0 < 4294967296 := by
  rcases Nat.lt_or_ge k l.length with hk | hk
  · simp [List.getD_eq_getElem?_getD, List.getElem?_eq_getElem hk]
    exact h _ (List.getElem_mem hk)
  · simp [List.getD_eq_getElem?_getD, List.getElem?_eq_none hk]
theorem valL_set : ∀ (l : List Nat) (j x : Nat), j < l.length → valL (l.set j x) + 4294967296 ^ j * l.getD j 0 = valL l + 4294967296 ^ j * x := by
  intro l
  induction l with
  | nil => intro j x h; simp at h
  | cons y r ih =>
    intro j x h
    cases j with
    | zero => simp only [List.set_cons_zero, valL, Nat.pow_zero, Nat.one_mul]; simp; omega
    | succ j =>
      have h1 := ih j x (by simpa using h)
      have e : (y :: r).getD (j + 1) 0 = r.getD j 0 := by simp
      rw [List.set_cons_succ, valL, valL, e, Nat.pow_succ, Nat.mul_comm (4294967296 ^ j) 4294967296, Nat.mul_assoc, Nat.mul_assoc]
      omega
/-- k limbs have been added, c is carried -/
structure AtPlus (xs ys : List Nat) (k c : Nat) (outs : List Nat) : Prop where
  len : outs.length = k
  lt : ∀ x ∈ outs, x < 4294967296
  val : valL outs + 4294967296 ^ k * c = valL (xs.take k) + valL (ys.take k)
  cb : c ≤ 1
theorem AtPlus.start (xs ys : List Nat) : AtPlus xs ys 0 0 [] := ⟨rfl, fun x hx => (by cases hx), rfl, by omega⟩
theorem AtPlus.step {xs ys outs : List Nat} {k c s : Nat} (h : AtPlus xs ys k c outs) (hx : ∀ x ∈ xs, x < 4294967296) (hy : ∀ x ∈ ys, x < 4294967296) (hs : s = c + xs.getD k 0 + ys.getD k 0) : AtPlus xs ys (k + 1) (s / 4294967296) (outs ++ [s % 4294967296]) := by
  have h1 := getD_lt hx k
  have h2 := getD_lt hy k
  have h3 := h.cb
  refine ⟨by simp [h.len], fun x hx => ?_, ?_, by omega⟩
  · rcases List.mem_append.1 hx with hx | hx
    · exact h.lt x hx
    · have : x = s % 4294967296 := by simpa using hx
      omega
  · rw [valL_app, valL_take, valL_take, h.len, Nat.pow_succ, Nat.mul_assoc]
    have e : valL [s % 4294967296] = s % 4294967296 := by simp [valL]
    rw [e]
    have h4 := h.val
    have h5 : s % 4294967296 + 4294967296 * (s / 4294967296) = s := Nat.mod_add_div _ _
    have h6 : 4294967296 ^ k * (s % 4294967296) + 4294967296 ^ k * (4294967296 * (s / 4294967296)) = 4294967296 ^ k * s := by rw [← Nat.mul_add, h5]
    have h7 : 4294967296 ^ k * s = 4294967296 ^ k * c + 4294967296 ^ k * xs.getD k 0 + 4294967296 ^ k * ys.getD k 0 := by rw [hs, Nat.mul_add, Nat.mul_add]
    omega
theorem carry0 {P c v S : Nat} (h1 : v + P * c = S) (h2 : S < P) : c = 0 := by
  rcases Nat.eq_zero_or_pos c with h | h
  · exact h
  · have := Nat.mul_le_mul_left P h
    omega
theorem two_less {A B P : Nat} (h1 : A < P) (h2 : B < P) : A + B < P * 4294967296 := by omega
theorem AtPlus.done {xs ys outs : List Nat} {k c : Nat} (h : AtPlus xs ys k c outs) (hx : ∀ x ∈ xs, x < 4294967296) (hy : ∀ x ∈ ys, x < 4294967296) (hk : k = max xs.length ys.length + 1) : valL outs = valL xs + valL ys := by
  have h1 := h.val
  rw [List.take_of_length_le (show xs.length ≤ k by omega), List.take_of_length_le (show ys.length ≤ k by omega)] at h1
  have h2 := Nat.lt_of_lt_of_le (valL_lt xs hx) (Nat.pow_le_pow_right (n := 4294967296) (by decide) (show xs.length ≤ max xs.length ys.length by omega))
  have h3 := Nat.lt_of_lt_of_le (valL_lt ys hy) (Nat.pow_le_pow_right (n := 4294967296) (by decide) (show ys.length ≤ max xs.length ys.length by omega))
  have h4 : valL xs + valL ys < 4294967296 ^ k := by
    rw [hk, Nat.pow_succ]
    exact two_less h2 h3
  have hc := carry0 h1 h4
  rw [hc, Nat.mul_zero, Nat.add_zero] at h1
  exact h1
/-- i rows and k limbs of the next one have been multiplied, c is carried -/
structure AtTimes (xs ys : List Nat) (i k c : Nat) (out : List Nat) : Prop where
  len : out.length = xs.length + ys.length + 1
  lt : ∀ x ∈ out, x < 4294967296
  val : valL out + 4294967296 ^ (i + k) * c = valL (xs.take i) * valL ys + 4294967296 ^ i * (xs.getD i 0 * valL (ys.take k))
  cb : c < 4294967296
theorem valL_zeros (n : Nat) : valL (List.replicate n 0) = 0 := by
  induction n with
  | zero => rfl
  | succ n ih => rw [List.replicate_succ, valL, ih]
theorem AtTimes.start (xs ys : List Nat) : AtTimes xs ys 0 0 0 (List.replicate (xs.length + ys.length + 1) 0) :=
  ⟨List.length_replicate, fun x hx => by rw [List.eq_of_mem_replicate hx]; omega, by rw [valL_zeros]; simp [valL], by omega⟩
theorem AtTimes.sum {xs ys out : List Nat} {i k c s : Nat} (h : AtTimes xs ys i k c out) (hx : ∀ x ∈ xs, x < 4294967296) (hy : ∀ x ∈ ys, x < 4294967296) (hs : s = c + out.getD (i + k) 0 + xs.getD i 0 * ys.getD k 0) : s < 18446744073709551616 := by
  have h1 := getD_lt h.lt (i + k)
  have h2 := getD_lt hx i
  have h3 := getD_lt hy k
  have h4 := h.cb
  have h5 : xs.getD i 0 * ys.getD k 0 ≤ 4294967295 * 4294967295 := Nat.mul_le_mul (by omega) (by omega)
  omega
theorem AtTimes.step {xs ys out : List Nat} {i k c s : Nat} (h : AtTimes xs ys i k c out) (hx : ∀ x ∈ xs, x < 4294967296) (hy : ∀ x ∈ ys, x < 4294967296) (hi : i < xs.length) (hk : k ≤ ys.length) (hs : s = c + out.getD (i + k) 0 + xs.getD i 0 * ys.getD k 0) :
    AtTimes xs ys i (k + 1) (s / 4294967296) (out.set (i + k) (s % 4294967296)) := by
  have hsb := h.sum hx hy hs
  have hlen := h.len
  refine ⟨by rw [List.length_set]; exact hlen, fun x hx => ?_, ?_, by omega⟩
  · rcases List.mem_or_eq_of_mem_set hx with hx | hx
    · exact h.lt x hx
    · omega
  · have h1 := valL_set out (i + k) (s % 4294967296) (by omega)
    have h2 := h.val
    rw [valL_take, ← Nat.add_assoc, Nat.pow_succ, Nat.mul_assoc, Nat.mul_add, Nat.mul_add]
    have h5 : s % 4294967296 + 4294967296 * (s / 4294967296) = s := Nat.mod_add_div _ _
    have h6 : 4294967296 ^ (i + k) * (s % 4294967296) + 4294967296 ^ (i + k) * (4294967296 * (s / 4294967296)) = 4294967296 ^ (i + k) * s := by rw [← Nat.mul_add, h5]
    have h7 : 4294967296 ^ (i + k) * s = 4294967296 ^ (i + k) * c + 4294967296 ^ (i + k) * out.getD (i + k) 0 + 4294967296 ^ (i + k) * (xs.getD i 0 * ys.getD k 0) := by rw [hs, Nat.mul_add, Nat.mul_add]
    have h8 : 4294967296 ^ i * (xs.getD i 0 * (4294967296 ^ k * ys.getD k 0)) = 4294967296 ^ (i + k) * (xs.getD i 0 * ys.getD k 0) := by
      rw [Nat.pow_add, Nat.mul_left_comm (xs.getD i 0), Nat.mul_assoc]
    omega
theorem AtTimes.next {xs ys out : List Nat} {i c : Nat} (h : AtTimes xs ys i (ys.length + 1) c out) (hx : ∀ x ∈ xs, x < 4294967296) (hy : ∀ x ∈ ys, x < 4294967296) (hi : i < xs.length) : AtTimes xs ys (i + 1) 0 0 out := by
  have h1 := h.val
  rw [show ys.take (ys.length + 1) = ys from List.take_of_length_le (by omega), ← Nat.mul_assoc, ← Nat.add_mul, ← valL_take] at h1
  have h2 := valL_lt (xs.take (i + 1)) (fun x hh => hx x (List.mem_of_mem_take hh))
  rw [List.length_take, Nat.min_eq_left (by omega)] at h2
  have h3 := valL_lt ys hy
  have h4 : valL (xs.take (i + 1)) * valL ys < 4294967296 ^ (i + (ys.length + 1)) := by
    rw [show i + (ys.length + 1) = i + 1 + ys.length by omega, Nat.pow_add]
    exact Nat.mul_lt_mul'' h2 h3
  have hc := carry0 h1 h4
  subst hc
  refine ⟨h.len, h.lt, ?_, Nat.zero_lt_succ _⟩
  rw [List.take_zero]
  rw [Nat.mul_zero, Nat.add_zero] at h1
  rw [Nat.mul_zero, Nat.add_zero]
  show valL out = _ + 4294967296 ^ (i + 1) * (xs.getD (i + 1) 0 * 0)
  rw [Nat.mul_zero, Nat.mul_zero, Nat.add_zero]
  exact h1
theorem AtTimes.done {xs ys out : List Nat} (h : AtTimes xs ys xs.length 0 0 out) : valL out = valL xs * valL ys := by
  have h1 := h.val
  rw [List.take_of_length_le (Nat.le_refl _), List.take_zero] at h1
  simpa [valL] using h1
end Go.Proofs.Ytbljbmeifmpfoaa

namespace Go.Proofs.Ytbljbmeifmpfoaa
open Go.RowKit

section
variable {P : Program} {w0 w : World} {ops : Array Oper} {rest : List Oper} {o : Oper} {a : Act} {Q : Exit → Act → World → Prop}
theorem wpList_any8 (hgd : o.guard = none) (s x : Operand) (t : TypeId)
    (ho : o.op = .call { callee := .builtin .append, args := #[s, x], argTypes := #[t, t] })
    (e : TypeId) (i : TypeInfo) (z : Value) (bytes : Nat) (ht : P.underlying t = some (.slice e)) (hi : P.info? e = some i) (hz : i.zero = some z)
    (hsize : i.size = 1) (hby : i.bytes = bytes) (hzs : z.cells.size = 1)
    (v : Value) (xs : List Value) (hs : a.eval s = v) (hm : Made w0 w e v xs)
    (B : Nat) (A : Option Addr) (m c : Nat) (news : List Value) (hx : a.eval x = .slice A m c) (hr : Reads w B 1 A m news) (h1 : ∀ u ∈ news, u.oneCell' = true)
    (hsz : xs.length + m ≤ 17592186044416) (hb2 : bytes ≤ 8)
    (h : ∀ v' w', Made w0 w' e v' (xs ++ news) → wpList P ops Q rest (a.put o.dst v') w') : wpList P ops Q (o :: rest) a w := by
  have hl : news.length = m := by have := hr.1; omega
  subst hl
  have hby2 : (xs.length + news.length) * bytes ≤ 140737488355328 := by
    calc (xs.length + news.length) * bytes ≤ 17592186044416 * 8 := Nat.mul_le_mul hsz hb2
      _ ≤ 140737488355328 := by omega
  obtain ⟨v', w', hrun, h2, h3, _⟩ := run_append_any (P := P) w w0.heap.size t o.type e i z 1 bytes ht hi hz hsize hby hzs (by omega) v xs.length xs hm.own B A news.length c news hr h1 (by unfold maxLen; omega) hby2 hm.below.size
  refine wpList_plain hgd fun K hK => ?_
  unfold Oper.wp execOp
  simp only [ho, resolve, invoke, builtin, Sem.run_bind, Sem.run_pure, Result.andThen_ok, List.map_toArray, List.map_cons, List.map_nil, hs, hx, hrun]
  refine hK _ _ (h v' w' ⟨by rw [List.length_append]; exact h2, hm.below.grown h3 hm.below.size (fun k hk => (hm.own.lt k hk).1)⟩)
theorem wpList_any8L (hgd : o.guard = none) (s x : Operand) (t : TypeId)
    (ho : o.op = .call { callee := .builtin .append, args := #[s, x], argTypes := #[t, t] })
    (e : TypeId) (i : TypeInfo) (z : Value) (bytes : Nat) (ht : P.underlying t = some (.slice e)) (hi : P.info? e = some i) (hz : i.zero = some z)
    (hsize : i.size = 1) (hby : i.bytes = bytes) (hzs : z.cells.size = 1)
    (v : Value) (xs : List Value) (hs : a.eval s = v) (hm : Made w0 w e v xs)
    (cs : List Value) (m c : Nat) (hx : a.eval x = .slice (some ⟨w.heap.size, 0, none⟩) m c) (hl : cs.length = m) (h1 : (cs.all fun u => u.oneCell') = true)
    (hsz : xs.length + m ≤ 1000000) (hb2 : bytes ≤ 8)
    (h : ∀ v' w', Made w0 w' e v' (xs ++ cs) → wpList P ops Q rest (a.put o.dst v') w') : wpList P ops Q (o :: rest) a (w.alloc (.cells cs.toArray e)) := by
  have hb : (xs.length + m) * bytes ≤ 140737488355328 := by
    calc (xs.length + m) * bytes ≤ 1000000 * 8 := Nat.mul_le_mul hsz hb2
      _ ≤ 140737488355328 := by omega
  refine wpList_litG hgd s x t ho e i z 1 bytes ht hi hz hsize hby hzs (by omega) w0.heap.size hm.below.size v xs xs.length hs hm.own cs m c hx (by omega) h1 (by omega) hb ?_
  intro v' w' h2 h3
  exact h v' w' ⟨by rw [List.length_append, hl]; exact h2, hm.below.grown h3 hm.below.size (fun k hk => (hm.own.lt k hk).1)⟩
end
theorem u32s_one (l : List Nat) : ∀ u ∈ u32s l, u.oneCell' = true := by
  intro u hu
  obtain ⟨_, _, rfl⟩ := List.mem_map.1 hu
  rfl
theorem reads_pre {w : World} {B n k : Nat} {A : Option Addr} {xs : List Value} (h : Reads w B 1 A n xs) (hk : k ≤ n) : Reads w B 1 A k (xs.take k) := by
  refine ⟨by rw [List.length_take, h.1]; omega, fun h0 => ?_⟩
  obtain ⟨ad, e, hb, hc⟩ := h.2 (by omega)
  refine ⟨ad, e, hb, fun j u hu => hc j u ?_⟩
  rw [List.getElem?_take] at hu
  split at hu
  · exact hu
  · cases hu
theorem and32 (m : Nat) (h : m < 18446744073709551616) : bits .and .u64 (m : Int) 4294967295 = ((m % 4294967296 : Nat) : Int) := by
  have e : (BitVec.ofInt 64 (m : Int)).toNat = m := by rw [BitVec.ofInt_natCast, BitVec.toNat_ofNat]; omega
  show IntKind.u64.wrap ((BitVec.ofInt 64 (m : Int) &&& BitVec.ofInt 64 4294967295).toNat : Int) = _
  rw [BitVec.toNat_and, e, show (BitVec.ofInt 64 4294967295).toNat = 2 ^ 32 - 1 from rfl, Nat.and_two_pow_sub_one_eq_mod, IntKind.wrap_u64]
  omega
set_option maxHeartbeats 2000000 in
set_option maxRecDepth 1000000 in
theorem rtrim_any {A : Option Addr} {c B n : Nat} {xs : List Nat} {w : World} (hn : xs.length = n) (hB : B ≤ w.heap.size) (ha : Reads w B 1 A n (u32s xs)) (hl : n ≤ 4096) (hc : n ≤ c) (hc2 : c ≤ maxLen) :
    Calls Try.prog 94 #[.slice A n c] w fun e w' => ∃ v, e = .returned v ∧ Made w w' 98 v (u32s (trimL xs)) := by
  obtain ⟨i0, hi0, hz0, hz1, hz2⟩ := info_parts Try.info_u32
  have HA := hide ha
  have HN := hide hn
  have HB := hide hB
  unfold maxLen at hc2
  clear ha hn hB
  go_enter Try.func94, Try.ntmps94
  go_wp2_with fail
  go_loopw [3] (fun v wr => ∃ j : Nat, v = .int .i64 (j : Int) ∧ j ≤ n ∧ Hid (trimL (xs.take j) = trimL xs) ∧ w = wr) (fun v _ => (intOf v).toNat)
  case atStart => exact ⟨n, rfl, Nat.le_refl _, (show trimL (xs.take n) = trimL xs by rw [← HN.out, List.take_length]), rfl⟩
  case round =>
    obtain ⟨j, rfl, hj, hT, rfl⟩ := hrel
    have HE : Hid (∀ k, k ≤ n → trimL (xs.take k) = xs.take k → Reads (w.alloc (.cells #[] 98)) B 1 A k (u32s (xs.take k))) := fun k hk _ => by
      have := (reads_pre HA.out hk).alloc HB.out (.cells #[] 98)
      rwa [u32s_take] at this
    cases j with
    | zero =>
      have hz := hide (show trimL xs = [] by
        have := hT.out
        rw [List.take_zero] at this
        rw [← this]; rfl)
      have hr0 := hide (show Reads (w.alloc (.cells #[] 98)) B 1 A 0 (u32s []) from ⟨rfl, fun h => absurd h (by omega)⟩)
      clear HE
      go_wp2_with (at_builtin; refine wpList_any8 rfl _ _ 36 rfl 98 i0 _ 4 Try.underlying36 hi0 hz0 hz1 hz2 rfl _ _ rfl (Made.empty w _) B A 0 c (u32s []) rfl hr0.out (u32s_one _) (by simp) (by omega) ?_; intro v' w' hm')
      go_ret
      exact ⟨_, rfl, by rw [hz.out]; exact hm'⟩
    | succ i =>
      have hx := HN.out
      obtain ⟨b, off, rfl, hbB, hcell⟩ := HA.out.spotV (by omega)
      have hi : i < xs.length := by omega
      have hca := hcell i _ (u32s_get hi)
      have hsn := hide (show xs.take (i + 1) = xs.take i ++ [xs[i]] from List.take_succ_eq_append_getElem hi)
      obtain ⟨x, hxx⟩ : ∃ x, xs[i] = x := ⟨_, rfl⟩
      rw [hxx] at hca hsn
      clear hcell hxx hx
      by_cases h0 : x = 0
      · have e1 : ((x : Int) == 0) = true := by rw [h0]; rfl
        have hz := hide (show trimL (xs.take i) = trimL xs by rw [← hT.out, hsn.out, h0, trimL_zero])
        clear h0 HE
        go_wp2_with fail
        go_roundw
        case rel => exact ⟨i, by go_num, by omega, hz.out, by first | rfl | exact trivial⟩
        case measure => simp [intOf]
      · have e1 : ((x : Int) == 0) = false := beq_eq_false_iff_ne.2 (by omega)
        have hz := hide (show trimL xs = xs.take (i + 1) by
          rw [← hT.out, hsn.out, trimL_stop h0])
        have hr0 := hide (HE.out (i + 1) hj (by rw [hT.out]; exact hz.out))
        clear h0 HE
        go_wp2_with (at_builtin; refine wpList_any8 rfl _ _ 36 rfl 98 i0 _ 4 Try.underlying36 hi0 hz0 hz1 hz2 rfl _ _ rfl (Made.empty w _) B (some ⟨b, off, none⟩) (i + 1) c (u32s (xs.take (i + 1))) rfl hr0.out (u32s_one _) (by simp; omega) (by omega) ?_; intro v' w' hm')
        go_ret
        exact ⟨_, rfl, by rw [hz.out]; exact hm'⟩
theorem rword2_any {A : Option Addr} {B n c i : Nat} {xs : List Nat} {w : World} (hn : xs.length = n) (ha : Reads w B 1 A n (u32s xs)) (hx : ∀ x ∈ xs, x < 4294967296) :
    Calls Try.prog 101 #[.slice A n c, .int .i64 (i : Int)] w fun e w' => e = .returned (.int .u64 ((xs.getD i 0 : Nat) : Int)) ∧ w = w' := by
  subst hn
  by_cases h : i < xs.length
  · have h1 : (i : Int) < (xs.length : Int) := by omega
    obtain ⟨b, o, rfl, _, hc⟩ := ha.spotV (by omega)
    have hci := hc i _ (u32s_get h)
    have hxb := hx _ (List.getElem_mem h)
    rw [show xs.getD i 0 = xs[i] by simp [List.getD_eq_getElem?_getD, List.getElem?_eq_getElem h]]
    obtain ⟨x, hx⟩ : ∃ x, xs[i] = x := ⟨_, rfl⟩
    rw [hx] at hci hxb ⊢
    obtain ⟨n, hn⟩ : ∃ n, xs.length = n := ⟨_, rfl⟩
    rw [hn] at h1 h ⊢
    clear hc hx ha hn
    go_enter Try.func101, Try.ntmps101
    go_wp2_with fail
    go_ret
    exact ⟨rfl, rfl⟩
  · have h1 : ¬ (i : Int) < (xs.length : Int) := by omega
    rw [show xs.getD i 0 = 0 by simp [List.getD_eq_getElem?_getD, List.getElem?_eq_none (Nat.le_of_not_lt h)]]
    obtain ⟨n, hn⟩ : ∃ n, xs.length = n := ⟨_, rfl⟩
    rw [hn] at h1 h ⊢
    clear ha hn hx
    go_enter Try.func101, Try.ntmps101
    go_wp2_with fail
    go_ret
    exact ⟨rfl, rfl⟩
set_option maxHeartbeats 4000000 in
set_option maxRecDepth 1000000 in
theorem rplus_any {A A' : Option Addr} {B n m c d : Nat} {xs ys : List Nat} {w : World} (hn : xs.length = n) (hm : ys.length = m) (hB : B ≤ w.heap.size) (ha : Reads w B 1 A n (u32s xs)) (hb : Reads w B 1 A' m (u32s ys)) (hx : ∀ x ∈ xs, x < 4294967296) (hy : ∀ x ∈ ys, x < 4294967296) (hl : n ≤ 30) (hl2 : m ≤ 30) {v : Nat} (hv : valL xs + valL ys = v) :
    Calls Try.prog 92 #[.slice A n c, .slice A' m d] w fun e w' => ∃ u, e = .returned u ∧ Made w w' 98 u (u32s (LIM v)) := by
  obtain ⟨i0, hi0, hz0, hz1, hz2⟩ := info_parts Try.info_u32
  have HA := hide ha
  have HB := hide hb
  have HN := hide hn
  have HM := hide hm
  have HX := hide hx
  have HY := hide hy
  have HV := hide hv
  obtain ⟨q, hq⟩ : ∃ q, max n m = q := ⟨_, rfl⟩
  have HQ := hide hq
  have hq30 : q ≤ 30 := by omega
  clear ha hb hn hm hx hy hv hq
  by_cases hnm : n < m
  · obtain rfl : q = m := by have := HQ.out; omega
    have hI : (n : Int) < (q : Int) := by omega
    have hD : decide ((n : Int) < (q : Int)) = true := decide_eq_true hI
    have hI2 : ¬ (q : Int) ≤ (n : Int) := by omega
    go_enter Try.func92, Try.ntmps92
    go_wp2_with fail
    go_loopw [5, 6, 7] (fun vo vc vi wr => ∃ (k cc : Nat) (outs : List Nat), k ≤ q + 1 ∧ vi = .int .i64 (k : Int) ∧ vc = .int .u64 (cc : Int) ∧ Hid (AtPlus xs ys k cc outs) ∧ Hid (Made w wr 98 vo (u32s outs))) (fun _ _ i _ => q + 1 - (intOf i).toNat)
    case atStart => exact ⟨0, 0, [], Nat.zero_le _, rfl, rfl, AtPlus.start xs ys, Made.nil _ _⟩
    case round =>
      obtain ⟨k, cc, outs, hk, rfl, rfl, hat, hmd⟩ := hrel
      have hbr := hmd.out.below
      have CX := hide (rword2_any (c := c) (i := k) HN.out (HA.out.below (hbr.mono hB)) HX.out)
      have CY := hide (rword2_any (c := d) (i := k) HM.out (HB.out.below (hbr.mono hB)) HY.out)
      by_cases hlt : k < q + 1
      · have h1 : (k : Int) < (q : Int) + 1 := by omega
        have h2 : decide ((k : Int) < (q : Int) + 1) = true := decide_eq_true h1
        have hstep := hide (hat.out.step HX.out HY.out rfl)
        have hxk := getD_lt HX.out k
        have hyk := getD_lt HY.out k
        have hcb := hat.out.cb
        obtain ⟨X, hX⟩ : ∃ X, xs.getD k 0 = X := ⟨_, rfl⟩
        obtain ⟨Y, hY⟩ : ∃ Y, ys.getD k 0 = Y := ⟨_, rfl⟩
        rw [hX] at CX hstep hxk
        rw [hY] at CY hstep hyk
        obtain ⟨T, hT⟩ : ∃ T, cc + X + Y = T := ⟨_, rfl⟩
        rw [hT] at hstep
        have hTI : (cc : Int) + (X : Int) + (Y : Int) = (T : Int) := by omega
        have hTb : T < 18446744073709551616 := by omega
        have ha32 := and32 T hTb
        obtain ⟨R, hR⟩ : ∃ R, T % 4294967296 = R := ⟨_, rfl⟩
        have hRm : (R : Int) % 4294967296 = (R : Int) := by omega
        rw [hR] at ha32 hstep
        clear hT hR
        have hL30 : (u32s outs).length ≤ 31 := by rw [u32s_len, hat.out.len]; omega
        clear hX hY hbr
        go_wp2_with fail
        refine CX.out.mono ?_
        rintro e1 w1 ⟨rfl, rfl⟩
        go_wp2_with fail
        refine CY.out.mono ?_
        rintro e1 w1 ⟨rfl, rfl⟩
        go_upto_region 8 with (at_builtin; refine wpList_any8L rfl _ _ 36 rfl 98 i0 _ 4 Try.underlying36 hi0 hz0 hz1 hz2 rfl _ _ rfl hmd.out [.int .u32 (R : Int)] 1 1 rfl rfl rfl (by omega) (by omega) ?_; intro v' w' hm')
        go_wp2_with fail
        refine ⟨⟨k + 1, T / 4294967296, outs ++ [R], by omega, by go_num, congrArg (Value.int IntKind.u64) (by omega), hstep.out, hm'.cells (by simp [u32s])⟩, by simp [intOf]; omega⟩
      · have h1 : ¬ (k : Int) < (q : Int) + 1 := by omega
        have h2 : decide ((k : Int) < (q : Int) + 1) = false := decide_eq_false h1
        have h2n : decide (k < q + 1) = false := decide_eq_false hlt
        obtain rfl : k = q + 1 := by omega
        have hval := hat.out.done HX.out HY.out (by rw [HN.out, HM.out]; have := HQ.out; omega)
        have hol := hat.out.len
        have hlm := hide (show trimL outs = LIM v by rw [trim_lim (by omega) hat.out.lt, hval, HV.out])
        have hmo := hmd.out.own
        rw [u32s_len, hol] at hmo
        obtain ⟨Ao, co, rfl, hco, hco2⟩ := own_shape hmo
        have hro : Reads wr wr.heap.size 1 Ao (q + 1) (u32s outs) := Reads.of_own hmo
        have CT := hide (rtrim_any (c := co) hol (Nat.le_refl _) hro (by omega) hco hco2)
        rw [hlm.out] at CT
        have HBR := hide hmd.out.below
        clear hval hol hmo hro hco hco2 hat hmd hbr CX CY
        go_wp2_with fail
        refine CT.out.mono ?_
        rintro e1 w1 ⟨u, rfl, hm1⟩
        have HM1 := hide (show Made w w1 98 u (u32s (LIM v)) from ⟨own_base hm1.own HBR.out.size, HBR.out.trans (hm1.below.mono HBR.out.size)⟩)
        clear hm1
        go_wp2_with fail
        go_ret
        exact ⟨u, rfl, HM1.out⟩
  · obtain rfl : q = n := by have := HQ.out; omega
    have hI : ¬ (q : Int) < (m : Int) := by omega
    have hD : decide ((q : Int) < (m : Int)) = false := decide_eq_false hI
    have hI2 : (m : Int) ≤ (q : Int) := by omega
    go_enter Try.func92, Try.ntmps92
    go_wp2_with fail
    go_loopw [5, 6, 7] (fun vo vc vi wr => ∃ (k cc : Nat) (outs : List Nat), k ≤ q + 1 ∧ vi = .int .i64 (k : Int) ∧ vc = .int .u64 (cc : Int) ∧ Hid (AtPlus xs ys k cc outs) ∧ Hid (Made w wr 98 vo (u32s outs))) (fun _ _ i _ => q + 1 - (intOf i).toNat)
    case atStart => exact ⟨0, 0, [], Nat.zero_le _, rfl, rfl, AtPlus.start xs ys, Made.nil _ _⟩
    case round =>
      obtain ⟨k, cc, outs, hk, rfl, rfl, hat, hmd⟩ := hrel
      have hbr := hmd.out.below
      have CX := hide (rword2_any (c := c) (i := k) HN.out (HA.out.below (hbr.mono hB)) HX.out)
      have CY := hide (rword2_any (c := d) (i := k) HM.out (HB.out.below (hbr.mono hB)) HY.out)
      by_cases hlt : k < q + 1
      · have h1 : (k : Int) < (q : Int) + 1 := by omega
        have h2 : decide ((k : Int) < (q : Int) + 1) = true := decide_eq_true h1
        have hstep := hide (hat.out.step HX.out HY.out rfl)
        have hxk := getD_lt HX.out k
        have hyk := getD_lt HY.out k
        have hcb := hat.out.cb
        obtain ⟨X, hX⟩ : ∃ X, xs.getD k 0 = X := ⟨_, rfl⟩
        obtain ⟨Y, hY⟩ : ∃ Y, ys.getD k 0 = Y := ⟨_, rfl⟩
        rw [hX] at CX hstep hxk
        rw [hY] at CY hstep hyk
        obtain ⟨T, hT⟩ : ∃ T, cc + X + Y = T := ⟨_, rfl⟩
        rw [hT] at hstep
        have hTI : (cc : Int) + (X : Int) + (Y : Int) = (T : Int) := by omega
        have hTb : T < 18446744073709551616 := by omega
        have ha32 := and32 T hTb
        obtain ⟨R, hR⟩ : ∃ R, T % 4294967296 = R := ⟨_, rfl⟩
        have hRm : (R : Int) % 4294967296 = (R : Int) := by omega
        rw [hR] at ha32 hstep
        clear hT hR
        have hL30 : (u32s outs).length ≤ 31 := by rw [u32s_len, hat.out.len]; omega
        clear hX hY hbr
        go_wp2_with fail
        refine CX.out.mono ?_
        rintro e1 w1 ⟨rfl, rfl⟩
        go_wp2_with fail
        refine CY.out.mono ?_
        rintro e1 w1 ⟨rfl, rfl⟩
        go_upto_region 8 with (at_builtin; refine wpList_any8L rfl _ _ 36 rfl 98 i0 _ 4 Try.underlying36 hi0 hz0 hz1 hz2 rfl _ _ rfl hmd.out [.int .u32 (R : Int)] 1 1 rfl rfl rfl (by omega) (by omega) ?_; intro v' w' hm')
        go_wp2_with fail
        refine ⟨⟨k + 1, T / 4294967296, outs ++ [R], by omega, by go_num, congrArg (Value.int IntKind.u64) (by omega), hstep.out, hm'.cells (by simp [u32s])⟩, by simp [intOf]; omega⟩
      · have h1 : ¬ (k : Int) < (q : Int) + 1 := by omega
        have h2 : decide ((k : Int) < (q : Int) + 1) = false := decide_eq_false h1
        have h2n : decide (k < q + 1) = false := decide_eq_false hlt
        obtain rfl : k = q + 1 := by omega
        have hval := hat.out.done HX.out HY.out (by rw [HN.out, HM.out]; have := HQ.out; omega)
        have hol := hat.out.len
        have hlm := hide (show trimL outs = LIM v by rw [trim_lim (by omega) hat.out.lt, hval, HV.out])
        have hmo := hmd.out.own
        rw [u32s_len, hol] at hmo
        obtain ⟨Ao, co, rfl, hco, hco2⟩ := own_shape hmo
        have hro : Reads wr wr.heap.size 1 Ao (q + 1) (u32s outs) := Reads.of_own hmo
        have CT := hide (rtrim_any (c := co) hol (Nat.le_refl _) hro (by omega) hco hco2)
        rw [hlm.out] at CT
        have HBR := hide hmd.out.below
        clear hval hol hmo hro hco hco2 hat hmd hbr CX CY
        go_wp2_with fail
        refine CT.out.mono ?_
        rintro e1 w1 ⟨u, rfl, hm1⟩
        have HM1 := hide (show Made w w1 98 u (u32s (LIM v)) from ⟨own_base hm1.own HBR.out.size, HBR.out.trans (hm1.below.mono HBR.out.size)⟩)
        clear hm1
        go_wp2_with fail
        go_ret
        exact ⟨u, rfl, HM1.out⟩
theorem made_zero32 (n : Nat) : (madeCells (Value.int .u32 0).cells (n * 1)).toList = u32s (List.replicate n 0) := by
  rw [Nat.mul_one]
  show (madeCells #[Value.int .u32 0] n).toList = _
  rw [toList_madeCells_one]
  simp [u32s]
/-- the row that is multiplied into -/
structure TmS (w wr : World) (G L : Nat) (out : List Nat) : Prop where
  own : wr.ownsRow w.heap.size 98 1 (.slice (some ⟨G, 0, none⟩) L L) L (u32s out)
  below : Below w.heap.size w wr
theorem TmS.cell {w wr : World} {G L k : Nat} {out : List Nat} (h : TmS w wr G L out) (hk : k < L) : wr.cell? ⟨G, k, none⟩ = some (.int .u32 ((out.getD k 0 : Nat) : Int)) := by
  have hl := h.own.1
  rw [u32s_len] at hl
  rw [h.own.cellAt k (by omega), u32s_get (by omega)]
  simp [List.getD_eq_getElem?_getD, List.getElem?_eq_getElem (show k < out.length by omega)]
theorem TmS.put {w wr : World} {G L k a : Nat} {out : List Nat} (h : TmS w wr G L out) : TmS w (wr.setCell ⟨G, k, none⟩ (.int .u32 (a : Int))) G L (out.set k a) := by
  have h1 := h.own.stored k (.int .u32 (a : Int))
  rw [u32s_set] at h1
  exact ⟨h1.1, h.below.setCell (h.own.lt G rfl).1 _⟩
theorem TmS.drewN {w wr : World} {G L : Nat} {out : List Nat} (h : TmS w wr G L out) (m : Nat) : TmS w (wr.drewN m) G L out :=
  ⟨h.own.kept (row := none) ⟨rfl, rfl, rfl, Nat.le_refl _, fun _ _ _ => rfl⟩ (by cases hv : (Value.slice (some ⟨G, 0, none⟩) L L).ownBlock <;> simp), below_drewN h.below m⟩
set_option maxHeartbeats 8000000 in
set_option maxRecDepth 1000000 in
theorem rtimes_any {A A' : Option Addr} {B n m c d : Nat} {xs ys : List Nat} {w : World} (hn : xs.length = n) (hm : ys.length = m) (hB : B ≤ w.heap.size) (ha : Reads w B 1 A n (u32s xs)) (hb : Reads w B 1 A' m (u32s ys)) (hx : ∀ x ∈ xs, x < 4294967296) (hy : ∀ x ∈ ys, x < 4294967296) (hl : n ≤ 15) (hl2 : m ≤ 15) {v : Nat} (hv : valL xs * valL ys = v) :
    Calls Try.prog 93 #[.slice A n c, .slice A' m d] w fun e w' => ∃ u, e = .returned u ∧ Made w w' 98 u (u32s (LIM v)) := by
  obtain ⟨i0, hi0, hz0, hz1, hz2⟩ := info_parts Try.info_u32
  have HA := hide ha
  have HB := hide hb
  have HN := hide hn
  have HM := hide hm
  have HX := hide hx
  have HY := hide hy
  have HV := hide hv
  obtain ⟨L, hL⟩ : ∃ L, n + m + 1 = L := ⟨_, rfl⟩
  have hLI : (n : Int) + (m : Int) + 1 = (L : Int) := by omega
  have hb8 : i0.bytes * L ≤ 281474976710656 := by rw [hz2]; omega
  have hnm : L ≤ maxLen := by unfold maxLen; omega
  have HL := hide hL
  have hL31 : L ≤ 31 := by omega
  obtain ⟨G, hG⟩ : ∃ G, w.heap.size = G := ⟨_, rfl⟩
  clear ha hb hn hm hx hy hv hL
  go_enter Try.func93, Try.ntmps93
  go_wp2_with (refine wpList_make_full _ rfl _ _ 36 rfl w.heap.size 98 i0 (.int .u32 0) 1 Try.underlying36 hi0 hz0 hz1 .i64 .i64 (L : Int) (L : Int) L rfl rfl rfl rfl hb8 hnm (Nat.le_refl _) ?_; intro w1 ho1 hg1)
  rw [made_zero32] at ho1
  have HS := hide (show TmS w w1 G L (List.replicate L 0) from ⟨by rw [hG] at ho1 ⊢; exact ho1, ⟨hg1.os, hg1.tape, hg1.output, hg1.size, fun i hi => hg1.block i hi (by simp)⟩⟩)
  have HG := hide hG
  clear ho1 hg1 hi0 hz0 hz1 hz2 hb8 hnm hG hLI
  go_loopw [6] (fun vi wr => ∃ (i : Nat) (out : List Nat), i ≤ n ∧ vi = .int .i64 (i : Int) ∧ Hid (AtTimes xs ys i 0 0 out) ∧ Hid (TmS w wr G L out)) (fun i _ => n - (intOf i).toNat)
  case atStart => exact ⟨0, _, Nat.zero_le _, rfl, by have := AtTimes.start xs ys; rw [HN.out, HM.out, HL.out] at this; exact this, HS.out⟩
  case round =>
    clear HS
    obtain ⟨i, out, hi, rfl, hat, hS⟩ := hrel
    by_cases hlt : i < n
    · have h1 : (i : Int) < (n : Int) := by omega
      have h2 : decide ((i : Int) < (n : Int)) = true := decide_eq_true h1
      have hix : i < xs.length := by rw [HN.out]; exact hlt
      have hxi := getD_lt HX.out i
      obtain ⟨ba, oa, rfl, hba, hca⟩ := HA.out.spotV (by omega)
      have hcai := hca i _ (u32s_get hix)
      rw [show xs[i] = xs.getD i 0 by simp [List.getD_eq_getElem?_getD, List.getElem?_eq_getElem hix]] at hcai
      have hbw : ba < w.heap.size := by omega
      go_wp2_with fail
      go_loopw [7, 8] (fun vc vk wr => ∃ (k cc : Nat) (out : List Nat), k ≤ m + 1 ∧ vk = .int .i64 (k : Int) ∧ vc = .int .u64 (cc : Int) ∧ Hid (AtTimes xs ys i k cc out) ∧ Hid (TmS w wr G L out)) (fun _ k _ => m + 1 - (intOf k).toNat)
      case atStart => exact ⟨0, 0, out, Nat.zero_le _, rfl, rfl, hat.out, hS.out⟩
      case round =>
        clear hat hS
        obtain ⟨k, cc, out1, hk, rfl, rfl, hat, hS⟩ := hrel
        by_cases hkm : k < m + 1
        · have h3 : (k : Int) < (m : Int) + 1 := by omega
          have h4 : decide ((k : Int) < (m : Int) + 1) = true := decide_eq_true h3
          have h4n : decide (k < m + 1) = true := decide_eq_true hkm
          have hsum := hat.out.sum HX.out HY.out rfl
          have hstep := hide (hat.out.step HX.out HY.out hix (by rw [HM.out]; omega) rfl)
          have hck := hat.out.cb
          have hok := getD_lt hat.out.lt (i + k)
          have hyk := getD_lt HY.out k
          have hikL : i + k < L := by have := HL.out; omega
          have hco := hS.out.cell hikL
          have hfo := hS.out.own.frozenAt (i + k)
          have CY := hide (fun (wz : World) (hb : Below w.heap.size w wz) => rword2_any (c := d) (i := k) HM.out (HB.out.below (hb.mono hB)) HY.out)
          have hcx := (hS.out.below.cell (p := ⟨ba, oa + i, none⟩) hbw).trans hcai
          obtain ⟨X, hX⟩ : ∃ X, xs.getD i 0 = X := ⟨_, rfl⟩
          obtain ⟨Y, hY⟩ : ∃ Y, ys.getD k 0 = Y := ⟨_, rfl⟩
          obtain ⟨O, hO⟩ : ∃ O, out1.getD (i + k) 0 = O := ⟨_, rfl⟩
          rw [hX] at hsum hstep hcx
          rw [hY] at hsum hstep hyk CY
          rw [hO] at hsum hstep hok hco
          have hXb : X < 4294967296 := by rw [← hX]; exact hxi
          obtain ⟨M, hM⟩ : ∃ M, X * Y = M := ⟨_, rfl⟩
          rw [hM] at hsum hstep
          have hMI : (X : Int) * (Y : Int) = (M : Int) := by rw [← hM]; simp
          obtain ⟨T, hT⟩ : ∃ T, cc + O + M = T := ⟨_, rfl⟩
          rw [hT] at hsum hstep
          have hTI : (cc : Int) + (O : Int) + (M : Int) = (T : Int) := by omega
          have hMb : M < 18446744073709551616 := by omega
          have ha32 := and32 T hsum
          obtain ⟨R, hR⟩ : ∃ R, T % 4294967296 = R := ⟨_, rfl⟩
          have hRm : (R : Int) % 4294967296 = (R : Int) := by omega
          rw [hR] at ha32 hstep
          have hiI : (i : Int) + (k : Int) = ((i + k : Nat) : Int) := by omega
          obtain ⟨J, hJ⟩ : ∃ J, i + k = J := ⟨_, rfl⟩
          rw [hJ] at hiI hikL hco hfo hstep
          have hJL : (J : Int) < (L : Int) := by omega
          clear hX hY hO hM hT hR hat hJ
          go_wp2_with fail
          go_quiet (first | (go_at_call 101; refine Calls.quiet_of_same ((CY.out _ (by first | exact hS.out.below | exact below_drewN hS.out.below _)).mono fun _ _ h => same_of h)))
          obtain ⟨w2, hw2⟩ : ∃ w2, wr.drewN nq = w2 := ⟨_, rfl⟩
          rw [hw2]
          have hco2 : w2.cell? ⟨G, J, none⟩ = some (.int .u32 (O : Int)) := by rw [← hw2]; exact hco
          have hfo2 : w2.frozen? ⟨G, J, none⟩ = false := by rw [← hw2]; exact hfo
          have HS2 := hide (show TmS w w2 G L out1 by rw [← hw2]; exact hS.out.drewN _)
          clear hw2 hco hfo hS hcx CY
          go_wp2_with fail
          refine ⟨⟨k + 1, T / 4294967296, out1.set J R, by omega, by go_num, congrArg (Value.int IntKind.u64) (by omega), hstep.out, HS2.out.put⟩, by simp [intOf]; omega⟩
        · have h3 : ¬ (k : Int) < (m : Int) + 1 := by omega
          have h4 : decide ((k : Int) < (m : Int) + 1) = false := decide_eq_false h3
          have h4n : decide (k < m + 1) = false := decide_eq_false hkm
          obtain rfl : k = m + 1 := by omega
          have hnx := hide (show AtTimes xs ys (i + 1) 0 0 out1 from by
            have := hat.out
            rw [← HM.out] at this
            exact this.next HX.out HY.out hix)
          clear hat
          go_wp2_with fail
          go_roundw
          case rel => exact ⟨i + 1, out1, by omega, by go_num, hnx.out, hS.out⟩
          case measure => simp [intOf]; omega
    · have h1 : ¬ (i : Int) < (n : Int) := by omega
      have h2 : decide ((i : Int) < (n : Int)) = false := decide_eq_false h1
      obtain rfl : i = n := by omega
      have hval := AtTimes.done (by have := hat.out; rw [← HN.out] at this; exact this)
      have hol : out.length = L := by rw [hat.out.len, HN.out, HM.out, HL.out]
      have hlm := hide (show trimL out = LIM v by rw [trim_lim (by omega) hat.out.lt, hval, HV.out])
      have hro : Reads wr wr.heap.size 1 (some ⟨G, 0, none⟩) L (u32s out) := Reads.of_own hS.out.own
      have CT := hide (rtrim_any (c := L) hol (Nat.le_refl _) hro (by omega) (Nat.le_refl _) (by unfold maxLen; omega))
      rw [hlm.out] at CT
      have HBR := hide hS.out.below
      clear hval hol hro hat hS
      go_wp2_with fail
      refine CT.out.mono ?_
      rintro e1 w1 ⟨u, rfl, hm1⟩
      have HM1 := hide (show Made w w1 98 u (u32s (LIM v)) from ⟨own_base hm1.own HBR.out.size, HBR.out.trans (hm1.below.mono HBR.out.size)⟩)
      clear hm1
      go_wp2_with fail
      go_ret
      exact ⟨u, rfl, HM1.out⟩
end Go.Proofs.Ytbljbmeifmpfoaa

namespace Go.Proofs.Ytbljbmeifmpfoaa
open Go.RowKit

set_option maxHeartbeats 2000000 in
set_option maxRecDepth 1000000 in
theorem rmade_any {A : Option Addr} {c B n m : Nat} {xs : List Nat} {w : World} (hn : xs.length = n) (hB : B ≤ w.heap.size) (ha : Reads w B 1 A n (u32s xs)) (hl : n ≤ 4096) (hc : n ≤ c) (hc2 : c ≤ maxLen) (hm : (trimL xs).length = m) :
    Calls Try.prog 95 #[.bool false, .slice A n c] w fun e w' => ∃ A' c', e = .returned (.agg #[.bool false, .slice A' m c']) ∧ w'.ownsRow w.heap.size 98 1 (.slice A' m c') m (u32s (trimL xs)) ∧ Below w.heap.size w w' := by
  obtain ⟨W, hW⟩ : ∃ W, w.alloc (.cells #[.bool false, .slice none 0 0] 38) = W := ⟨_, rfl⟩
  have bW : Below w.heap.size w W := by rw [← hW]; exact (Below.refl _ _).alloc (Nat.le_refl _) _
  have sW : W.heap.size = w.heap.size + 1 := by rw [← hW]; simp
  have bk : Blk W w.heap.size [.bool false, .slice none 0 0] := by rw [← hW]; exact Blk.new w _ _
  have CT := hide (rtrim_any (c := c) (w := W) hn (Nat.le_trans hB bW.size) (ha.below (bW.mono hB)) hl hc hc2)
  obtain ⟨zs, hzs⟩ : ∃ zs, trimL xs = zs := ⟨_, rfl⟩
  rw [hzs] at CT hm ⊢
  have HM := hide hm
  have HW := hide bW
  have BK := hide bk
  have SW := hide sW
  obtain ⟨R, hR⟩ : ∃ R, w.heap.size = R := ⟨_, rfl⟩
  go_enter Try.func95, Try.ntmps95
  go_upto_region 1 with (fail)
  clear ha hm hzs bW sW bk hW
  have HR := hide hR
  clear hR
  go_wp2_with fail
  refine CT.out.mono ?_
  rintro e1 w1 ⟨u, rfl, hm1⟩
  have ho := hm1.own
  rw [u32s_len, HM.out] at ho
  obtain ⟨A1, c1, rfl, _, _⟩ := own_shape ho
  have HO := hide ho
  have HB1 := hide hm1.below
  have bk1 := BK.out.below hm1.below (by rw [SW.out]; omega)
  rw [HR.out] at bk1
  obtain ⟨b0, f0⟩ := bk1.2 0 (by decide)
  obtain ⟨b1, f1⟩ := bk1.2 1 (by decide)
  have hsW : R < W.heap.size := by rw [SW.out, HR.out]; omega
  clear hm1 ho
  go_wp2_with fail
  have q0 : ((w1.setCell ⟨R, 0, none⟩ (.bool false)).setCell ⟨R, 1, none⟩ (.slice A1 m c1)).cell? ⟨R, 0, none⟩ = some (.bool false) := by go_simp
  have q1 : ((w1.setCell ⟨R, 0, none⟩ (.bool false)).setCell ⟨R, 1, none⟩ (.slice A1 m c1)).cell? ⟨R, 1, none⟩ = some (.slice A1 m c1) := by go_simp
  refine bodyPost_ret (v := .agg #[.bool false, .slice A1 m c1]) (by simp [results, Try.results95, go_sem, q0, q1]) rfl ?_
  refine ⟨A1, c1, rfl, own_base (set2_own HO.out hsW) (by rw [SW.out]; omega), ?_⟩
  exact ((HW.out.trans (HB1.out.mono HW.out.size)).setCell (by rw [HR.out]; exact Nat.le_refl _) _).setCell (by rw [HR.out]; exact Nat.le_refl _) _
theorem lit1 (w : World) (x : Value) : Below w.heap.size w (w.alloc (.cells #[x] 98)).drew ∧ Reads (w.alloc (.cells #[x] 98)).drew (w.alloc (.cells #[x] 98)).drew.heap.size 1 (some ⟨w.heap.size, 0, none⟩) 1 [x] := by
  refine ⟨((Below.refl _ _).alloc (Nat.le_refl _) _).drew, ?_⟩
  exact (Reads.of_own (Made.lit w 98 [x] (show 1 ≤ maxLen by decide)).own)
theorem lit2a (w : World) (x y : Value) : Below w.heap.size w ((w.alloc (.cells #[x] 98)).alloc (.cells #[y] 98)).drew ∧ Reads ((w.alloc (.cells #[x] 98)).alloc (.cells #[y] 98)).drew ((w.alloc (.cells #[x] 98)).alloc (.cells #[y] 98)).drew.heap.size 1 (some ⟨w.heap.size, 0, none⟩) 1 [x] := by
  refine ⟨(((Below.refl _ _).alloc (Nat.le_refl _) _).alloc (by simp) _).drew, ?_⟩
  have h := Reads.of_own (Made.lit w 98 [x] (show 1 ≤ maxLen by decide)).own
  exact (h.alloc (Nat.le_refl _) _).more (by simp)
theorem lit2b (w : World) (x y : Value) : Below w.heap.size w ((w.alloc (.cells #[y] 98)).alloc (.cells #[x] 98)).drew ∧ Reads ((w.alloc (.cells #[y] 98)).alloc (.cells #[x] 98)).drew ((w.alloc (.cells #[y] 98)).alloc (.cells #[x] 98)).drew.heap.size 1 (some ⟨w.heap.size + 1, 0, none⟩) 1 [x] := by
  refine ⟨(((Below.refl _ _).alloc (Nat.le_refl _) _).alloc (by simp) _).drew, ?_⟩
  have h := Reads.of_own (Made.lit (w.alloc (.cells #[y] 98)) 98 [x] (show 1 ≤ maxLen by decide)).own
  rw [show (w.alloc (.cells #[y] 98)).heap.size = w.heap.size + 1 by simp] at h
  exact h
theorem lit1n (w : World) (x : Value) : Reads (w.alloc (.cells #[x] 98)) (w.alloc (.cells #[x] 98)).heap.size 1 (some ⟨w.heap.size, 0, none⟩) 1 [x] := Reads.of_own (Made.lit w 98 [x] (show 1 ≤ maxLen by decide)).own
theorem ten_lt : ∀ x ∈ [10], x < 4294967296 := by
  intro x hx
  have : x = 10 := by simpa using hx
  omega
set_option maxHeartbeats 8000000 in
set_option maxRecDepth 1000000 in
theorem rbparse_any {s : ByteArray} {l : List UInt16} (h : s.data.toList = asc l) (hd : ∀ x ∈ l, isDigit x = true) (h0 : 0 < l.length) (hz : l[0] ≠ 48 ∨ l = [48]) (hl : l.length ≤ 4096) (w : World) :
    Calls Try.prog 72 #[.string s] w (ParsePost (decVal l) w) := by
  obtain ⟨hs, hget⟩ := asc_at h hd
  have HG := hide hget
  have hs0 : 0 < s.size := by omega
  have hs1 : s.size ≤ 4096 := by omega
  have hb0 := (hget 0 hs0 h0).2
  have e45 : ((s[0].toNat : Int) == 45) = false := beq_eq_false_iff_ne.2 (by omega)
  have eE : (s.toList == ([] : List UInt8)) = false := by
    rw [beq_eq_false_iff_ne, ByteArray.toList_eq]
    intro h3
    have h4 : s.data.toList.length = 0 := by rw [h3]; rfl
    have h5 : s.data.toList.length = s.size := by simp
    omega
  have HZ : Hid (((s[0].toNat : Int) == 48) = true → s.size = 1) := fun h48 => by
    rw [beq_iff_eq] at h48
    rcases hz with hz | hz
    · exfalso
      apply hz
      have := (hget 0 hs0 h0).1
      apply UInt16.toNat_inj.1
      rw [← this]
      show s[0].toNat = 48
      omega
    · rw [hs, hz]; rfl
  have HS0 := hide (show PaS w (w.alloc (.cells #[.bool false, .slice none 0 0] 38)) (.slice none 0 0) ([] : List Nat).length [] from ⟨World.ownsRow_nil _ _ _ _, Blk.new w [.bool false, .slice none 0 0] _, (Below.refl _ _).alloc (Nat.le_refl _) _⟩)
  have HL := hide hs
  obtain ⟨W, hW⟩ : ∃ W, w.alloc (.cells #[.bool false, .slice none 0 0] 38) = W := ⟨_, rfl⟩
  rw [hW] at HS0
  clear hget h hd hz hs
  go_enter Try.func72, Try.ntmps72
  go_upto_region 5 with (fail)
  clear hW
  go_cut [4, 5, 35] (fun v4 v5 v35 wx => v4 = .bool false ∧ v5 = .string s ∧ v35 = .bool false ∧ W = wx)
  case first =>
    by_cases h48 : ((s[0].toNat : Int) == 48) = true
    · have h1 := HZ.out h48
      have l1 : ¬ (1 : Int) < (s.size : Int) := by omega
      have l2 : decide ((1 : Int) < (s.size : Int)) = false := decide_eq_false l1
      go_wp2_with fail
      go_meet
      exact ⟨rfl, rfl, rfl, rfl⟩
    · have h48' : ((s[0].toNat : Int) == 48) = false := by simpa using h48
      clear h48
      go_wp2_with fail
      go_meet
      exact ⟨rfl, rfl, rfl, rfl⟩
  case rest =>
    obtain ⟨rfl, rfl, rfl, rfl⟩ := hcut
    clear e45 eE HZ hb0
    go_wp2_with fail
    go_loopw [6] (fun vi wr => ∃ i : Nat, i ≤ s.size ∧ vi = .int .i64 (i : Int) ∧ W = wr) (fun v _ => s.size - (intOf v).toNat)
    case atStart => exact ⟨0, Nat.zero_le _, rfl, rfl⟩
    case round =>
      obtain ⟨i, hi, rfl, rfl⟩ := hrel
      by_cases hlt : i < s.size
      · have l1 : (i : Int) < (s.size : Int) := by omega
        have l2 : decide ((i : Int) < (s.size : Int)) = true := decide_eq_true l1
        have hd := HG.out i hlt (by have := HL.out; omega)
        obtain ⟨X, hX⟩ : ∃ X : Int, (s[i].toNat : Int) = X := ⟨_, rfl⟩
        have d1 : decide (X < 48) = false := decide_eq_false (by omega)
        have d2 : decide (57 < X) = false := decide_eq_false (by omega)
        have d3 : ¬ X < 48 := by omega
        have d4 : ¬ 57 < X := by omega
        clear hd
        go_wp2_with fail
        go_roundw
        case rel => exact ⟨i + 1, by omega, by go_num, by first | rfl | exact trivial⟩
        case measure => simp [intOf]; omega
      · have l1 : ¬ (i : Int) < (s.size : Int) := by omega
        have l2 : decide ((i : Int) < (s.size : Int)) = false := decide_eq_false l1
        clear hi
        go_wp2_with fail
        go_loopw [7, 8] (fun vm vi wr => ∃ (k : Nat) (ms : List Nat) (n : Nat), k ≤ s.size ∧ vi = .int .i64 (k : Int) ∧ Hid (ms.length = n) ∧ Hid (PaS w wr vm n ms) ∧ Hid (AtPar l k ms)) (fun _ v _ => s.size - (intOf v).toNat)
        case atStart => exact ⟨0, [], 0, Nat.zero_le _, rfl, rfl, HS0.out, AtPar.start l⟩
        case round =>
          clear HS0 hlt l1 l2
          obtain ⟨k, ms, n, hk, rfl, hn, hS, hat⟩ := hrel
          obtain ⟨A, cp, rfl, hnc, hcp⟩ := own_shape hS.out.own
          have hlt8 : n ≤ 8 := by have := limbs_le hat.out.2.1; rw [← hat.out.2.2, hn.out] at this; exact this
          by_cases hks : k < s.size
          · have l1 : (k : Int) < (s.size : Int) := by omega
            have l2 : decide ((k : Int) < (s.size : Int)) = true := decide_eq_true l1
            have hkl : k < l.length := by have := HL.out; omega
            obtain ⟨g1, g2, g3⟩ := HG.out k hks hkl
            obtain ⟨d, hdd⟩ : ∃ d, s[k].toNat = d + 48 := ⟨s[k].toNat - 48, by omega⟩
            have hcl : (s[k].toNat : Int) = (d : Int) + 48 := by omega
            have hd9 : d ≤ 9 := by omega
            have hV8 : decVal (l.take k) < big8 := hat.out.2.1
            have hms := hat.out.2.2
            obtain ⟨V, hV⟩ : ∃ V, decVal (l.take k) = V := ⟨_, rfl⟩
            have hnext := hide (show decVal (l.take (k + 1)) = 10 * V + d by rw [decVal_take_succ l k hkl, hV, ← g1, hdd]; omega)
            rw [hV] at hV8 hms
            have hlt32 : ∀ x ∈ ms, x < 4294967296 := by rw [hms]; exact limbs_lt V
            have hval : valL ms = V := by rw [hms]; exact limbsN_val 9 V (big89 hV8)
            have hR := hide (Reads.of_own hS.out.own)
            have HKL := hide hkl
            have hV9 : V * 10 + d < 4294967296 ^ 9 := by
              have e : (4294967296 : Nat) ^ 9 = 4294967296 ^ 8 * 4294967296 := Nat.pow_succ ..
              rw [e]
              have h8 : V < 4294967296 ^ 8 := hV8
              omega
            have HV9 := hide hV9
            have p910 : (4294967296 : Nat) ^ 9 ≤ 4294967296 ^ 10 := Nat.pow_le_pow_right (by decide) (by decide)
            have p940 : (4294967296 : Nat) ^ 9 ≤ 4294967296 ^ 40 := Nat.pow_le_pow_right (by decide) (by decide)
            have HVX := hide (show V * 10 < 4294967296 ^ 10 from Nat.lt_of_lt_of_le (Nat.lt_of_le_of_lt (Nat.le_add_right _ _) hV9) p910)
            have HDX := hide (show d < 4294967296 ^ 10 from Nat.lt_of_lt_of_le (Nat.lt_of_le_of_lt (Nat.le_add_left _ _) hV9) p910)
            have HVX40 := hide (show V * 10 < 4294967296 ^ 40 from Nat.lt_of_lt_of_le (Nat.lt_of_le_of_lt (Nat.le_add_right _ _) hV9) p940)
            have HDX40 := hide (show d < 4294967296 ^ 40 from Nat.lt_of_lt_of_le (Nat.lt_of_le_of_lt (Nat.le_add_left _ _) hV9) p940)
            clear p910 p940 hV9
            have CT := hide (fun (wz : World) (K : Nat) (hb : Below wr.heap.size wr wz) (hr : Reads wz wz.heap.size 1 (some ⟨K, 0, none⟩) 1 (u32s [10])) => rtimes_any (n := n) (m := 1) (c := cp) (d := 1) (w := wz) hn.out rfl (Nat.le_refl _) ((hR.out.below hb).more hb.size) hr hlt32 ten_lt (by omega) (by omega) (v := V * 10) (by rw [hval]; rfl))
            clear hdd g1 g2 g3 hV hms hlt32 hval hkl
            go_upto_region 16 with (fail)
            have hw1 : IntKind.u8.wrap (d : Int) = (d : Int) := by rw [IntKind.wrap_u8]; omega
            have hw2 : IntKind.u32.wrap (d : Int) = (d : Int) := by rw [IntKind.wrap_u32]; omega
            have HA1 := hide (lit1 wr (.int .u32 10))
            have HA2 := hide (lit2a wr (.int .u32 10) (.int .u32 (d : Int)))
            have HA3 := hide (lit2b wr (.int .u32 10) (.int .u32 (d : Int)))
            have HWR := hide hS.out
            have HB2 := hide (lit2b wr (.int .u32 (d : Int)) (.int .u32 10))
            have HB3 := hide (lit2a wr (.int .u32 (d : Int)) (.int .u32 10))
            have CR := hide (fun (wz : World) (K : Nat) (hr : Reads wz wz.heap.size 1 (some ⟨K, 0, none⟩) 1 [.int .u32 (d : Int)]) => (show Calls Try.prog 94 #[.slice (some ⟨K, 0, none⟩) 1 1] wz fun e w' => ∃ v, e = .returned v ∧ Made wz w' 98 v (u32s (LIM d)) from by
              have := rtrim_any (xs := [d]) (n := 1) (c := 1) (w := wz) rfl (Nat.le_refl _) hr (by omega) (Nat.le_refl _) (by decide)
              rwa [trim_lim (show [d].length ≤ 40 by simp) (fun x hx => by have e : x = d := (by simpa using hx); omega), show valL [d] = d by simp [valL]] at this))
            have CP := hide (fun (wz : World) (A1 A2 : Option Addr) (n1 n2 c1 c2 : Nat) (h1 : (LIM (V * 10)).length = n1) (h2 : (LIM d).length = n2) (hr1 : Reads wz wz.heap.size 1 A1 n1 (u32s (LIM (V * 10)))) (hr2 : Reads wz wz.heap.size 1 A2 n2 (u32s (LIM d))) =>
              rplus_any (c := c1) (d := c2) (w := wz) h1 h2 (Nat.le_refl _) hr1 hr2 (lim_lt _) (lim_lt _) (by rw [← h1]; exact Nat.le_trans (lim_le (k := 10) HVX.out) (by omega)) (by rw [← h2]; exact Nat.le_trans (lim_le (k := 10) HDX.out) (by omega)) (v := V * 10 + d) (by rw [lim_val HVX40.out, lim_val HDX40.out]))
            obtain ⟨ms2, hms2⟩ : ∃ ms2, limbs (10 * V + d) = ms2 := ⟨_, rfl⟩
            have HMS2 := hide hms2
            clear hms2
            go_cut [4, 5, 7, 8] (fun v4 v5 v7 v8 wx => v4 = .bool false ∧ v5 = .string s ∧ v8 = .int .i64 (k : Int) ∧ Hid (PaS w wx v7 ms2.length ms2))
            case first =>
              go_region_law (first | (go_simp; go_at_call 93; (with_reducible refine (CT.out _ _ HA1.out.1 HA1.out.2).mono ?_); rintro e1 w1 ⟨u1, rfl, hm1⟩; have HW1 := hide (HA1.out.1.trans (hm1.below.mono HA1.out.1.size)); obtain ⟨A1, c1, rfl, _, _⟩ := own_shape hm1.own; have HR1 := hide (Reads.of_own hm1.own)) | (go_simp; go_at_call 93; (with_reducible refine (CT.out _ _ HA2.out.1 HA2.out.2).mono ?_); rintro e1 w1 ⟨u1, rfl, hm1⟩; have HW1 := hide (HA2.out.1.trans (hm1.below.mono HA2.out.1.size)); have HRD := hide ((HB2.out.2.below hm1.below).more hm1.below.size); obtain ⟨A1, c1, rfl, _, _⟩ := own_shape hm1.own; have HR1 := hide (Reads.of_own hm1.own)) | (go_simp; go_at_call 93; (with_reducible refine (CT.out _ _ HA3.out.1 HA3.out.2).mono ?_); rintro e1 w1 ⟨u1, rfl, hm1⟩; have HW1 := hide (HA3.out.1.trans (hm1.below.mono HA3.out.1.size)); have HRD := hide ((HB3.out.2.below hm1.below).more hm1.below.size); obtain ⟨A1, c1, rfl, _, _⟩ := own_shape hm1.own; have HR1 := hide (Reads.of_own hm1.own)) | (go_simp; go_at_call 94; (with_reducible refine (CR.out w1 _ HRD.out).mono ?_); rintro e2 w2 ⟨u2, rfl, hm2⟩; have HW2 := hide (HW1.out.trans (hm2.below.mono HW1.out.size)); have HR1b := hide ((HR1.out.below hm2.below).more hm2.below.size); obtain ⟨A2, c2, rfl, _, _⟩ := own_shape hm2.own; have HR2 := hide (Reads.of_own hm2.own)) | (go_simp; go_at_call 94; (with_reducible refine (CR.out _ _ (lit1n w1 _)).mono ?_); rintro e2 w2 ⟨u2, rfl, hm2⟩; have hal := (Below.refl w1.heap.size w1).alloc (Nat.le_refl _) (.cells #[Value.int .u32 (d : Int)] 98); have hb12 := hal.trans (hm2.below.mono hal.size); have HW2 := hide (HW1.out.trans (hb12.mono HW1.out.size)); have HR1b := hide ((HR1.out.below hb12).more hb12.size); obtain ⟨A2, c2, rfl, _, _⟩ := own_shape hm2.own; have HR2 := hide (Reads.of_own hm2.own)) | (go_simp; go_at_call 92; (with_reducible refine (CP.out w2 A1 A2 _ _ c1 c2 (u32s_len _).symm (u32s_len _).symm HR1b.out HR2.out).mono ?_); rintro e3 w3 ⟨u3, rfl, hm3⟩; have HW3 := hide (HW2.out.trans (hm3.below.mono HW2.out.size)); have HM3 := hide hm3))
              all_goals
                go_wp2_with fail
                go_meet
                refine ⟨rfl, rfl, rfl, ?_⟩
                have hlim : LIM (V * 10 + d) = ms2 := by rw [lim_limbs HV9.out, Nat.mul_comm]; exact HMS2.out
                have ho3 := HM3.out.own
                rw [hlim, u32s_len] at ho3
                have hsz : w.heap.size + 1 ≤ w2.heap.size := by
                  have h1 := (HWR.out.res.2 0 (by decide)).1
                  have h2 := World.block_lt_of_cell? wr _ h1
                  have h3 := HW2.out.size
                  show w.heap.size < w2.heap.size
                  exact Nat.lt_of_lt_of_le h2 h3
                exact ⟨own_base ho3 hsz, HWR.out.res.below HW3.out (World.block_lt_of_cell? wr _ (HWR.out.res.2 0 (by decide)).1), HWR.out.below.trans (HW3.out.mono HWR.out.below.size)⟩
            case rest =>
              obtain ⟨rfl, rfl, rfl, hS2⟩ := hcut
              obtain ⟨N, hN⟩ : ∃ N, ms2.length = N := ⟨_, rfl⟩
              rw [hN] at hS2
              have HN := hide hN
              have hmm : ms2 = limbs (decVal (l.take (k + 1))) := by rw [hnext.out, HMS2.out]
              have HGO := hide (fun h8 : ms2.length ≤ 8 => AtPar.go HKL.out hmm h8)
              have HOV := hide (fun h8 : ¬ ms2.length ≤ 8 => AtPar.over hmm h8)
              clear hmm hN CT CR CP HA1 HA2 HA3 HB2 HB3 HVX HDX HVX40 HDX40 HV9 hw1 hw2 hR hS hat
              obtain ⟨A2, cp2, rfl, hnc2, hcp2⟩ := own_shape hS2.out.own
              by_cases h8 : N ≤ 8
              · have hg := hide (HGO.out (by rw [HN.out]; exact h8))
                have l3 : ¬ (8 : Int) < (N : Int) := by omega
                have l4 : decide ((8 : Int) < (N : Int)) = false := decide_eq_false l3
                have l5 : decide (8 < N) = false := decide_eq_false (by omega)
                clear HGO HOV
                go_wp2_with fail
                go_roundw
                case rel => exact ⟨k + 1, ms2, N, by omega, by go_num, HN.out, hS2.out, hg.out⟩
                case measure => simp [intOf]; omega
              · have hov := hide (HOV.out (by rw [HN.out]; exact h8))
                have l3 : (8 : Int) < (N : Int) := by omega
                have l4 : decide ((8 : Int) < (N : Int)) = true := decide_eq_true l3
                have l5 : decide (8 < N) = true := decide_eq_true (by omega)
                have hRs := hide hS2.out.res
                obtain ⟨b0, fb0⟩ := hRs.out.2 0 (by decide)
                obtain ⟨b1, fb1⟩ := hRs.out.2 1 (by decide)
                clear HGO HOV
                go_wp2_with fail
                obtain ⟨q0, q1⟩ := set2_cells (v0 := .bool false) (v1 := .slice none 0 0) hRs.out rfl
                refine bodyPost_ret (v := .tuple #[.agg #[.bool false, .slice none 0 0], .int .i64 3]) (by simp [results, Try.results72, go_sem, q0, q1]) rfl ?_
                exact ⟨none, 0, 0, 3, rfl, set2_below hS2.out.below (Nat.le_refl _), .inr ⟨rfl, hov.out⟩⟩
          · have l1 : ¬ (k : Int) < (s.size : Int) := by omega
            have l2 : decide ((k : Int) < (s.size : Int)) = false := decide_eq_false l1
            have hkl : k = l.length := by have := HL.out; omega
            obtain ⟨hv8, hms⟩ := (show AtPar l l.length ms by have := hat.out; rwa [hkl] at this).done
            have hmt : trimL ms = ms := by rw [hms]; exact limbs_trim hv8
            have HV8 := hide hv8
            have HMS := hide hms
            have hrd := hide (Reads.of_own hS.out.own)
            have CD := hide (rmade_any (c := cp) (m := n) (w := wr) hn.out (Nat.le_refl _) hrd.out (by omega) hnc hcp (by rw [hmt]; exact hn.out))
            rw [hmt] at CD
            clear hmt hv8 hms hat hkl hrd
            go_wp2_with fail
            refine CD.out.mono ?_
            rintro e3 w3 ⟨A3, c3, rfl, ho3, hb3⟩
            have HO3 := hide ho3
            have hP3 := hide (hS.out.below' hb3)
            have HB3 := hide hb3
            clear ho3 hb3
            obtain ⟨b0, fb0⟩ := hP3.out.res.2 0 (by decide)
            obtain ⟨b1, fb1⟩ := hP3.out.res.2 1 (by decide)
            go_wp2_with fail
            obtain ⟨q0, q1⟩ := set2_cells (v0 := .bool false) (v1 := .slice A3 n c3) hP3.out.res rfl
            refine bodyPost_ret (v := .tuple #[.agg #[.bool false, .slice A3 n c3], .int .i64 0]) (by simp [results, Try.results72, go_sem, q0, q1]) rfl ?_
            have hsz : w.heap.size < wr.heap.size := World.block_lt_of_cell? wr _ (hS.out.res.2 0 (by decide)).1
            refine ⟨A3, n, c3, 0, rfl, set2_below hP3.out.below (Nat.le_refl _), .inl ⟨rfl, HV8.out, ?_⟩⟩
            rw [← HMS.out, hn.out]
            exact own_base (set2_own HO3.out hsz) (Nat.le_of_lt hsz)
end Go.Proofs.Ytbljbmeifmpfoaa

namespace Go.Proofs.Ytbljbmeifmpfoaa
open Go.RowKit

theorem plain_dig {l : List UInt16} (h : ∀ x ∈ l, isDigit x = true) : plainOk l = true := plain_run (fun x hx => by unfold isRun; rw [h x hx]; cases isLet x <;> rfl)
set_option maxHeartbeats 8000000 in
set_option maxRecDepth 1000000 in
theorem rbigint_any {A : Option Addr} {B n c i k : Nat} {u L : List UInt16} {w : World} (hn : u.length = n) (hB : B ≤ w.heap.size) (ha : Reads w B 1 A n (u16s u)) (hi : i < k) (hk : k ≤ n) (hc : n ≤ c) (hl : n ≤ 4096) (hL : (u.drop i).take (k - i) = L) (hd : ∀ x ∈ L, isDigit x = true) (h0 : 0 < L.length) (hz : L[0] ≠ 48 ∨ L = [48]) {r : Ans} (hr : bigT (decVal L) L.length (u.drop (k + 1)) = r) :
    Calls Try.prog 52 #[.slice A n c, .int .i64 (i : Int), .int .i64 (k : Int)] w (TkQ w i r) := by
  subst hn
  have hLl : L.length = k - i := by rw [← hL, List.length_take, List.length_drop]; omega
  have hr2 := hr
  unfold bigT at hr2
  rw [isAt_atU (p := isLet) (by decide), isAt_atU (p := isDigit) (by decide), Nat.add_zero] at hr2
  obtain ⟨y, hy⟩ : ∃ y, atU u (k + 1) = y := ⟨_, rfl⟩
  rw [hy] at hr2
  obtain ⟨b, o, rfl, _, _⟩ := ha.spotL (by omega)
  obtain ⟨W, hW⟩ : ∃ W, w.alloc (.cells #[.int .i64 0, .string ⟨#[]⟩, .slice none 0 0, .int .i64 0, .int .i64 0, .bool false, .slice none 0 0, .int .i64 0, .bool false] 40) = W := ⟨_, rfl⟩
  have HB0 := hide (show RB w W by rw [← hW]; exact RB.start w)
  have HA := hide (HB0.out.reads hB ha)
  have hBW : B ≤ W.heap.size := Nat.le_trans hB HB0.out.below.size
  have CA := hide (rascii5_any (c := c - i) (m := k - i) (w := W) hLl hBW (reads_sub rfl HA.out hL (by omega) (by omega)) (by omega) (plain_dig hd))
  have CY := hide (fun (w0 : World) (hb : Below W.heap.size W w0) => rat_any (c := c) (i := k + 1) (w := w0) rfl (HA.out.below (hb.mono hBW)))
  rw [hy] at CY
  obtain ⟨s, hs⟩ : ∃ s : ByteArray, (⟨(asc L).toArray⟩ : ByteArray) = s := ⟨_, rfl⟩
  rw [hs] at CA
  obtain ⟨V, hV⟩ : ∃ V, decVal L = V := ⟨_, rfl⟩
  have CP := hide (fun w0 => rbparse_any (s := s) (l := L) (by rw [← hs]) hd h0 hz (by omega) w0)
  rw [hV] at CP hr2
  have CL := hide (fun w0 => rletter_any y w0)
  have CD := hide (fun w0 => rdigit_any y w0)
  obtain ⟨q1, hq1⟩ : ∃ q, isLet y = q := ⟨_, rfl⟩
  obtain ⟨q2, hq2⟩ : ∃ q, isDigit y = q := ⟨_, rfl⟩
  rw [hq1] at CL hr2
  rw [hq2] at CD hr2
  obtain ⟨m, hm⟩ : ∃ m, L.length = m := ⟨_, rfl⟩
  rw [hm] at hr2
  have HR2 := hide hr2
  have HK := hide (show k + 1 = i + (m + 1) by omega)
  obtain ⟨N, hN⟩ : ∃ N, u.length = N := ⟨_, rfl⟩
  rw [hN] at CY hk hc hl
  obtain ⟨Y, hY⟩ : ∃ Y : Int, (y.toNat : Int) = Y := ⟨_, rfl⟩
  rw [hY] at CY CL CD
  rw [hN]
  clear hr hr2 hL hd h0 hz ha hB hy hs hV hq1 hq2 hN hY hLl hm
  go_enter Try.func52, Try.ntmps52
  go_upto_region 1 with (fail)
  clear hW
  go_wp2_with fail
  refine CA.out.mono ?_
  rintro e1 w1 ⟨rfl, hb1⟩
  have HB1 := hide (HB0.out.go hb1)
  have HW1 := hide hb1
  clear hb1 CA
  go_wp2_with fail
  refine (CP.out _).mono ?_
  rintro e2 w2 ⟨X, mx, cx, er, rfl, hb2, hpost⟩
  have HB2 := hide (HB1.out.go hb2)
  have HW2 := hide (HW1.out.trans (hb2.mono HW1.out.size))
  have HP := hide hpost
  have hsz : w.heap.size < w1.heap.size := HB1.out.blk.1
  have hsz2 : w1.heap.size ≤ w2.heap.size := hb2.size
  clear hb2 hpost CP
  obtain ⟨W3, hW3⟩ : ∃ W3, w2.alloc (.cells #[.bool false, .slice X mx cx] 38) = W3 := ⟨_, rfl⟩
  have HB3 := hide (show RB w W3 by rw [← hW3]; exact HB2.out.go ((Below.refl _ _).alloc (Nat.le_refl _) _))
  have HT := hide (show Blk W3 w2.heap.size [.bool false, .slice X mx cx] by rw [← hW3]; exact Blk.new w2 _ _)
  have HB4 := hide (show Below W.heap.size W W3 by rw [← hW3]; exact HW2.out.alloc HW2.out.size _)
  have hrow := hide (show er = 0 ∧ V < big8 ∧ W3.ownsRow w1.heap.size 98 1 (.slice X mx cx) (limbs V).length (u32s (limbs V)) ∨ er = 3 ∧ big8 ≤ V by
    rcases HP.out with ⟨h1, h2, h3⟩ | h
    · exact .inl ⟨h1, h2, by rw [← hW3]; exact h3.alloc _⟩
    · exact .inr h)
  obtain ⟨c0, f0⟩ := HB3.out.blk.2 0 (by decide)
  obtain ⟨c1, f1⟩ := HB3.out.blk.2 1 (by decide)
  obtain ⟨c2, f2⟩ := HB3.out.blk.2 2 (by decide)
  obtain ⟨c3, f3⟩ := HB3.out.blk.2 3 (by decide)
  obtain ⟨c4, f4⟩ := HB3.out.blk.2 4 (by decide)
  obtain ⟨c5, f5⟩ := HB3.out.blk.2 5 (by decide)
  obtain ⟨c6, f6⟩ := HB3.out.blk.2 6 (by decide)
  obtain ⟨c7, f7⟩ := HB3.out.blk.2 7 (by decide)
  obtain ⟨c8, f8⟩ := HB3.out.blk.2 8 (by decide)
  have a0 := (HT.out.2 0 (by simp)).1
  have a1 := (HT.out.2 1 (by simp)).1
  have CY3 := hide (CY.out W3 HB4.out)
  clear HP CY
  rcases hrow.out with ⟨rfl, hlt, hown⟩ | ⟨rfl, hge⟩
  · have HO := hide hown
    have HR3 := hide (show (if (q1 || q2) = true then bad 5 else (0, { noTok with kind := 3, mag := limbs V }, m + 1)) = r by
      have := HR2.out
      rwa [if_neg (by omega)] at this)
    clear hown hrow hlt HR2
    cases q1 with
    | true =>
      have HZ := hide (show bad 5 = r from HR3.out)
      go_wp2_with (first | (go_at_call 14; refine CY3.out.mono ?_; rintro e3 w3 ⟨rfl, rfl⟩) | (go_at_call 30; refine (CL.out _).mono ?_; rintro e3 w3 ⟨rfl, rfl⟩) | (go_at_call 32; refine (CD.out _).mono ?_; rintro e3 w3 ⟨rfl, rfl⟩))
      obtain ⟨q0, q1, q2, q3, q4, q5, q6, q7, q8⟩ := set9_cells (v0 := .int .i64 0) (v1 := .string ⟨#[]⟩) (v2 := .slice none 0 0) (v3 := .int .i64 0) (v4 := .int .i64 0) (v5 := .bool false) (v6 := .slice none 0 0) (v7 := .int .i64 0) (v8 := .bool false) HB3.out.blk rfl
      refine bodyPost_ret (v := .tuple #[.agg #[.int .i64 0, .string ⟨#[]⟩, .slice none 0 0, .int .i64 0, .int .i64 0, .bool false, .slice none 0 0, .int .i64 0, .bool false], .int .i64 0, .int .i64 5]) (by simp [results, Try.results52, go_sem, q0, q1, q2, q3, q4, q5, q6, q7, q8]) rfl ?_
      exact TkQ.bad (E := 5) HZ.out (by decide) HB3.out.put
    | false =>
      cases q2 with
      | true =>
        have HZ := hide (show bad 5 = r from HR3.out)
        go_wp2_with (first | (go_at_call 14; refine CY3.out.mono ?_; rintro e3 w3 ⟨rfl, rfl⟩) | (go_at_call 30; refine (CL.out _).mono ?_; rintro e3 w3 ⟨rfl, rfl⟩) | (go_at_call 32; refine (CD.out _).mono ?_; rintro e3 w3 ⟨rfl, rfl⟩))
        obtain ⟨q0, q1, q2, q3, q4, q5, q6, q7, q8⟩ := set9_cells (v0 := .int .i64 0) (v1 := .string ⟨#[]⟩) (v2 := .slice none 0 0) (v3 := .int .i64 0) (v4 := .int .i64 0) (v5 := .bool false) (v6 := .slice none 0 0) (v7 := .int .i64 0) (v8 := .bool false) HB3.out.blk rfl
        refine bodyPost_ret (v := .tuple #[.agg #[.int .i64 0, .string ⟨#[]⟩, .slice none 0 0, .int .i64 0, .int .i64 0, .bool false, .slice none 0 0, .int .i64 0, .bool false], .int .i64 0, .int .i64 5]) (by simp [results, Try.results52, go_sem, q0, q1, q2, q3, q4, q5, q6, q7, q8]) rfl ?_
        exact TkQ.bad (E := 5) HZ.out (by decide) HB3.out.put
      | false =>
        have HZ := hide (show (0, { noTok with kind := 3, mag := limbs V }, m + 1) = r from HR3.out)
        go_wp2_with (first | (go_at_call 14; refine CY3.out.mono ?_; rintro e3 w3 ⟨rfl, rfl⟩) | (go_at_call 30; refine (CL.out _).mono ?_; rintro e3 w3 ⟨rfl, rfl⟩) | (go_at_call 32; refine (CD.out _).mono ?_; rintro e3 w3 ⟨rfl, rfl⟩))
        obtain ⟨q0, q1, q2, q3, q4, q5, q6, q7, q8⟩ := set9_cells (v0 := .int .i64 3) (v1 := .string ⟨#[]⟩) (v2 := .slice none 0 0) (v3 := .int .i64 0) (v4 := .int .i64 0) (v5 := .bool false) (v6 := .slice X mx cx) (v7 := .int .i64 0) (v8 := .bool false) HB3.out.blk rfl
        refine bodyPost_ret (v := .tuple #[.agg #[.int .i64 3, .string ⟨#[]⟩, .slice none 0 0, .int .i64 0, .int .i64 0, .bool false, .slice X mx cx, .int .i64 0, .bool false], .int .i64 ((k : Int) + 1), .int .i64 0]) (by simp [results, Try.results52, go_sem, q0, q1, q2, q3, q4, q5, q6, q7, q8]) rfl ?_
        exact TkQ.good HZ.out HK.out ⟨_, _, rfl, World.ownsRow_nil _ _ _ _, own_base (set9_own HO.out hsz) (Nat.le_of_lt hsz)⟩ HB3.out.put
  · have HZ := hide (show bad 6 = r by
      have := HR2.out
      rwa [if_pos hge] at this)
    clear hrow hge HR2
    go_wp2_with fail
    obtain ⟨q0, q1, q2, q3, q4, q5, q6, q7, q8⟩ := set9_cells (v0 := .int .i64 0) (v1 := .string ⟨#[]⟩) (v2 := .slice none 0 0) (v3 := .int .i64 0) (v4 := .int .i64 0) (v5 := .bool false) (v6 := .slice none 0 0) (v7 := .int .i64 0) (v8 := .bool false) HB3.out.blk rfl
    refine bodyPost_ret (v := .tuple #[.agg #[.int .i64 0, .string ⟨#[]⟩, .slice none 0 0, .int .i64 0, .int .i64 0, .bool false, .slice none 0 0, .int .i64 0, .bool false], .int .i64 0, .int .i64 6]) (by simp [results, Try.results52, go_sem, q0, q1, q2, q3, q4, q5, q6, q7, q8]) rfl ?_
    exact TkQ.bad (E := 6) HZ.out (by decide) HB3.out.put
end Go.Proofs.Ytbljbmeifmpfoaa
