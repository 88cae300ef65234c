/- text.Units: its contract. The tables of unicode/utf8 read as their initialisers lay them. -/
import Derived.Test.YtginfodcobpljaaDoorDecode
namespace Go.Proofs.YtginfodcobpljaaDoor
open Go.RowKit

theorem decode_at {A : Option Addr} {cap B n : Nat} {l : List UInt8} {w : World} (hn : l.length = n) (hT : Tabs w) (h0 : 0 < l.length) (hr : Reads w B 1 A l.length (u8s l)) :
    Calls Tryd.prog 35 #[.slice A n cap] w fun e w' => e = .returned (.tuple #[.int .i32 (dec l).1, .int .i64 (dec l).2]) ∧ Below w.heap.size w w' := by
  subst hn
  exact decode_any hT h0 hr
theorem enc16_lo {r : Nat} (h : r < 65536) : u16s (enc16 r) = [.int .u16 (r : Int)] := by
  rw [enc16, if_pos h]
  simp only [u16s, List.map_cons, List.map_nil, u16v]
  congr 2
  simp
  omega
theorem and1023 (m : Nat) (h : m < 2147483648) : bits .and .i32 (m : Int) 1023 = ((m % 1024 : Nat) : Int) := by
  have e : (BitVec.ofInt 32 (m : Int)).toNat = m := by rw [BitVec.ofInt_natCast, BitVec.toNat_ofNat]; omega
  show IntKind.i32.wrap ((BitVec.ofInt 32 (m : Int) &&& BitVec.ofInt 32 1023).toNat : Int) = _
  rw [BitVec.toNat_and, e, show (BitVec.ofInt 32 1023).toNat = 2 ^ 10 - 1 from rfl, Nat.and_two_pow_sub_one_eq_mod, IntKind.wrap_i32]
  omega
theorem enc16_hi {r : Nat} (h : 65536 ≤ r) (h2 : r ≤ 1114111) : u16s (enc16 r) = [.int .u16 (55296 + ((r : Int) - 65536) / 1024), .int .u16 (IntKind.u16.wrap (wrap32 (56320 + bits .and .i32 ((r : Int) - 65536) 1023)))] := by
  rw [enc16, if_neg (by omega)]
  simp only [u16s, List.map_cons, List.map_nil, u16v]
  congr 2
  · simp; omega
  · congr 1
    rw [show ((r : Int) - 65536) = ((r - 65536 : Nat) : Int) by omega, and1023 _ (by omega), IntKind.wrap_u16]
    unfold wrap32
    simp
    omega

/-- the loop's knowledge at place k: xs are the units so far -/
def AtU (b : List UInt8) (k : Nat) (xs : List UInt16) : Prop :=
  k ≤ b.length ∧ xs.length ≤ k ∧ unitsF b = (xs ++ (unitsF (b.drop k)).1, (unitsF (b.drop k)).2.map (· + k))
theorem AtU.start (b : List UInt8) : AtU b 0 [] := by
  refine ⟨Nat.zero_le _, Nat.le_refl _, ?_⟩
  simp
theorem AtU.bad {b : List UInt8} {k : Nat} {xs : List UInt16} (h : AtU b k xs) (hk : k < b.length) (hb : isBad (dec (b.drop k)) = true) : (unitsF b).2 = some k := by
  have hl : 0 < (b.drop k).length := by rw [List.length_drop]; omega
  rw [h.2.2, unitsF_bad hl hb]; simp
theorem AtU.good {b : List UInt8} {k : Nat} {xs : List UInt16} (h : AtU b k xs) (hk : k < b.length) (hb : isBad (dec (b.drop k)) = false) :
    AtU b (k + (dec (b.drop k)).2) (xs ++ enc16 (dec (b.drop k)).1) := by
  have hl : 0 < (b.drop k).length := by rw [List.length_drop]; omega
  have h1 := dec_ok hl
  rw [List.length_drop] at h1
  refine ⟨by omega, ?_, ?_⟩
  · rw [List.length_append]
    have h2 := h.2.1
    have h3 : (enc16 (dec (b.drop k)).1).length ≤ (dec (b.drop k)).2 := by
      unfold enc16; split
      · simp; omega
      · have := h1.2.2.2.2.2 (by omega); simp; omega
    omega
  · rw [h.2.2, unitsF_good hl hb, List.drop_drop, List.append_assoc]
    congr 1
    cases (unitsF (b.drop (k + (dec (b.drop k)).2))).2 with
    | none => rfl
    | some j => simp; omega
theorem AtU.stop {b : List UInt8} {xs : List UInt16} (h : AtU b b.length xs) : unitsF b = (xs, none) := by
  have h2 := h.2.2
  rw [List.drop_length, unitsF_nil] at h2
  simpa using h2

theorem ret_units {v : Value} {b : List UInt8} {k e : Nat} (h1 : k = uAt b) (h2 : e = uErr b) : Ending.returned (.tuple #[v, .int .i64 (k : Int), .int .i64 (e : Int)]) = .returned (.tuple #[v, .int .i64 (uAt b : Int), .int .i64 (uErr b : Int)]) := by rw [h1, h2]

set_option maxHeartbeats 4000000 in
set_option maxRecDepth 1000000 in
theorem units_any {A : Option Addr} {c B : Nat} {b : List UInt8} {w : World} (hT : Tabs w) (hB : B ≤ w.heap.size) (ha : Reads w B 1 A b.length (u8s b)) (hc : b.length ≤ c) :
    Calls Tryd.prog 14 #[.slice A b.length c] w fun e w' => ∃ v, e = .returned (.tuple #[v, .int .i64 (uAt b : Int), .int .i64 (uErr b : Int)]) ∧ Made w w' 42 v (u16s (uOut b)) := by
  obtain ⟨i0, hi0, hz0, hz1, hz2⟩ := info_parts Tryd.info_u16
  by_cases hlong : 4096 < b.length
  · have hb1 : (4096 : Int) < (b.length : Int) := by omega
    have H1 := hide (show uAt b = 0 ∧ uErr b = 3 ∧ uOut b = [] from ⟨by simp [uAt, hlong], by simp [uErr, hlong], by simp [uOut, hlong]⟩)
    go_enter Tryd.func14, Tryd.ntmps14
    go_wp2
    go_ret3
    obtain ⟨h1, h2, h3⟩ := H1.out
    exact ⟨_, ret_units (k := 0) (e := 3) h1.symm h2.symm, by rw [h3]; exact Made.nil _ _⟩
  · have hb1 : ¬ (4096 : Int) < (b.length : Int) := by omega
    go_enter Tryd.func14, Tryd.ntmps14
    go_wp2
    go_loopw [5, 6] (fun v i wr => ∃ k xs, i = .int .i64 (k : Nat) ∧ Hid (AtU b k xs) ∧ k ≤ b.length ∧ xs.length ≤ k ∧ Made w wr 42 v (u16s xs)) (fun _ i _ => b.length - (intOf i).toNat)
    case atStart => exact ⟨0, [], rfl, AtU.start b, Nat.zero_le _, Nat.le_refl _, Made.nil _ _⟩
    case round =>
      obtain ⟨k, xs, rfl, hat, hk, hxl, hm⟩ := hrel
      by_cases hlt : k < b.length
      · have h3 : (k : Int) < (b.length : Int) := by omega
        have h4 : (k : Int) ≤ (b.length : Int) := by omega
        have hl : 0 < (b.drop k).length := by rw [List.length_drop]; omega
        have HTr := hide (hT.grow hm.below)
        have hr := (ha.below (hm.below.mono hB)).cut8 (k := k) (by omega) hc
        rw [if_neg (by omega)] at hr
        have HR := hide hr
        clear hr
        have HL := hide (List.length_drop (i := k) (l := b))
        obtain ⟨hd1, hd2, hd3, hd4, hd5, hd6⟩ := dec_ok hl
        rw [HL.out] at hd3
        obtain ⟨r, hr⟩ : ∃ r, (dec (b.drop k)).1 = r := ⟨_, rfl⟩
        obtain ⟨n, hn⟩ : ∃ n, (dec (b.drop k)).2 = n := ⟨_, rfl⟩
        have hrn : dec (b.drop k) = (r, n) := by rw [← hr, ← hn]
        have HRN := hide hrn
        rw [hr] at hd4 hd5 hd6
        rw [hn] at hd1 hd2 hd3 hd6
        clear hr hn hrn
        cases hbad : isBad (r, n) with
        | true =>
          have HU := hide (hat.out.bad hlt (by rw [HRN.out]; exact hbad))
          simp only [isBad, Bool.and_eq_true, beq_iff_eq, decide_eq_true_eq] at hbad
          obtain ⟨rfl, hn1⟩ := hbad
          go_wp2_with (go_at_call 35; refine (decode_at HL.out HTr.out hl HR.out).mono ?_; rw [HRN.out]; rintro e w1 ⟨rfl, hb1⟩)
          go_ret3
          exact ⟨_, ret_units (k := k) (e := 2) (by simp [uAt, hlong, HU.out]) (by simp [uErr, hlong, HU.out]), by rw [show uOut b = [] by simp [uOut, hlong, HU.out]]; exact Made.of_below (hm.below.trans (hb1.mono hm.below.size)) _⟩
        | false =>
          have HU := hide (hat.out.good hlt (by rw [HRN.out]; exact hbad))
          have hbad2 : ((r : Int) == 65533) = false ∨ (((r : Int) == 65533) = true ∧ ¬ (n : Int) ≤ 1) := by
            simp only [isBad, Bool.and_eq_false_iff, beq_eq_false_iff_ne, decide_eq_false_iff_not] at hbad
            by_cases h : r = 65533
            · exact Or.inr ⟨by rw [h]; rfl, by omega⟩
            · exact Or.inl (by rw [beq_eq_false_iff_ne]; omega)
          clear hbad
          have hcat : ∀ ys, u16s (xs ++ enc16 r) = u16s xs ++ ys ↔ u16s (enc16 r) = ys := by
            intro ys; rw [u16s, List.map_append]; exact ⟨fun h => List.append_cancel_left h, fun h => by rw [← h]; rfl⟩
          have HC := hide hcat
          clear hcat
          rw [HRN.out] at HU
          by_cases hw : r < 65536
          · have HE := hide (enc16_lo hw)
            rcases hbad2 with e1 | ⟨e1, e2⟩
            all_goals
              go_wp2_with (first | (go_at_call 35; refine (decode_at HL.out HTr.out hl HR.out).mono ?_; rw [HRN.out]; rintro e w1 ⟨rfl, hb1⟩; have hm1 := hm.call hb1) | (at_builtin; refine wpList_lit rfl _ _ 24 rfl 42 i0 _ 2 Tryd.underlying24 hi0 hz0 hz1 hz2 rfl _ _ rfl hm1 _ 1 1 rfl rfl rfl (by rw [u16s_len]; omega) (by omega) ?_; intro v' w' hm'))
              go_roundw
              case rel => exact ⟨k + n, _, by go_num, HU.out, by omega, HU.out.2.1, hm'.cells ((HC.out _).2 HE.out).symm⟩
              case measure => simp [intOf]; omega
          · have HE := hide (enc16_hi (r := r) (by omega) hd4)
            have hw2 : (65536 : Int) ≤ (r : Int) := by omega
            rcases hbad2 with e1 | ⟨e1, e2⟩
            all_goals
              go_wp2_with (first | (go_at_call 35; refine (decode_at HL.out HTr.out hl HR.out).mono ?_; rw [HRN.out]; rintro e w1 ⟨rfl, hb1⟩; have hm1 := hm.call hb1) | (at_builtin; refine wpList_lit rfl _ _ 24 rfl 42 i0 _ 2 Tryd.underlying24 hi0 hz0 hz1 hz2 rfl _ _ rfl hm1 _ 2 2 rfl rfl rfl (by rw [u16s_len]; omega) (by omega) ?_; intro v' w' hm'))
              go_roundw
              case rel => exact ⟨k + n, _, by go_num, HU.out, by omega, HU.out.2.1, hm'.cells ((HC.out _).2 HE.out).symm⟩
              case measure => simp [intOf]; omega
      · go_wp2
        go_ret3
        have hkk : k = b.length := by omega
        subst hkk
        have hs := hat.out.stop
        exact ⟨_, ret_units (k := 0) (e := 0) (by simp [uAt, hlong, hs]) (by simp [uErr, hlong, hs]), hm.cells (by simp [uOut, hlong, hs])⟩
end Go.Proofs.YtginfodcobpljaaDoor
