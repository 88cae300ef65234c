/- The law LexRemarks, walked. -/
import Derived.Test.YtngcikgjdeomdaaRTok2
import Derived.Test.YtngcikgjdeomdaaPRemark
namespace Go.Proofs.Ytngcikgjdeomdaa
open Go.RowKit

theorem made_lit {w : World} (e : TypeId) (cs : List Value) (n : Nat) (hn : cs.length = n) (h : n ≤ maxLen) : Made w (w.alloc (.cells cs.toArray e)) e (.slice (some ⟨w.heap.size, 0, none⟩) n n) cs := by
  subst hn
  exact Made.lit w e cs h
/-- does a remark up to a line's end begin among the first so many? -/
def opB (u : List UInt16) (k : Nat) : Bool := (List.range k).any fun i => starts [47, 47] (u.drop i)
theorem opB_succ (u : List UInt16) (k : Nat) : opB u (k + 1) = (opB u k || starts [47, 47] (u.drop k)) := by
  unfold opB
  rw [List.range_succ, List.any_append]
  simp
theorem two_at {u : List UInt16} {k : Nat} (h : k + 1 < u.length) : starts [47, 47] (u.drop k) = ((u[k].toNat : Int) == 47 && (u[k + 1].toNat : Int) == 47) := by
  rw [List.drop_eq_getElem_cons (by omega), List.drop_eq_getElem_cons h]
  simp only [starts, List.map_cons, List.map_nil, List.isPrefixOf, Bool.and_true]
  rw [Bool.eq_iff_iff]
  simp only [Bool.and_eq_true, beq_iff_eq]
  constructor
  · rintro ⟨h1, h2⟩
    rw [← h1, ← h2]
    exact ⟨rfl, rfl⟩
  · rintro ⟨h1, h2⟩
    exact ⟨UInt16.toNat_inj.1 (by show 47 = _; omega), UInt16.toNat_inj.1 (by show 47 = _; omega)⟩
theorem opB_all {u : List UInt16} {k : Nat} (h : ¬ k + 1 < u.length) (ho : opB u k = false) : ∀ i, starts [47, 47] (u.drop i) = false := by
  intro i
  by_cases hi : i < k
  · unfold opB at ho
    rw [List.any_eq_false] at ho
    have := ho i (List.mem_range.2 hi)
    simpa using this
  · cases hs : starts [47, 47] (u.drop i) with
    | false => rfl
    | true =>
      have := starts_len hs
      rw [List.length_drop] at this
      simp at this
      omega
set_option maxHeartbeats 32000000 in
set_option maxRecDepth 1000000 in
theorem lexRemarks_law (A : Option Addr) (c : Nat) (u : List UInt16) (hc : u.length ≤ c) (hm : c ≤ maxLen) (A' : Option Addr) (c' : Nat) (v : List UInt16) (_hc' : v.length ≤ c') (_hm' : c' ≤ maxLen) (Ai : Option Addr) (ci : Nat) (inn : List UInt16) (_hci : inn.length ≤ ci) (_hmi : ci ≤ maxLen) (w : World)
    (hr : Reads w w.heap.size 1 A u.length (u16s u)) (hr' : Reads w w.heap.size 1 A' v.length (u16s v)) (hri : Reads w w.heap.size 1 Ai inn.length (u16s inn)) :
    Calls Try.prog 8 #[.slice A u.length c, .slice A' v.length c', .slice Ai inn.length ci] w fun e w' => e = .returned (.bool true) ∧ Below w.heap.size w w' := by
  obtain ⟨i0, hi0, hz0, hz1, hz2⟩ := info_parts Try.info_u16
  by_cases hlong : 1000 < u.length ∨ 1000 < v.length ∨ 1000 < inn.length
  · by_cases h1 : 1000 < u.length
    · have h1' : (1000 : Int) < (u.length : Int) := by omega
      clear hlong
      go_enter Try.func8, Try.ntmps8
      go_wp2_with fail
      refine (lfirst_any w).mono ?_
      rintro e w1 ⟨rfl, hb1⟩
      go_wp2_with fail
      refine (lfirst_any w1).mono ?_
      rintro e w2 ⟨rfl, hbx⟩
      go_wp2_with fail
      (try rw [Exit.noGoto_ret])
      go_ret
      exact ⟨rfl, bstep hb1 hbx⟩
    by_cases h2 : 1000 < v.length
    · have h2' : (1000 : Int) < (v.length : Int) := by omega
      have h3 : decide ((1000 : Int) < (u.length : Int)) = false := decide_eq_false (by omega)
      clear hlong
      go_enter Try.func8, Try.ntmps8
      go_wp2_with fail
      refine (lfirst_any w).mono ?_
      rintro e w1 ⟨rfl, hb1⟩
      go_wp2_with fail
      refine (lfirst_any w1).mono ?_
      rintro e w2 ⟨rfl, hbx⟩
      go_wp2_with fail
      (try rw [Exit.noGoto_ret])
      go_ret
      exact ⟨rfl, bstep hb1 hbx⟩
    have h4' : (1000 : Int) < (inn.length : Int) := by omega
    have h3 : decide ((1000 : Int) < (u.length : Int)) = false := decide_eq_false (by omega)
    have h5 : decide ((1000 : Int) < (v.length : Int)) = false := decide_eq_false (by omega)
    clear hlong
    go_enter Try.func8, Try.ntmps8
    go_wp2_with fail
    refine (lfirst_any w).mono ?_
    rintro e w1 ⟨rfl, hb1⟩
    go_wp2_with fail
    refine (lfirst_any w1).mono ?_
    rintro e w2 ⟨rfl, hbx⟩
    go_wp2_with fail
    (try rw [Exit.noGoto_ret])
    go_ret
    exact ⟨rfl, bstep hb1 hbx⟩
  have hl : u.length ≤ 1000 := by omega
  have hl2 : v.length ≤ 1000 := by omega
  have hl3 : inn.length ≤ 1000 := by omega
  have HR := hide hr
  have HR' := hide hr'
  have HRI := hide hri
  clear hlong hr hr' hri
  go_enter Try.func8, Try.ntmps8
  go_wp2_with fail
  refine (lfirst_any w).mono ?_
  rintro e w1 ⟨rfl, hb1⟩
  have HB1 := hide hb1
  have HR1 := hide (HR.out.below hb1)
  have HR1' := hide (HR'.out.below hb1)
  have HRI1 := hide (HRI.out.below hb1)
  have hs1 : w.heap.size ≤ w1.heap.size := hb1.size
  clear hb1 HR HR' HRI
  go_wp2_with fail
  go_loop [7, 8] (fun b i => ∃ k : Nat, k ≤ inn.length ∧ i = .int .i64 k ∧ b = .bool ((inn.take k).any isLine) ∧ Hid ((inn.take k).all okIn = true)) (fun _ i => inn.length - (intOf i).toNat)
  case atStart => exact ⟨0, Nat.zero_le _, rfl, rfl, rfl⟩
  case round =>
    obtain ⟨k, hk, rfl, rfl, hok⟩ := hrel
    by_cases hlt : k < inn.length
    · obtain ⟨blk, off, rfl, _, hcell⟩ := HRI1.out.spotL (by omega)
      have hca := hcell k hlt
      have HS := hide (show (inn.take (k + 1)).any isLine = ((inn.take k).any isLine || isLine inn[k]) by rw [List.take_succ_eq_append_getElem hlt, List.any_append]; simp)
      have HO := hide (show okIn inn[k] = true → (inn.take (k + 1)).all okIn = true from fun h => by rw [List.take_succ_eq_append_getElem hlt, List.all_append, hok.out]; simp [h])
      obtain ⟨x, hx⟩ : ∃ x, inn[k] = x := ⟨_, rfl⟩
      rw [hx] at hca HS HO
      obtain ⟨X, hX⟩ : ∃ X : Int, (x.toNat : Int) = X := ⟨_, rfl⟩
      rw [hX] at hca
      obtain ⟨b0, hb0⟩ : ∃ b, (inn.take k).any isLine = b := ⟨_, rfl⟩
      rw [hb0] at HS ⊢
      obtain ⟨b1, hb1⟩ : ∃ b, (X == 42) = b := ⟨_, rfl⟩
      obtain ⟨b2, hb2⟩ : ∃ b, (X == 8232) = b := ⟨_, rfl⟩
      obtain ⟨b3, hb3⟩ : ∃ b, (X == 8233) = b := ⟨_, rfl⟩
      obtain ⟨b4, hb4⟩ : ∃ b, (X == 10) = b := ⟨_, rfl⟩
      obtain ⟨b5, hb5⟩ : ∃ b, (X == 13) = b := ⟨_, rfl⟩
      have HK := hide (show okIn x = (!b1 && !b2 && !b3) by
        rw [← hb1, ← hb2, ← hb3, ← hX]
        unfold okIn
        congr 1
        · congr 1
          · congr 1; rw [Bool.eq_iff_iff, beq_iff_eq, beq_iff_eq]; omega
          · congr 1; rw [Bool.eq_iff_iff, beq_iff_eq, beq_iff_eq]; omega
        · congr 1; rw [Bool.eq_iff_iff, beq_iff_eq, beq_iff_eq]; omega)
      have HLN := hide (show isLine x = (b4 || b5) by
        rw [← hb4, ← hb5, ← hX]
        unfold isLine
        congr 1
        · rw [Bool.eq_iff_iff, beq_iff_eq, beq_iff_eq]; omega
        · rw [Bool.eq_iff_iff, beq_iff_eq, beq_iff_eq]; omega)
      clear hcell hx hX hb0
      cases b1 with
      | true =>
        go_wp2_with fail
        refine (lfirst_any w1).mono ?_
        rintro e w2 ⟨rfl, hbx⟩
        go_wp2_with fail
        (try rw [Exit.noGoto_ret])
        go_ret
        exact ⟨rfl, bstep HB1.out hbx⟩
      | false =>
        cases b2 with
        | true =>
          go_wp2_with fail
          refine (lfirst_any w1).mono ?_
          rintro e w2 ⟨rfl, hbx⟩
          go_wp2_with fail
          (try rw [Exit.noGoto_ret])
          go_ret
          exact ⟨rfl, bstep HB1.out hbx⟩
        | false =>
          cases b3 with
          | true =>
            go_wp2_with fail
            refine (lfirst_any w1).mono ?_
            rintro e w2 ⟨rfl, hbx⟩
            go_wp2_with fail
            (try rw [Exit.noGoto_ret])
            go_ret
            exact ⟨rfl, bstep HB1.out hbx⟩
          | false =>
            have HN := hide (HO.out (by rw [HK.out]; rfl))
            cases b0 <;> cases b4 <;> cases b5
            all_goals
              go_wp2_with fail
              go_round
              case rel => exact ⟨k + 1, by omega, by go_num, by rw [HS.out, HLN.out]; rfl, HN.out⟩
              case measure => simp [intOf]; omega
    · have hte : inn.take k = inn := List.take_of_length_le (by omega)
      rw [hte] at hok ⊢
      obtain ⟨b, hb⟩ : ∃ b, inn.any isLine = b := ⟨_, rfl⟩
      rw [hb]
      have HBN := hide hb
      obtain ⟨x0, hx0⟩ : ∃ x0 : UInt16, (if inn.any isLine = true then 10 else 32) = x0 := ⟨_, rfl⟩
      have HX0 := hide hx0
      have hxb : b = true ∧ x0 = 10 ∨ b = false ∧ x0 = 32 := by
        rw [← hx0, hb]
        cases b
        · right; exact ⟨rfl, rfl⟩
        · left; exact ⟨rfl, rfl⟩
      clear hte hb hx0
      obtain ⟨⟨tsu, au, eu⟩, hqu⟩ : ∃ q, lexF u = q := ⟨_, rfl⟩
      obtain ⟨⟨tl, al, el⟩, hql⟩ : ∃ q, lexF ((u ++ [x0]) ++ v) = q := ⟨_, rfl⟩
      obtain ⟨⟨tm, am, em⟩, hqm⟩ : ∃ q, lexF ((u ++ remOf inn) ++ v) = q := ⟨_, rfl⟩
      have hLl : ((u ++ [x0]) ++ v).length = u.length + 1 + v.length := by rw [List.length_append, List.length_append]; rfl
      obtain ⟨R, hRL⟩ : ∃ R, (remOf inn).length = R := ⟨_, rfl⟩
      have hRn : R = inn.length + 5 := by rw [← hRL]; simp [remOf]
      have hLm : ((u ++ remOf inn) ++ v).length = u.length + R + v.length := by rw [List.length_append, List.length_append, hRL]
      have hul := lexF_ok (u := u) (by omega)
      have hal1 := lexF_at (u := (u ++ [x0]) ++ v) (by omega)
      have hal2 := lexF_ok (u := (u ++ [x0]) ++ v) (by omega)
      have hsm := lex_small (u := (u ++ [x0]) ++ v) (by omega)
      have hmany := lexF_many (u := (u ++ [x0]) ++ v) (by omega)
      rw [hqu] at hul
      rw [hql] at hal1 hal2 hsm hmany
      simp only at hul hal1 hal2 hsm hmany
      have hal : al ≤ 2001 := by
        by_cases h0 : el = 0
        · have := hal2 h0; omega
        · have := hal1 h0; omega
      have HLAW := hide (fun (h1 : eu = 0) (h2 : ∀ i, starts [47, 47] (u.drop i) = false) => remarks_law (tl := tl) (al := al) (el := el) (tm := tm) (am := am) (em := em) hl hl2 hl3 hok.out h2 (by rw [hqu, hul h1, h1]) (by rw [HX0.out]; exact hql) hqm)
      obtain ⟨Nu, hNu⟩ : ∃ N, tsu.length = N := ⟨_, rfl⟩
      obtain ⟨N, hN⟩ : ∃ N, tl.length = N := ⟨_, rfl⟩
      obtain ⟨Nm, hNm⟩ : ∃ N, tm.length = N := ⟨_, rfl⟩
      rw [hN, hLl] at hmany
      have HQU := hide hqu
      have HQL := hide hql
      have HQM := hide hqm
      have HNU := hide hNu
      have HN := hide hN
      have HNM := hide hNm
      have HLL := hide hLl
      have HLM := hide hLm
      have HRL := hide hRL
      have HRN := hide hRn
      have hR1 : R ≤ 1005 := by omega
      have hR0 : 5 ≤ R := by omega
      have HSM := hide hsm
      clear hqu hql hqm hLl hLm hRL hRn hul hal1 hal2 hsm hNu hN hNm
      rcases hxb with ⟨rfl, rfl⟩ | ⟨rfl, rfl⟩
      · have hWb := hide (show Below w1.heap.size w1 ((w1.alloc (.cells #[.int .u16 32] 32)).alloc (.cells #[.int .u16 10] 32)) from ((Below.refl _ _).alloc (Nat.le_refl _) _).alloc (by simp) _)
        have hsb : ((w1.alloc (.cells #[.int .u16 32] 32)).alloc (.cells #[.int .u16 10] 32)).heap.size = w1.heap.size + 1 + 1 := by simp
        have hr9 := hide (show Reads ((w1.alloc (.cells #[.int .u16 32] 32)).alloc (.cells #[.int .u16 10] 32)) (w1.heap.size + 1 + 1) 1 (some ⟨w1.heap.size + 1, 0, none⟩) 1 (u16s [10]) by 
            have := reads_lit (w1.alloc (.cells #[.int .u16 32] 32)) 32 (u16s [10]) 1 rfl (by decide)
            rw [show (w1.alloc (.cells #[.int .u16 32] 32)).heap.size = w1.heap.size + 1 by simp] at this
            exact this)
        have hml := hide (show Made ((w1.alloc (.cells #[.int .u16 32] 32)).alloc (.cells #[.int .u16 10] 32)) (((w1.alloc (.cells #[.int .u16 32] 32)).alloc (.cells #[.int .u16 10] 32)).alloc (.cells #[.int .u16 32, .int .u16 47, .int .u16 42] 32)) 32 (.slice (some ⟨w1.heap.size + 1 + 1, 0, none⟩) 3 3) (u16s [32, 47, 42]) by
          have := made_lit (w := (w1.alloc (.cells #[.int .u16 32] 32)).alloc (.cells #[.int .u16 10] 32)) 32 [.int .u16 32, .int .u16 47, .int .u16 42] 3 rfl (by decide)
          rw [hsb] at this
          exact this)
        have hri := hide ((HRI1.out.below (hWb.out.mono hs1)).alloc (by rw [hsb]; omega) (.cells #[.int .u16 32, .int .u16 47, .int .u16 42] 32))
        have HSB := hide hsb
        clear hsb
        go_wp2_with (first | (at_builtin; refine wpList_any rfl _ _ 22 rfl 32 i0 _ 2 Try.underlying22 hi0 hz0 hz1 hz2 rfl (.slice (some ⟨w1.heap.size + 1 + 1, 0, none⟩) 3 3) (u16s [32, 47, 42]) rfl hml.out w.heap.size Ai inn.length ci (u16s inn) rfl hri.out (u16s_one _) (by simp [u16s]; omega) (by omega) ?_; intro va wa hma; have HMA := hide hma; clear hma) | (at_builtin; refine wpList_lit rfl _ _ 22 rfl 32 i0 _ 2 Try.underlying22 hi0 hz0 hz1 hz2 rfl va (u16s [32, 47, 42] ++ u16s inn) rfl HMA.out [.int .u16 42, .int .u16 47] 2 2 rfl rfl rfl (by simp [u16s]; omega) (by omega) ?_; intro v10 w10 hma; have HM10 := hide (show Made ((w1.alloc (.cells #[.int .u16 32] 32)).alloc (.cells #[.int .u16 10] 32)) w10 32 v10 (u16s (remOf inn)) from hma.cells (by simp [u16s, u16v, remOf])); clear hma; obtain ⟨A10, c10, hv10, hl10, hx10, hr10⟩ := HM10.out.u16; rw [HRL.out] at hv10 hl10 hr10; subst hv10))
        have hb10 := hide (show Below w1.heap.size w1 w10 from hWb.out.trans (HM10.out.below.mono hWb.out.size))
        have hs10 : w1.heap.size ≤ w10.heap.size := hb10.out.size
        have HU10 := hide (HR1.out.below (hb10.out.mono hs1))
        have HV10 := hide (HR1'.out.below (hb10.out.mono hs1))
        have hr9' := hide (show Reads w10 w10.heap.size 1 (some ⟨w1.heap.size + 1, 0, none⟩) 1 (u16s [10]) from (hr9.out.below (HM10.out.below.mono (by rw [HSB.out]; exact Nat.le_refl _))).more (by have := HM10.out.below.size; rw [HSB.out] at this; exact this))
        have HB10 := hide (bstep HB1.out hb10.out)
        have HR10 := hide hr10
        clear hml hri hr9 hWb HM10 hb10 HMA hr10 HSB HB1 HR1 HR1' HRI1
        refine (ltok_is (w := w10) (B := w.heap.size) (by omega) rfl HU10.out hc hm HQU.out HNU.out).mono ?_
        rintro e w11 ⟨A11, c11, rfl, _, _, _, hb11⟩
        have HB11 := hide (bstep HB10.out hb11)
        have hs11 : w10.heap.size ≤ w11.heap.size := hb11.size
        have HU11 := hide (HU10.out.below (hb11.mono (by omega)))
        have HV11 := hide (HV10.out.below (hb11.mono (by omega)))
        have hr9 := hide ((hr9'.out.below hb11))
        have hrm := hide ((HR10.out.below hb11))
        clear hb11 hr9' HR10 HU10 HV10 HB10
        by_cases heu : eu = 0
        · have e1 : ((eu : Int) != 0) = false := by rw [heu]; rfl
          have HL2 := hide (HLAW.out heu)
          clear heu HLAW
          go_wp2_with fail
          refine (copyUnits_any (w := w11) (B := w.heap.size) (by omega) HU11.out (by omega)).mono ?_
          rintro e w12 ⟨v12, rfl, hm12⟩
          have HM12 := hide hm12
          have hr9b := hide (hr9.out.below (hm12.below.mono hs11))
          have HV12 := hide (HV11.out.below (hm12.below.mono (by omega)))
          clear hm12
          go_wp2_with (first | (at_builtin; refine wpList_any rfl _ _ 22 rfl 32 i0 _ 2 Try.underlying22 hi0 hz0 hz1 hz2 rfl v12 (u16s u) rfl HM12.out w10.heap.size (some ⟨w1.heap.size + 1, 0, none⟩) 1 1 (u16s [10]) rfl hr9b.out (u16s_one _) (by simp [u16s]; omega) (by omega) ?_; intro v13 w13 hma; have H13 := hide hma; clear hma; have HV13 := hide (HV11.out.below (H13.out.below.mono (show w.heap.size ≤ w11.heap.size by omega)))) | (at_builtin; refine wpList_any rfl _ _ 22 rfl 32 i0 _ 2 Try.underlying22 hi0 hz0 hz1 hz2 rfl v13 (u16s u ++ u16s [10]) rfl H13.out w.heap.size A' v.length c' (u16s v) rfl HV13.out (u16s_one _) (by simp [u16s]; omega) (by omega) ?_; intro v14 w14 hma; have H14 := hide (show Made w11 w14 32 v14 (u16s ((u ++ [10]) ++ v)) from hma.cells (by simp [u16s])); clear hma))
          obtain ⟨A14, c14, rfl, hl14, hx14, hr14⟩ := H14.out.u16
          rw [HLL.out] at hl14 hr14 ⊢
          refine (ltok_is (w := w14) (Nat.le_refl _) HLL.out hr14 hl14 hx14 HQL.out HN.out).mono ?_
          rintro e w15 ⟨A15, c15, rfl, ht15, hc15, _, hb15⟩
          have HT15 := hide ht15
          have hb1115 := hide (bstep H14.out.below hb15)
          have hs15 : w11.heap.size ≤ w15.heap.size := hb1115.out.size
          have HB15 := hide (bstep HB11.out hb1115.out)
          have HU15 := hide (HU11.out.below (hb1115.out.mono (by omega)))
          have HV15 := hide (HV11.out.below (hb1115.out.mono (by omega)))
          have hrm15 := hide (hrm.out.below (hb1115.out.mono hs11))
          clear ht15 hb15 hl14 hx14 hr14 H14 hb1115 HU11 HV11 hrm hr9 hr9b HM12 HV12 H13 HB11
          go_wp2_with fail
          refine (copyUnits_any (w := w15) (B := w.heap.size) (by omega) HU15.out (by omega)).mono ?_
          rintro e w16 ⟨v16, rfl, hm16⟩
          have HM16 := hide hm16
          have hrm16 := hide (hrm15.out.below (hm16.below.mono (by omega)))
          have HV16 := hide (HV15.out.below (hm16.below.mono (by omega)))
          clear hm16
          go_wp2_with (first | (at_builtin; refine wpList_any rfl _ _ 22 rfl 32 i0 _ 2 Try.underlying22 hi0 hz0 hz1 hz2 rfl v16 (u16s u) rfl HM16.out w10.heap.size A10 R c10 (u16s (remOf inn)) rfl hrm16.out (u16s_one _) (by rw [u16s_len]; omega) (by omega) ?_; intro v17 w17 hma; have H17 := hide hma; clear hma; have HV17 := hide (HV15.out.below (H17.out.below.mono (show w.heap.size ≤ w15.heap.size by omega)))) | (at_builtin; refine wpList_any rfl _ _ 22 rfl 32 i0 _ 2 Try.underlying22 hi0 hz0 hz1 hz2 rfl v17 (u16s u ++ u16s (remOf inn)) rfl H17.out w.heap.size A' v.length c' (u16s v) rfl HV17.out (u16s_one _) (by rw [List.length_append, u16s_len, u16s_len, HRL.out]; omega) (by omega) ?_; intro v18 w18 hma; have H18 := hide (show Made w15 w18 32 v18 (u16s ((u ++ remOf inn) ++ v)) from hma.cells (by simp [u16s])); clear hma))
          obtain ⟨A18, c18, rfl, hl18, hx18, hr18⟩ := H18.out.u16
          rw [HLM.out] at hl18 hr18 ⊢
          refine (ltok_is (w := w18) (Nat.le_refl _) HLM.out hr18 hl18 hx18 HQM.out HNM.out).mono ?_
          rintro e w19 ⟨A19, c19, rfl, ht19, hc19, _, hb19⟩
          have HT19 := hide ht19
          have hb1519 := hide (bstep H18.out.below hb19)
          have hs19 : w15.heap.size ≤ w19.heap.size := hb1519.out.size
          have HB19 := hide (bstep HB15.out hb1519.out)
          have HU19 := hide (HU15.out.below (hb1519.out.mono (by omega)))
          have HTL := hide (HT15.out.below hb1519.out)
          clear ht19 hb19 hl18 hx18 hr18 H18 hb1519 HU15 HV15 hrm15 hrm16 HM16 HV16 H17 HB15 HT15
          go_wp2_with fail
          go_loop [20, 21] (fun b i => ∃ k : Nat, k ≤ u.length ∧ i = .int .i64 k ∧ b = .bool (opB u k)) (fun _ i => u.length - (intOf i).toNat)
          case atStart => exact ⟨0, Nat.zero_le _, rfl, rfl⟩
          case round =>
            obtain ⟨q, hq, rfl, rfl⟩ := hrel
            by_cases hlq : q + 1 < u.length
            · have hlq2 : (q : Int) + 1 < (u.length : Int) := by omega
              obtain ⟨blk, off, rfl, _, hcell⟩ := HU19.out.spotL (by omega)
              have hca := hcell q (by omega)
              have hcb := hcell (q + 1) hlq
              have HS := hide (opB_succ u q)
              have hta := two_at hlq
              obtain ⟨X, hX⟩ : ∃ X : Int, (u[q].toNat : Int) = X := ⟨_, rfl⟩
              obtain ⟨Y, hY⟩ : ∃ Y : Int, (u[q + 1].toNat : Int) = Y := ⟨_, rfl⟩
              rw [hX] at hca hta
              rw [hY] at hcb hta
              obtain ⟨b0, hb0⟩ : ∃ b, opB u q = b := ⟨_, rfl⟩
              rw [hb0] at HS ⊢
              obtain ⟨b1, hb1⟩ : ∃ b, (X == 47) = b := ⟨_, rfl⟩
              obtain ⟨b2, hb2⟩ : ∃ b, (Y == 47) = b := ⟨_, rfl⟩
              rw [hb1, hb2] at hta
              have HTA := hide hta
              clear hcell hX hY hb0 hta
              cases b0 <;> cases b1 <;> cases b2
              all_goals
                go_wp2_with fail
                go_round
                case rel => exact ⟨q + 1, by omega, by go_num, by rw [HS.out, HTA.out]; rfl⟩
                case measure => simp [intOf]; omega
            · have hle : (u.length : Int) ≤ (q : Int) + 1 := by omega
              obtain ⟨ob, hob⟩ : ∃ b, opB u q = b := ⟨_, rfl⟩
              rw [hob]
              cases ob with
              | true =>
                clear hob
                go_wp2_with fail
                refine (lfirst_any w19).mono ?_
                rintro e w20 ⟨rfl, hbx⟩
                go_wp2_with fail
                (try rw [Exit.noGoto_ret])
                go_ret
                exact ⟨rfl, bstep HB19.out hbx⟩
              | false =>
                obtain ⟨hem, hbad, hgood⟩ := HL2.out (opB_all hlq hob)
                subst hem
                clear hob HL2
                by_cases hel : em = 0
                · have e0 : ((em : Int) != 0) = false := by rw [hel]; rfl
                  have htm := hgood hel
                  have hNN : Nm = N := by rw [← HNM.out, htm, List.length_map]; exact HN.out
                  subst hNN
                  have HTM := hide htm
                  have eN : ((Nm : Int) != (Nm : Int)) = false := by simp
                  clear hel htm hbad hgood
                  go_wp2_with fail
                  go_loopw [22] (fun i wr => ∃ k : Nat, k ≤ Nm ∧ i = .int .i64 k ∧ Below w19.heap.size w19 wr) (fun i _ => Nm - (intOf i).toNat)
                  case atStart => exact ⟨0, Nat.zero_le _, rfl, Below.refl _ _⟩
                  case round =>
                    obtain ⟨j, hj, rfl, hbr⟩ := hrel
                    by_cases hlj : j < Nm
                    · have hjl : j < tl.length := by rw [HN.out]; exact hlj
                      have hjm : j < tm.length := by rw [HNM.out]; exact hlj
                      obtain ⟨g3, rfl, hg3b, hg3, hat3⟩ := HTL.out.at_ (by omega)
                      obtain ⟨g7, rfl, hg7b, hg7, hat7⟩ := HT19.out.at_ (by omega)
                      obtain ⟨As2, Am2, cs2, cm2, h2⟩ := hat3 j hjl
                      obtain ⟨As4, Am4, cs4, cm4, h4⟩ := hat7 j hjm
                      have hget : tm[j] = movT u.length (4 + inn.length) tl[j] := by
                        have h5 : tm[j]? = some (movT u.length (4 + inn.length) tl[j]) := by
                          rw [HTM.out, List.getElem?_map, List.getElem?_eq_getElem hjl]; rfl
                        rw [List.getElem?_eq_getElem hjm] at h5
                        exact Option.some.inj h5
                      rw [hget] at h4
                      obtain ⟨hsm1, hsm2, hsm3⟩ := HSM.out tl[j] (List.getElem_mem hjl)
                      obtain ⟨t, htt⟩ : ∃ t, tl[j] = t := ⟨_, rfl⟩
                      rw [htt] at h2 h4 hsm1 hsm2 hsm3
                      clear hat3 hat7 htt hjl hjm hget
                      have hBR := hide hbr
                      have hr19 : w19.heap.size ≤ wr.heap.size := hbr.size
                      have hd7 : g7 < wr.heap.size := by omega
                      have H2 := hide (h2.tokR (B := w19.heap.size) hsm1 hsm2 hbr (Nat.le_refl _))
                      have a0 : wr.cell? ⟨g3, j * 9, none⟩ = some (.int .i64 (t.kind : Int)) := (hbr.cell (p := ⟨g3, j * 9, none⟩) hg3).trans h2.k0
                      have a1 : wr.cell? ⟨g3, j * 9 + 1, none⟩ = some (.string ⟨t.text.toArray⟩) := (hbr.cell (p := ⟨g3, j * 9 + 1, none⟩) hg3).trans h2.k1
                      have a2 : wr.cell? ⟨g3, j * 9 + 2, none⟩ = some (.slice As2 t.str.length cs2) := (hbr.cell (p := ⟨g3, j * 9 + 2, none⟩) hg3).trans h2.k2
                      have a3 : wr.cell? ⟨g3, j * 9 + 3, none⟩ = some (.int .i64 t.nk) := (hbr.cell (p := ⟨g3, j * 9 + 3, none⟩) hg3).trans h2.k3
                      have a4 : wr.cell? ⟨g3, j * 9 + 4, none⟩ = some (.int .i64 t.nn) := (hbr.cell (p := ⟨g3, j * 9 + 4, none⟩) hg3).trans h2.k4
                      have a5 : wr.cell? ⟨g3, j * 9 + 5, none⟩ = some (.bool false) := (hbr.cell (p := ⟨g3, j * 9 + 5, none⟩) hg3).trans h2.k5
                      have a6 : wr.cell? ⟨g3, j * 9 + 6, none⟩ = some (.slice Am2 t.mag.length cm2) := (hbr.cell (p := ⟨g3, j * 9 + 6, none⟩) hg3).trans h2.k6
                      have a7 : wr.cell? ⟨g3, j * 9 + 7, none⟩ = some (.int .i64 (t.pos : Int)) := (hbr.cell (p := ⟨g3, j * 9 + 7, none⟩) hg3).trans h2.k7
                      have a8 : wr.cell? ⟨g3, j * 9 + 8, none⟩ = some (.bool t.nl) := (hbr.cell (p := ⟨g3, j * 9 + 8, none⟩) hg3).trans h2.k8
                      obtain ⟨nl, hnl⟩ : ∃ b, t.nl = b := ⟨_, rfl⟩
                      rw [hnl] at a8
                      by_cases hp : u.length < t.pos
                      · have hp2 : (u.length : Int) < (t.pos : Int) := by omega
                        unfold movT at h4
                        rw [if_pos hp] at h4
                        have hpp : ((shiftT (4 + inn.length) t).pos : Int) = ((t.pos : Int) + ((R : Int) - 1)) := by
                          show ((t.pos + (4 + inn.length) : Nat) : Int) = _
                          have := HRN.out
                          omega
                        have hpp2 : ((t.pos + (4 + inn.length) : Nat) : Int) = ((t.pos : Int) + ((R : Int) - 1)) := hpp
                        have H4 := hide (h4.tokR (B := w19.heap.size) (by exact hsm1) (by exact hsm2) hbr (Nat.le_refl _))
                        have HT4r := hide (show T9 wr g7 (j * 9) (.int .i64 (t.kind : Int)) (.string ⟨t.text.toArray⟩) (.slice As4 t.str.length cs4) (.int .i64 t.nk) (.int .i64 t.nn) (.bool false) (.slice Am4 t.mag.length cm4) (.int .i64 ((t.pos : Int) + ((R : Int) - 1))) (.bool nl) from (h4.t9 (p := ((t.pos : Int) + ((R : Int) - 1))) (nl := nl) hpp hnl).below hbr hg7)
                        clear h2 h4 hbr hnl
                        go_wp2_with fail
                        obtain ⟨W, hW⟩ : ∃ W, wr.alloc (.cells #[.int .i64 (t.kind : Int), .string ⟨t.text.toArray⟩, .slice As2 t.str.length cs2, .int .i64 t.nk, .int .i64 t.nn, .bool false, .slice Am2 t.mag.length cm2, .int .i64 ((t.pos : Int) + ((R : Int) - 1)), .bool nl] 39) = W := ⟨_, rfl⟩
                        rw [hW]
                        have hbW := hide (show Below wr.heap.size wr W by rw [← hW]; exact (Below.refl _ _).alloc (Nat.le_refl _) _)
                        have hsW : wr.heap.size + 1 = W.heap.size := by rw [← hW]; simp
                        have HTp := hide (show T9 W wr.heap.size 0 (.int .i64 (t.kind : Int)) (.string ⟨t.text.toArray⟩) (.slice As2 t.str.length cs2) (.int .i64 t.nk) (.int .i64 t.nn) (.bool false) (.slice Am2 t.mag.length cm2) (.int .i64 ((t.pos : Int) + ((R : Int) - 1))) (.bool nl) from T9.of_blk (by rw [← hW]; exact Blk.new wr _ 39))
                        have HTm := hide (show T9 W g7 (j * 9) (.int .i64 (t.kind : Int)) (.string ⟨t.text.toArray⟩) (.slice As4 t.str.length cs4) (.int .i64 t.nk) (.int .i64 t.nn) (.bool false) (.slice Am4 t.mag.length cm4) (.int .i64 ((t.pos : Int) + ((R : Int) - 1))) (.bool nl) from HT4r.out.below hbW.out hd7)
                        have H4W := hide (H4.out.below (hbW.out.mono hr19))
                        have H2W := hide (H2.out.below (hbW.out.mono hr19))
                        have hWW : w19.heap.size ≤ W.heap.size := by omega
                        clear hW a0 a1 a2 a3 a4 a5 a6 a7 a8
                        have C1 := hide (rtoken_c t.kind t.text t.str t.nk t.nn t.mag (t.pos + (4 + inn.length)) ((t.pos : Int) + ((R : Int) - 1)) nl As2 Am2 As4 Am4 cs2 cm2 cs4 cm4 w19.heap.size W.drew hpp2 (by simpa using hWW) H2W.out.str.drew H2W.out.mag.drew H4W.out.str.drew H4W.out.mag.drew H2W.out.strl H2W.out.magl)
                        have hd0 : wr.heap.size < W.heap.size := by omega
                        have hd4 : g7 < W.heap.size := by omega
                        go_region_held3 (fun w' => (w'.cell? ⟨wr.heap.size, 0, none⟩ = some (.int .i64 (t.kind : Int)) ∧ w'.cell? ⟨wr.heap.size, 1, none⟩ = some (.string ⟨t.text.toArray⟩) ∧ w'.cell? ⟨wr.heap.size, 2, none⟩ = some (.slice As2 t.str.length cs2) ∧ w'.cell? ⟨wr.heap.size, 3, none⟩ = some (.int .i64 t.nk) ∧ w'.cell? ⟨wr.heap.size, 4, none⟩ = some (.int .i64 t.nn) ∧ w'.cell? ⟨wr.heap.size, 5, none⟩ = some (.bool false) ∧ w'.cell? ⟨wr.heap.size, 6, none⟩ = some (.slice Am2 t.mag.length cm2) ∧ w'.cell? ⟨wr.heap.size, 7, none⟩ = some (.int .i64 ((t.pos : Int) + ((R : Int) - 1))) ∧ w'.cell? ⟨wr.heap.size, 8, none⟩ = some (.bool nl)) ∧ (w'.cell? ⟨g7, j * 9, none⟩ = some (.int .i64 (t.kind : Int)) ∧ w'.cell? ⟨g7, j * 9 + 1, none⟩ = some (.string ⟨t.text.toArray⟩) ∧ w'.cell? ⟨g7, j * 9 + 2, none⟩ = some (.slice As4 t.str.length cs4) ∧ w'.cell? ⟨g7, j * 9 + 3, none⟩ = some (.int .i64 t.nk) ∧ w'.cell? ⟨g7, j * 9 + 4, none⟩ = some (.int .i64 t.nn) ∧ w'.cell? ⟨g7, j * 9 + 5, none⟩ = some (.bool false) ∧ w'.cell? ⟨g7, j * 9 + 6, none⟩ = some (.slice Am4 t.mag.length cm4) ∧ w'.cell? ⟨g7, j * 9 + 7, none⟩ = some (.int .i64 ((t.pos : Int) + ((R : Int) - 1))) ∧ w'.cell? ⟨g7, j * 9 + 8, none⟩ = some (.bool nl)))
                          (first | (exact ⟨HTp.out, HTm.out⟩) | (exact ⟨HTp.out.below (below_drew' hb8) hd0, HTm.out.below (below_drew' hb8) hd4⟩) | go_keep)
                          (first | (go_at_call 18; go_split_ands; (with_reducible refine C1.out.mono ?_); rintro e8 w8 ⟨rfl, hb8⟩))
                        all_goals go_wp2_with fail
                        all_goals go_roundw
                        case rel => exact ⟨j + 1, by omega, by go_num, hBR.out.trans ((bstep hbW.out (below_drew' hb8)).mono hr19)⟩
                        case measure => simp [intOf]; omega
                      · have hp2 : ¬ (u.length : Int) < (t.pos : Int) := by omega
                        unfold movT at h4
                        rw [if_neg hp] at h4
                        have H4 := hide (h4.tokR (B := w19.heap.size) (by exact hsm1) (by exact hsm2) hbr (Nat.le_refl _))
                        have HT4r := hide (show T9 wr g7 (j * 9) (.int .i64 (t.kind : Int)) (.string ⟨t.text.toArray⟩) (.slice As4 t.str.length cs4) (.int .i64 t.nk) (.int .i64 t.nn) (.bool false) (.slice Am4 t.mag.length cm4) (.int .i64 (t.pos : Int)) (.bool nl) from (h4.t9 (p := (t.pos : Int)) (nl := nl) rfl hnl).below hbr hg7)
                        clear h2 h4 hbr hnl
                        go_wp2_with fail
                        obtain ⟨W, hW⟩ : ∃ W, wr.alloc (.cells #[.int .i64 (t.kind : Int), .string ⟨t.text.toArray⟩, .slice As2 t.str.length cs2, .int .i64 t.nk, .int .i64 t.nn, .bool false, .slice Am2 t.mag.length cm2, .int .i64 (t.pos : Int), .bool nl] 39) = W := ⟨_, rfl⟩
                        rw [hW]
                        have hbW := hide (show Below wr.heap.size wr W by rw [← hW]; exact (Below.refl _ _).alloc (Nat.le_refl _) _)
                        have hsW : wr.heap.size + 1 = W.heap.size := by rw [← hW]; simp
                        have HTp := hide (show T9 W wr.heap.size 0 (.int .i64 (t.kind : Int)) (.string ⟨t.text.toArray⟩) (.slice As2 t.str.length cs2) (.int .i64 t.nk) (.int .i64 t.nn) (.bool false) (.slice Am2 t.mag.length cm2) (.int .i64 (t.pos : Int)) (.bool nl) from T9.of_blk (by rw [← hW]; exact Blk.new wr _ 39))
                        have HTm := hide (show T9 W g7 (j * 9) (.int .i64 (t.kind : Int)) (.string ⟨t.text.toArray⟩) (.slice As4 t.str.length cs4) (.int .i64 t.nk) (.int .i64 t.nn) (.bool false) (.slice Am4 t.mag.length cm4) (.int .i64 (t.pos : Int)) (.bool nl) from HT4r.out.below hbW.out hd7)
                        have H4W := hide (H4.out.below (hbW.out.mono hr19))
                        have H2W := hide (H2.out.below (hbW.out.mono hr19))
                        have hWW : w19.heap.size ≤ W.heap.size := by omega
                        clear hW a0 a1 a2 a3 a4 a5 a6 a7 a8
                        have C1 := hide (rtoken_c t.kind t.text t.str t.nk t.nn t.mag t.pos (t.pos : Int) nl As2 Am2 As4 Am4 cs2 cm2 cs4 cm4 w19.heap.size W.drew rfl (by simpa using hWW) H2W.out.str.drew H2W.out.mag.drew H4W.out.str.drew H4W.out.mag.drew H2W.out.strl H2W.out.magl)
                        have hd0 : wr.heap.size < W.heap.size := by omega
                        have hd4 : g7 < W.heap.size := by omega
                        go_region_held3 (fun w' => (w'.cell? ⟨wr.heap.size, 0, none⟩ = some (.int .i64 (t.kind : Int)) ∧ w'.cell? ⟨wr.heap.size, 1, none⟩ = some (.string ⟨t.text.toArray⟩) ∧ w'.cell? ⟨wr.heap.size, 2, none⟩ = some (.slice As2 t.str.length cs2) ∧ w'.cell? ⟨wr.heap.size, 3, none⟩ = some (.int .i64 t.nk) ∧ w'.cell? ⟨wr.heap.size, 4, none⟩ = some (.int .i64 t.nn) ∧ w'.cell? ⟨wr.heap.size, 5, none⟩ = some (.bool false) ∧ w'.cell? ⟨wr.heap.size, 6, none⟩ = some (.slice Am2 t.mag.length cm2) ∧ w'.cell? ⟨wr.heap.size, 7, none⟩ = some (.int .i64 (t.pos : Int)) ∧ w'.cell? ⟨wr.heap.size, 8, none⟩ = some (.bool nl)) ∧ (w'.cell? ⟨g7, j * 9, none⟩ = some (.int .i64 (t.kind : Int)) ∧ w'.cell? ⟨g7, j * 9 + 1, none⟩ = some (.string ⟨t.text.toArray⟩) ∧ w'.cell? ⟨g7, j * 9 + 2, none⟩ = some (.slice As4 t.str.length cs4) ∧ w'.cell? ⟨g7, j * 9 + 3, none⟩ = some (.int .i64 t.nk) ∧ w'.cell? ⟨g7, j * 9 + 4, none⟩ = some (.int .i64 t.nn) ∧ w'.cell? ⟨g7, j * 9 + 5, none⟩ = some (.bool false) ∧ w'.cell? ⟨g7, j * 9 + 6, none⟩ = some (.slice Am4 t.mag.length cm4) ∧ w'.cell? ⟨g7, j * 9 + 7, none⟩ = some (.int .i64 (t.pos : Int)) ∧ w'.cell? ⟨g7, j * 9 + 8, none⟩ = some (.bool nl)))
                          (first | (exact ⟨HTp.out, HTm.out⟩) | (exact ⟨HTp.out.below (below_drew' hb8) hd0, HTm.out.below (below_drew' hb8) hd4⟩) | go_keep)
                          (first | (go_at_call 18; go_split_ands; (with_reducible refine C1.out.mono ?_); rintro e8 w8 ⟨rfl, hb8⟩))
                        all_goals go_wp2_with fail
                        all_goals go_roundw
                        case rel => exact ⟨j + 1, by omega, by go_num, hBR.out.trans ((bstep hbW.out (below_drew' hb8)).mono hr19)⟩
                        case measure => simp [intOf]; omega
                    · go_wp2_with fail
                      refine (lfirst_any wr).mono ?_
                      rintro e w20 ⟨rfl, hb20⟩
                      go_wp2_with fail
                      go_ret
                      exact ⟨rfl, HB19.out.trans ((hbr.trans (hb20.mono hbr.size)).mono HB19.out.size)⟩
                · have e0 : ((em : Int) != 0) = true := by rw [bne_iff_ne]; omega
                  have ham := hbad hel
                  have eA : ((am : Int) == (al : Int) + (R : Int) - 1) = true := by
                    have := HRN.out
                    rw [beq_iff_eq]; omega
                  clear hel ham hbad hgood
                  go_wp2_with fail
                  refine (lfirst_any w19).mono ?_
                  rintro e w20 ⟨rfl, hb20⟩
                  go_wp2_with fail
                  go_ret
                  exact ⟨rfl, bstep HB19.out hb20⟩
        · have e1 : ((eu : Int) != 0) = true := by rw [bne_iff_ne]; omega
          clear heu HLAW
          go_wp2_with fail
          refine (lfirst_any w11).mono ?_
          rintro e w20 ⟨rfl, hbx⟩
          go_wp2_with fail
          (try rw [Exit.noGoto_ret])
          go_ret
          exact ⟨rfl, bstep HB11.out hbx⟩
      · have hWb := hide (show Below w1.heap.size w1 (w1.alloc (.cells #[.int .u16 32] 32)) from (Below.refl _ _).alloc (Nat.le_refl _) _)
        have hsb : (w1.alloc (.cells #[.int .u16 32] 32)).heap.size = w1.heap.size + 1 := by simp
        have hr9 := hide (show Reads (w1.alloc (.cells #[.int .u16 32] 32)) (w1.heap.size + 1) 1 (some ⟨w1.heap.size, 0, none⟩) 1 (u16s [32]) by exact reads_lit w1 32 (u16s [32]) 1 rfl (by decide))
        have hml := hide (show Made (w1.alloc (.cells #[.int .u16 32] 32)) ((w1.alloc (.cells #[.int .u16 32] 32)).alloc (.cells #[.int .u16 32, .int .u16 47, .int .u16 42] 32)) 32 (.slice (some ⟨w1.heap.size + 1, 0, none⟩) 3 3) (u16s [32, 47, 42]) by
          have := made_lit (w := w1.alloc (.cells #[.int .u16 32] 32)) 32 [.int .u16 32, .int .u16 47, .int .u16 42] 3 rfl (by decide)
          rw [hsb] at this
          exact this)
        have hri := hide ((HRI1.out.below (hWb.out.mono hs1)).alloc (by rw [hsb]; omega) (.cells #[.int .u16 32, .int .u16 47, .int .u16 42] 32))
        have HSB := hide hsb
        clear hsb
        go_wp2_with (first | (at_builtin; refine wpList_any rfl _ _ 22 rfl 32 i0 _ 2 Try.underlying22 hi0 hz0 hz1 hz2 rfl (.slice (some ⟨w1.heap.size + 1, 0, none⟩) 3 3) (u16s [32, 47, 42]) rfl hml.out w.heap.size Ai inn.length ci (u16s inn) rfl hri.out (u16s_one _) (by simp [u16s]; omega) (by omega) ?_; intro va wa hma; have HMA := hide hma; clear hma) | (at_builtin; refine wpList_lit rfl _ _ 22 rfl 32 i0 _ 2 Try.underlying22 hi0 hz0 hz1 hz2 rfl va (u16s [32, 47, 42] ++ u16s inn) rfl HMA.out [.int .u16 42, .int .u16 47] 2 2 rfl rfl rfl (by simp [u16s]; omega) (by omega) ?_; intro v10 w10 hma; have HM10 := hide (show Made (w1.alloc (.cells #[.int .u16 32] 32)) w10 32 v10 (u16s (remOf inn)) from hma.cells (by simp [u16s, u16v, remOf])); clear hma; obtain ⟨A10, c10, hv10, hl10, hx10, hr10⟩ := HM10.out.u16; rw [HRL.out] at hv10 hl10 hr10; subst hv10))
        have hb10 := hide (show Below w1.heap.size w1 w10 from hWb.out.trans (HM10.out.below.mono hWb.out.size))
        have hs10 : w1.heap.size ≤ w10.heap.size := hb10.out.size
        have HU10 := hide (HR1.out.below (hb10.out.mono hs1))
        have HV10 := hide (HR1'.out.below (hb10.out.mono hs1))
        have hr9' := hide (show Reads w10 w10.heap.size 1 (some ⟨w1.heap.size, 0, none⟩) 1 (u16s [32]) from (hr9.out.below (HM10.out.below.mono (by rw [HSB.out]; exact Nat.le_refl _))).more (by have := HM10.out.below.size; rw [HSB.out] at this; exact this))
        have HB10 := hide (bstep HB1.out hb10.out)
        have HR10 := hide hr10
        clear hml hri hr9 hWb HM10 hb10 HMA hr10 HSB HB1 HR1 HR1' HRI1
        refine (ltok_is (w := w10) (B := w.heap.size) (by omega) rfl HU10.out hc hm HQU.out HNU.out).mono ?_
        rintro e w11 ⟨A11, c11, rfl, _, _, _, hb11⟩
        have HB11 := hide (bstep HB10.out hb11)
        have hs11 : w10.heap.size ≤ w11.heap.size := hb11.size
        have HU11 := hide (HU10.out.below (hb11.mono (by omega)))
        have HV11 := hide (HV10.out.below (hb11.mono (by omega)))
        have hr9 := hide ((hr9'.out.below hb11))
        have hrm := hide ((HR10.out.below hb11))
        clear hb11 hr9' HR10 HU10 HV10 HB10
        by_cases heu : eu = 0
        · have e1 : ((eu : Int) != 0) = false := by rw [heu]; rfl
          have HL2 := hide (HLAW.out heu)
          clear heu HLAW
          go_wp2_with fail
          refine (copyUnits_any (w := w11) (B := w.heap.size) (by omega) HU11.out (by omega)).mono ?_
          rintro e w12 ⟨v12, rfl, hm12⟩
          have HM12 := hide hm12
          have hr9b := hide (hr9.out.below (hm12.below.mono hs11))
          have HV12 := hide (HV11.out.below (hm12.below.mono (by omega)))
          clear hm12
          go_wp2_with (first | (at_builtin; refine wpList_any rfl _ _ 22 rfl 32 i0 _ 2 Try.underlying22 hi0 hz0 hz1 hz2 rfl v12 (u16s u) rfl HM12.out w10.heap.size (some ⟨w1.heap.size, 0, none⟩) 1 1 (u16s [32]) rfl hr9b.out (u16s_one _) (by simp [u16s]; omega) (by omega) ?_; intro v13 w13 hma; have H13 := hide hma; clear hma; have HV13 := hide (HV11.out.below (H13.out.below.mono (show w.heap.size ≤ w11.heap.size by omega)))) | (at_builtin; refine wpList_any rfl _ _ 22 rfl 32 i0 _ 2 Try.underlying22 hi0 hz0 hz1 hz2 rfl v13 (u16s u ++ u16s [32]) rfl H13.out w.heap.size A' v.length c' (u16s v) rfl HV13.out (u16s_one _) (by simp [u16s]; omega) (by omega) ?_; intro v14 w14 hma; have H14 := hide (show Made w11 w14 32 v14 (u16s ((u ++ [32]) ++ v)) from hma.cells (by simp [u16s])); clear hma))
          obtain ⟨A14, c14, rfl, hl14, hx14, hr14⟩ := H14.out.u16
          rw [HLL.out] at hl14 hr14 ⊢
          refine (ltok_is (w := w14) (Nat.le_refl _) HLL.out hr14 hl14 hx14 HQL.out HN.out).mono ?_
          rintro e w15 ⟨A15, c15, rfl, ht15, hc15, _, hb15⟩
          have HT15 := hide ht15
          have hb1115 := hide (bstep H14.out.below hb15)
          have hs15 : w11.heap.size ≤ w15.heap.size := hb1115.out.size
          have HB15 := hide (bstep HB11.out hb1115.out)
          have HU15 := hide (HU11.out.below (hb1115.out.mono (by omega)))
          have HV15 := hide (HV11.out.below (hb1115.out.mono (by omega)))
          have hrm15 := hide (hrm.out.below (hb1115.out.mono hs11))
          clear ht15 hb15 hl14 hx14 hr14 H14 hb1115 HU11 HV11 hrm hr9 hr9b HM12 HV12 H13 HB11
          go_wp2_with fail
          refine (copyUnits_any (w := w15) (B := w.heap.size) (by omega) HU15.out (by omega)).mono ?_
          rintro e w16 ⟨v16, rfl, hm16⟩
          have HM16 := hide hm16
          have hrm16 := hide (hrm15.out.below (hm16.below.mono (by omega)))
          have HV16 := hide (HV15.out.below (hm16.below.mono (by omega)))
          clear hm16
          go_wp2_with (first | (at_builtin; refine wpList_any rfl _ _ 22 rfl 32 i0 _ 2 Try.underlying22 hi0 hz0 hz1 hz2 rfl v16 (u16s u) rfl HM16.out w10.heap.size A10 R c10 (u16s (remOf inn)) rfl hrm16.out (u16s_one _) (by rw [u16s_len]; omega) (by omega) ?_; intro v17 w17 hma; have H17 := hide hma; clear hma; have HV17 := hide (HV15.out.below (H17.out.below.mono (show w.heap.size ≤ w15.heap.size by omega)))) | (at_builtin; refine wpList_any rfl _ _ 22 rfl 32 i0 _ 2 Try.underlying22 hi0 hz0 hz1 hz2 rfl v17 (u16s u ++ u16s (remOf inn)) rfl H17.out w.heap.size A' v.length c' (u16s v) rfl HV17.out (u16s_one _) (by rw [List.length_append, u16s_len, u16s_len, HRL.out]; omega) (by omega) ?_; intro v18 w18 hma; have H18 := hide (show Made w15 w18 32 v18 (u16s ((u ++ remOf inn) ++ v)) from hma.cells (by simp [u16s])); clear hma))
          obtain ⟨A18, c18, rfl, hl18, hx18, hr18⟩ := H18.out.u16
          rw [HLM.out] at hl18 hr18 ⊢
          refine (ltok_is (w := w18) (Nat.le_refl _) HLM.out hr18 hl18 hx18 HQM.out HNM.out).mono ?_
          rintro e w19 ⟨A19, c19, rfl, ht19, hc19, _, hb19⟩
          have HT19 := hide ht19
          have hb1519 := hide (bstep H18.out.below hb19)
          have hs19 : w15.heap.size ≤ w19.heap.size := hb1519.out.size
          have HB19 := hide (bstep HB15.out hb1519.out)
          have HU19 := hide (HU15.out.below (hb1519.out.mono (by omega)))
          have HTL := hide (HT15.out.below hb1519.out)
          clear ht19 hb19 hl18 hx18 hr18 H18 hb1519 HU15 HV15 hrm15 hrm16 HM16 HV16 H17 HB15 HT15
          go_wp2_with fail
          go_loop [20, 21] (fun b i => ∃ k : Nat, k ≤ u.length ∧ i = .int .i64 k ∧ b = .bool (opB u k)) (fun _ i => u.length - (intOf i).toNat)
          case atStart => exact ⟨0, Nat.zero_le _, rfl, rfl⟩
          case round =>
            obtain ⟨q, hq, rfl, rfl⟩ := hrel
            by_cases hlq : q + 1 < u.length
            · have hlq2 : (q : Int) + 1 < (u.length : Int) := by omega
              obtain ⟨blk, off, rfl, _, hcell⟩ := HU19.out.spotL (by omega)
              have hca := hcell q (by omega)
              have hcb := hcell (q + 1) hlq
              have HS := hide (opB_succ u q)
              have hta := two_at hlq
              obtain ⟨X, hX⟩ : ∃ X : Int, (u[q].toNat : Int) = X := ⟨_, rfl⟩
              obtain ⟨Y, hY⟩ : ∃ Y : Int, (u[q + 1].toNat : Int) = Y := ⟨_, rfl⟩
              rw [hX] at hca hta
              rw [hY] at hcb hta
              obtain ⟨b0, hb0⟩ : ∃ b, opB u q = b := ⟨_, rfl⟩
              rw [hb0] at HS ⊢
              obtain ⟨b1, hb1⟩ : ∃ b, (X == 47) = b := ⟨_, rfl⟩
              obtain ⟨b2, hb2⟩ : ∃ b, (Y == 47) = b := ⟨_, rfl⟩
              rw [hb1, hb2] at hta
              have HTA := hide hta
              clear hcell hX hY hb0 hta
              cases b0 <;> cases b1 <;> cases b2
              all_goals
                go_wp2_with fail
                go_round
                case rel => exact ⟨q + 1, by omega, by go_num, by rw [HS.out, HTA.out]; rfl⟩
                case measure => simp [intOf]; omega
            · have hle : (u.length : Int) ≤ (q : Int) + 1 := by omega
              obtain ⟨ob, hob⟩ : ∃ b, opB u q = b := ⟨_, rfl⟩
              rw [hob]
              cases ob with
              | true =>
                clear hob
                go_wp2_with fail
                refine (lfirst_any w19).mono ?_
                rintro e w20 ⟨rfl, hbx⟩
                go_wp2_with fail
                (try rw [Exit.noGoto_ret])
                go_ret
                exact ⟨rfl, bstep HB19.out hbx⟩
              | false =>
                obtain ⟨hem, hbad, hgood⟩ := HL2.out (opB_all hlq hob)
                subst hem
                clear hob HL2
                by_cases hel : em = 0
                · have e0 : ((em : Int) != 0) = false := by rw [hel]; rfl
                  have htm := hgood hel
                  have hNN : Nm = N := by rw [← HNM.out, htm, List.length_map]; exact HN.out
                  subst hNN
                  have HTM := hide htm
                  have eN : ((Nm : Int) != (Nm : Int)) = false := by simp
                  clear hel htm hbad hgood
                  go_wp2_with fail
                  go_loopw [22] (fun i wr => ∃ k : Nat, k ≤ Nm ∧ i = .int .i64 k ∧ Below w19.heap.size w19 wr) (fun i _ => Nm - (intOf i).toNat)
                  case atStart => exact ⟨0, Nat.zero_le _, rfl, Below.refl _ _⟩
                  case round =>
                    obtain ⟨j, hj, rfl, hbr⟩ := hrel
                    by_cases hlj : j < Nm
                    · have hjl : j < tl.length := by rw [HN.out]; exact hlj
                      have hjm : j < tm.length := by rw [HNM.out]; exact hlj
                      obtain ⟨g3, rfl, hg3b, hg3, hat3⟩ := HTL.out.at_ (by omega)
                      obtain ⟨g7, rfl, hg7b, hg7, hat7⟩ := HT19.out.at_ (by omega)
                      obtain ⟨As2, Am2, cs2, cm2, h2⟩ := hat3 j hjl
                      obtain ⟨As4, Am4, cs4, cm4, h4⟩ := hat7 j hjm
                      have hget : tm[j] = movT u.length (4 + inn.length) tl[j] := by
                        have h5 : tm[j]? = some (movT u.length (4 + inn.length) tl[j]) := by
                          rw [HTM.out, List.getElem?_map, List.getElem?_eq_getElem hjl]; rfl
                        rw [List.getElem?_eq_getElem hjm] at h5
                        exact Option.some.inj h5
                      rw [hget] at h4
                      obtain ⟨hsm1, hsm2, hsm3⟩ := HSM.out tl[j] (List.getElem_mem hjl)
                      obtain ⟨t, htt⟩ : ∃ t, tl[j] = t := ⟨_, rfl⟩
                      rw [htt] at h2 h4 hsm1 hsm2 hsm3
                      clear hat3 hat7 htt hjl hjm hget
                      have hBR := hide hbr
                      have hr19 : w19.heap.size ≤ wr.heap.size := hbr.size
                      have hd7 : g7 < wr.heap.size := by omega
                      have H2 := hide (h2.tokR (B := w19.heap.size) hsm1 hsm2 hbr (Nat.le_refl _))
                      have a0 : wr.cell? ⟨g3, j * 9, none⟩ = some (.int .i64 (t.kind : Int)) := (hbr.cell (p := ⟨g3, j * 9, none⟩) hg3).trans h2.k0
                      have a1 : wr.cell? ⟨g3, j * 9 + 1, none⟩ = some (.string ⟨t.text.toArray⟩) := (hbr.cell (p := ⟨g3, j * 9 + 1, none⟩) hg3).trans h2.k1
                      have a2 : wr.cell? ⟨g3, j * 9 + 2, none⟩ = some (.slice As2 t.str.length cs2) := (hbr.cell (p := ⟨g3, j * 9 + 2, none⟩) hg3).trans h2.k2
                      have a3 : wr.cell? ⟨g3, j * 9 + 3, none⟩ = some (.int .i64 t.nk) := (hbr.cell (p := ⟨g3, j * 9 + 3, none⟩) hg3).trans h2.k3
                      have a4 : wr.cell? ⟨g3, j * 9 + 4, none⟩ = some (.int .i64 t.nn) := (hbr.cell (p := ⟨g3, j * 9 + 4, none⟩) hg3).trans h2.k4
                      have a5 : wr.cell? ⟨g3, j * 9 + 5, none⟩ = some (.bool false) := (hbr.cell (p := ⟨g3, j * 9 + 5, none⟩) hg3).trans h2.k5
                      have a6 : wr.cell? ⟨g3, j * 9 + 6, none⟩ = some (.slice Am2 t.mag.length cm2) := (hbr.cell (p := ⟨g3, j * 9 + 6, none⟩) hg3).trans h2.k6
                      have a7 : wr.cell? ⟨g3, j * 9 + 7, none⟩ = some (.int .i64 (t.pos : Int)) := (hbr.cell (p := ⟨g3, j * 9 + 7, none⟩) hg3).trans h2.k7
                      have a8 : wr.cell? ⟨g3, j * 9 + 8, none⟩ = some (.bool t.nl) := (hbr.cell (p := ⟨g3, j * 9 + 8, none⟩) hg3).trans h2.k8
                      obtain ⟨nl, hnl⟩ : ∃ b, t.nl = b := ⟨_, rfl⟩
                      rw [hnl] at a8
                      by_cases hp : u.length < t.pos
                      · have hp2 : (u.length : Int) < (t.pos : Int) := by omega
                        unfold movT at h4
                        rw [if_pos hp] at h4
                        have hpp : ((shiftT (4 + inn.length) t).pos : Int) = ((t.pos : Int) + ((R : Int) - 1)) := by
                          show ((t.pos + (4 + inn.length) : Nat) : Int) = _
                          have := HRN.out
                          omega
                        have hpp2 : ((t.pos + (4 + inn.length) : Nat) : Int) = ((t.pos : Int) + ((R : Int) - 1)) := hpp
                        have H4 := hide (h4.tokR (B := w19.heap.size) (by exact hsm1) (by exact hsm2) hbr (Nat.le_refl _))
                        have HT4r := hide (show T9 wr g7 (j * 9) (.int .i64 (t.kind : Int)) (.string ⟨t.text.toArray⟩) (.slice As4 t.str.length cs4) (.int .i64 t.nk) (.int .i64 t.nn) (.bool false) (.slice Am4 t.mag.length cm4) (.int .i64 ((t.pos : Int) + ((R : Int) - 1))) (.bool nl) from (h4.t9 (p := ((t.pos : Int) + ((R : Int) - 1))) (nl := nl) hpp hnl).below hbr hg7)
                        clear h2 h4 hbr hnl
                        go_wp2_with fail
                        obtain ⟨W, hW⟩ : ∃ W, wr.alloc (.cells #[.int .i64 (t.kind : Int), .string ⟨t.text.toArray⟩, .slice As2 t.str.length cs2, .int .i64 t.nk, .int .i64 t.nn, .bool false, .slice Am2 t.mag.length cm2, .int .i64 ((t.pos : Int) + ((R : Int) - 1)), .bool nl] 39) = W := ⟨_, rfl⟩
                        rw [hW]
                        have hbW := hide (show Below wr.heap.size wr W by rw [← hW]; exact (Below.refl _ _).alloc (Nat.le_refl _) _)
                        have hsW : wr.heap.size + 1 = W.heap.size := by rw [← hW]; simp
                        have HTp := hide (show T9 W wr.heap.size 0 (.int .i64 (t.kind : Int)) (.string ⟨t.text.toArray⟩) (.slice As2 t.str.length cs2) (.int .i64 t.nk) (.int .i64 t.nn) (.bool false) (.slice Am2 t.mag.length cm2) (.int .i64 ((t.pos : Int) + ((R : Int) - 1))) (.bool nl) from T9.of_blk (by rw [← hW]; exact Blk.new wr _ 39))
                        have HTm := hide (show T9 W g7 (j * 9) (.int .i64 (t.kind : Int)) (.string ⟨t.text.toArray⟩) (.slice As4 t.str.length cs4) (.int .i64 t.nk) (.int .i64 t.nn) (.bool false) (.slice Am4 t.mag.length cm4) (.int .i64 ((t.pos : Int) + ((R : Int) - 1))) (.bool nl) from HT4r.out.below hbW.out hd7)
                        have H4W := hide (H4.out.below (hbW.out.mono hr19))
                        have H2W := hide (H2.out.below (hbW.out.mono hr19))
                        have hWW : w19.heap.size ≤ W.heap.size := by omega
                        clear hW a0 a1 a2 a3 a4 a5 a6 a7 a8
                        have C1 := hide (rtoken_c t.kind t.text t.str t.nk t.nn t.mag (t.pos + (4 + inn.length)) ((t.pos : Int) + ((R : Int) - 1)) nl As2 Am2 As4 Am4 cs2 cm2 cs4 cm4 w19.heap.size W.drew hpp2 (by simpa using hWW) H2W.out.str.drew H2W.out.mag.drew H4W.out.str.drew H4W.out.mag.drew H2W.out.strl H2W.out.magl)
                        have hd0 : wr.heap.size < W.heap.size := by omega
                        have hd4 : g7 < W.heap.size := by omega
                        go_region_held3 (fun w' => (w'.cell? ⟨wr.heap.size, 0, none⟩ = some (.int .i64 (t.kind : Int)) ∧ w'.cell? ⟨wr.heap.size, 1, none⟩ = some (.string ⟨t.text.toArray⟩) ∧ w'.cell? ⟨wr.heap.size, 2, none⟩ = some (.slice As2 t.str.length cs2) ∧ w'.cell? ⟨wr.heap.size, 3, none⟩ = some (.int .i64 t.nk) ∧ w'.cell? ⟨wr.heap.size, 4, none⟩ = some (.int .i64 t.nn) ∧ w'.cell? ⟨wr.heap.size, 5, none⟩ = some (.bool false) ∧ w'.cell? ⟨wr.heap.size, 6, none⟩ = some (.slice Am2 t.mag.length cm2) ∧ w'.cell? ⟨wr.heap.size, 7, none⟩ = some (.int .i64 ((t.pos : Int) + ((R : Int) - 1))) ∧ w'.cell? ⟨wr.heap.size, 8, none⟩ = some (.bool nl)) ∧ (w'.cell? ⟨g7, j * 9, none⟩ = some (.int .i64 (t.kind : Int)) ∧ w'.cell? ⟨g7, j * 9 + 1, none⟩ = some (.string ⟨t.text.toArray⟩) ∧ w'.cell? ⟨g7, j * 9 + 2, none⟩ = some (.slice As4 t.str.length cs4) ∧ w'.cell? ⟨g7, j * 9 + 3, none⟩ = some (.int .i64 t.nk) ∧ w'.cell? ⟨g7, j * 9 + 4, none⟩ = some (.int .i64 t.nn) ∧ w'.cell? ⟨g7, j * 9 + 5, none⟩ = some (.bool false) ∧ w'.cell? ⟨g7, j * 9 + 6, none⟩ = some (.slice Am4 t.mag.length cm4) ∧ w'.cell? ⟨g7, j * 9 + 7, none⟩ = some (.int .i64 ((t.pos : Int) + ((R : Int) - 1))) ∧ w'.cell? ⟨g7, j * 9 + 8, none⟩ = some (.bool nl)))
                          (first | (exact ⟨HTp.out, HTm.out⟩) | (exact ⟨HTp.out.below (below_drew' hb8) hd0, HTm.out.below (below_drew' hb8) hd4⟩) | go_keep)
                          (first | (go_at_call 18; go_split_ands; (with_reducible refine C1.out.mono ?_); rintro e8 w8 ⟨rfl, hb8⟩))
                        all_goals go_wp2_with fail
                        all_goals go_roundw
                        case rel => exact ⟨j + 1, by omega, by go_num, hBR.out.trans ((bstep hbW.out (below_drew' hb8)).mono hr19)⟩
                        case measure => simp [intOf]; omega
                      · have hp2 : ¬ (u.length : Int) < (t.pos : Int) := by omega
                        unfold movT at h4
                        rw [if_neg hp] at h4
                        have H4 := hide (h4.tokR (B := w19.heap.size) (by exact hsm1) (by exact hsm2) hbr (Nat.le_refl _))
                        have HT4r := hide (show T9 wr g7 (j * 9) (.int .i64 (t.kind : Int)) (.string ⟨t.text.toArray⟩) (.slice As4 t.str.length cs4) (.int .i64 t.nk) (.int .i64 t.nn) (.bool false) (.slice Am4 t.mag.length cm4) (.int .i64 (t.pos : Int)) (.bool nl) from (h4.t9 (p := (t.pos : Int)) (nl := nl) rfl hnl).below hbr hg7)
                        clear h2 h4 hbr hnl
                        go_wp2_with fail
                        obtain ⟨W, hW⟩ : ∃ W, wr.alloc (.cells #[.int .i64 (t.kind : Int), .string ⟨t.text.toArray⟩, .slice As2 t.str.length cs2, .int .i64 t.nk, .int .i64 t.nn, .bool false, .slice Am2 t.mag.length cm2, .int .i64 (t.pos : Int), .bool nl] 39) = W := ⟨_, rfl⟩
                        rw [hW]
                        have hbW := hide (show Below wr.heap.size wr W by rw [← hW]; exact (Below.refl _ _).alloc (Nat.le_refl _) _)
                        have hsW : wr.heap.size + 1 = W.heap.size := by rw [← hW]; simp
                        have HTp := hide (show T9 W wr.heap.size 0 (.int .i64 (t.kind : Int)) (.string ⟨t.text.toArray⟩) (.slice As2 t.str.length cs2) (.int .i64 t.nk) (.int .i64 t.nn) (.bool false) (.slice Am2 t.mag.length cm2) (.int .i64 (t.pos : Int)) (.bool nl) from T9.of_blk (by rw [← hW]; exact Blk.new wr _ 39))
                        have HTm := hide (show T9 W g7 (j * 9) (.int .i64 (t.kind : Int)) (.string ⟨t.text.toArray⟩) (.slice As4 t.str.length cs4) (.int .i64 t.nk) (.int .i64 t.nn) (.bool false) (.slice Am4 t.mag.length cm4) (.int .i64 (t.pos : Int)) (.bool nl) from HT4r.out.below hbW.out hd7)
                        have H4W := hide (H4.out.below (hbW.out.mono hr19))
                        have H2W := hide (H2.out.below (hbW.out.mono hr19))
                        have hWW : w19.heap.size ≤ W.heap.size := by omega
                        clear hW a0 a1 a2 a3 a4 a5 a6 a7 a8
                        have C1 := hide (rtoken_c t.kind t.text t.str t.nk t.nn t.mag t.pos (t.pos : Int) nl As2 Am2 As4 Am4 cs2 cm2 cs4 cm4 w19.heap.size W.drew rfl (by simpa using hWW) H2W.out.str.drew H2W.out.mag.drew H4W.out.str.drew H4W.out.mag.drew H2W.out.strl H2W.out.magl)
                        have hd0 : wr.heap.size < W.heap.size := by omega
                        have hd4 : g7 < W.heap.size := by omega
                        go_region_held3 (fun w' => (w'.cell? ⟨wr.heap.size, 0, none⟩ = some (.int .i64 (t.kind : Int)) ∧ w'.cell? ⟨wr.heap.size, 1, none⟩ = some (.string ⟨t.text.toArray⟩) ∧ w'.cell? ⟨wr.heap.size, 2, none⟩ = some (.slice As2 t.str.length cs2) ∧ w'.cell? ⟨wr.heap.size, 3, none⟩ = some (.int .i64 t.nk) ∧ w'.cell? ⟨wr.heap.size, 4, none⟩ = some (.int .i64 t.nn) ∧ w'.cell? ⟨wr.heap.size, 5, none⟩ = some (.bool false) ∧ w'.cell? ⟨wr.heap.size, 6, none⟩ = some (.slice Am2 t.mag.length cm2) ∧ w'.cell? ⟨wr.heap.size, 7, none⟩ = some (.int .i64 (t.pos : Int)) ∧ w'.cell? ⟨wr.heap.size, 8, none⟩ = some (.bool nl)) ∧ (w'.cell? ⟨g7, j * 9, none⟩ = some (.int .i64 (t.kind : Int)) ∧ w'.cell? ⟨g7, j * 9 + 1, none⟩ = some (.string ⟨t.text.toArray⟩) ∧ w'.cell? ⟨g7, j * 9 + 2, none⟩ = some (.slice As4 t.str.length cs4) ∧ w'.cell? ⟨g7, j * 9 + 3, none⟩ = some (.int .i64 t.nk) ∧ w'.cell? ⟨g7, j * 9 + 4, none⟩ = some (.int .i64 t.nn) ∧ w'.cell? ⟨g7, j * 9 + 5, none⟩ = some (.bool false) ∧ w'.cell? ⟨g7, j * 9 + 6, none⟩ = some (.slice Am4 t.mag.length cm4) ∧ w'.cell? ⟨g7, j * 9 + 7, none⟩ = some (.int .i64 (t.pos : Int)) ∧ w'.cell? ⟨g7, j * 9 + 8, none⟩ = some (.bool nl)))
                          (first | (exact ⟨HTp.out, HTm.out⟩) | (exact ⟨HTp.out.below (below_drew' hb8) hd0, HTm.out.below (below_drew' hb8) hd4⟩) | go_keep)
                          (first | (go_at_call 18; go_split_ands; (with_reducible refine C1.out.mono ?_); rintro e8 w8 ⟨rfl, hb8⟩))
                        all_goals go_wp2_with fail
                        all_goals go_roundw
                        case rel => exact ⟨j + 1, by omega, by go_num, hBR.out.trans ((bstep hbW.out (below_drew' hb8)).mono hr19)⟩
                        case measure => simp [intOf]; omega
                    · go_wp2_with fail
                      refine (lfirst_any wr).mono ?_
                      rintro e w20 ⟨rfl, hb20⟩
                      go_wp2_with fail
                      go_ret
                      exact ⟨rfl, HB19.out.trans ((hbr.trans (hb20.mono hbr.size)).mono HB19.out.size)⟩
                · have e0 : ((em : Int) != 0) = true := by rw [bne_iff_ne]; omega
                  have ham := hbad hel
                  have eA : ((am : Int) == (al : Int) + (R : Int) - 1) = true := by
                    have := HRN.out
                    rw [beq_iff_eq]; omega
                  clear hel ham hbad hgood
                  go_wp2_with fail
                  refine (lfirst_any w19).mono ?_
                  rintro e w20 ⟨rfl, hb20⟩
                  go_wp2_with fail
                  go_ret
                  exact ⟨rfl, bstep HB19.out hb20⟩
        · have e1 : ((eu : Int) != 0) = true := by rw [bne_iff_ne]; omega
          clear heu HLAW
          go_wp2_with fail
          refine (lfirst_any w11).mono ?_
          rintro e w20 ⟨rfl, hbx⟩
          go_wp2_with fail
          (try rw [Exit.noGoto_ret])
          go_ret
          exact ⟨rfl, bstep HB11.out hbx⟩
end Go.Proofs.Ytngcikgjdeomdaa
