/- renref.Limbs, Big, Token: at two that are alike they tell so. Walked. -/
import Derived.Test.YtngcikgjdeomdaaLexFirst
import Derived.Test.YtngcikgjdeomdaaMisc
namespace Go.Proofs.Ytngcikgjdeomdaa
open Go.RowKit

set_option maxHeartbeats 1000000 in
set_option maxRecDepth 100000 in
theorem rlimbs_same {A A' : Option Addr} {c d B n : Nat} {xs : List Nat} {w : World} (hB : B ≤ w.heap.size) (hn : xs.length = n) (ha : Reads w B 1 A n (u32s xs)) (hb : Reads w B 1 A' n (u32s xs)) (hl : n ≤ 70368744177664) :
    Calls Try.prog 57 #[.slice A n c, .slice A' n d] w fun e w' => e = .returned (.bool true) ∧ Below w.heap.size w w' := by
  have HN := hide hn
  have HA := hide ha
  have HB := hide hb
  clear hn ha hb
  have e1 : ((n : Int) != (n : Int)) = false := by simp
  go_enter Try.func57, Try.ntmps57
  go_wp2
  go_loopw [5] (fun i wr => ∃ k : Nat, k ≤ n ∧ i = .int .i64 k ∧ Below w.heap.size w wr) (fun i _ => n - (intOf i).toNat)
  case atStart => exact ⟨0, Nat.zero_le _, rfl, Below.refl _ _⟩
  case round =>
    obtain ⟨k, hk, rfl, hnx⟩ := hrel
    by_cases hlt : k < n
    · have hx : k < xs.length := by rw [HN.out]; exact hlt
      obtain ⟨b1, o1, rfl, _, hc1⟩ := (HA.out.below (hnx.mono hB)).spotV (by omega)
      obtain ⟨b2, o2, rfl, _, hc2⟩ := (HB.out.below (hnx.mono hB)).spotV (by omega)
      have hca := hc1 k _ (u32s_get hx)
      have hcb := hc2 k _ (u32s_get hx)
      obtain ⟨x, hxx⟩ : ∃ x, xs[k] = x := ⟨_, rfl⟩
      rw [hxx] at hca hcb
      clear hc1 hc2 hxx hx
      have e2 : ((x : Int) != (x : Int)) = false := by simp
      go_wp2
      go_quiet (fail)
      go_wp2
      go_roundw
      case rel => exact ⟨k + 1, by omega, by go_num, below_drewN hnx _⟩
      case measure => simp [intOf]; omega
    · go_wp2
      go_ret
      exact ⟨rfl, hnx⟩
set_option maxHeartbeats 1000000 in
set_option maxRecDepth 100000 in
theorem rbig_same {A A' : Option Addr} {c d B n : Nat} {xs : List Nat} {w : World} (hB : B ≤ w.heap.size) (hn : xs.length = n) (ha : Reads w B 1 A n (u32s xs)) (hb : Reads w B 1 A' n (u32s xs)) (hl : n ≤ 70368744177664) (ng : Bool) :
    Calls Try.prog 34 #[.agg #[.bool ng, .slice A n c], .agg #[.bool ng, .slice A' n d]] w fun e w' => e = .returned (.bool true) ∧ Below w.heap.size w w' := by
  have HA := hide ((ha.alloc hB (.cells #[.bool ng, .slice A n c] 37)).alloc (by simp; omega) (.cells #[.bool ng, .slice A' n d] 37))
  have HB := hide ((hb.alloc hB (.cells #[.bool ng, .slice A n c] 37)).alloc (by simp; omega) (.cells #[.bool ng, .slice A' n d] 37))
  have HN := hide hn
  clear hn ha hb
  go_enter Try.func34, Try.ntmps34
  go_wp2_with fail
  refine (rlimbs_same (by simp; omega) HN.out HA.out HB.out hl).mono ?_
  rintro e w1 ⟨rfl, hb1⟩
  go_wp2_with fail
  go_ret
  exact ⟨rfl, bstep (((Below.refl _ _).alloc (Nat.le_refl _) _).alloc (by simp) _) hb1⟩
/-- a token's value as a call takes it -/
structure TokR (w : World) (B : Nat) (t : Tok) (As Am : Option Addr) : Prop where
  str : Reads w B 1 As t.str.length (u16s t.str)
  mag : Reads w B 1 Am t.mag.length (u32s t.mag)
  strl : t.str.length ≤ 70368744177664
  magl : t.mag.length ≤ 70368744177664
theorem TokR.below {w w' : World} {B : Nat} {t : Tok} {As Am : Option Addr} (h : TokR w B t As Am) (hb : Below B w w') : TokR w' B t As Am :=
  ⟨h.str.below hb, h.mag.below hb, h.strl, h.magl⟩
theorem TokR.more {w : World} {B B' : Nat} {t : Tok} {As Am : Option Addr} (h : TokR w B t As Am) (hb : B ≤ B') : TokR w B' t As Am :=
  ⟨h.str.more hb, h.mag.more hb, h.strl, h.magl⟩
set_option maxHeartbeats 4000000 in
set_option maxRecDepth 100000 in
theorem rtoken_same {t : Tok} {As Am As' Am' : Option Addr} {cs cm cs' cm' B : Nat} {w : World} (hB : B ≤ w.heap.size) (h1 : TokR w B t As Am) (h2 : TokR w B t As' Am') :
    Calls Try.prog 18 #[.agg #[.int .i64 (t.kind : Int), .string ⟨t.text.toArray⟩, .slice As t.str.length cs, .int .i64 t.nk, .int .i64 t.nn, .bool false, .slice Am t.mag.length cm, .int .i64 (t.pos : Int), .bool t.nl],
      .agg #[.int .i64 (t.kind : Int), .string ⟨t.text.toArray⟩, .slice As' t.str.length cs', .int .i64 t.nk, .int .i64 t.nn, .bool false, .slice Am' t.mag.length cm', .int .i64 (t.pos : Int), .bool t.nl]] w fun e w' => e = .returned (.bool true) ∧ Below w.heap.size w w' := by
  obtain ⟨W, hW⟩ : ∃ W, (w.alloc (.cells (tokV9 t (.slice As t.str.length cs) (.slice Am t.mag.length cm)).toArray 39)).alloc (.cells (tokV9 t (.slice As' t.str.length cs') (.slice Am' t.mag.length cm')).toArray 39) = W := ⟨_, rfl⟩
  have hbW := hide (show Below w.heap.size w W by rw [← hW]; exact ((Below.refl _ _).alloc (Nat.le_refl _) _).alloc (by simp) _)
  have hsW : W.heap.size = w.heap.size + 2 := by rw [← hW]; simp
  have hx := hide (show Blk W w.heap.size (tokV9 t (.slice As t.str.length cs) (.slice Am t.mag.length cm)) by
    rw [← hW]
    exact (Blk.new w _ 39).below ((Below.refl _ _).alloc (Nat.le_refl _) _) (by simp))
  have hy := hide (show Blk W (w.heap.size + 1) (tokV9 t (.slice As' t.str.length cs') (.slice Am' t.mag.length cm')) by
    rw [← hW]
    have := Blk.new (w.alloc (.cells (tokV9 t (.slice As t.str.length cs) (.slice Am t.mag.length cm)).toArray 39)) (tokV9 t (.slice As' t.str.length cs') (.slice Am' t.mag.length cm')) 39
    rwa [show (w.alloc (.cells (tokV9 t (.slice As t.str.length cs) (.slice Am t.mag.length cm)).toArray 39)).heap.size = w.heap.size + 1 by simp] at this)
  have H1 := hide (h1.below (hbW.out.mono hB))
  have H2 := hide (h2.below (hbW.out.mono hB))
  have HW := hide (show (w.alloc (.cells #[.int .i64 (t.kind : Int), .string ⟨t.text.toArray⟩, .slice As t.str.length cs, .int .i64 t.nk, .int .i64 t.nn, .bool false, .slice Am t.mag.length cm, .int .i64 (t.pos : Int), .bool t.nl] 39)).alloc (.cells #[.int .i64 (t.kind : Int), .string ⟨t.text.toArray⟩, .slice As' t.str.length cs', .int .i64 t.nk, .int .i64 t.nn, .bool false, .slice Am' t.mag.length cm', .int .i64 (t.pos : Int), .bool t.nl] 39) = W from hW)
  have hls := h1.strl
  have hlm := h1.magl
  have HS := hide hsW
  clear hW h1 h2 hsW
  go_enter Try.func18, Try.ntmps18
  go_wp2_with fail
  rw [HW.out]
  refine (lunits_eq (B := B) (by rw [HS.out]; omega) rfl rfl H1.out.str H2.out.str hls hls (r := true) (decide_eq_true rfl)).mono ?_
  rintro e w1 ⟨rfl, hb1⟩
  have hx1 := hide (hx.out.below hb1 (by rw [HS.out]; omega))
  have hy1 := hide (hy.out.below hb1 (by rw [HS.out]; omega))
  have HB1 := hide (hbW.out.trans (hb1.mono hbW.out.size))
  have H11 := hide (H1.out.below (hb1.mono (Nat.le_trans hB hbW.out.size)))
  have H21 := hide (H2.out.below (hb1.mono (Nat.le_trans hB hbW.out.size)))
  have hs1 : W.heap.size ≤ w1.heap.size := hb1.size
  clear hb1
  obtain ⟨x3, fx3⟩ := hx1.out.2 3 (by simp [tokV9])
  obtain ⟨x4, fx4⟩ := hx1.out.2 4 (by simp [tokV9])
  obtain ⟨y3, fy3⟩ := hy1.out.2 3 (by simp [tokV9])
  obtain ⟨y4, fy4⟩ := hy1.out.2 4 (by simp [tokV9])
  go_wp2_with fail
  refine (rnum_any t.nk t.nn t.nk t.nn w1).mono ?_
  rintro e w2 ⟨rfl, hb2⟩
  rw [show decide (t.nk = t.nk ∧ t.nn = t.nn) = true from decide_eq_true ⟨rfl, rfl⟩]
  have hx2 := hide (hx1.out.below hb2 hx1.out.1)
  have hy2 := hide (hy1.out.below hb2 hy1.out.1)
  have HB2 := hide (HB1.out.trans (hb2.mono HB1.out.size))
  have H12 := hide (H11.out.below (hb2.mono (Nat.le_trans hB HB1.out.size)))
  have H22 := hide (H21.out.below (hb2.mono (Nat.le_trans hB HB1.out.size)))
  have hs2 : w1.heap.size ≤ w2.heap.size := hb2.size
  clear hb2 x3 x4 y3 y4 fx3 fx4 fy3 fy4
  obtain ⟨x5, fx5⟩ := hx2.out.2 5 (by simp [tokV9])
  obtain ⟨x6, fx6⟩ := hx2.out.2 6 (by simp [tokV9])
  obtain ⟨y5, fy5⟩ := hy2.out.2 5 (by simp [tokV9])
  obtain ⟨y6, fy6⟩ := hy2.out.2 6 (by simp [tokV9])
  go_wp2_with fail
  refine (rbig_same (B := B) (Nat.le_trans hB HB2.out.size) rfl H12.out.mag H22.out.mag hlm false).mono ?_
  rintro e w3 ⟨rfl, hb3⟩
  have hx3 := hide (hx2.out.below hb3 hx2.out.1)
  have hy3 := hide (hy2.out.below hb3 hy2.out.1)
  have HB3 := hide (HB2.out.trans (hb3.mono HB2.out.size))
  clear hb3 x5 x6 y5 y6 fx5 fx6 fy5 fy6
  obtain ⟨x7, fx7⟩ := hx3.out.2 7 (by simp [tokV9])
  obtain ⟨x8, fx8⟩ := hx3.out.2 8 (by simp [tokV9])
  obtain ⟨y7, fy7⟩ := hy3.out.2 7 (by simp [tokV9])
  obtain ⟨y8, fy8⟩ := hy3.out.2 8 (by simp [tokV9])
  simp only [tokV9, List.getElem_cons_succ, List.getElem_cons_zero] at x7 y7 x8 y8
  obtain ⟨nl, hnl⟩ : ∃ b, t.nl = b := ⟨_, rfl⟩
  rw [hnl] at x8 y8
  clear hnl
  cases nl
  all_goals
    go_wp2_with fail
    go_ret
    exact ⟨rfl, HB3.out⟩
/-- the same, its place as a number of its own -/
theorem rtoken_is {t : Tok} {p : Int} {As Am As' Am' : Option Addr} {cs cm cs' cm' B : Nat} {w : World} (hp : (t.pos : Int) = p) (hB : B ≤ w.heap.size) (h1 : TokR w B t As Am) (h2 : TokR w B t As' Am') :
    Calls Try.prog 18 #[.agg #[.int .i64 (t.kind : Int), .string ⟨t.text.toArray⟩, .slice As t.str.length cs, .int .i64 t.nk, .int .i64 t.nn, .bool false, .slice Am t.mag.length cm, .int .i64 p, .bool t.nl],
      .agg #[.int .i64 (t.kind : Int), .string ⟨t.text.toArray⟩, .slice As' t.str.length cs', .int .i64 t.nk, .int .i64 t.nn, .bool false, .slice Am' t.mag.length cm', .int .i64 p, .bool t.nl]] w fun e w' => e = .returned (.bool true) ∧ Below w.heap.size w w' := by
  subst hp
  exact rtoken_same hB h1 h2
theorem rtoken_nl {t : Tok} {p : Int} {nl : Bool} {As Am As' Am' : Option Addr} {cs cm cs' cm' B : Nat} {w : World} (hp : (t.pos : Int) = p) (hnl : t.nl = nl) (hB : B ≤ w.heap.size) (h1 : TokR w B t As Am) (h2 : TokR w B t As' Am') :
    Calls Try.prog 18 #[.agg #[.int .i64 (t.kind : Int), .string ⟨t.text.toArray⟩, .slice As t.str.length cs, .int .i64 t.nk, .int .i64 t.nn, .bool false, .slice Am t.mag.length cm, .int .i64 p, .bool nl],
      .agg #[.int .i64 (t.kind : Int), .string ⟨t.text.toArray⟩, .slice As' t.str.length cs', .int .i64 t.nk, .int .i64 t.nn, .bool false, .slice Am' t.mag.length cm', .int .i64 p, .bool nl]] w fun e w' => e = .returned (.bool true) ∧ Below w.heap.size w w' := by
  subst hp hnl
  exact rtoken_same hB h1 h2
theorem rtoken_c (kd : Nat) (tx : List UInt8) (str : List UInt16) (nk nn : Int) (mag : List Nat) (pos : Nat) (p : Int) (nl : Bool) (As Am As' Am' : Option Addr) (cs cm cs' cm' B : Nat) (w : World) (hp : (pos : Int) = p) (hB : B ≤ w.heap.size)
    (a1 : Reads w B 1 As str.length (u16s str)) (a2 : Reads w B 1 Am mag.length (u32s mag)) (b1 : Reads w B 1 As' str.length (u16s str)) (b2 : Reads w B 1 Am' mag.length (u32s mag)) (l1 : str.length ≤ 70368744177664) (l2 : mag.length ≤ 70368744177664) :
    Calls Try.prog 18 #[.agg #[.int .i64 (kd : Int), .string ⟨tx.toArray⟩, .slice As str.length cs, .int .i64 nk, .int .i64 nn, .bool false, .slice Am mag.length cm, .int .i64 p, .bool nl],
      .agg #[.int .i64 (kd : Int), .string ⟨tx.toArray⟩, .slice As' str.length cs', .int .i64 nk, .int .i64 nn, .bool false, .slice Am' mag.length cm', .int .i64 p, .bool nl]] w fun e w' => e = .returned (.bool true) ∧ Below w.heap.size w w' :=
  rtoken_nl (t := ⟨kd, tx, str, nk, nn, mag, pos, nl⟩) hp rfl hB ⟨a1, a2, l1, l2⟩ ⟨b1, b2, l1, l2⟩
end Go.Proofs.Ytngcikgjdeomdaa
