/- The law renlaw6.TreeAscii: for every input that can be read the call returns true, and each argument reads behind it as before. Its card, tied to the program's text. Condition: none beside the row's own (the tables of strconv and math/bits stand as their initialisers lay them). -/
import Derived.Test.YtelcjdblnagdgaaDoorM17
import Derived.Test.YtelcjdblnagdgaaDoorM18
namespace Go.Proofs.YtelcjdblnagdgaaDoor
open Go.RowKit

theorem FewP.all1 {ts : List Nd} (h : FewP ts) : (kidsAll ts).length ≤ 1000000 := by have := h.all; omega
theorem scan_step {q : Bool} {u : List UInt16} {k : Nat} (h : scanOk q (u.drop k) = true) (hk : k < u.length) :
    32 ≤ u[k].toNat ∧ u[k].toNat ≤ 126 ∧ (q = false → u[k].toNat = 32 → ∃ hk2 : k + 1 < u.length, u[k + 1].toNat ≠ 32) ∧ scanOk (if u[k].toNat = 34 then !q else q) (u.drop (k + 1)) = true := by
  rw [List.drop_eq_getElem_cons hk] at h
  unfold scanOk at h
  simp only [Bool.and_eq_true, decide_eq_true_eq] at h
  obtain ⟨⟨⟨h1, h2⟩, h3⟩, h4⟩ := h
  refine ⟨h1, h2, fun hq hx => ?_, h4⟩
  subst hq
  simp only [hx, Bool.false_or, beq_self_eq_true, Bool.not_true, Bool.and_eq_true, Bool.not_eq_true', List.isEmpty_eq_false_iff, beq_eq_false_iff_ne, ne_eq] at h3
  obtain ⟨h5, h6⟩ := h3
  have hk2 : k + 1 < u.length := by
    rcases Nat.lt_or_ge (k + 1) u.length with h | h
    · exact h
    · exact absurd (List.drop_of_length_le h) h5
  refine ⟨hk2, fun e => h6 ?_⟩
  rw [List.drop_eq_getElem_cons hk2]
  show u[k + 1] = 32
  exact UInt16.toNat_inj.1 e
theorem head_ne {u : List UInt16} (h : u.head? ≠ some 32) (hk : 0 < u.length) : u[0].toNat ≠ 32 := by
  intro e
  apply h
  rw [List.head?_eq_getElem?, List.getElem?_eq_getElem hk]
  exact congrArg some (UInt16.toNat_inj.1 e)
theorem Reads.spotU {w : World} {B n : Nat} {A : Option Addr} {l : List UInt16} (h : Reads w B 1 A n (u16s l)) (h0 : 0 < l.length) :
    ∃ b off, A = some ⟨b, off, none⟩ ∧ b < B ∧ ∀ j (hj : j < l.length), w.cell? ⟨b, off + j, none⟩ = some (.int .u16 (l[j].toNat : Int)) := by
  have hl : l.length = n := by have := h.1; simpa [u16s] using this
  obtain ⟨b, off, hA, hb, hc⟩ := h.spotR (by omega)
  exact ⟨b, off, hA, hb, fun j hj => hc j _ (by simp [u16s, u16v, List.getElem?_eq_getElem hj])⟩
set_option maxHeartbeats 8000000 in
set_option maxRecDepth 100000 in
theorem treeAscii_law (A : Option Addr) (n c : Nat) (ts : List Nd) (hc : n ≤ c) (_hm : c ≤ maxLen) (w : World) (hN : NdsR w w.heap.size A n ts) (hT : Tab w) :
    Calls Tryd.prog 4 #[.agg #[.slice A n c]] w fun e w' => e = .returned (.bool true) ∧ Below w.heap.size w w' := by
  obtain ⟨W, hW⟩ : ∃ W, w.alloc (.cells #[.slice A n c] 24) = W := ⟨_, rfl⟩
  have hbW : Below w.heap.size w W := by rw [← hW]; exact (Below.refl _ _).alloc (Nat.le_refl _) _
  have hX1 : w.heap.size < W.heap.size := by rw [← hW]; simp
  have x0 : W.cell? ⟨w.heap.size, 0, none⟩ = some (.slice A n c) := by rw [← hW, World.cell?_alloc_at _ _ _ _ rfl]; rfl
  have HN := hide hN
  have HBW := hide hbW
  have HTW := hide (hT.go hbW)
  have HGL := hide hT.lt
  have CP := hide (fun (w1 : World) (hb : Below w.heap.size w w1) (hf : FewP ts) => print_any (c := c) (hN.below hb) hb.size hc hf.all1 (hT.go hb) hT.lt)
  have CM := hide (fun (w1 : World) (hb : Below w.heap.size w w1) (hf : FewP ts) (q : Bool) (hq : mayF ts = q) => may_any (c := c) (hN.below hb) hb.size hc hf.all1 hq)
  obtain ⟨X, hX⟩ : ∃ X, w.heap.size = X := ⟨_, rfl⟩
  go_enter Tryd.func4, Tryd.ntmps4
  go_upto_region 1 with (fail)
  clear hN hbW hT hW
  rw [hX] at x0 hX1
  clear hX
  go_wp2_with fail
  refine (first_any HTW.out).mono ?_
  rintro e1 w1 ⟨rfl, hb1⟩
  have y1 := (hb1.cell (p := ⟨X, 0, none⟩) hX1).trans x0
  have HB1 := hide (HBW.out.trans (hb1.mono HBW.out.size))
  have HT1 := hide (HTW.out.go hb1)
  have hX2 : X < w1.heap.size := Nat.lt_of_lt_of_le hX1 hb1.size
  clear hb1 x0 hX1 HBW HTW
  go_wp2_with fail
  refine (few_any (c := c) (HN.out.below HB1.out) HB1.out.size).mono ?_
  rintro e2 w2 ⟨q, rfl, hf, hb2⟩
  have y2 := (hb2.cell (p := ⟨X, 0, none⟩) hX2).trans y1
  have HB2 := hide (HB1.out.trans (hb2.mono HB1.out.size))
  have HT2 := hide (HT1.out.go hb2)
  have hX3 : X < w2.heap.size := Nat.lt_of_lt_of_le hX2 hb2.size
  clear hb2 y1 hX2 HB1 HT1
  cases q with
  | false =>
    clear hf
    go_wp2_with fail
    refine (first_any HT2.out).mono ?_
    rintro e3 w3 ⟨rfl, hb3⟩
    have HB3 := hide (HB2.out.trans (hb3.mono HB2.out.size))
    clear hb3
    go_wp2_with fail
    go_ret
    exact ⟨rfl, HB3.out⟩
  | true =>
    have HF := hide (hf rfl)
    clear hf
    have C2 := hide (CP.out w2 HB2.out HF.out)
    clear CP
    go_wp2_with fail
    refine C2.out.mono ?_
    rintro e3 w3 (⟨hq, rfl, hb3⟩ | ⟨t, hM, hq, hb3, ⟨hlen, rfl⟩ | ⟨hlen, v, rfl, hm⟩⟩)
    · have y3 := (hb3.cell (p := ⟨X, 0, none⟩) hX3).trans y2
      have HB3 := hide (HB2.out.trans (hb3.mono HB2.out.size))
      have HT3 := hide (HT2.out.go hb3)
      have hX4 : X < w3.heap.size := Nat.lt_of_lt_of_le hX3 hb3.size
      have HQ := hide hq
      clear hb3 y2 hX3 HB2 HT2 hq
      go_wp2_with fail
      refine (first_any HT3.out).mono ?_
      rintro e4 w4 ⟨rfl, hb4⟩
      have y4 := (hb4.cell (p := ⟨X, 0, none⟩) hX4).trans y3
      have HB4 := hide (HB3.out.trans (hb4.mono HB3.out.size))
      have C4 := hide (CM.out w4 HB4.out HF.out false HQ.out)
      clear hb4 y3 hX4 HB3 CM HQ
      go_wp2_with fail
      refine C4.out.mono ?_
      rintro e5 w5 ⟨rfl, hb5⟩
      have HB5 := hide (HB4.out.trans (hb5.mono HB4.out.size))
      clear hb5
      go_wp2_with fail
      go_ret
      exact ⟨rfl, HB5.out⟩
    · have y3 := (hb3.cell (p := ⟨X, 0, none⟩) hX3).trans y2
      have HB3 := hide (HB2.out.trans (hb3.mono HB2.out.size))
      have HT3 := hide (HT2.out.go hb3)
      have hX4 : X < w3.heap.size := Nat.lt_of_lt_of_le hX3 hb3.size
      have HQ := hide hq
      clear hb3 y2 hX3 HB2 HT2 hq hlen hM
      go_wp2_with fail
      refine (first_any HT3.out).mono ?_
      rintro e4 w4 ⟨rfl, hb4⟩
      have y4 := (hb4.cell (p := ⟨X, 0, none⟩) hX4).trans y3
      have HB4 := hide (HB3.out.trans (hb4.mono HB3.out.size))
      have C4 := hide (CM.out w4 HB4.out HF.out true HQ.out)
      clear hb4 y3 hX4 HB3 CM HQ
      go_wp2_with fail
      refine C4.out.mono ?_
      rintro e5 w5 ⟨rfl, hb5⟩
      have HB5 := hide (HB4.out.trans (hb5.mono HB4.out.size))
      clear hb5
      go_wp2_with fail
      go_ret
      exact ⟨rfl, HB5.out⟩
    · obtain ⟨hs, hh⟩ := ascii_law hM
      obtain ⟨u, hu⟩ : ∃ u, printF t = u := ⟨_, rfl⟩
      rw [hu] at hs hh hlen hm
      obtain ⟨B, d, rfl, hnc, hcm, hr⟩ := hm.u16
      have HB3 := hide (HB2.out.trans (hb3.mono HB2.out.size))
      have HT3 := hide (HT2.out.go hb3)
      have HR := hide hr
      have HH := hide hh
      have HSC := hide hs
      obtain ⟨m, hml⟩ : ∃ m, u.length = m := ⟨_, rfl⟩
      have HML := hide hml
      rw [hml] at hlen hnc ⊢
      clear hb3 y2 hX3 HB2 HT2 hq hM hu hm hr hs hh hml CM HF HN HGL C2
      go_wp2_with fail
      go_loopw [5, 6] (fun v i wr => ∃ (k : Nat) (q : Bool), k ≤ m ∧ v = .bool q ∧ i = .int .i64 (k : Int) ∧ Hid (scanOk q (u.drop k) = true) ∧ w3 = wr) (fun _ i _ => m - (intOf i).toNat)
      case atStart => exact ⟨0, false, Nat.zero_le _, rfl, rfl, HSC.out, rfl⟩
      case round =>
        obtain ⟨k, q, hk, rfl, rfl, hsc, rfl⟩ := hrel
        by_cases hlt : k < m
        · have h1 : (k : Int) < (m : Int) := by omega
          have h2 : decide ((k : Int) < (m : Int)) = true := decide_eq_true h1
          have hku : k < u.length := by rw [HML.out]; exact hlt
          obtain ⟨g1, g2, g3, g4⟩ := scan_step hsc.out hku
          obtain ⟨bb, off, rfl, hbb, hcell⟩ := HR.out.spotU (by rw [HML.out]; omega)
          have hcx := hcell k hku
          have h0 := hide (fun (e : k = 0) => head_ne HH.out (show 0 < u.length by omega))
          have g3' := hide (fun (hq : q = false) (hx : u[k].toNat = 32) => (show ∃ hk2 : k + 1 < u.length, w3.cell? ⟨bb, off + (k + 1), none⟩ = some (.int .u16 (u[k + 1].toNat : Int)) ∧ u[k + 1].toNat ≠ 32 from by
            obtain ⟨hk2, h⟩ := g3 hq hx
            exact ⟨hk2, hcell (k + 1) hk2, h⟩))
          have h0' := hide (show u[k].toNat = 32 → k ≠ 0 from fun hx e => by subst e; exact h0.out rfl hx)
          clear g3 hcell h0 HSC HH HR
          obtain ⟨Y, hY⟩ : ∃ Y : Int, (u[k].toNat : Int) = Y := ⟨_, rfl⟩
          have a1 : decide (Y < 32) = false := decide_eq_false (by omega)
          have a2 : decide (126 < Y) = false := decide_eq_false (by omega)
          have a1' : ¬ Y < 32 := by omega
          have a2' : ¬ 126 < Y := by omega
          rw [hY] at hcx
          have HY := hide hY
          have G4 := hide g4
          have GS := hide hsc.out
          clear hsc
          clear hY g4 g1 g2
          cases q with
          | true =>
            by_cases e34 : Y = 34
            · have a4 : (Y == 34) = true := by rw [e34]; rfl
              have e34n := hide (show u[k].toNat = 34 by have := HY.out; omega)
              clear e34
              go_wp2_with fail
              go_roundw
              case rel => exact ⟨k + 1, false, by omega, rfl, by go_num, by have := G4.out; simp only [e34n.out, if_true, Bool.not_true] at this; exact this, by first | rfl | exact trivial⟩
              case measure => simp [intOf]; omega
            · have a4 : (Y == 34) = false := beq_eq_false_iff_ne.2 e34
              have e34n := hide (show ¬ u[k].toNat = 34 by have := HY.out; omega)
              go_wp2_with fail
              go_roundw
              case rel => exact ⟨k + 1, true, by omega, rfl, by go_num, by have := G4.out; simp only [e34n.out, if_false] at this; exact this, by first | rfl | exact trivial⟩
              case measure => simp [intOf]; omega
          | false =>
            by_cases e32 : Y = 32
            · have a3 : (Y == 32) = true := by rw [e32]; rfl
              have a4 : (Y == 34) = false := by rw [e32]; rfl
              have e32n : u[k].toNat = 32 := by have := HY.out; omega
              have e34n := hide (show ¬ u[k].toNat = 34 by omega)
              have hk0 := h0'.out e32n
              obtain ⟨hk2, hc2, hne⟩ := g3'.out rfl e32n
              have hk3 : k + 1 < m := by rw [← HML.out]; exact hk2
              obtain ⟨Z, hZ⟩ : ∃ Z : Int, (u[k + 1].toNat : Int) = Z := ⟨_, rfl⟩
              rw [hZ] at hc2
              have b1 : (Z == 32) = false := beq_eq_false_iff_ne.2 (by omega)
              have b2 : ((k : Int) == 0) = false := beq_eq_false_iff_ne.2 (by omega)
              have b3 : ((k : Int) == (m : Int) - 1) = false := beq_eq_false_iff_ne.2 (by omega)
              have b4 : (k : Int) + 1 < (m : Int) := by omega
              have e32h := hide e32
              clear hZ hne hk2 e32n e32
              go_wp2_with fail
              go_roundw
              case rel => exact ⟨k + 1, false, by omega, rfl, by go_num, by have := G4.out; simp only [e34n.out, if_false] at this; exact this, by first | rfl | exact trivial⟩
              case measure => simp [intOf]; omega
            · have a3 : (Y == 32) = false := beq_eq_false_iff_ne.2 e32
              by_cases e34 : Y = 34
              · have a4 : (Y == 34) = true := by rw [e34]; rfl
                have e34n := hide (show u[k].toNat = 34 by have := HY.out; omega)
                clear e34
                go_wp2_with fail
                go_roundw
                case rel => exact ⟨k + 1, true, by omega, rfl, by go_num, by have := G4.out; simp only [e34n.out, if_true, Bool.not_false] at this; exact this, by first | rfl | exact trivial⟩
                case measure => simp [intOf]; omega
              · have a4 : (Y == 34) = false := beq_eq_false_iff_ne.2 e34
                have e34n := hide (show ¬ u[k].toNat = 34 by have := HY.out; omega)
                go_wp2_with fail
                go_roundw
                case rel => exact ⟨k + 1, false, by omega, rfl, by go_num, by have := G4.out; simp only [e34n.out, if_false] at this; exact this, by first | rfl | exact trivial⟩
                case measure => simp [intOf]; omega
        · have h1 : ¬ (k : Int) < (m : Int) := by omega
          have h2 : decide ((k : Int) < (m : Int)) = false := decide_eq_false h1
          obtain rfl : k = m := by omega
          have hq : q = false := by
            have := hsc.out
            rw [List.drop_of_length_le (by rw [HML.out]; exact Nat.le_refl _)] at this
            unfold scanOk at this
            cases q
            · rfl
            · cases this
          subst hq
          have h4 : (k : Int) ≤ 4096 := by omega
          have h5 : decide ((k : Int) ≤ 4096) = true := decide_eq_true h4
          clear hsc
          go_wp2_with fail
          refine (first_any HT3.out).mono ?_
          rintro e4 w4 ⟨rfl, hb4⟩
          have HB4 := hide (HB3.out.trans (hb4.mono HB3.out.size))
          clear hb4
          go_wp2_with fail
          go_ret
          exact ⟨rfl, HB4.out⟩
end Go.Proofs.YtelcjdblnagdgaaDoor

namespace Go.Proofs.YtelcjdblnagdgaaDoor.lawTreeAscii
open Go.ChangeShapes Go.WideShapes Go.ChangeAt Go.RowKit

set_option maxRecDepth 1000000 in
theorem contract (H : Type) (enc : TypeId × Value → H) (W : World) (base : Nat) (args : Array Value) (ds gs : List (DataW H)) (before : List MemPlace)
    (hval : ∀ (j : Nat) t v, Tryd.f4.params[j]? = some t → args[j]? = some v → Value.okWide Tryd.prog W .any base t v)
    (hW : DataW.Whole enc Tryd.prog Tryd.f4.params.toList Rows.treeAsciiSpec.vars false W args.toList ds gs before) (hL : laidMetH Tryd.prog Rows.treeAsciiRow.laid W) :
    Calls Tryd.prog 4 args W fun e W' => ∃ v, e = .returned v ∧ Rows.treeAsciiSpec.post enc Tryd.prog Tryd.f4 false true false false W args v W' := by
  have hW' := hW
  obtain ⟨p, q, hA0, hV, rfl, hfz, hnd⟩ := hW
  have hA : DataW.TrodAll enc Tryd.prog W 0 (fun _ => true) true Tryd.f4.params.toList args.toList ds p := hA0
  rw [Tryd.params4] at hA hval
  have hA1 := hA
  obtain ⟨v0, vs0, d0, ds0, p0, q0, hargs, rfl, rfl, h0, r0⟩ := trodAll_cons hA
  obtain ⟨rfl, rfl, rfl⟩ := trodAll_nil r0
  obtain rfl : args = #[v0] := by cases args; simp_all
  obtain ⟨rfl, rfl⟩ := trodVars_none hV
  obtain ⟨A0, n0, c0, x0, rfl, hc0, hm0, hr0⟩ := param_tree (hval 0 24 v0 rfl rfl) h0
  clear hA0
  have hlt := hW'.lt
  refine (treeAscii_law A0 n0 c0 x0 hc0 hm0 W hr0 (tab_laid hL)).mono fun e W' ⟨he, hb⟩ => ?_
  subst he
  exact ⟨_, rfl, post_of_below (pv := []) hW' (fun _ _ _ => trodAll_cons_mk (shut_bool Tryd.underlying4 _) trodAll_mk0)
    (fun sp hsp => by
      rw [Tryd.params4]
      exact trodAll_stays (fun t ht => by
        have : t ∈ [24] := ht
        simp only [List.mem_cons, List.mem_nil_iff, or_false] at this
        rcases this with rfl <;> exact ⟨by kernel_rfl, of_decide_eq_true (by kernel_rfl)⟩) hA1 hb (fun x hx => hlt x (by simpa using hx)) (fun x hx => hsp x (by simpa using hx)))
    (fun _ _ => rfl) rfl hb (ok_one (by kernel_rfl) rfl (okWide_bool_mk Tryd.underlying4 _))⟩

theorem laid_met (os : Os) : laidMet Tryd.prog Rows.treeAsciiRow.laid ((laidWorld os).forCall (fun _ _ => 0) ⟨#[], #[.agg #[.slice none 0 0]], []⟩).memory :=
  laidMet_of_run' 8 (by kernel_rfl) (by kernel_rfl)
theorem reads (os : Os) {H : Type} (enc : TypeId × Value → H) : ∃ places, DataW.whole enc Tryd.prog ((laidWorld os).forCall (fun _ _ => 0) ⟨#[], #[.agg #[.slice none 0 0]], []⟩).memory Tryd.f4.params.toList Rows.treeAsciiSpec.vars false (#[.agg #[.slice none 0 0]] : Array Value).toList 8 = some ([.agg [.nil]], [], places) :=
  ⟨[], by kernel_rfl⟩

set_option maxRecDepth 100000 in
theorem lifted (os : Os) (started : os.Started) (H : Type) (enc : TypeId × Value → H) (F : Stop.Interp) :
    ReturnsInHanded {} Tryd.checked os 4 .any ((OpenSpec.ofChange Rows.treeAsciiSpec).preRow enc Tryd.prog Tryd.f4 Rows.treeAsciiRow.domain false Rows.treeAsciiRow.laid) (((OpenSpec.ofChange Rows.treeAsciiSpec).at F).post enc Tryd.prog Tryd.f4 false true false false) := by
  obtain ⟨places, hx⟩ := reads os enc
  refine returnsInHanded_of_row (C := Tryd.checked) (s := OpenSpec.ofChange Rows.treeAsciiSpec) own started (by kernel_rfl) Tryd.func4
    (witness_row_at (enc := enc) (C := Tryd.checked) false (laidWorld os) #[.agg #[.slice none 0 0]] rfl (by kernel_rfl) (by kernel_rfl) (by kernel_rfl)
      (OpenSpec.preRow_of_cond 8 hx (by kernel_rfl) (fun k hk => by cases hk) (by kernel_rfl) (laid_met os))) ?_
  intro W base args ds gs before hval hW _ _ _ hL _ _
  exact contract H enc W base args ds gs before hval hW hL

theorem said : Rows.TreeAsciiSaid :=
  OpenClaim.holds_of_cond 4 Tryd.f4 rfl rfl rfl rfl rfl rfl rfl ⟨rfl, rfl, rfl, rfl, rfl⟩ rfl rfl rfl rfl rfl (by kernel_rfl) Tryd.func4 (by kernel_rfl)
    (of_decide_eq_true (by kernel_rfl)) (by unfold Func.isWrapper; first | (rw [if_pos (by decide +kernel)]; kernel_rfl) | (rw [if_neg (by decide +kernel)]; exact ⟨rfl, rfl⟩))
    (fun os started H enc _ F => by rw [OpenClaim.pre_eq_preRow]; exact lifted os started H enc F)

theorem plain (f : FuncId) (fn : Func) (hf : Tryd.pinned.checked.prog.funcNamed "rendezvous/renlaw6.TreeAscii" = some f) (hfn : Tryd.pinned.checked.prog.funcs[f]? = some fn) :
    false = Tryd.pinned.checked.prog.looks [] ∧ ∀ (j : Nat) t, fn.params[j]? = some t → Tryd.pinned.checked.prog.wantsStandIn t = false := by
  obtain rfl : f = 4 := Option.some.inj ((show Tryd.prog.funcNamed "rendezvous/renlaw6.TreeAscii" = some 4 by kernel_rfl).symm.trans hf) |>.symm
  obtain rfl : fn = Tryd.f4 := (Option.some.inj (Tryd.func4.symm.trans hfn)).symm
  refine ⟨by kernel_rfl, fun j t ht => ?_⟩
  rw [Tryd.params4] at ht
  have hin : t ∈ [24] := Array.mem_toList_iff.2 (Array.mem_of_getElem? ht)
  have hall : ([24].all fun u => !Tryd.pinned.checked.prog.wantsStandIn u) = true := by kernel_rfl
  simpa using List.all_eq_true.1 hall t hin

/-- The card. -/
theorem card : Rows.TreeAsciiCardSaid :=
  Claim7.holds_tied_plain_at .later [] _ _ _ _ said (fun _ h => by cases h) (by kernel_rfl) (fun _ h => by cases h) treeAscii_row_tie rfl ⟨rfl, rfl⟩ (by kernel_rfl) rfl plain (by kernel_rfl)
end Go.Proofs.YtelcjdblnagdgaaDoor.lawTreeAscii
