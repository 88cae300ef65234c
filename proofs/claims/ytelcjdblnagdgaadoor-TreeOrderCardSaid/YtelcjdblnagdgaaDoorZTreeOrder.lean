/- The law renlaw6.TreeOrder: for every input that can be read the call returns true, and each argument reads behind it as before. Its card, tied to the program's text. Condition: none beside the row's own (the tables of strconv and math/bits stand as their initialisers lay them). -/
import Derived.Test.YtelcjdblnagdgaaDoorM17
import Derived.Test.YtelcjdblnagdgaaDoorM18
import Derived.Test.YtelcjdblnagdgaaDoorM12
namespace Go.Proofs.YtelcjdblnagdgaaDoor
open Go.RowKit

theorem FewP.all1 {ts : List Nd} (h : FewP ts) : (kidsAll ts).length ≤ 1000000 := by have := h.all; omega
theorem may_order {ts : List Nd} (h : mayF ts = true) : orderF ts = true := by
  obtain ⟨t, ht⟩ := may_tree h
  rw [ht.flat]; exact order_flat t
/-- the two rows that the law makes -/
structure OrM (W wr : World) (G H n : Nat) (met dep : List Nat) : Prop where
  met : wr.ownsRow W.heap.size 3 1 (.slice (some ⟨G, 0, none⟩) n n) n (n64s met)
  dep : wr.ownsRow W.heap.size 3 1 (.slice (some ⟨H, 0, none⟩) n n) n (n64s dep)
  ne : G ≠ H
  below : Below W.heap.size W wr
section
variable {W wr w' : World} {G H n : Nat} {met dep : List Nat}
theorem OrM.go (h : OrM W wr G H n met dep) (hb : Below wr.heap.size wr w') : OrM W w' G H n met dep :=
  ⟨own_below h.met hb, own_below h.dep hb, h.ne, h.below.trans (hb.mono h.below.size)⟩
theorem row_cell {g k a : Nat} {d : List Nat} (h : wr.ownsRow W.heap.size 3 1 (.slice (some ⟨g, 0, none⟩) n n) n (n64s d)) (ha : d[k]? = some a) : wr.cell? ⟨g, k, none⟩ = some (.int .i64 (a : Int)) := by
  have hl : k < n := by
    have h1 := (List.getElem?_eq_some_iff.1 ha).1
    have h2 := h.1
    rw [n64s_len] at h2
    omega
  rw [h.cellAt k (by omega)]
  simp [n64s, ha]
theorem OrM.gw (h : OrM W wr G H n met dep) : W.heap.size ≤ G ∧ G < wr.heap.size := h.met.lt G rfl
theorem OrM.hw (h : OrM W wr G H n met dep) : W.heap.size ≤ H ∧ H < wr.heap.size := h.dep.lt H rfl
theorem OrM.setM (h : OrM W wr G H n met dep) {k a : Nat} {z : Int} (hz : z = (a : Int)) : OrM W (wr.setCell ⟨G, k, none⟩ (.int .i64 z)) G H n (met.set k a) dep := by
  subst hz
  have h1 := h.met.stored k (.int .i64 (a : Int))
  rw [n64s_set] at h1
  exact ⟨h1.1, own_other h.dep (grown_set _ _ _ _) (fun e => h.ne (by injection e with e; exact e.symm)), h.ne, h.below.setCell h.gw.1 _⟩
theorem OrM.setD (h : OrM W wr G H n met dep) {k a : Nat} {z : Int} (hz : z = (a : Int)) : OrM W (wr.setCell ⟨H, k, none⟩ (.int .i64 z)) G H n met (dep.set k a) := by
  subst hz
  have h1 := h.dep.stored k (.int .i64 (a : Int))
  rw [n64s_set] at h1
  exact ⟨own_other h.met (grown_set _ _ _ _) (fun e => h.ne (by injection e)), h1.1, h.ne, h.below.setCell h.hw.1 _⟩
theorem OrM.drewN1 (h : OrM W wr G H n met dep) : OrM W wr.drew G H n met dep := ⟨h.met.drew, h.dep.drew, h.ne, h.below.drew⟩
theorem OrM.drewN (h : OrM W wr G H n met dep) (m : Nat) : OrM W (wr.drewN m) G H n met dep := ⟨own_drewN' h.met m, own_drewN' h.dep m, h.ne, below_drewN h.below m⟩
end
theorem kidsAll_take {ts : List Nd} {k : Nat} {x : Nd} (hx : ts[k]? = some x) : kidsAll (ts.take (k + 1)) = kidsAll (ts.take k) ++ x.kids := by
  rw [List.take_add_one, hx]
  simp [kidsAll]
theorem kidsAll_le (ts : List Nd) (k : Nat) : (kidsAll (ts.take k)).length ≤ (kidsAll ts).length := by
  have e : kidsAll ts = kidsAll (ts.take k) ++ kidsAll (ts.drop k) := by rw [← kidsAll_app, List.take_append_drop]
  rw [e, List.length_append]; omega
theorem maxL_step {D : List Nat} {k a : Nat} (h : D[k]? = some a) : maxL (D.take (k + 1)) = max (maxL (D.take k)) a := by
  rw [List.take_add_one, h]
  exact maxL_snoc _ _
set_option maxHeartbeats 16000000 in
set_option maxRecDepth 100000 in
theorem treeOrder_law (A : Option Addr) (n c : Nat) (ts : List Nd) (hc : n ≤ c) (_hm : c ≤ maxLen) (w : World) (hN : NdsR w w.heap.size A n ts) (hT : Tab w) :
    Calls Tryd.prog 3 #[.agg #[.slice A n c]] w fun e w' => e = .returned (.bool true) ∧ Below w.heap.size w w' := by
  obtain ⟨W, hW⟩ : ∃ W, w.alloc (.cells #[.slice A n c] 24) = W := ⟨_, rfl⟩
  have hbW : Below w.heap.size w W := by rw [← hW]; exact (Below.refl _ _).alloc (Nat.le_refl _) _
  have hX1 : w.heap.size < W.heap.size := by rw [← hW]; simp
  have x0 : W.cell? ⟨w.heap.size, 0, none⟩ = some (.slice A n c) := by rw [← hW, World.cell?_alloc_at _ _ _ _ rfl]; rfl
  have HN := hide hN
  have HBW := hide hbW
  have HTW := hide (hT.go hbW)
  have CM := hide (fun (w1 : World) (hb : Below w.heap.size w w1) (hf : FewP ts) (q : Bool) (hq : mayF ts = q) => may_any (c := c) (hN.below hb) hb.size hc hf.all1 hq)
  have CK := hide (fun (w1 : World) (hb : Below w.heap.size w w1) (k : Nat) (hk : k < n) (x : Nd) (hx : ts[k]? = some x) (hl : x.kids.length ≤ 1000000) => tkids_in (c := c) (hN.below hb) hb.size hk hx hl)
  have CN := hide (fun (w1 : World) (hb : Below w.heap.size w w1) (hf : FewP ts) (hq : mayF ts = true) (h0 : 0 < n) (hl : n ≤ 4096) (nd : Nat) (hd : nestD ts = nd) => nest_yes (c := c) (hN.below hb) hb.size hc hf.all1 hq h0 hl (fwd_order (may_order hq)) hd)
  obtain ⟨X, hX⟩ : ∃ X, w.heap.size = X := ⟨_, rfl⟩
  have HXX := hide hX
  go_enter Tryd.func3, Tryd.ntmps3
  go_upto_region 1 with (fail)
  clear hN hbW hT hW
  rw [hX] at x0 hX1
  clear hX
  go_wp2_with fail
  refine (first_any HTW.out).mono ?_
  rintro e1 w1 ⟨rfl, hb1⟩
  have y1 := (hb1.cell (p := ⟨X, 0, none⟩) hX1).trans x0
  have HB1 := hide (HBW.out.trans (hb1.mono HBW.out.size))
  have HT1 := hide (HTW.out.go hb1)
  have hX2 : X < w1.heap.size := Nat.lt_of_lt_of_le hX1 hb1.size
  clear hb1 x0 hX1 HBW HTW
  go_wp2_with fail
  refine (few_any (c := c) (HN.out.below HB1.out) HB1.out.size).mono ?_
  rintro e2 w2 ⟨q, rfl, hf, hb2⟩
  have y2 := (hb2.cell (p := ⟨X, 0, none⟩) hX2).trans y1
  have HB2 := hide (HB1.out.trans (hb2.mono HB1.out.size))
  have HT2 := hide (HT1.out.go hb2)
  have hX3 : X < w2.heap.size := Nat.lt_of_lt_of_le hX2 hb2.size
  clear hb2 y1 hX2 HB1 HT1
  cases q with
  | false =>
    clear hf
    go_wp2_with fail
    refine (first_any HT2.out).mono ?_
    rintro e3 w3 ⟨rfl, hb3⟩
    have HB3 := hide (HB2.out.trans (hb3.mono HB2.out.size))
    clear hb3
    go_wp2_with fail
    go_ret
    exact ⟨rfl, HB3.out⟩
  | true =>
    have HF := hide (hf rfl)
    clear hf
    obtain ⟨q, hq⟩ : ∃ q, mayF ts = q := ⟨_, rfl⟩
    have C2 := hide (CM.out w2 HB2.out HF.out q hq)
    have HQ := hide hq
    clear CM hq
    go_wp2_with fail
    refine C2.out.mono ?_
    rintro e3 w3 ⟨rfl, hb3⟩
    have y3 := (hb3.cell (p := ⟨X, 0, none⟩) hX3).trans y2
    have HB3 := hide (HB2.out.trans (hb3.mono HB2.out.size))
    have HT3 := hide (HT2.out.go hb3)
    have hX4 : X < w3.heap.size := Nat.lt_of_lt_of_le hX3 hb3.size
    clear hb3 y2 hX3 HB2 HT2 C2
    cases q with
    | false =>
      go_wp2_with fail
      refine (first_any HT3.out).mono ?_
      rintro e4 w4 ⟨rfl, hb4⟩
      have HB4 := hide (HB3.out.trans (hb4.mono HB3.out.size))
      clear hb4
      go_wp2_with fail
      go_ret
      exact ⟨rfl, HB4.out⟩
    | true =>
      obtain ⟨hor, hmx, hln, hl0⟩ := may_ordered HQ.out
      obtain ⟨D, hD⟩ : ∃ D, deepF ts = D := ⟨_, rfl⟩
      rw [hD] at hor hmx
      have HD := hide hD
      have HOR := hide hor
      have HMX := hide hmx
      have HLN := hide HN.out.1
      rw [HN.out.1] at hln hl0
      clear hor hmx hD
      obtain ⟨i0, hi, hz0, hz1, hz2⟩ := info_parts Tryd.info_int
      have hb8 : i0.bytes * n ≤ 281474976710656 := by rw [hz2]; omega
      have hnm : n ≤ maxLen := by unfold maxLen; omega
      obtain ⟨G, hG⟩ : ∃ G, w3.heap.size = G := ⟨_, rfl⟩
      go_upto_region 6 with (refine wpList_make_full _ rfl _ _ 27 rfl w3.heap.size 3 i0 (.int .i64 0) 1 Tryd.underlying27 hi hz0 hz1 .i64 .i64 (n : Int) (n : Int) n rfl rfl rfl rfl hb8 hnm (Nat.le_refl _) ?_; intro w4 ho4 hg4; have y4 : w4.cell? ⟨X, 0, none⟩ = some (.slice A n c) := hg4.cell y3 (by simp))
      have h4s := hg4.size
      obtain ⟨H, hH⟩ : ∃ H, w4.heap.size = H := ⟨_, rfl⟩
      go_wp2_with (refine wpList_make_full _ rfl _ _ 27 rfl w3.heap.size 3 i0 (.int .i64 0) 1 Tryd.underlying27 hi hz0 hz1 .i64 .i64 (n : Int) (n : Int) n rfl rfl rfl rfl hb8 hnm h4s ?_; intro w5 ho5 hg5)
      have y5 := hg5.cell y4 (by simp)
      have b45 : Below w3.heap.size w3 w5 := ⟨hg5.os.trans hg4.os, hg5.tape.trans hg4.tape, hg5.output.trans hg4.output, Nat.le_trans hg4.size hg5.size, fun i hi => (hg5.block i (Nat.lt_of_lt_of_le hi hg4.size) (by simp)).trans (hg4.block i hi (by simp))⟩
      rw [made_zero] at ho4 ho5
      rw [hH] at ho5
      rw [hG] at ho4 ho5
      have hGH : G < H := by rw [← hH]; exact (ho4.lt G rfl).2
      have HS5 := hide (show OrM w3 w5 G H n (List.replicate n 0) (List.replicate n 0) from
        ⟨by rw [hG]; exact row_new ho4 hg5, by rw [hG]; exact ho5, by omega, b45⟩)
      have hX5 : X < G := by omega
      have HG := hide hG
      have HY3 := hide y3
      have HI := hide hX4
      clear ho4 hg4 ho5 hg5 hi hz0 hz1 hz2 hb8 hnm hG hH h4s y4 y5 b45 y3 hX4
      go_wp2_with fail
      go_loopw [5, 6] (fun v5 v6 wr => ∃ (k z : Nat) (met dep : List Nat), k ≤ n ∧ v6 = .int .i64 (k : Int) ∧ v5 = .int .i64 (z : Int) ∧ Hid (maxL (D.take k) = z) ∧ Hid (OrdS ts D k (kidsAll (ts.take k)) met dep) ∧ Hid (OrM w3 wr G H n met dep)) (fun _ i _ => n - (intOf i).toNat)
      case atStart => exact ⟨0, 0, _, _, Nat.zero_le _, rfl, rfl, rfl, by have := OrdS.start (D := D) (show 0 < ts.length by rw [HLN.out]; exact hl0); rw [HLN.out] at this; exact this, HS5.out⟩
      case round =>
        clear HS5
        obtain ⟨k, z, met, dep, hk, rfl, rfl, hz, hoS, hM⟩ := hrel
        have yr := (hM.out.below.cell (p := ⟨X, 0, none⟩) HI.out).trans HY3.out
        have hzb : z ≤ 48 := by
          have h1 := HMX.out
          have h2 : maxL D = max (maxL (D.take k)) (maxL (D.drop k)) := by rw [← maxL_app, List.take_append_drop]
          have h3 := hz.out
          omega
        by_cases hlt : k < n
        · have h1 : (k : Int) < (n : Int) := by omega
          have h2 : decide ((k : Int) < (n : Int)) = true := decide_eq_true h1
          have hkl : k < ts.length := by rw [HLN.out]; exact hlt
          obtain ⟨a, ha1, ha2, hoS2⟩ := hoS.out.go HOR.out hkl
          have hab : a + 1 ≤ 48 := by have := maxL_ge (List.mem_of_getElem? ha2); have := HMX.out; omega
          have hca := row_cell hM.out.dep ha1
          have hfa := hM.out.dep.frozenAt k
          obtain ⟨x, hx⟩ : ∃ x, ts[k]? = some x := ⟨_, List.getElem?_eq_getElem hkl⟩
          have HX := hide hx
          have HA2 := hide ha2
          have HS2 := hide hoS2
          have hzn : max (z : Int) ((a : Int) + 1) = ((max z (a + 1) : Nat) : Int) := by omega
          have HZN := hide hzn
          have HMS := hide (hM.out.setD (k := k) (a := a + 1) (z := (a : Int) + 1) (by omega))
          have hWk := hide hM.out.below.size
          have hMG := hM.out.hw
          clear hx ha1 ha2 hoS2 hzn hoS
          go_upto_region 12 with (fail)
          obtain ⟨w6, hw6⟩ : ∃ w6, wr.setCell ⟨H, k, none⟩ (.int .i64 ((a : Int) + 1)) = w6 := ⟨_, rfl⟩
          have hc6 : w6.cell? ⟨H, k, none⟩ = some (.int .i64 ((a : Int) + 1)) := by rw [← hw6]; exact World.cell?_setCell_same _ _ _ hca
          have y6 : w6.cell? ⟨X, 0, none⟩ = some (.slice A n c) := by
            rw [← hw6, World.cell?_setCell_other _ _ _ _ (fun e => by injection e with e; omega)]; exact yr
          rw [hw6] at HMS
          rw [hw6]
          clear hw6 hca hfa yr hM
          go_upto_region 13 with (fail)
          rw [HZN.out]
          obtain ⟨z2, hz2⟩ : ∃ z2, max z (a + 1) = z2 := ⟨_, rfl⟩
          rw [hz2]
          have HZ2 := hide (show maxL (D.take (k + 1)) = z2 by rw [maxL_step HA2.out, hz.out, hz2])
          have C6 := hide (CK.out w6 (HB3.out.trans (HMS.out.below.mono HB3.out.size)) k hlt x HX.out (by
            have h1 := kidsAll_take HX.out
            have h2 := kidsAll_le ts (k + 1)
            rw [h1, List.length_append] at h2
            have := HF.out.all1
            omega))
          clear hz2 HZN hz hc6
          go_wp2_with fail
          refine C6.out.mono ?_
          rintro e7 w7 ⟨v, rfl, hm7⟩
          have ho7 := hm7.own
          rw [i64s_len] at ho7
          obtain ⟨L, hL⟩ : ∃ L, x.kids.length = L := ⟨_, rfl⟩
          rw [hL] at ho7
          obtain ⟨Ak, ck, rfl, hck, hckm⟩ := own_shape ho7
          have HO7 := hide ho7
          have HM7 := hide (HMS.out.go hm7.below)
          have HL := hide hL
          have HHW := hide (show H < w6.heap.size from HMS.out.hw.2)
          have HGW := hide (show G < w6.heap.size from HMS.out.gw.2)
          have htot : (kidsAll (ts.take k)).length + L ≤ 20000 := by
            have h1 := kidsAll_take HX.out
            have h2 := kidsAll_le ts (k + 1)
            rw [h1, List.length_append, hL] at h2
            have := HF.out.all
            omega
          clear hm7 ho7 hL HMS y6 C6
          go_wp2_with fail
          go_loopw [8] (fun v8 wr => ∃ (j : Nat) (met dep : List Nat), j ≤ L ∧ v8 = .int .i64 (j : Int) ∧ Hid (OrdS ts D (k + 1) (kidsAll (ts.take k) ++ x.kids.take j) met dep) ∧ Hid (OrM w3 wr G H n met dep) ∧ Hid (wr.ownsRow w6.heap.size 3 1 (.slice Ak L ck) L (i64s x.kids))) (fun i _ => L - (intOf i).toNat)
          case atStart => exact ⟨0, _, _, Nat.zero_le _, rfl, by rw [List.take_zero, List.append_nil]; exact HS2.out, HM7.out, HO7.out⟩
          case round =>
            clear HM7 HO7 HS2
            obtain ⟨j, met1, dep1, hj, rfl, hoS, hM, hO⟩ := hrel
            by_cases hjl : j < L
            · have h3 : (j : Int) < (L : Int) := by omega
              have h4 : decide ((j : Int) < (L : Int)) = true := decide_eq_true h3
              obtain ⟨g, cap, hv, _, hgl⟩ := hO.out.form (by omega)
              obtain ⟨rfl, rfl⟩ : Ak = some ⟨g, 0, none⟩ ∧ ck = cap := by injection hv with h1 _ h2; exact ⟨h1, h2⟩
              have hjx : j < x.kids.length := by rw [HL.out]; exact hjl
              have hcj : wr.cell? ⟨g, j, none⟩ = some (.int .i64 x.kids[j]) := by
                rw [hO.out.cellAt j (by omega)]
                simp [i64s, hjx]
              have htx : ts[k] = x := by
                have := HX.out
                rw [List.getElem?_eq_getElem hkl] at this
                exact Option.some.inj this
              have hkm : x.kids[j] ∈ ts[k].kids := by rw [htx]; exact List.getElem_mem hjx
              obtain ⟨l1, l2⟩ := HOR.out.lo k hkl _ hkm
              have hfst := hide (fun (e : j = 0) => HOR.out.first k hkl x.kids[j] (by rw [htx]; subst e; exact List.getElem?_eq_getElem hjx))
              obtain ⟨y, hy⟩ : ∃ y, x.kids[j] = y := ⟨_, rfl⟩
              rw [hy] at hcj hkm l1 l2 hfst
              rw [HLN.out] at l2
              have htk : x.kids.take (j + 1) = x.kids.take j ++ [y] := by rw [List.take_succ_eq_append_getElem hjx, hy]
              obtain ⟨m, rfl⟩ : ∃ m : Nat, y = (m : Int) := ⟨y.toNat, by omega⟩
              have hmn : m < n := by omega
              have hml : m < ts.length := by rw [HLN.out]; exact hmn
              have hmet := hoS.out.met m hml
              obtain ⟨cm, hcm⟩ : ∃ cm, (kidsAll (ts.take k) ++ x.kids.take j).count (m : Int) = cm := ⟨_, rfl⟩
              rw [hcm] at hmet
              have hcmb : cm ≤ 40000 := by
                have h1 : (kidsAll (ts.take k) ++ x.kids.take j).count (m : Int) ≤ (kidsAll (ts.take k) ++ x.kids.take j).length := List.count_le_length
                rw [List.length_append, List.length_take] at h1
                omega
              have hold : dep1[k]? = some (a + 1) := by rw [hoS.out.old k (by omega)]; exact HA2.out
              obtain ⟨dm, hdm⟩ : ∃ dm, dep1[m]? = some dm := ⟨_, List.getElem?_eq_getElem (by rw [hoS.out.dl]; exact hml)⟩
              have c1 := row_cell hM.out.met hmet
              have c2 := row_cell hM.out.dep hold
              have c3 := row_cell hM.out.dep hdm
              have f1 := hM.out.met.frozenAt m
              have f2 := hM.out.dep.frozenAt m
              have yr := (hM.out.below.cell (p := ⟨X, 0, none⟩) HI.out).trans HY3.out
              have hst := hide (hoS.out.step HOR.out hkl hkm HA2.out hmet)
              have HTK := hide htk
              have hne1 : G ≠ H := hM.out.ne
              have t1 : ¬ (m : Int) ≤ (k : Int) := by omega
              have t2 : ¬ (n : Int) ≤ (m : Int) := by omega
              have t3 : decide ((m : Int) ≤ (k : Int)) = false := decide_eq_false t1
              have t4 : decide ((n : Int) ≤ (m : Int)) = false := decide_eq_false t2
              have t1n : ¬ m ≤ k := by omega
              have t2n : ¬ n ≤ m := by omega
              have t3n : decide (m ≤ k) = false := decide_eq_false t1n
              have t4n : decide (n ≤ m) = false := decide_eq_false t2n
              have hgG : g ≠ G := by have := hO.out.lt g rfl; have := HGW.out; omega
              have hgH : g ≠ H := by have := hO.out.lt g rfl; have := HHW.out; omega
              clear hy htk hcm hmet hold hdm hoS htx hkm
              by_cases hj0 : j = 0
              · have d1 : ((j : Int) == 0) = true := by rw [hj0]; rfl
                have hmk := hfst.out hj0
                have d2 : ((m : Int) != (k : Int) + 1) = false := by rw [hmk]; simp
                have HJ0 := hide hj0
                have HMK := hide hmk
                clear hfst hj0 hmk
                go_wp2_with fail
                go_quiet (fail)
                obtain ⟨w8, hw8⟩ : ∃ w8, wr.drewN nq = w8 := ⟨_, rfl⟩
                rw [hw8]
                have k1 : w8.cell? ⟨g, j, none⟩ = some (.int .i64 (m : Int)) := by rw [← hw8]; exact hcj
                have k2 : w8.cell? ⟨G, m, none⟩ = some (.int .i64 (cm : Int)) := by rw [← hw8]; exact c1
                have k3 : w8.frozen? ⟨G, m, none⟩ = false := by rw [← hw8]; exact f1
                have k4 : w8.cell? ⟨H, k, none⟩ = some (.int .i64 ((a + 1 : Nat) : Int)) := by rw [← hw8]; exact c2
                have k5 : w8.cell? ⟨H, m, none⟩ = some (.int .i64 (dm : Int)) := by rw [← hw8]; exact c3
                have k6 : w8.frozen? ⟨H, m, none⟩ = false := by rw [← hw8]; exact f2
                have HM8 := hide (show OrM w3 w8 G H n met1 dep1 by rw [← hw8]; exact hM.out.drewN _)
                have HO8 := hide (show w8.ownsRow w6.heap.size 3 1 (.slice (some ⟨g, 0, none⟩) L ck) L (i64s x.kids) by rw [← hw8]; exact own_drewN' hO.out _)
                clear hw8 hcj c1 c2 c3 f1 f2 hM hO yr
                go_upto_region 20 with (fail)
                obtain ⟨w9, hw9⟩ : ∃ w9, w8.setCell ⟨G, m, none⟩ (.int .i64 ((cm : Int) + 1)) = w9 := ⟨_, rfl⟩
                rw [hw9]
                have l1' : w9.cell? ⟨g, j, none⟩ = some (.int .i64 (m : Int)) := by rw [← hw9, World.cell?_setCell_other _ _ _ _ (fun e => by injection e with e; exact hgG e.symm)]; exact k1
                have l2' : w9.cell? ⟨H, k, none⟩ = some (.int .i64 ((a + 1 : Nat) : Int)) := by rw [← hw9, World.cell?_setCell_other _ _ _ _ (fun e => by injection e with e; exact hne1 e)]; exact k4
                have l3' : w9.cell? ⟨H, m, none⟩ = some (.int .i64 (dm : Int)) := by rw [← hw9, World.cell?_setCell_other _ _ _ _ (fun e => by injection e with e; exact hne1 e)]; exact k5
                have l4' : w9.frozen? ⟨H, m, none⟩ = false := by rw [← hw9, World.frozen?_setCell]; exact k6
                have HM9 := hide (show OrM w3 w9 G H n (met1.set m (cm + 1)) dep1 by rw [← hw9]; exact HM8.out.setM (by omega))
                have HO9 := hide (show w9.ownsRow w6.heap.size 3 1 (.slice (some ⟨g, 0, none⟩) L ck) L (i64s x.kids) by rw [← hw9]; exact own_grown HO8.out (grown_set _ _ _ _) HGW.out)
                clear hw9 k1 k2 k3 k4 k5 k6 HM8 HO8
                go_region
                go_wp2_with fail
                go_roundw
                case rel =>
                  exact ⟨j + 1, _, _, by omega, by go_num, by rw [HTK.out, ← List.append_assoc]; exact hst.out, HM9.out.drewN1.setD rfl, own_grown (own_drewN' HO9.out _) (grown_set _ _ _ _) HHW.out⟩
                case measure => simp [intOf]; omega
              have d1 : ((j : Int) == 0) = false := beq_eq_false_iff_ne.2 (by omega)
              clear hfst
              go_wp2_with fail
              go_quiet (fail)
              obtain ⟨w8, hw8⟩ : ∃ w8, wr.drewN nq = w8 := ⟨_, rfl⟩
              rw [hw8]
              have k1 : w8.cell? ⟨g, j, none⟩ = some (.int .i64 (m : Int)) := by rw [← hw8]; exact hcj
              have k2 : w8.cell? ⟨G, m, none⟩ = some (.int .i64 (cm : Int)) := by rw [← hw8]; exact c1
              have k3 : w8.frozen? ⟨G, m, none⟩ = false := by rw [← hw8]; exact f1
              have k4 : w8.cell? ⟨H, k, none⟩ = some (.int .i64 ((a + 1 : Nat) : Int)) := by rw [← hw8]; exact c2
              have k5 : w8.cell? ⟨H, m, none⟩ = some (.int .i64 (dm : Int)) := by rw [← hw8]; exact c3
              have k6 : w8.frozen? ⟨H, m, none⟩ = false := by rw [← hw8]; exact f2
              have HM8 := hide (show OrM w3 w8 G H n met1 dep1 by rw [← hw8]; exact hM.out.drewN _)
              have HO8 := hide (show w8.ownsRow w6.heap.size 3 1 (.slice (some ⟨g, 0, none⟩) L ck) L (i64s x.kids) by rw [← hw8]; exact own_drewN' hO.out _)
              clear hw8 hcj c1 c2 c3 f1 f2 hM hO yr
              go_upto_region 20 with (fail)
              obtain ⟨w9, hw9⟩ : ∃ w9, w8.setCell ⟨G, m, none⟩ (.int .i64 ((cm : Int) + 1)) = w9 := ⟨_, rfl⟩
              rw [hw9]
              have l1' : w9.cell? ⟨g, j, none⟩ = some (.int .i64 (m : Int)) := by rw [← hw9, World.cell?_setCell_other _ _ _ _ (fun e => by injection e with e; exact hgG e.symm)]; exact k1
              have l2' : w9.cell? ⟨H, k, none⟩ = some (.int .i64 ((a + 1 : Nat) : Int)) := by rw [← hw9, World.cell?_setCell_other _ _ _ _ (fun e => by injection e with e; exact hne1 e)]; exact k4
              have l3' : w9.cell? ⟨H, m, none⟩ = some (.int .i64 (dm : Int)) := by rw [← hw9, World.cell?_setCell_other _ _ _ _ (fun e => by injection e with e; exact hne1 e)]; exact k5
              have l4' : w9.frozen? ⟨H, m, none⟩ = false := by rw [← hw9, World.frozen?_setCell]; exact k6
              have HM9 := hide (show OrM w3 w9 G H n (met1.set m (cm + 1)) dep1 by rw [← hw9]; exact HM8.out.setM (by omega))
              have HO9 := hide (show w9.ownsRow w6.heap.size 3 1 (.slice (some ⟨g, 0, none⟩) L ck) L (i64s x.kids) by rw [← hw9]; exact own_grown HO8.out (grown_set _ _ _ _) HGW.out)
              clear hw9 k1 k2 k3 k4 k5 k6 HM8 HO8
              go_region
              go_wp2_with fail
              go_roundw
              case rel =>
                exact ⟨j + 1, _, _, by omega, by go_num, by rw [HTK.out, ← List.append_assoc]; exact hst.out, HM9.out.drewN1.setD rfl, own_grown (own_drewN' HO9.out _) (grown_set _ _ _ _) HHW.out⟩
              case measure => simp [intOf]; omega
            · obtain rfl : j = L := by omega
              have h3 : ¬ (j : Int) < (j : Int) := by omega
              have htk : x.kids.take j = x.kids := List.take_of_length_le (by rw [HL.out]; exact Nat.le_refl _)
              have hdn := hide (show OrdS ts D (k + 1) (kidsAll (ts.take (k + 1))) met1 dep1 from by
                have := hoS.out
                rw [htk, ← kidsAll_take HX.out] at this
                exact this)
              clear hoS htk
              go_wp2_with fail
              go_roundw
              case rel => exact ⟨k + 1, z2, met1, dep1, by omega, by go_num, rfl, HZ2.out, hdn.out, hM.out⟩
              case measure => simp [intOf]; omega
        · have h1 : ¬ (k : Int) < (n : Int) := by omega
          have h2 : decide ((k : Int) < (n : Int)) = false := decide_eq_false h1
          obtain rfl : k = n := by omega
          have hoE := hide (show OrdS ts D k (kidsAll ts) met dep from by
            have := hoS.out
            rwa [List.take_of_length_le (by rw [HLN.out]; exact Nat.le_refl _)] at this)
          have hzE := hide (show nestD ts = z from by
            have h3 := hz.out
            have hDl : D.length = k := by rw [HOR.out.len, HLN.out]
            rw [List.take_of_length_le (by rw [hDl]; exact Nat.le_refl _)] at h3
            rw [← h3, ← HD.out]
            rfl)
          have HMe := hide hM.out
          have hx5 : 1 ≤ k := hl0
          clear hoS hz hM
          go_wp2_with fail
          go_loopw [9] (fun v9 wx => ∃ j : Nat, 1 ≤ j ∧ j ≤ k ∧ v9 = .int .i64 (j : Int) ∧ wr = wx) (fun i _ => k - (intOf i).toNat)
          case atStart => exact ⟨1, Nat.le_refl _, hx5, rfl, rfl⟩
          case round =>
            obtain ⟨j, hj1, hj2, rfl, rfl⟩ := hrel
            by_cases hjk : j < k
            · have h3 : (j : Int) < (k : Int) := by omega
              have h4 : decide ((j : Int) < (k : Int)) = true := decide_eq_true h3
              have hce : wr.cell? ⟨G, j, none⟩ = some (.int .i64 1) := row_cell HMe.out.met (hoE.out.end_ HOR.out hj1 (by rw [HLN.out]; exact hjk))
              go_wp2_with fail
              go_roundw
              case rel => exact ⟨j + 1, by omega, by omega, by go_num, by first | rfl | exact trivial⟩
              case measure => simp [intOf]; omega
            · have h3 : ¬ (j : Int) < (k : Int) := by omega
              have h4 : decide ((j : Int) < (k : Int)) = false := decide_eq_false h3
              have hBr := hide (HB3.out.trans (HMe.out.below.mono HB3.out.size))
              have HTr := hide (HT3.out.go (HMe.out.below))
              have CNN := hide (fun (w1 : World) (hb : Below w.heap.size w w1) => CN.out w1 hb HF.out HQ.out hl0 hln z hzE.out)
              have hXr : X < wr.heap.size := Nat.lt_of_lt_of_le HI.out HMe.out.below.size
              clear CN CK
              go_wp2_with fail
              refine (first_any HTr.out).mono ?_
              rintro e8 w8 ⟨rfl, hb8⟩
              have y8 := (hb8.cell (p := ⟨X, 0, none⟩) hXr).trans yr
              have HB8 := hide (hBr.out.trans (hb8.mono hBr.out.size))
              have C8 := hide (CNN.out w8 HB8.out)
              have g1 : (k : Int) ≤ 4096 := by omega
              have g2 : decide ((k : Int) ≤ 4096) = true := decide_eq_true g1
              have g3 : (z : Int) ≤ 48 := by omega
              have g4 : decide ((z : Int) ≤ 48) = true := decide_eq_true g3
              clear hb8 yr CNN hBr HTr
              go_wp2_with fail
              refine C8.out.mono ?_
              rintro e9 w9 ⟨rfl, hb9⟩
              have HB9 := hide (HB8.out.trans (hb9.mono HB8.out.size))
              clear hb9
              go_wp2_with fail
              go_ret
              exact ⟨rfl, HB9.out⟩
end Go.Proofs.YtelcjdblnagdgaaDoor

namespace Go.Proofs.YtelcjdblnagdgaaDoor.lawTreeOrder
open Go.ChangeShapes Go.WideShapes Go.ChangeAt Go.RowKit

set_option maxRecDepth 1000000 in
theorem contract (H : Type) (enc : TypeId × Value → H) (W : World) (base : Nat) (args : Array Value) (ds gs : List (DataW H)) (before : List MemPlace)
    (hval : ∀ (j : Nat) t v, Tryd.f3.params[j]? = some t → args[j]? = some v → Value.okWide Tryd.prog W .any base t v)
    (hW : DataW.Whole enc Tryd.prog Tryd.f3.params.toList Rows.treeOrderSpec.vars false W args.toList ds gs before) (hL : laidMetH Tryd.prog Rows.treeOrderRow.laid W) :
    Calls Tryd.prog 3 args W fun e W' => ∃ v, e = .returned v ∧ Rows.treeOrderSpec.post enc Tryd.prog Tryd.f3 false true false false W args v W' := by
  have hW' := hW
  obtain ⟨p, q, hA0, hV, rfl, hfz, hnd⟩ := hW
  have hA : DataW.TrodAll enc Tryd.prog W 0 (fun _ => true) true Tryd.f3.params.toList args.toList ds p := hA0
  rw [Tryd.params3] at hA hval
  have hA1 := hA
  obtain ⟨v0, vs0, d0, ds0, p0, q0, hargs, rfl, rfl, h0, r0⟩ := trodAll_cons hA
  obtain ⟨rfl, rfl, rfl⟩ := trodAll_nil r0
  obtain rfl : args = #[v0] := by cases args; simp_all
  obtain ⟨rfl, rfl⟩ := trodVars_none hV
  obtain ⟨A0, n0, c0, x0, rfl, hc0, hm0, hr0⟩ := param_tree (hval 0 24 v0 rfl rfl) h0
  clear hA0
  have hlt := hW'.lt
  refine (treeOrder_law A0 n0 c0 x0 hc0 hm0 W hr0 (tab_laid hL)).mono fun e W' ⟨he, hb⟩ => ?_
  subst he
  exact ⟨_, rfl, post_of_below (pv := []) hW' (fun _ _ _ => trodAll_cons_mk (shut_bool Tryd.underlying4 _) trodAll_mk0)
    (fun sp hsp => by
      rw [Tryd.params3]
      exact trodAll_stays (fun t ht => by
        have : t ∈ [24] := ht
        simp only [List.mem_cons, List.mem_nil_iff, or_false] at this
        rcases this with rfl <;> exact ⟨by kernel_rfl, of_decide_eq_true (by kernel_rfl)⟩) hA1 hb (fun x hx => hlt x (by simpa using hx)) (fun x hx => hsp x (by simpa using hx)))
    (fun _ _ => rfl) rfl hb (ok_one (by kernel_rfl) rfl (okWide_bool_mk Tryd.underlying4 _))⟩

theorem laid_met (os : Os) : laidMet Tryd.prog Rows.treeOrderRow.laid ((laidWorld os).forCall (fun _ _ => 0) ⟨#[], #[.agg #[.slice none 0 0]], []⟩).memory :=
  laidMet_of_run' 8 (by kernel_rfl) (by kernel_rfl)
theorem reads (os : Os) {H : Type} (enc : TypeId × Value → H) : ∃ places, DataW.whole enc Tryd.prog ((laidWorld os).forCall (fun _ _ => 0) ⟨#[], #[.agg #[.slice none 0 0]], []⟩).memory Tryd.f3.params.toList Rows.treeOrderSpec.vars false (#[.agg #[.slice none 0 0]] : Array Value).toList 8 = some ([.agg [.nil]], [], places) :=
  ⟨[], by kernel_rfl⟩

set_option maxRecDepth 100000 in
theorem lifted (os : Os) (started : os.Started) (H : Type) (enc : TypeId × Value → H) (F : Stop.Interp) :
    ReturnsInHanded {} Tryd.checked os 3 .any ((OpenSpec.ofChange Rows.treeOrderSpec).preRow enc Tryd.prog Tryd.f3 Rows.treeOrderRow.domain false Rows.treeOrderRow.laid) (((OpenSpec.ofChange Rows.treeOrderSpec).at F).post enc Tryd.prog Tryd.f3 false true false false) := by
  obtain ⟨places, hx⟩ := reads os enc
  refine returnsInHanded_of_row (C := Tryd.checked) (s := OpenSpec.ofChange Rows.treeOrderSpec) own started (by kernel_rfl) Tryd.func3
    (witness_row_at (enc := enc) (C := Tryd.checked) false (laidWorld os) #[.agg #[.slice none 0 0]] rfl (by kernel_rfl) (by kernel_rfl) (by kernel_rfl)
      (OpenSpec.preRow_of_cond 8 hx (by kernel_rfl) (fun k hk => by cases hk) (by kernel_rfl) (laid_met os))) ?_
  intro W base args ds gs before hval hW _ _ _ hL _ _
  exact contract H enc W base args ds gs before hval hW hL

theorem said : Rows.TreeOrderSaid :=
  OpenClaim.holds_of_cond 3 Tryd.f3 rfl rfl rfl rfl rfl rfl rfl ⟨rfl, rfl, rfl, rfl, rfl⟩ rfl rfl rfl rfl rfl (by kernel_rfl) Tryd.func3 (by kernel_rfl)
    (of_decide_eq_true (by kernel_rfl)) (by unfold Func.isWrapper; first | (rw [if_pos (by decide +kernel)]; kernel_rfl) | (rw [if_neg (by decide +kernel)]; exact ⟨rfl, rfl⟩))
    (fun os started H enc _ F => by rw [OpenClaim.pre_eq_preRow]; exact lifted os started H enc F)

theorem plain (f : FuncId) (fn : Func) (hf : Tryd.pinned.checked.prog.funcNamed "rendezvous/renlaw6.TreeOrder" = some f) (hfn : Tryd.pinned.checked.prog.funcs[f]? = some fn) :
    false = Tryd.pinned.checked.prog.looks [] ∧ ∀ (j : Nat) t, fn.params[j]? = some t → Tryd.pinned.checked.prog.wantsStandIn t = false := by
  obtain rfl : f = 3 := Option.some.inj ((show Tryd.prog.funcNamed "rendezvous/renlaw6.TreeOrder" = some 3 by kernel_rfl).symm.trans hf) |>.symm
  obtain rfl : fn = Tryd.f3 := (Option.some.inj (Tryd.func3.symm.trans hfn)).symm
  refine ⟨by kernel_rfl, fun j t ht => ?_⟩
  rw [Tryd.params3] at ht
  have hin : t ∈ [24] := Array.mem_toList_iff.2 (Array.mem_of_getElem? ht)
  have hall : ([24].all fun u => !Tryd.pinned.checked.prog.wantsStandIn u) = true := by kernel_rfl
  simpa using List.all_eq_true.1 hall t hin

/-- The card. -/
theorem card : Rows.TreeOrderCardSaid :=
  Claim7.holds_tied_plain_at .later [] _ _ _ _ said (fun _ h => by cases h) (by kernel_rfl) (fun _ h => by cases h) treeOrder_row_tie rfl ⟨rfl, rfl⟩ (by kernel_rfl) rfl plain (by kernel_rfl)
end Go.Proofs.YtelcjdblnagdgaaDoor.lawTreeOrder
