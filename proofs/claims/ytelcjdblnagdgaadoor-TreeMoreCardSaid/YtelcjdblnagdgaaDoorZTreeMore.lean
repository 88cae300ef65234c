/- The law renlaw6.TreeMore: for every input that can be read the call returns true, and each argument reads behind it as before. Its card, tied to the program's text. Condition: none beside the row's own (the tables of strconv and math/bits stand as their initialisers lay them). -/
import Derived.Test.YtelcjdblnagdgaaDoorM18
import Derived.Test.YtelcjdblnagdgaaDoorM10
import Derived.Deep.RegionLaw
import Derived.Test.YtelcjdblnagdgaaDoorM17
import Derived.Deep.RegionHeld3
namespace Go.Proofs.YtelcjdblnagdgaaDoor
open Go.RowKit

section
variable {P : Program} {w0 w : World} {ops : Array Oper} {o : Oper} {a : Act} {K : Act → World → Prop} {Q : Exit → Act → World → Prop} {E : Prop}
/-- append of a slice that lies in memory, as a step of a region that draws -/
theorem step_any8 (hgd : o.guard = none) (s x : Operand) (t : TypeId)
    (ho : o.op = .call { callee := .builtin .append, args := #[s, x], argTypes := #[t, t] })
    (e : TypeId) (i : TypeInfo) (z : Value) (bytes : Nat) (ht : P.underlying t = some (.slice e)) (hi : P.info? e = some i) (hz : i.zero = some z)
    (hsize : i.size = 1) (hby : i.bytes = bytes) (hzs : z.cells.size = 1)
    (v : Value) (xs : List Value) (hs : a.eval s = v) (hm : Made w0 w e v xs)
    (B : Nat) (A : Option Addr) (m c : Nat) (news : List Value) (hx : a.eval x = .slice A m c) (hr : Reads w B 1 A m news) (h1 : ∀ u ∈ news, u.oneCell' = true)
    (hsz : xs.length + m ≤ 17592186044416) (hb2 : bytes ≤ 8)
    (h : ∀ v' w', Made w0 w' e v' (xs ++ news) → w.grownBy w' v.ownBlock → K (a.put o.dst v') w') :
    if Region.wanted o (yielded ops a.tmps) = true then Oper.wp P o a w K Q else E := by
  have hl : news.length = m := by have := hr.1; omega
  subst hl
  have hby2 : (xs.length + news.length) * bytes ≤ 140737488355328 := by
    calc (xs.length + news.length) * bytes ≤ 17592186044416 * 8 := Nat.mul_le_mul hsz hb2
      _ ≤ 140737488355328 := by omega
  obtain ⟨v', w', hrun, h2, h3, _⟩ := run_append_any (P := P) w w0.heap.size t o.type e i z 1 bytes ht hi hz hsize hby hzs (by omega) v xs.length xs hm.own B A news.length c news hr h1 (by unfold maxLen; omega) hby2 hm.below.size
  rw [if_pos (by simp [Region.wanted, hgd])]
  unfold Oper.wp execOp
  simp only [ho, resolve, invoke, builtin, Sem.run_bind, Sem.run_pure, Result.andThen_ok, List.map_toArray, List.map_cons, List.map_nil, hs, hx, hrun]
  exact h v' w' ⟨by rw [List.length_append]; exact h2, hm.below.grown h3 hm.below.size (fun k hk => (hm.own.lt k hk).1)⟩ h3
end
set_option maxHeartbeats 2000000 in
set_option maxRecDepth 100000 in
theorem copyBig_any {ng : Bool} {A : Option Addr} {c B n : Nat} {xs : List Nat} {w : World} (hn : xs.length = n) (hB : B ≤ w.heap.size) (ha : Reads w B 1 A n (n32s xs)) (hl : n ≤ 1000000) :
    Calls Tryd.prog 31 #[.agg #[.bool ng, .slice A n c]] w fun e w' => ∃ v, e = .returned (.agg #[.bool ng, v]) ∧ Made w w' 64 v (n32s xs) := by
  obtain ⟨i0, hi0, hz0, hz1, hz2⟩ := info_parts Tryd.info_u32
  obtain ⟨W, hW⟩ : ∃ W, w.alloc (.cells #[.bool ng, .slice A n c] 40) = W := ⟨_, rfl⟩
  have sW : W.heap.size = w.heap.size + 1 := by rw [← hW]; simp
  have bW : Below w.heap.size w W := by rw [← hW]; exact (Below.refl _ _).alloc (Nat.le_refl _) _
  have a0 : W.cell? ⟨w.heap.size, 0, none⟩ = some (.bool ng) := by rw [← hW, World.cell?_alloc_at _ _ _ _ rfl]; rfl
  have a1 : W.cell? ⟨w.heap.size, 1, none⟩ = some (.slice A n c) := by rw [← hW, World.cell?_alloc_at _ _ _ _ rfl]; rfl
  obtain ⟨V, hV⟩ : ∃ V, W.alloc (.cells #[.bool false, .slice none 0 0] 40) = V := ⟨_, rfl⟩
  have sV : V.heap.size = W.heap.size + 1 := by rw [← hV]; simp
  have bV : Below W.heap.size W V := by rw [← hV]; exact (Below.refl _ _).alloc (Nat.le_refl _) _
  have x0 := (bV.cell (p := ⟨w.heap.size, 0, none⟩) (show w.heap.size < W.heap.size by omega)).trans a0
  have x1 := (bV.cell (p := ⟨w.heap.size, 1, none⟩) (show w.heap.size < W.heap.size by omega)).trans a1
  have z0 : V.cell? ⟨W.heap.size, 0, none⟩ = some (.bool false) := by rw [← hV, World.cell?_alloc_at _ _ _ _ rfl]; rfl
  have z1 : V.cell? ⟨W.heap.size, 1, none⟩ = some (.slice none 0 0) := by rw [← hV, World.cell?_alloc_at _ _ _ _ rfl]; rfl
  have f0 : V.frozen? ⟨W.heap.size, 0, none⟩ = false := by rw [← hV]; exact World.frozen?_alloc_new _ _ _ _
  have f1 : V.frozen? ⟨W.heap.size, 1, none⟩ = false := by rw [← hV]; exact World.frozen?_alloc_new _ _ _ _
  have BV := hide (bW.trans (bV.mono bW.size))
  have ha' := hide (ha.below (BV.out.mono hB))
  obtain ⟨X, hX⟩ : ∃ X, w.heap.size = X := ⟨_, rfl⟩
  have BX := hide (show ∀ w', Below W.heap.size V w' → Below w.heap.size w w' from fun w' h => BV.out.trans (h.mono bW.size))
  have hsV : B ≤ V.heap.size := by omega
  have hVX : V.heap.size = X + 2 := by omega
  have SV := hide hVX
  have HB := hide hB
  rw [sW] at z0 z1 f0 f1
  rw [hX] at x0 x1 z0 z1 f0 f1
  go_enter Tryd.func31, Tryd.ntmps31
  go_upto_region 1 with (fail)
  have x1' : (V.alloc (.cells #[] 64)).cell? ⟨X, 1, none⟩ = some (.slice A n c) := (((Below.refl V.heap.size V).alloc (Nat.le_refl _) _).cell (p := ⟨X, 1, none⟩) (show X < V.heap.size by omega)).trans x1
  have x0' : (V.alloc (.cells #[] 64)).cell? ⟨X, 0, none⟩ = some (.bool ng) := (((Below.refl V.heap.size V).alloc (Nat.le_refl _) _).cell (p := ⟨X, 0, none⟩) (show X < V.heap.size by omega)).trans x0
  have hXV : X + 1 < V.heap.size := by omega
  have HWX := hide (show W.heap.size = X + 1 by omega)
  have hWV : W.heap.size ≤ V.heap.size := by omega
  have hXV0 : X < V.heap.size := by omega
  clear hV hW sV bV sW bW a0 a1 hB ha BV hVX
  have HX := hide hX
  clear hX
  go_region_law (refine step_any8 rfl _ _ 38 rfl 64 i0 _ 4 Tryd.underlying38 hi0 hz0 hz1 hz2 rfl _ _ rfl (Made.empty V 64).drew B A n c (n32s xs) rfl (ha'.out.alloc (by omega) _) (n32s_one _) (by simp; omega) (by omega) ?_; intro v' w' hm' _; have y0 := (hm'.below.cell (p := ⟨X + 1, 0, none⟩) hXV).trans z0; have y1 := (hm'.below.cell (p := ⟨X + 1, 1, none⟩) hXV).trans z1; have e0 := (hm'.below.frozen (p := ⟨X + 1, 0, none⟩) hXV).trans f0; have e1 := (hm'.below.frozen (p := ⟨X + 1, 1, none⟩) hXV).trans f1; have y2 := (hm'.below.cell (p := ⟨X, 0, none⟩) hXV0).trans x0; obtain ⟨A', c', rfl, _, _⟩ := own_shape hm'.own)
  all_goals go_wp2_with fail
  all_goals have q0 : ((w'.setCell ⟨X + 1, 0, none⟩ (.bool ng)).setCell ⟨X + 1, 1, none⟩ (.slice A' (n32s xs).length c')).cell? ⟨X + 1, 0, none⟩ = some (.bool ng) := by go_simp
  all_goals have q1 : ((w'.setCell ⟨X + 1, 0, none⟩ (.bool ng)).setCell ⟨X + 1, 1, none⟩ (.slice A' (n32s xs).length c')).cell? ⟨X + 1, 1, none⟩ = some (.slice A' (n32s xs).length c') := by go_simp
  all_goals refine bodyPost_ret (v := .agg #[.bool ng, .slice A' (n32s xs).length c']) (by simp [results, Tryd.results31, go_sem, q0, q1]) rfl ?_
  all_goals exact ⟨_, rfl, own_less (own_grown (own_grown hm'.own (grown_set w' (X + 1) 0 (.bool ng)) hXV) (grown_set _ (X + 1) 1 _) hXV) (by have := HX.out; have := SV.out; omega), BX.out _ (((hm'.below.mono hWV).setCell (by have := HWX.out; show W.heap.size ≤ X + 1; omega) _).setCell (by have := HWX.out; show W.heap.size ≤ X + 1; omega) _)⟩
end Go.Proofs.YtelcjdblnagdgaaDoor

namespace Go.Proofs.YtelcjdblnagdgaaDoor
open Go.RowKit

def zero8 : List Value := [.int .i64 0, .string ⟨#[]⟩, .slice none 0 0, .int .i64 0, .int .i64 0, .bool false, .slice none 0 0, .slice none 0 0]
theorem Tryd.info_node : (Tryd.prog.info? 42).map (fun i => (i.zero, i.size, i.bytes)) = some (some (.agg zero8.toArray), 8, 120) := by kernel_rfl
/-- what is copied: a slice of one's own -/
theorem copyU_is {A : Option Addr} {c B n : Nat} {xs : List UInt16} {w : World} (hn : xs.length = n) (hB : B ≤ w.heap.size) (ha : Reads w B 1 A n (u16s xs)) (hl : n ≤ 1000000) :
    Calls Tryd.prog 16 #[.slice A n c] w fun e w' => ∃ A' c', e = .returned (.slice A' n c') ∧ w'.ownsRow w.heap.size 34 1 (.slice A' n c') n (u16s xs) ∧ Below w.heap.size w w' := by
  subst hn
  refine (copyUnits_any hB ha (by omega)).mono ?_
  rintro e w' ⟨v, rfl, hm⟩
  have h1 := hm.own
  rw [u16s_len] at h1
  obtain ⟨A', c', rfl, _, _⟩ := own_shape h1
  exact ⟨A', c', rfl, h1, hm.below⟩
theorem copyB_is {ng : Bool} {A : Option Addr} {c B n : Nat} {xs : List Nat} {w : World} (hn : xs.length = n) (hB : B ≤ w.heap.size) (ha : Reads w B 1 A n (n32s xs)) (hl : n ≤ 1000000) :
    Calls Tryd.prog 31 #[.agg #[.bool ng, .slice A n c]] w fun e w' => ∃ A' c', e = .returned (.agg #[.bool ng, .slice A' n c']) ∧ w'.ownsRow w.heap.size 64 1 (.slice A' n c') n (n32s xs) ∧ Below w.heap.size w w' := by
  refine (copyBig_any hn hB ha hl).mono ?_
  rintro e w' ⟨v, rfl, hm⟩
  have h1 := hm.own
  rw [n32s_len, hn] at h1
  obtain ⟨A', c', rfl, _, _⟩ := own_shape h1
  exact ⟨A', c', rfl, h1, hm.below⟩
theorem copyI_is {A : Option Addr} {c B n : Nat} {xs : List Int} {w : World} (hn : xs.length = n) (hB : B ≤ w.heap.size) (ha : Reads w B 1 A n (i64s xs)) (hl : n ≤ 1000000) :
    Calls Tryd.prog 32 #[.slice A n c] w fun e w' => ∃ A' c', e = .returned (.slice A' n c') ∧ w'.ownsRow w.heap.size 3 1 (.slice A' n c') n (i64s xs) ∧ Below w.heap.size w w' := by
  refine (copyInts_any hn hB ha hl).mono ?_
  rintro e w' ⟨v, rfl, hm⟩
  have h1 := hm.own
  rw [i64s_len, hn] at h1
  obtain ⟨A', c', rfl, _, _⟩ := own_shape h1
  exact ⟨A', c', rfl, h1, hm.below⟩
/-- eight cells that may be stored -/
def NB (w : World) (N : Nat) (v0 v1 v2 v3 v4 v5 v6 v7 : Value) : Prop :=
  (w.cell? ⟨N, 0, none⟩ = some v0 ∧ w.cell? ⟨N, 1, none⟩ = some v1 ∧ w.cell? ⟨N, 2, none⟩ = some v2 ∧ w.cell? ⟨N, 3, none⟩ = some v3 ∧ w.cell? ⟨N, 4, none⟩ = some v4 ∧ w.cell? ⟨N, 5, none⟩ = some v5 ∧ w.cell? ⟨N, 6, none⟩ = some v6 ∧ w.cell? ⟨N, 7, none⟩ = some v7) ∧ ∀ j, j < 8 → w.frozen? ⟨N, j, none⟩ = false
section
variable {w w' : World} {N D : Nat} {v0 v1 v2 v3 v4 v5 v6 v7 : Value}
theorem NB.below (h : NB w N v0 v1 v2 v3 v4 v5 v6 v7) (hb : Below D w w') (hd : N < D) : NB w' N v0 v1 v2 v3 v4 v5 v6 v7 := by
  have hc : ∀ j, w'.cell? ⟨N, j, none⟩ = w.cell? ⟨N, j, none⟩ := fun j => hb.cell (p := ⟨N, j, none⟩) hd
  have hf : ∀ j, w'.frozen? ⟨N, j, none⟩ = w.frozen? ⟨N, j, none⟩ := fun j => hb.frozen (p := ⟨N, j, none⟩) hd
  unfold NB
  rw [hc, hc, hc, hc, hc, hc, hc, hc]
  exact ⟨h.1, fun j hj => by rw [hf]; exact h.2 j hj⟩
theorem off_ne {N i j : Nat} (h : i ≠ j) : (⟨N, i, none⟩ : Addr) ≠ ⟨N, j, none⟩ := fun e => h (by injection e)
theorem NB.set2 (h : NB w N v0 v1 v2 v3 v4 v5 v6 v7) (u : Value) : NB (w.setCell ⟨N, 2, none⟩ u) N v0 v1 u v3 v4 v5 v6 v7 := by
  obtain ⟨⟨h0, h1, h2, h3, h4, h5, h6, h7⟩, hf⟩ := h
  refine ⟨⟨?_, ?_, World.cell?_setCell_same _ _ _ h2, ?_, ?_, ?_, ?_, ?_⟩, fun j hj => by rw [World.frozen?_setCell]; exact hf j hj⟩
  all_goals (rw [World.cell?_setCell_other _ _ _ _ (off_ne (by decide))]; assumption)
theorem NB.set5 (h : NB w N v0 v1 v2 v3 v4 v5 v6 v7) (u : Value) : NB (w.setCell ⟨N, 5, none⟩ u) N v0 v1 v2 v3 v4 u v6 v7 := by
  obtain ⟨⟨h0, h1, h2, h3, h4, h5, h6, h7⟩, hf⟩ := h
  refine ⟨⟨?_, ?_, ?_, ?_, ?_, World.cell?_setCell_same _ _ _ h5, ?_, ?_⟩, fun j hj => by rw [World.frozen?_setCell]; exact hf j hj⟩
  all_goals (rw [World.cell?_setCell_other _ _ _ _ (off_ne (by decide))]; assumption)
theorem NB.set6 (h : NB w N v0 v1 v2 v3 v4 v5 v6 v7) (u : Value) : NB (w.setCell ⟨N, 6, none⟩ u) N v0 v1 v2 v3 v4 v5 u v7 := by
  obtain ⟨⟨h0, h1, h2, h3, h4, h5, h6, h7⟩, hf⟩ := h
  refine ⟨⟨?_, ?_, ?_, ?_, ?_, ?_, World.cell?_setCell_same _ _ _ h6, ?_⟩, fun j hj => by rw [World.frozen?_setCell]; exact hf j hj⟩
  all_goals (rw [World.cell?_setCell_other _ _ _ _ (off_ne (by decide))]; assumption)
theorem NB.set7 (h : NB w N v0 v1 v2 v3 v4 v5 v6 v7) (u : Value) : NB (w.setCell ⟨N, 7, none⟩ u) N v0 v1 v2 v3 v4 v5 v6 u := by
  obtain ⟨⟨h0, h1, h2, h3, h4, h5, h6, h7⟩, hf⟩ := h
  refine ⟨⟨?_, ?_, ?_, ?_, ?_, ?_, ?_, World.cell?_setCell_same _ _ _ h7⟩, fun j hj => by rw [World.frozen?_setCell]; exact hf j hj⟩
  all_goals (rw [World.cell?_setCell_other _ _ _ _ (off_ne (by decide))]; assumption)
end
theorem NB.new (w : World) (N : Nat) (hN : w.heap.size = N) (e : TypeId) (v0 v1 v2 v3 v4 v5 v6 v7 : Value) : NB (w.alloc (.cells #[v0, v1, v2, v3, v4, v5, v6, v7] e)) N v0 v1 v2 v3 v4 v5 v6 v7 := by
  subst hN
  refine ⟨⟨?_, ?_, ?_, ?_, ?_, ?_, ?_, ?_⟩, fun j _ => World.frozen?_alloc_new _ _ _ _⟩ <;> (rw [World.cell?_alloc_at _ _ _ _ rfl]; rfl)
/-- how far the copying is: the nodes so far, in blocks behind Y -/
structure CtS (W wr : World) (Y : Nat) (ts : List Nd) (A : Option Addr) (n c : Nat) : Prop where
  cell : wr.cell? ⟨Y, 0, none⟩ = some (.slice A n c)
  fz : wr.frozen? ⟨Y, 0, none⟩ = false
  len : ts.length = n
  tr : ∃ ss, TrO wr (Y + 1) ts ss (.slice A n c)
  below : Below (Y) W wr
  size : Y + 1 ≤ wr.heap.size
theorem CtS.go {W wr wd w' : World} {Y k N : Nat} {ts : List Nd} {x : Nd} {A1 A2 A3 Ao A' : Option Addr} {c1 c2 c3 co c' : Nat} {ss : List NdSl} (h : CtS W wr Y ts Ao k co) (ht : TrO wr (Y + 1) ts ss (.slice Ao k co)) (hb : Below wr.heap.size wr wd)
    (h1 : wd.ownsRow wr.heap.size 34 1 (.slice A1 x.str.length c1) x.str.length (u16s x.str)) (h2 : wd.ownsRow wr.heap.size 64 1 (.slice A2 x.mag.length c2) x.mag.length (n32s x.mag)) (h3 : wd.ownsRow wr.heap.size 3 1 (.slice A3 x.kids.length c3) x.kids.length (i64s x.kids))
    (ho : w'.ownsRow (Y + 1) 42 8 (.slice A' N c') N (cellsN ts ss ++ ndV x ⟨A1, A2, A3, c1, c2, c3⟩)) (hN : k + 1 = N) (hk : wd.grownBy w' (Value.slice Ao k co).ownBlock) :
    CtS W (w'.setCell ⟨Y, 0, none⟩ (.slice A' N c')) Y (ts ++ [x]) A' N c' := by
  have hd := ht.below hb
  have hsz := h.size
  have hne : ∀ g, (Value.slice Ao k co).ownBlock = some g → Y + 1 ≤ g := fun g hg => (ht.own.lt g hg).1
  have hsd : Y + 1 ≤ wd.heap.size := Nat.le_trans hsz hb.size
  have b1 : Below (Y + 1) wd w' := (Below.refl _ _).grown hk hsd hne
  have b2 : Below (Y + 1) wr w' := (hb.mono hsz).trans b1
  have hc := (b2.cell (p := ⟨Y, 0, none⟩) (show Y < Y + 1 by omega)).trans h.cell
  have hf := (b2.frozen (p := ⟨Y, 0, none⟩) (show Y < Y + 1 by omega)).trans h.fz
  have hlen := h.len
  refine ⟨World.cell?_setCell_same _ _ _ hc, by rw [World.frozen?_setCell]; exact hf, by simp [hlen, hN], ⟨ss ++ [⟨A1, A2, A3, c1, c2, c3⟩], ?_⟩, (h.below.trans (b2.mono (by omega))).setCell (Nat.le_refl _) _, ?_⟩
  · refine TrO.grown (w := w') (g := Y) ?_ (grown_set _ _ _ _) (by omega)
    have hnd : NdO wd (Y + 1) x ⟨A1, A2, A3, c1, c2, c3⟩ := ⟨own_less h1 hsz, own_less h2 hsz, own_less h3 hsz⟩
    refine TrO.snoc (w0 := wr) hd hnd (fun g hg => ?_) ht ?_ hk
    · exact (h3.lt g (by rw [kb_own (s := ⟨A1, A2, A3, c1, c2, c3⟩)]; exact hg)).1
    · rw [hlen, hN]; exact ho
  · simp only [World.setCell]
    have := b2.size
    simp
    omega
set_option maxHeartbeats 16000000 in
set_option maxRecDepth 100000 in
theorem copyTree_any {A : Option Addr} {c B n : Nat} {ts : List Nd} {w : World} (hN : NdsR w B A n ts) (hB : B ≤ w.heap.size) (hF : FewP ts) :
    Calls Tryd.prog 15 #[.agg #[.slice A n c]] w fun e w' => ∃ A' c', e = .returned (.agg #[.slice A' n c']) ∧ (∃ ss, TrO w' w.heap.size ts ss (.slice A' n c')) ∧ Below w.heap.size w w' := by
  obtain ⟨i0, hi0, hz0, hz1, hz2⟩ := info_parts Tryd.info_node
  have hn20 : n ≤ 20000 := by rw [← hN.1]; exact hF.len
  obtain ⟨W, hW⟩ : ∃ W, w.alloc (.cells #[.slice A n c] 24) = W := ⟨_, rfl⟩
  have sW : W.heap.size = w.heap.size + 1 := by rw [← hW]; simp
  have bW : Below w.heap.size w W := by rw [← hW]; exact (Below.refl _ _).alloc (Nat.le_refl _) _
  have a0 : W.cell? ⟨w.heap.size, 0, none⟩ = some (.slice A n c) := by rw [← hW, World.cell?_alloc_at _ _ _ _ rfl]; rfl
  obtain ⟨V, hV⟩ : ∃ V, W.alloc (.cells #[.slice none 0 0] 24) = V := ⟨_, rfl⟩
  have sV : V.heap.size = W.heap.size + 1 := by rw [← hV]; simp
  have bV : Below W.heap.size W V := by rw [← hV]; exact (Below.refl _ _).alloc (Nat.le_refl _) _
  have z0 : V.cell? ⟨W.heap.size, 0, none⟩ = some (.slice none 0 0) := by rw [← hV, World.cell?_alloc_at _ _ _ _ rfl]; rfl
  have f0 : V.frozen? ⟨W.heap.size, 0, none⟩ = false := by rw [← hV]; exact World.frozen?_alloc_new _ _ _ _
  have a1 := (bV.cell (p := ⟨w.heap.size, 0, none⟩) (show w.heap.size < W.heap.size by omega)).trans a0
  obtain ⟨U, hU⟩ : ∃ U, V.alloc (.cells #[.slice none 0 0] 24) = U := ⟨_, rfl⟩
  have sU : U.heap.size = V.heap.size + 1 := by rw [← hU]; simp
  have bU : Below V.heap.size V U := by rw [← hU]; exact (Below.refl _ _).alloc (Nat.le_refl _) _
  have y0 : U.cell? ⟨V.heap.size, 0, none⟩ = some (.slice none 0 0) := by rw [← hU, World.cell?_alloc_at _ _ _ _ rfl]; rfl
  have g0 : U.frozen? ⟨V.heap.size, 0, none⟩ = false := by rw [← hU]; exact World.frozen?_alloc_new _ _ _ _
  have a2 := (bU.cell (p := ⟨w.heap.size, 0, none⟩) (show w.heap.size < V.heap.size by omega)).trans a1
  have z1 := (bU.cell (p := ⟨W.heap.size, 0, none⟩) (show W.heap.size < V.heap.size by omega)).trans z0
  have f1 := (bU.frozen (p := ⟨W.heap.size, 0, none⟩) (show W.heap.size < V.heap.size by omega)).trans f0
  have bwU : Below w.heap.size w U := bW.trans ((bV.mono bW.size).trans (bU.mono (Nat.le_trans bW.size bV.size)))
  obtain ⟨X, hX⟩ : ∃ X, w.heap.size = X := ⟨_, rfl⟩
  obtain ⟨Y, hY⟩ : ∃ Y, X + 1 + 1 = Y := ⟨_, rfl⟩
  have e1 : W.heap.size = X + 1 := by omega
  have e2 : V.heap.size = Y := by omega
  have e3 : U.heap.size = Y + 1 := by omega
  have hXY : X + 1 < Y := by omega
  rw [e2] at y0 g0
  rw [e1] at z1 f1
  rw [hX] at a2 bwU hB
  have HS := hide (show CtS U U Y [] none 0 0 from ⟨y0, g0, rfl, ⟨[], TrO.nil _ _⟩, Below.refl _ _, by omega⟩)
  have HN := hide (hN.below (bwU.mono hB))
  have HL := hide hN.1
  have HBU := hide bwU
  have HFW := hide hF
  have HB := hide hB
  have HX := hide hX
  go_enter Tryd.func15, Tryd.ntmps15
  go_upto_region 2 with (fail)
  clear y0 g0 z0 f0 a0 a1 hW hV hU sW sV sU bW bV bU bwU hN hB hX e1 e2 e3 hF hY
  go_wp2_with fail
  go_loopw [4] (fun i wr => ∃ (k : Nat) (Ao : Option Addr) (co : Nat), k ≤ n ∧ i = .int .i64 (k : Int) ∧ Hid (CtS U wr Y (ts.take k) Ao k co)) (fun i _ => n - (intOf i).toNat)
  case atStart => exact ⟨0, none, 0, Nat.zero_le _, rfl, HS.out⟩
  case round =>
    obtain ⟨k, Ao, co, hk, rfl, hS⟩ := hrel
    have hcx : wr.cell? ⟨X, 0, none⟩ = some (.slice A n c) := (hS.out.below.cell (p := ⟨X, 0, none⟩) (show X < Y by omega)).trans a2
    have hco := hS.out.cell
    by_cases hlt : k < n
    · have h1 : (k : Int) < (n : Int) := by omega
      have h2 : decide ((k : Int) < (n : Int)) = true := decide_eq_true h1
      have hBY : B ≤ Y := by have := HB.out; omega
      obtain ⟨b, o, x, s, rfl, hbB, hx, hC, hR⟩ := (HN.out.below (hS.out.below.mono hBY)).get hlt
      obtain ⟨kc0, kc1, kc2, kc3, kc4, kc5, kc6, kc7⟩ := hC
      obtain ⟨q1, q2, q3, q4⟩ := HFW.out.each x (List.mem_of_getElem? hx)
      have HR := hide hR
      have htk := hide (show ts.take (k + 1) = ts.take k ++ [x] by rw [List.take_add_one, hx]; rfl)
      have hsz := hS.out.size
      clear hx hR
      obtain ⟨Ls, hLs⟩ : ∃ L, x.str.length = L := ⟨_, rfl⟩
      obtain ⟨Lm, hLm⟩ : ∃ L, x.mag.length = L := ⟨_, rfl⟩
      obtain ⟨Lk, hLk⟩ : ∃ L, x.kids.length = L := ⟨_, rfl⟩
      rw [hLs] at kc2 q1
      rw [hLm] at kc6 q2
      rw [hLk] at kc7 q3
      have R1 := hide (show Reads wr B 1 s.As Ls (u16s x.str) from by rw [← hLs]; exact HR.out.str)
      have R2 := hide (show Reads wr B 1 s.Am Lm (n32s x.mag) from by rw [← hLm]; exact HR.out.mag)
      have R3 := hide (show Reads wr B 1 s.Ak Lk (i64s x.kids) from by rw [← hLk]; exact HR.out.kids)
      have HLs := hide hLs
      have HLm := hide hLm
      have HLk := hide hLk
      clear hLs hLm hLk HR
      go_upto_region 6 with (fail)
      obtain ⟨W1, hW1⟩ : ∃ W1, wr.alloc (.cells #[.int .i64 x.kind, .string ⟨x.name.toArray⟩, .slice s.As Ls s.cs, .int .i64 x.nk, .int .i64 x.nn, .bool x.neg, .slice s.Am Lm s.cm, .slice s.Ak Lk s.ck] 42) = W1 := ⟨_, rfl⟩
      rw [hW1]
      obtain ⟨Nn, hNn⟩ : ∃ N, wr.heap.size = N := ⟨_, rfl⟩
      have nb1 := hide (show NB W1 Nn _ _ _ _ _ _ _ _ from by rw [← hW1]; exact NB.new wr Nn hNn _ _ _ _ _ _ _ _ _)
      have sz1 : W1.heap.size = Nn + 1 := by rw [← hW1]; simp [hNn]
      have BC1 := hide (show Below Nn wr W1 by rw [← hW1, ← hNn]; exact (Below.refl _ _).alloc (Nat.le_refl _) _)
      have hNX : Y + 1 ≤ Nn := by omega
      have hNB : B ≤ Nn := by omega
      rw [hNn]
      have HNn := hide hNn
      clear hW1 hNn kc0 kc1 kc2 kc3 kc4 kc5 kc6 kc7 hcx hsz hco
      have C1 := hide (copyU_is (c := s.cs) (w := W1) HLs.out (show B ≤ W1.heap.size by omega) (R1.out.below (BC1.out.mono hNB)) (show Ls ≤ 1000000 by omega))
      obtain ⟨⟨_, _, p2, _, _, _, _, _⟩, _⟩ := nb1.out
      go_wp2_with fail
      refine C1.out.mono ?_
      rintro e2 W2 ⟨A1, c1, rfl, ho1, hb1⟩
      have nb2 := hide (nb1.out.below hb1 (show Nn < W1.heap.size by omega))
      have hs2 : Nn + 1 ≤ W2.heap.size := by rw [← sz1]; exact hb1.size
      have HO1 := hide (own_grown ho1 (grown_set W2 Nn 2 (.slice A1 Ls c1)) (show Nn < W1.heap.size by omega))
      have BC3 := hide ((BC1.out.trans (hb1.mono (by omega))).setCell (p := ⟨Nn, 2, none⟩) (Nat.le_refl _) (.slice A1 Ls c1))
      have nb3 := hide (nb2.out.set2 (.slice A1 Ls c1))
      clear p2 ho1 hb1 nb1 BC1 C1
      obtain ⟨⟨_, _, p2, _, _, _, _, _⟩, pf⟩ := nb2.out
      have pf2 := pf 2 (by omega)
      go_upto_region 7 with (fail)
      obtain ⟨W3, hW3⟩ : ∃ W3, W2.setCell ⟨Nn, 2, none⟩ (.slice A1 Ls c1) = W3 := ⟨_, rfl⟩
      have hs3 : Nn + 1 ≤ W3.heap.size := by rw [← hW3]; simpa [World.setCell] using hs2
      rw [hW3] at HO1 BC3 nb3 ⊢
      clear hW3 p2 pf pf2 nb2 hs2
      obtain ⟨⟨_, _, _, _, _, p5, p6, _⟩, _⟩ := nb3.out
      have C2 := hide (copyB_is (ng := x.neg) (c := s.cm) (w := W3) HLm.out (show B ≤ W3.heap.size by omega) (R2.out.below (BC3.out.mono hNB)) (show Lm ≤ 1000000 by omega))
      go_wp2_with fail
      refine C2.out.mono ?_
      rintro e3 W4 ⟨A2, c2, rfl, ho2, hb2⟩
      have nb4 := hide (nb3.out.below hb2 (show Nn < W3.heap.size by omega))
      have hs4 : Nn + 1 ≤ W4.heap.size := Nat.le_trans hs3 hb2.size
      have HO1b := hide (own_grown (own_grown (own_below HO1.out hb2) (grown_set W4 Nn 5 (.bool x.neg)) (show Nn < W1.heap.size by omega)) (grown_set _ Nn 6 (.slice A2 Lm c2)) (show Nn < W1.heap.size by omega))
      have HO2 := hide (own_grown (own_grown ho2 (grown_set W4 Nn 5 (.bool x.neg)) (show Nn < W3.heap.size by omega)) (grown_set _ Nn 6 (.slice A2 Lm c2)) (show Nn < W3.heap.size by omega))
      have BC5 := hide (((BC3.out.trans (hb2.mono (by omega))).setCell (p := ⟨Nn, 5, none⟩) (Nat.le_refl _) (.bool x.neg)).setCell (p := ⟨Nn, 6, none⟩) (Nat.le_refl _) (.slice A2 Lm c2))
      have nb5 := hide ((nb4.out.set5 (.bool x.neg)).set6 (.slice A2 Lm c2))
      clear p5 p6 ho2 hb2 nb3 BC3 C2 HO1
      obtain ⟨⟨_, _, _, _, _, p5, p6, _⟩, pf⟩ := nb4.out
      have pf5 := pf 5 (by omega)
      have pf6 := pf 6 (by omega)
      go_upto_region 8 with (fail)
      obtain ⟨W5, hW5⟩ : ∃ W5, (W4.setCell ⟨Nn, 5, none⟩ (.bool x.neg)).setCell ⟨Nn, 6, none⟩ (.slice A2 Lm c2) = W5 := ⟨_, rfl⟩
      have hs5 : Nn + 1 ≤ W5.heap.size := by rw [← hW5]; simpa [World.setCell] using hs4
      rw [hW5] at HO1b HO2 BC5 nb5 ⊢
      clear hW5 p5 p6 pf pf5 pf6 nb4 hs4
      obtain ⟨⟨_, _, _, _, _, _, _, p7⟩, _⟩ := nb5.out
      have C3 := hide (copyI_is (c := s.ck) (w := W5) HLk.out (show B ≤ W5.heap.size by omega) (R3.out.below (BC5.out.mono hNB)) (show Lk ≤ 1000000 by omega))
      go_wp2_with fail
      refine C3.out.mono ?_
      rintro e4 W6 ⟨A3, c3, rfl, ho3, hb3⟩
      have nb6 := hide (nb5.out.below hb3 (show Nn < W5.heap.size by omega))
      have hs6 : Nn + 1 ≤ W6.heap.size := Nat.le_trans hs5 hb3.size
      have HO1c := hide (own_grown (own_below HO1b.out hb3) (grown_set W6 Nn 7 (.slice A3 Lk c3)) (show Nn < W1.heap.size by omega))
      have HO2c := hide (own_grown (own_below HO2.out hb3) (grown_set W6 Nn 7 (.slice A3 Lk c3)) (show Nn < W3.heap.size by omega))
      have HO3c := hide (own_grown ho3 (grown_set W6 Nn 7 (.slice A3 Lk c3)) (show Nn < W5.heap.size by omega))
      have BC7 := hide ((BC5.out.trans (hb3.mono (by omega))).setCell (p := ⟨Nn, 7, none⟩) (Nat.le_refl _) (.slice A3 Lk c3))
      have nb7 := hide (nb6.out.set7 (.slice A3 Lk c3))
      clear p7 ho3 hb3 nb5 BC5 C3 HO1b HO2
      obtain ⟨⟨_, _, _, _, _, _, _, p7⟩, pf⟩ := nb6.out
      have pf7 := pf 7 (by omega)
      go_upto_region 9 with (fail)
      obtain ⟨W7, hW7⟩ : ∃ W7, W6.setCell ⟨Nn, 7, none⟩ (.slice A3 Lk c3) = W7 := ⟨_, rfl⟩
      have hs7 : Nn + 1 ≤ W7.heap.size := by rw [← hW7]; simpa [World.setCell] using hs6
      rw [hW7] at HO1c HO2c HO3c BC7 nb7 ⊢
      clear hW7 p7 pf pf7 nb6 hs6
      obtain ⟨⟨p0, p1, p2, p3, p4, p5, p6, p7⟩, _⟩ := nb7.out
      have hY7 : Y < Nn := by omega
      have hco := (BC7.out.cell (p := ⟨Y, 0, none⟩) hY7).trans hS.out.cell
      have BCw := hide (show Below wr.heap.size wr W7 by rw [HNn.out]; exact BC7.out)
      obtain ⟨ss, htr⟩ := hS.out.tr
      have htl := hS.out.len
      have HOW := hide (show W7.ownsRow (Y + 1) 42 8 (.slice Ao k co) k (cellsN (ts.take k) ss) from by
        have := (htr.below BCw.out).own
        rwa [htl] at this)
      have hne : ∀ g, (Value.slice Ao k co).ownBlock = some g → Y + 1 ≤ g := fun g hg => (HOW.out.lt g hg).1
      have HNE := hide hne
      clear htl hne
      go_wp2_with (at_builtin; refine wpList_litK rfl _ _ 22 rfl (Y + 1) 42 i0 (.agg zero8.toArray) 8 120 Tryd.underlying22 hi0 hz0 hz1 hz2 rfl (by decide) (.slice Ao k co) k (cellsN (ts.take k) ss) rfl HOW.out (by omega) [.int .i64 x.kind, .string ⟨x.name.toArray⟩, .slice A1 Ls c1, .int .i64 x.nk, .int .i64 x.nn, .bool x.neg, .slice A2 Lm c2, .slice A3 Lk c3] 1 1 rfl rfl rfl (by omega) (by decide) ?_; intro v' w' ho' hk'; have hcA := (hk'.cell (p := ⟨Y, 0, none⟩) (show Y < W7.heap.size by omega) (fun e => by have := HNE.out Y e; omega)).trans hco; have hfA := (hk'.frozen (p := ⟨Y, 0, none⟩) (show Y < W7.heap.size by omega) (fun e => by have := HNE.out Y e; omega)).trans ((BC7.out.frozen (p := ⟨Y, 0, none⟩) hY7).trans hS.out.fz); obtain ⟨Aw, cw, rfl, _, _⟩ := own_shape ho')
      refine ⟨⟨k + 1, Aw, cw, by omega, by go_num, ?_⟩, by simp [intOf]; omega⟩
      rw [htk.out]
      have w1le : wr.heap.size ≤ W1.heap.size := by rw [HNn.out]; omega
      have w3le : wr.heap.size ≤ W3.heap.size := by rw [HNn.out]; omega
      have w5le : wr.heap.size ≤ W5.heap.size := by rw [HNn.out]; omega
      refine hS.out.go (x := x) (A1 := A1) (A2 := A2) (A3 := A3) (c1 := c1) (c2 := c2) (c3 := c3) htr BCw.out ?_ ?_ ?_ ?_ rfl ⟨hk'.os, hk'.tape, hk'.output, hk'.size, fun i hi hr => hk'.block i hi (fun e => hr e.symm)⟩
      · rw [HLs.out]; exact own_less HO1c.out w1le
      · rw [HLm.out]; exact own_less HO2c.out w3le
      · rw [HLk.out]; exact own_less HO3c.out w5le
      · unfold ndV
        simp only
        rw [HLs.out, HLm.out, HLk.out]
        exact ho'
    · have h1 : ¬ (k : Int) < (n : Int) := by omega
      have h2 : decide ((k : Int) < (n : Int)) = false := decide_eq_false h1
      obtain rfl : k = n := by omega
      have z2 := (hS.out.below.cell (p := ⟨X + 1, 0, none⟩) hXY).trans z1
      have f2 := (hS.out.below.frozen (p := ⟨X + 1, 0, none⟩) hXY).trans f1
      obtain ⟨ss, htr⟩ := hS.out.tr
      have htk : ts.take k = ts := List.take_of_length_le (by rw [HL.out]; exact Nat.le_refl _)
      rw [htk] at htr
      have HTR := hide htr
      clear htr htk
      go_wp2_with fail
      have q0 : (wr.setCell ⟨X + 1, 0, none⟩ (.slice Ao k co)).cell? ⟨X + 1, 0, none⟩ = some (.slice Ao k co) := by go_simp
      refine bodyPost_ret (v := .agg #[.slice Ao k co]) (by simp [results, Tryd.results15, go_sem, q0]) rfl ?_
      refine ⟨_, _, rfl, ⟨ss, ?_⟩, ?_⟩
      · exact ((HTR.out.grown (grown_set wr (X + 1) 0 (.slice Ao k co)) (by omega))).less (by rw [HX.out]; omega)
      · rw [HX.out]
        exact (HBU.out.trans (hS.out.below.mono (by omega))).setCell (show X ≤ X + 1 by omega) _
end Go.Proofs.YtelcjdblnagdgaaDoor

namespace Go.Proofs.YtelcjdblnagdgaaDoor
open Go.RowKit

theorem own_ne_box {w : World} {base g s n : Nat} {e e2 : TypeId} {v : Value} {xs cur : List Value} (h : w.ownsRow base e s v n xs) (hg : w.heap[g]? = some (.cells cur.toArray e2)) (hne : e ≠ e2) : v.ownBlock ≠ some g := by
  rcases h.2 with ⟨rfl, _⟩ | ⟨g1, cap, cur1, rfl, _, hgg, _⟩
  · simp [Value.ownBlock]
  · intro e1
    simp only [Value.ownBlock, Option.some.injEq] at e1
    subst e1
    rw [hgg] at hg
    injection hg with hg
    injection hg with _ h4 _
    exact hne h4
theorem row_box {w w' : World} {base g s n : Nat} {e e2 : TypeId} {v : Value} {xs cur : List Value} (h : w.ownsRow base e s v n xs) (hg : w.heap[g]? = some (.cells cur.toArray e2)) (hne : e ≠ e2) (hw : w.grownBy w' (some g)) : w'.ownsRow base e s v n xs :=
  h.kept hw (by
    have := own_ne_box h hg hne
    cases hv : v.ownBlock with
    | none => exact .inl rfl
    | some q => rw [hv] at this; exact .inr (fun e => this e))
theorem TrO.map2 {w w' : World} {base base' : Nat} {ts : List Nd} {ss : List NdSl} {v : Value} (hk : ∀ (e : TypeId) (n' : Nat) (v : Value) (n : Nat) (xs : List Value), e ≠ 24 → w.ownsRow base e n' v n xs → w'.ownsRow base' e n' v n xs) (h : TrO w base ts ss v) : TrO w' base' ts ss v :=
  ⟨h.len, hk _ _ _ _ _ (by decide) h.own, fun i x s h1 h2 => (h.part i x s h1 h2).map fun e v n xs he ho => hk e 1 v n xs (by rcases he with rfl | rfl | rfl <;> decide) ho, h.apart⟩
/-- nodes, their slice in the box Bx -/
structure NsS (W wr : World) (Bx : Nat) (ts : List Nd) (A : Option Addr) (n c : Nat) : Prop where
  box : ∃ cur : List Value, wr.heap[Bx]? = some (.cells cur.toArray 24)
  cell : wr.cell? ⟨Bx, 0, none⟩ = some (.slice A n c)
  fz : wr.frozen? ⟨Bx, 0, none⟩ = false
  len : ts.length = n
  tr : ∃ ss, TrO wr W.heap.size ts ss (.slice A n c)
  below : Below W.heap.size W wr
  bx : W.heap.size ≤ Bx
section
variable {W wr w' : World} {Bx n c : Nat} {ts : List Nd} {A : Option Addr}
theorem NsS.lt (h : NsS W wr Bx ts A n c) : Bx < wr.heap.size := by
  obtain ⟨cur, hc⟩ := h.box
  rcases Nat.lt_or_ge Bx wr.heap.size with h' | h'
  · exact h'
  · rw [Array.getElem?_eq_none h'] at hc; cases hc
theorem NsS.go (h : NsS W wr Bx ts A n c) (hb : Below wr.heap.size wr w') : NsS W w' Bx ts A n c := by
  obtain ⟨cur, hc⟩ := h.box
  obtain ⟨ss, ht⟩ := h.tr
  exact ⟨⟨cur, (hb.block Bx h.lt).trans hc⟩, (hb.cell (p := ⟨Bx, 0, none⟩) h.lt).trans h.cell, (hb.frozen (p := ⟨Bx, 0, none⟩) h.lt).trans h.fz, h.len, ⟨ss, ht.below hb⟩, h.below.trans (hb.mono h.below.size), h.bx⟩
theorem NsS.form (h : NsS W wr Bx ts A n c) (h0 : 0 < n) : ∃ g, A = some ⟨g, 0, none⟩ ∧ W.heap.size ≤ g ∧ g < wr.heap.size ∧ g ≠ Bx := by
  obtain ⟨ss, ht⟩ := h.tr
  have ho := ht.own
  rw [h.len] at ho
  obtain ⟨g, cap, hv, hb, hlt⟩ := ho.form h0
  have hA : A = some ⟨g, 0, none⟩ := by injection hv
  obtain ⟨cur, hc⟩ := h.box
  have hne := own_ne_box ho hc (by decide)
  refine ⟨g, hA, hb, hlt, fun e => hne ?_⟩
  rw [hA, e]; rfl
/-- the i-th node's kids become ks, a new slice or what stood in their block -/
theorem NsS.kids {g i cn n' : Nat} {An : Option Addr} {x : Nd} {s : NdSl} {ks : List Int} {ss : List NdSl} {w1 : World} (h : NsS W wr Bx ts (some ⟨g, 0, none⟩) n c) (ht : TrO wr W.heap.size ts ss (.slice (some ⟨g, 0, none⟩) n c)) (hx : ts[i]? = some x) (hs : ss[i]? = some s)
    (hg : wr.grownBy w1 s.kb) (ho : w1.ownsRow W.heap.size 3 1 (.slice An n' cn) n' (i64s ks)) (hn : ks.length = n') (hb : An.map (·.block) = s.kb ∨ ∃ r, An.map (·.block) = some r ∧ wr.heap.size ≤ r) :
    NsS W (w1.setCell ⟨g, i * 8 + 7, none⟩ (.slice An n' cn)) Bx (ts.set i { x with kids := ks }) (some ⟨g, 0, none⟩) n c := by
  have hlen := h.len
  obtain ⟨cur, hc⟩ := h.box
  have ht1 := ht
  rw [← hlen] at ht1
  obtain ⟨ht2, hgr⟩ := ht1.kids hx hs hg ho hn hb
  have hgB : g ≠ Bx := by
    have := own_ne_box ht.own hc (by decide)
    intro e; exact this (by rw [← e]; rfl)
  have hkB : s.kb ≠ some Bx := by
    have := own_ne_box (ht.part i x s hx hs).kids hc (by decide)
    rwa [kb_own] at this
  have hW : W.heap.size ≤ wr.heap.size := h.below.size
  have c1 : w1.heap[Bx]? = wr.heap[Bx]? := hg.block Bx h.lt (fun e => hkB e.symm)
  have b1 : Below W.heap.size W w1 := h.below.grown hg hW (fun k hk => by
    obtain ⟨q1, _⟩ := (ht.part i x s hx hs).kids.lt k (by rw [kb_own]; exact hk)
    exact q1)
  have gW : W.heap.size ≤ g := (ht.own.lt g rfl).1
  have e1 : (w1.setCell ⟨g, i * 8 + 7, none⟩ (.slice An n' cn)).heap[Bx]? = wr.heap[Bx]? := (Below.heap_setCell _ _ _ _ (fun e => hgB e.symm)).trans c1
  refine ⟨⟨cur, e1.trans hc⟩, (World.cell?_of_block (show _ = wr.heap[(⟨Bx, 0, none⟩ : Addr).block]? from e1)).trans h.cell, (World.frozen?_of_block (show _ = wr.heap[(⟨Bx, 0, none⟩ : Addr).block]? from e1)).trans h.fz, by rw [List.length_set]; exact hlen, ⟨_, by rw [← hlen]; exact ht2⟩, b1.setCell gW _, h.bx⟩
/-- a node more, the box stored -/
theorem NsS.more {A' : Option Addr} {N c' : Nat} {x : Nd} {s : NdSl} {ss : List NdSl} (h : NsS W wr Bx ts A n c) (ht : TrO wr W.heap.size ts ss (.slice A n c)) (hnd : NdO wr W.heap.size x s) (hkb : s.kb = none)
    (ho : w'.ownsRow W.heap.size 42 8 (.slice A' N c') N (cellsN ts ss ++ ndV x s)) (hN : n + 1 = N) (hk : Kept wr w' (.slice A n c) (.slice A' N c')) :
    NsS W (w'.setCell ⟨Bx, 0, none⟩ (.slice A' N c')) Bx (ts ++ [x]) A' N c' := by
  obtain ⟨cur, hc⟩ := h.box
  have hlen := h.len
  have hB := own_ne_box ht.own hc (by decide)
  have hw := h.lt
  have e1 : w'.heap[Bx]? = wr.heap[Bx]? := hk.block Bx hw hB
  have hc1 := e1.trans hc
  have hcell : w'.cell? ⟨Bx, 0, none⟩ = some (.slice A n c) := (World.cell?_of_block (show _ = wr.heap[(⟨Bx, 0, none⟩ : Addr).block]? from e1)).trans h.cell
  have hgr : wr.grownBy w' (Value.slice A n c).ownBlock := ⟨hk.os, hk.tape, hk.output, hk.size, fun i hi hr => hk.block i hi (fun e => hr e.symm)⟩
  have ht2 : TrO w' W.heap.size (ts ++ [x]) (ss ++ [s]) (.slice A' N c') := by
    refine TrO.snoc (w0 := wr) ht hnd (fun g hg => by rw [hkb] at hg; cases hg) ht ?_ hgr
    rw [hlen, hN]; exact ho
  refine ⟨⟨cur.set 0 (.slice A' N c'), ?_⟩, World.cell?_setCell_same _ _ _ hcell, ?_, by simp [hlen, hN], ⟨_, ht2.map2 fun e n' v m xs he hr => row_box hr hc1 he (grown_set _ _ _ _)⟩, ?_, h.bx⟩
  · simp only [World.setCell, Array.getElem?_modify, if_true, hc1, Option.map_some]
    simp
  · rw [World.frozen?_setCell]
    exact (World.frozen?_of_block (show _ = wr.heap[(⟨Bx, 0, none⟩ : Addr).block]? from e1)).trans h.fz
  · refine (h.below.grown hgr h.below.size fun k hk2 => ?_).setCell h.bx _
    exact (ht.own.lt k hk2).1
/-- read as nodes that lie in memory -/
theorem NsS.reads (h : NsS W wr Bx ts A n c) (hp : ∀ x ∈ ts, NdP x) : NdsR wr wr.heap.size A n ts := by
  obtain ⟨ss, ht⟩ := h.tr
  exact ht.reads h.len hp
theorem NsS.cap (h : NsS W wr Bx ts A n c) : n ≤ c ∧ c ≤ maxLen := by
  obtain ⟨ss, ht⟩ := h.tr
  obtain ⟨A', c', hv, h1, h2⟩ := own_shape ht.own
  injection hv with _ _ e
  subst e
  rw [h.len] at h1
  exact ⟨h1, h2⟩
end
end Go.Proofs.YtelcjdblnagdgaaDoor

namespace Go.Proofs.YtelcjdblnagdgaaDoor
open Go.RowKit

theorem may_order {ts : List Nd} (h : mayF ts = true) : orderF ts = true := by
  obtain ⟨t, ht⟩ := may_tree h
  rw [ht.flat]; exact order_flat t
theorem FewP.all1 {ts : List Nd} (h : FewP ts) : (kidsAll ts).length ≤ 1000000 := by have := h.all; omega
def sl0 : NdSl := ⟨none, none, none, 0, 0, 0⟩
theorem bare_own (w : World) (base : Nat) {x : Nd} (h1 : x.str = []) (h2 : x.mag = []) (h3 : x.kids = []) : NdO w base x sl0 := by
  refine ⟨?_, ?_, ?_⟩
  · rw [h1]; exact World.ownsRow_nil _ _ _ _
  · rw [h2]; exact World.ownsRow_nil _ _ _ _
  · rw [h3]; exact World.ownsRow_nil _ _ _ _
theorem NsS.boxed {w4 w5 : World} {A : Option Addr} {n c Bx : Nat} {ts : List Nd} {ss : List NdSl} (ht : TrO w5 w4.heap.size ts ss (.slice A n c)) (hn : ts.length = n) (hb : Below w4.heap.size w4 w5) (hBx : w5.heap.size = Bx) :
    NsS w4 (w5.alloc (.cells #[.slice A n c] 24)) Bx ts A n c := by
  subst hBx
  have hal := (Below.refl w5.heap.size w5).alloc (Nat.le_refl _) (.cells #[.slice A n c] 24)
  refine ⟨⟨[_], heap_alloc_new w5 _⟩, by rw [World.cell?_alloc_at _ _ _ _ rfl]; rfl, World.frozen?_alloc_new _ _ _ _, hn, ⟨ss, ht.below hal⟩, hb.trans (hal.mono hb.size), hb.size⟩
def sigNd : Nd := { noNd with kind := 2 }
theorem more_set {ts : List Nd} {x : Nd} {n : Nat} (hn : ts.length = n) (hx : ts[0]? = some x) : moreL ts = ts.set 0 { x with kids := x.kids ++ [(n : Int)] } ++ [sigNd] := by
  cases ts with
  | nil => cases hx
  | cons y r =>
    obtain rfl : y = x := Option.some.inj hx
    subst hn
    rfl
theorem more_kids {ts : List Nd} {x : Nd} (hx : ts[0]? = some x) : (kidsAll (moreL ts)).length = (kidsAll ts).length + 1 := by
  rw [more_set rfl hx]
  cases ts with
  | nil => cases hx
  | cons y r =>
    obtain rfl : y = x := Option.some.inj hx
    rw [List.set_cons_zero, List.cons_append, kidsAll_cons, kidsAll_cons, kidsAll_app]
    have e : kidsAll [sigNd] = [] := rfl
    rw [e]
    simp
    omega
theorem more_p {ts : List Nd} {x : Nd} (hx : ts[0]? = some x) (hp : ∀ y ∈ ts, NdP y) (hl : ts.length ≤ 20000) : ∀ y ∈ moreL ts, NdP y := by
  rw [more_set rfl hx]
  intro y hy
  have hpx := hp x (List.mem_of_getElem? hx)
  rcases List.mem_append.1 hy with hy | hy
  · rcases List.mem_or_eq_of_mem_set hy with hy | rfl
    · exact hp y hy
    · refine ⟨hpx.limb, fun z hz => ?_, hpx.kb, hpx.nkb, hpx.nnb, hpx.nm⟩
      rcases List.mem_append.1 hz with hz | hz
      · exact hpx.kin z hz
      · have : z = (ts.length : Int) := by simpa using hz
        omega
  · obtain rfl : y = sigNd := by simpa using hy
    exact ⟨fun z hz => (by cases hz), fun z hz => (by cases hz), by decide, by decide, by decide, by decide⟩
theorem own_ne_row {w : World} {base1 base2 g s1 s2 n1 n2 c : Nat} {e1 e2 : TypeId} {v : Value} {xs ys : List Value} (h1 : w.ownsRow base1 e1 s1 v n1 xs) (h2 : w.ownsRow base2 e2 s2 (.slice (some ⟨g, 0, none⟩) n2 c) n2 ys) (hne : e1 ≠ e2) : v.ownBlock ≠ some g := by
  rcases h2.2 with ⟨h, _⟩ | ⟨g2, cap, cur, hv, _, hg, _⟩
  · injection h with h; cases h
  · injection hv with hv
    injection hv with hv
    injection hv with hv
    subst hv
    exact own_ne_box (cur := cur.toList) h1 (by simpa using hg) hne
theorem slice_own (A : Option Addr) (n c : Nat) : (Value.slice A n c).ownBlock = A.map (·.block) := by cases A <;> rfl
/-- Print of a good tree, whatever comes of it -/
theorem printT_any {A : Option Addr} {c B n : Nat} {ts : List Nd} {t : Tr} {u : List UInt16} {w : World} (hN : NdsR w B A n ts) (hB : B ≤ w.heap.size) (hc : n ≤ c) (ht : (kidsAll ts).length ≤ 1000000) (hT : Tab w) (hgB : 0 < B) (hM : May ts t) (hu : printF t = u) :
    Calls Tryd.prog 14 #[.agg #[.slice A n c]] w fun e w' => ∃ (A' : Option Addr) (m c' : Nat) (ev : Int) (xs : List UInt16), e = .returned (.tuple #[.slice A' m c', .int .i64 ev]) ∧ xs.length = m ∧ m ≤ 4096 ∧ Reads w' w'.heap.size 1 A' m (u16s xs) ∧ (u.length ≤ 4096 → ev = 0 ∧ xs = u) ∧ (4096 < u.length → ev = 3) ∧ Below w.heap.size w w' := by
  subst hu
  refine (print_yes hN hB hc ht hT hgB hM (may_put hM hN.limbs)).mono ?_
  rintro e w' ⟨hb, ⟨h1, rfl⟩ | ⟨h1, v, rfl, hm⟩⟩
  · exact ⟨none, 0, 0, 3, [], rfl, rfl, by omega, Reads.none_, fun h => by omega, fun _ => rfl, hb⟩
  · obtain ⟨A', c', rfl, _, _, hr⟩ := hm.u16
    exact ⟨A', _, c', 0, _, rfl, rfl, h1, hr, fun _ => ⟨rfl, rfl⟩, fun h => by omega, hb⟩
set_option maxHeartbeats 16000000 in
set_option maxRecDepth 100000 in
theorem treeMore_law (A : Option Addr) (n c : Nat) (ts : List Nd) (hc : n ≤ c) (_hm : c ≤ maxLen) (w : World) (hN : NdsR w w.heap.size A n ts) (hT : Tab w) :
    Calls Tryd.prog 5 #[.agg #[.slice A n c]] w fun e w' => e = .returned (.bool true) ∧ Below w.heap.size w w' := by
  obtain ⟨W, hW⟩ : ∃ W, w.alloc (.cells #[.slice A n c] 24) = W := ⟨_, rfl⟩
  have hbW : Below w.heap.size w W := by rw [← hW]; exact (Below.refl _ _).alloc (Nat.le_refl _) _
  have hX1 : w.heap.size < W.heap.size := by rw [← hW]; simp
  have x0 : W.cell? ⟨w.heap.size, 0, none⟩ = some (.slice A n c) := by rw [← hW, World.cell?_alloc_at _ _ _ _ rfl]; rfl
  have HN := hide hN
  have HBW := hide hbW
  have HTW := hide (hT.go hbW)
  have HGL := hide hT.lt
  have CM := hide (fun (w1 : World) (hb : Below w.heap.size w w1) (hf : FewP ts) (q : Bool) (hq : mayF ts = q) => may_any (c := c) (hN.below hb) hb.size hc hf.all1 hq)
  obtain ⟨X, hX⟩ : ∃ X, w.heap.size = X := ⟨_, rfl⟩
  have HXX := hide hX
  go_enter Tryd.func5, Tryd.ntmps5
  go_upto_region 1 with (fail)
  clear hN hbW hT hW
  rw [hX] at x0 hX1
  clear hX
  go_wp2_with fail
  refine (first_any HTW.out).mono ?_
  rintro e1 w1 ⟨rfl, hb1⟩
  have y1 := (hb1.cell (p := ⟨X, 0, none⟩) hX1).trans x0
  have HB1 := hide (HBW.out.trans (hb1.mono HBW.out.size))
  have HT1 := hide (HTW.out.go hb1)
  have hX2 : X < w1.heap.size := Nat.lt_of_lt_of_le hX1 hb1.size
  clear hb1 x0 hX1 HBW HTW
  go_wp2_with fail
  refine (few_any (c := c) (HN.out.below HB1.out) HB1.out.size).mono ?_
  rintro e2 w2 ⟨q, rfl, hf, hb2⟩
  have y2 := (hb2.cell (p := ⟨X, 0, none⟩) hX2).trans y1
  have HB2 := hide (HB1.out.trans (hb2.mono HB1.out.size))
  have HT2 := hide (HT1.out.go hb2)
  have hX3 : X < w2.heap.size := Nat.lt_of_lt_of_le hX2 hb2.size
  clear hb2 y1 hX2 HB1 HT1
  cases q with
  | false =>
    clear hf
    go_wp2_with fail
    refine (first_any HT2.out).mono ?_
    rintro e3 w3 ⟨rfl, hb3⟩
    have HB3 := hide (HB2.out.trans (hb3.mono HB2.out.size))
    clear hb3
    go_wp2_with fail
    go_ret
    exact ⟨rfl, HB3.out⟩
  | true =>
    have HF := hide (hf rfl)
    clear hf
    obtain ⟨q, hq⟩ : ∃ q, mayF ts = q := ⟨_, rfl⟩
    have C2 := hide (CM.out w2 HB2.out HF.out q hq)
    have HQ := hide hq
    clear CM hq
    go_wp2_with fail
    refine C2.out.mono ?_
    rintro e3 w3 ⟨rfl, hb3⟩
    have y3 := (hb3.cell (p := ⟨X, 0, none⟩) hX3).trans y2
    have HB3 := hide (HB2.out.trans (hb3.mono HB2.out.size))
    have HT3 := hide (HT2.out.go hb3)
    have hX4 : X < w3.heap.size := Nat.lt_of_lt_of_le hX3 hb3.size
    clear hb3 y2 hX3 HB2 HT2 C2
    cases q with
    | false =>
      go_wp2_with fail
      refine (first_any HT3.out).mono ?_
      rintro e4 w4 ⟨rfl, hb4⟩
      have HB4 := hide (HB3.out.trans (hb4.mono HB3.out.size))
      clear hb4
      go_wp2_with fail
      go_ret
      exact ⟨rfl, HB4.out⟩
    | true =>
      have hl0 : 0 < n := by
        obtain ⟨t, ht⟩ := may_tree HQ.out
        have h1 := congrArg List.length ht.flat
        rw [flatT_len, HN.out.1] at h1
        rw [h1]; exact size_pos t
      have hn20 : n ≤ 20000 := by rw [← HN.out.1]; exact HF.out.len
      have l0 : ((n : Int) == 0) = false := beq_eq_false_iff_ne.2 (by omega)
      by_cases hbig : 4096 ≤ n
      · have l1 : (4096 : Int) ≤ (n : Int) := by omega
        have l2 : decide ((4096 : Int) ≤ (n : Int)) = true := decide_eq_true l1
        go_wp2_with fail
        refine (first_any HT3.out).mono ?_
        rintro e4 w4 ⟨rfl, hb4⟩
        have HB4 := hide (HB3.out.trans (hb4.mono HB3.out.size))
        clear hb4
        go_wp2_with fail
        go_ret
        exact ⟨rfl, HB4.out⟩
      · have l1 : ¬ (4096 : Int) ≤ (n : Int) := by omega
        have l2 : decide ((4096 : Int) ≤ (n : Int)) = false := decide_eq_false l1
        have CC := hide (copyTree_any (c := c) (w := w3) (HN.out.below HB3.out) HB3.out.size HF.out)
        go_wp2_with fail
        refine CC.out.mono ?_
        rintro e4 w4 ⟨Ax, cx, rfl, ⟨ss, ht4⟩, hb4⟩
        obtain ⟨Bx, hBx⟩ : ∃ Bx, w4.heap.size = Bx := ⟨_, rfl⟩
        go_upto_region 6 with (fail)
        obtain ⟨w5, hw5⟩ : ∃ w5, w4.alloc (.cells #[.slice Ax n cx] 24) = w5 := ⟨_, rfl⟩
        have hS := NsS.boxed ht4 HN.out.1 hb4 hBx
        rw [hw5] at hS ⊢
        have hb5 : Below w3.heap.size w3 w5 := hS.below
        have y5 := (hb5.cell (p := ⟨X, 0, none⟩) hX4).trans y3
        have HB5 := hide (HB3.out.trans (hb5.mono HB3.out.size))
        have HT5 := hide (HT3.out.go hb5)
        have hX5 : X < w5.heap.size := Nat.lt_of_lt_of_le hX4 hb5.size
        have HY3 := hide y3
        have HX4 := hide hX4
        clear hw5 hBx ht4 hb4 hb5 y3 hX4 CC l0 l1 l2
        obtain ⟨g, rfl, hgW, hgl, hgB⟩ := hS.form hl0
        obtain ⟨ss, ht⟩ := hS.tr
        obtain ⟨x, hx⟩ : ∃ x, ts[0]? = some x := ⟨_, List.getElem?_eq_getElem (by rw [HN.out.1]; exact hl0)⟩
        obtain ⟨s, hs⟩ : ∃ s, ss[0]? = some s := ⟨_, List.getElem?_eq_getElem (by rw [ht.len, HN.out.1]; exact hl0)⟩
        have hc7 : w5.cell? ⟨g, 0 * 8 + 7, none⟩ = some (.slice s.Ak x.kids.length s.ck) := ht.at_ HN.out.1 (j := 7) (by omega) hx hs
        have hto := ht.own
        rw [HN.out.1] at hto
        have hf7 := hto.frozenAt 7
        have hkk := (ht.part 0 x s hx hs).kids
        have hxl : x.kids.length ≤ 20000 := (HF.out.each x (List.mem_of_getElem? hx)).2.2.1
        rw [Nat.zero_mul, Nat.zero_add] at hc7
        obtain ⟨L, hL⟩ : ∃ L, x.kids.length = L := ⟨_, rfl⟩
        rw [hL] at hc7 hkk hxl
        have hcx := hS.cell
        obtain ⟨wl, hwl⟩ : ∃ wl, w5.alloc (.cells #[.int .i64 (n : Int)] 3) = wl := ⟨_, rfl⟩
        have bl : Below w5.heap.size w5 wl := by rw [← hwl]; exact (Below.refl _ _).alloc (Nat.le_refl _) _
        obtain ⟨K, hK⟩ : ∃ K, w5.heap.size = K := ⟨_, rfl⟩
        have hwlK : wl.heap.size = K + 1 := by rw [← hwl]; simp [hK]
        have hBK : Bx < K := by rw [← hK]; exact hS.lt
        have hgK : g < K := by omega
        obtain ⟨cur, hcur⟩ := hS.box
        have NB1 := hide (own_ne_box hkk hcur (by decide))
        have NB2 := hide (own_ne_row hkk hto (by decide))
        have xl := (bl.cell (p := ⟨Bx, 0, none⟩) hS.lt).trans hcx
        have kl := (bl.cell (p := ⟨g, 7, none⟩) hgl).trans hc7
        have fl := (bl.frozen (p := ⟨g, 7, none⟩) hgl).trans hf7
        have HKL := hide ((own_below hkk bl).drew)
        have hnw : ∀ j u, [Value.int .i64 (n : Int)][j]? = some u → wl.cell? ⟨w5.heap.size, 0 + j, none⟩ = some u := by
          intro j u hu
          rw [← hwl, World.cell?_alloc_at _ _ _ _ rfl]
          simpa using hu
        have HNW := hide hnw
        have hone : ∀ u ∈ [Value.int .i64 (n : Int)], u.oneCell' = true := by
          intro u hu
          obtain rfl : u = .int .i64 (n : Int) := by simpa using hu
          rfl
        have HONE := hide hone
        have HS5 := hide hS
        have HTR := hide ht
        have HXs := hide hx
        have HSs := hide hs
        have HL := hide hL
        have BL := hide bl
        have HWK := hide hwlK
        have HK := hide hK
        have w3K : w3.heap.size ≤ K := by rw [← hK]; exact hS.below.size
        have hw3 : w3.heap.size ≤ wl.drew.heap.size := by show w3.heap.size ≤ wl.heap.size; omega
        have hBl : Bx < wl.drew.heap.size := by show Bx < wl.heap.size; omega
        have hgl2 : g < wl.drew.heap.size := by show g < wl.heap.size; omega
        obtain ⟨i0, hi0, hz0, hz1, hz2⟩ := info_parts Tryd.info_int
        have hn1 : (0 : Int) < (n : Int) := by omega
        clear hone hS ht hx hs hto hkk hcur bl hL hnw hK hwlK hgW hgl
        obtain ⟨ts2, hts2⟩ : ∃ ts2, ts.set 0 { x with kids := x.kids ++ [(n : Int)] } = ts2 := ⟨_, rfl⟩
        have HTS := hide hts2
        clear hts2
        go_cut [2] (fun v2 wx => v2 = .bool false ∧ Hid (NsS w3 wx Bx ts2 (some ⟨g, 0, none⟩) n cx))
        case first =>
          go_region_law (refine step_appK rfl _ _ 27 rfl w3.heap.size 3 i0 (.int .i64 0) 8 Tryd.underlying27 hi0 hz0 hz1 hz2 rfl (.slice s.Ak L s.ck) L (i64s x.kids) rfl HKL.out hw3 ⟨w5.heap.size, 0, none⟩ 1 1 [.int .i64 (n : Int)] rfl rfl (fun j u hu => by rw [Addr.add_lit]; exact HNW.out j u hu) HONE.out (by omega) (by omega) (by decide) ?_; intro v' w' ho' hk'; have hcA := (hk'.cell (p := ⟨Bx, 0, none⟩) hBl NB1.out).trans xl; have hcB := (hk'.cell (p := ⟨g, 7, none⟩) hgl2 NB2.out).trans kl; have hcC := (hk'.frozen (p := ⟨g, 7, none⟩) hgl2 NB2.out).trans fl; obtain ⟨An, cn, rfl, _, _⟩ := own_shape ho')
          all_goals
            go_wp2_with fail
            go_meet
            refine ⟨rfl, ?_⟩
            have hgr : w5.grownBy w' s.kb := ⟨hk'.os.trans BL.out.os, hk'.tape.trans BL.out.tape, hk'.output.trans BL.out.output, Nat.le_trans BL.out.size hk'.size, fun i hi hr => by
              have e2 : (Value.slice s.Ak L s.ck).ownBlock ≠ some i := by
                rw [slice_own]; exact fun e => hr e.symm
              exact (hk'.block i (Nat.lt_of_lt_of_le hi BL.out.size) e2).trans (BL.out.block i hi)⟩
            have hnw : An.map (·.block) = s.kb ∨ ∃ r, An.map (·.block) = some r ∧ w5.heap.size ≤ r := by
              rcases hk'.own with e | ⟨r, e, hr⟩
              · left
                rw [slice_own, slice_own] at e
                exact e
              · right
                rw [slice_own] at e
                exact ⟨r, e, Nat.le_trans BL.out.size hr⟩
            have ho2 : w'.ownsRow w3.heap.size 3 1 (.slice An (L + 1) cn) (L + 1) (i64s (x.kids ++ [(n : Int)])) := by
              have e : i64s (x.kids ++ [(n : Int)]) = i64s x.kids ++ [Value.int .i64 (n : Int)] := by simp [i64s]
              rw [e]; exact ho'
            have hfin := HS5.out.kids (i := 0) HTR.out HXs.out HSs.out hgr ho2 (by simp [HL.out]) hnw
            rw [HTS.out] at hfin
            exact hfin
        case rest =>
          obtain ⟨rfl, hS2⟩ := hcut
          have hn4 : n < 4096 := by omega
          have HMS := hide (show moreL ts = ts2 ++ [sigNd] from by rw [more_set HN.out.1 HXs.out, HTS.out])
          have hcx := hS2.out.cell
          obtain ⟨ss2, ht2⟩ := hS2.out.tr
          have hto := ht2.own
          rw [hS2.out.len] at hto
          have HTO := hide hto
          have HTR2 := hide ht2
          have hbw := hS2.out.below.size
          obtain ⟨cur, hcur⟩ := hS2.out.box
          have HNB := hide (own_ne_box ht2.own hcur (by decide))
          have hBlc := hS2.out.lt
          have HFZ := hide hS2.out.fz
          obtain ⟨j0, hj0, hy0, hy1, hy2⟩ := info_parts Tryd.info_node
          clear ht2 hto hcur hi0 hz0 hz1 hz2 HKL NB1 NB2 xl kl fl HNW HONE BL HWK HK hBl hgl2 hw3 w3K hwl hBK hgK hc7 hf7 y5 HB5 HT5 hX5 HTR HS5 HSs HL hgB hxl
          go_upto_region 8 with (at_builtin; refine wpList_litK rfl _ _ 22 rfl w3.heap.size 42 j0 (.agg zero8.toArray) 8 120 Tryd.underlying22 hj0 hy0 hy1 hy2 rfl (by decide) (.slice (some ⟨g, 0, none⟩) n cx) n (cellsN ts2 ss2) rfl HTO.out hbw [.int .i64 2, .string ⟨#[]⟩, .slice none 0 0, .int .i64 0, .int .i64 0, .bool false, .slice none 0 0, .slice none 0 0] 1 1 rfl rfl rfl (by omega) (by decide) ?_; intro v' w' ho' hk'; have hcA := (hk'.cell (p := ⟨Bx, 0, none⟩) hBlc HNB.out).trans hcx; have hfA := (hk'.frozen (p := ⟨Bx, 0, none⟩) hBlc HNB.out).trans HFZ.out; obtain ⟨Aw, cw, rfl, _, _⟩ := own_shape ho')
          have hS7 := hS2.out.more (x := sigNd) (s := sl0) HTR2.out (bare_own _ _ rfl rfl rfl) rfl ho' rfl hk'
          rw [← HMS.out] at hS7
          obtain ⟨w7, hw7⟩ : ∃ w7, w'.setCell ⟨Bx, 0, none⟩ (.slice Aw (n + 1) cw) = w7 := ⟨_, rfl⟩
          rw [hw7] at hS7 ⊢
          have hb7 := hS7.below
          have y7 := (hb7.cell (p := ⟨X, 0, none⟩) HX4.out).trans HY3.out
          have HB7 := hide (HB3.out.trans (hb7.mono HB3.out.size))
          have HT7 := hide (HT3.out.go hb7)
          have hX7 : X < w7.heap.size := Nat.lt_of_lt_of_le HX4.out hb7.size
          have hB7 := hS7.lt
          have xc7 := hS7.cell
          have hcap := hS7.cap.1
          have HM7 := hide (hS7.reads (more_p HXs.out HN.out.p (by rw [HN.out.1]; omega)))
          have HK7 := hide (show (kidsAll (moreL ts)).length ≤ 1000000 by rw [more_kids HXs.out]; have := HF.out.all; omega)
          clear hw7 hb7 hS7 hk' ho' hcA hfA hS2 HMS hcx HTO HTR2 hbw HNB hBlc HFZ hj0 hy0 hy1 hy2 HTS HXs HB3 HT3 HY3 HX4
          obtain ⟨t, hM, hmm, hnest, hM2, hpr⟩ := more_law HQ.out (by rw [HN.out.1]; exact hn4)
          obtain ⟨N1, hN1⟩ : ∃ N1, nestD ts = N1 := ⟨_, rfl⟩
          have hN2 : nestD (moreL ts) = max N1 2 := by
            unfold nestF at hnest
            rw [if_pos hmm, if_pos HQ.out, hN1] at hnest
            exact hnest
          obtain ⟨N2, hN2e⟩ : ∃ N2, max N1 2 = N2 := ⟨_, rfl⟩
          rw [hN2e] at hN2
          have hmx : max (N1 : Int) 2 = (N2 : Int) := by omega
          obtain ⟨U, hU⟩ : ∃ U, printF t = U := ⟨_, rfl⟩
          obtain ⟨U2, hU2⟩ : ∃ U2, printF (addT t) = U2 := ⟨_, rfl⟩
          rw [hU, hU2] at hpr
          obtain ⟨ts3, hts3⟩ : ∃ ts3, moreL ts = ts3 := ⟨_, rfl⟩
          rw [hts3] at hmm hN2 hM2 HM7 HK7
          have C7 := hide (printT_any (c := c) (w := w7) (HN.out.below HB7.out) HB7.out.size hc HF.out.all1 HT7.out HGL.out hM hU)
          have C8 := hide (fun (wa : World) (hb : Below w7.heap.size w7 wa) => printT_any (c := cw) (w := wa) (HM7.out.below hb) hb.size hcap HK7.out (HT7.out.go hb) HT7.out.lt hM2 hU2)
          have CMX := hide (fun (wa : World) (hb : Below w7.heap.size w7 wa) => may_any (c := cw) (HM7.out.below hb) hb.size hcap HK7.out hmm)
          have CNX := hide (fun (wa : World) (hb : Below w7.heap.size w7 wa) => nest_yes (c := cw) (HM7.out.below hb) hb.size hcap HK7.out hmm (by omega) (by omega) (fwd_order (may_order hmm)) hN2)
          have CNT := hide (fun (wa : World) (hb : Below w7.heap.size w7 wa) => nest_yes (c := c) (HN.out.below (HB7.out.trans (hb.mono HB7.out.size))) (Nat.le_trans HB7.out.size hb.size) hc HF.out.all1 HQ.out hl0 (by omega) (fwd_order (may_order HQ.out)) hN1)
          have HPR := hide hpr
          clear hM hmm hnest hM2 hpr hN1 hN2 hN2e hU hU2 hts3 HQ HF
          go_wp2_with fail
          refine C7.out.mono ?_
          rintro e8 w8 ⟨Au, m, cu, ev, us, rfl, hum, hm4, hru, hu1, hu3, hb8⟩
          have HB8 := hide hb8
          have y8 := (hb8.cell (p := ⟨X, 0, none⟩) hX7).trans y7
          have x8 := (hb8.cell (p := ⟨Bx, 0, none⟩) hB7).trans xc7
          have HRU := hide hru
          have HUM := hide hum
          have HU1 := hide hu1
          have CX := hide (C8.out w8 HB8.out)
          clear hb8 hru hum hu1 hu3 y7 xc7 C7 C8
          go_wp2_with fail
          refine CX.out.mono ?_
          rintro e9 w9 ⟨Av, mv, cv, fv, vs, rfl, hvm, hv4, hrv, hv1, hv3, hb9⟩
          have HB9 := hide (HB8.out.trans (hb9.mono HB8.out.size))
          have hX8 : X < w8.heap.size := Nat.lt_of_lt_of_le hX7 HB8.out.size
          have hB8 : Bx < w8.heap.size := Nat.lt_of_lt_of_le hB7 HB8.out.size
          have y9 := (hb9.cell (p := ⟨X, 0, none⟩) hX8).trans y8
          have x9 := (hb9.cell (p := ⟨Bx, 0, none⟩) hB8).trans x8
          have HRU9 := hide ((HRU.out.below hb9).more hb9.size)
          have HRV := hide hrv
          have HVM := hide hvm
          have HV1 := hide hv1
          have HV3 := hide hv3
          have hX9 : X < w9.heap.size := Nat.lt_of_lt_of_le hX8 hb9.size
          have hB9 : Bx < w9.heap.size := Nat.lt_of_lt_of_le hB8 hb9.size
          have S9 := HB9.out.size
          have HT9 := hide (HT7.out.go HB9.out)
          have D1 := hide (show Calls Tryd.prog 11 #[.agg #[.slice Aw (n + 1) cw]] w9.drew fun e w' => e = .returned (.bool true) ∧ Below w9.drew.heap.size w9.drew w' from CMX.out w9.drew HB9.out.drew)
          have D2 := hide (fun (wa : World) (hb : Below w9.heap.size w9 wa) => CNX.out wa (HB9.out.trans (hb.mono S9)))
          have D3 := hide (fun (wa : World) (hb : Below w9.heap.size w9 wa) => CNT.out wa (HB9.out.trans (hb.mono S9)))
          clear hb9 hrv hvm hv1 hv3 y8 x8 CX CMX CNX CNT HRU hX7 hB7 hX8 hB8
          have zz : ((N2 : Int) != (N2 : Int)) = false := by simp
          go_upto_region 10 with (fail)
          go_cut [2, 4, 5, 6, 7, 74] (fun v2 v4 v5 v6 v7 v74 wx => v2 = .bool false ∧ v4 = .slice Au m cu ∧ v5 = .int .i64 ev ∧ v6 = .slice Av mv cv ∧ v7 = .int .i64 fv ∧ v74 = .bool false ∧ Hid (Below w9.heap.size w9 wx))
          case first =>
            go_region_held3 (fun w' => w'.cell? ⟨X, 0, none⟩ = some (.slice A n c) ∧ w'.cell? ⟨Bx, 0, none⟩ = some (.slice Aw (n + 1) cw))
              (first | (exact ⟨y9, x9⟩) | (exact ⟨(HD1.out.cell (p := ⟨X, 0, none⟩) hX9).trans y9, (HD1.out.cell (p := ⟨Bx, 0, none⟩) hB9).trans x9⟩) | (exact ⟨(HD2.out.cell (p := ⟨X, 0, none⟩) hX9).trans y9, (HD2.out.cell (p := ⟨Bx, 0, none⟩) hB9).trans x9⟩) | (exact ⟨(HD3.out.cell (p := ⟨X, 0, none⟩) hX9).trans y9, (HD3.out.cell (p := ⟨Bx, 0, none⟩) hB9).trans x9⟩) | go_keep)
              (first | (go_at_call 11; go_split_ands; (with_reducible refine D1.out.mono ?_); rintro eb wb ⟨rfl, hbb⟩; have HD1 := hide (show Below w9.heap.size w9 wb from ⟨hbb.os, hbb.tape, hbb.output, hbb.size, hbb.block⟩); clear hbb) | (go_at_call 13; go_split_ands; (with_reducible refine (D2.out wb HD1.out).mono ?_); rintro ec wc ⟨rfl, hbc⟩; have HD2 := hide (HD1.out.trans (hbc.mono HD1.out.size)); clear hbc) | (go_at_call 13; go_split_ands; (with_reducible refine (D3.out wc HD2.out).mono ?_); rintro ed wd ⟨rfl, hbd⟩; have HD3 := hide (HD2.out.trans (hbd.mono HD2.out.size)); clear hbd))
            all_goals go_wp2_with fail
            all_goals go_meet
            all_goals exact ⟨rfl, rfl, rfl, rfl, rfl, rfl, HD3.out⟩
          case rest =>
            obtain ⟨rfl, rfl, rfl, rfl, rfl, rfl, hbc⟩ := hcut
            have HBc := hide (HB7.out.trans ((HB9.out.trans (hbc.out.mono S9)).mono HB7.out.size))
            have HTc := hide (HT9.out.go hbc.out)
            have HUc := hide ((HRU9.out.below hbc.out).more hbc.out.size)
            have HVc := hide ((HRV.out.below hbc.out).more hbc.out.size)
            clear D1 D2 D3 HRU9 HRV HB9 HT9 hbc y9 x9 hX9 hB9 zz hmx S9 HB8
            by_cases hlong : 4096 < U2.length
            · have e3 := HV3.out hlong
              subst e3
              clear hlong
              go_wp2_with fail
              refine (first_any HTc.out).mono ?_
              rintro eg wg ⟨rfl, hbg⟩
              have HBg := hide (bstep HBc.out hbg)
              clear hbg
              go_wp2_with fail
              go_ret
              exact ⟨rfl, HBg.out⟩
            · obtain ⟨e0, e1⟩ := HV1.out (by omega)
              have hUl : U.length ≤ 4096 := by
                have := HPR.out
                rw [this] at hlong
                split at hlong
                · rename_i h; rw [h]; simp
                · rw [List.length_append] at hlong; simp at hlong; omega
              obtain ⟨e4, e5⟩ := HU1.out hUl
              subst e0 e4
              have HPV := hide (show vs = if us = [] then [59] else us ++ [32, 59] by rw [e1, HPR.out, e5])
              clear e1 e5 hUl hlong HV1 HU1 HV3 HPR
              have CU := hide (copyU_is (c := cu) (w := wc) HUM.out (Nat.le_refl _) HUc.out (by omega))
              obtain ⟨i1, hi1, hr0, hr1, hr2⟩ := info_parts Tryd.info_u16
              go_wp2_with fail
              refine CU.out.mono ?_
              rintro eg wg ⟨Ag, cg, rfl, hog, hbg⟩
              have HOG := hide hog
              have HBg := hide hbg
              have hsg := hbg.size
              clear hog hbg CU
              go_upto_region 15 with (at_builtin; refine wpList_litK rfl _ _ 30 rfl wc.heap.size 34 i1 (.int .u16 0) 1 2 Tryd.underlying30 hi1 hr0 hr1 hr2 rfl (by decide) (.slice Ag m cg) m (u16s us) rfl HOG.out hsg [.int .u16 32, .int .u16 59] 2 2 rfl rfl rfl (by omega) (by decide) ?_; intro v' wh ho' hk')
              obtain ⟨Ah, ch, rfl, hch1, hch2⟩ := own_shape ho'
              have HBh := hide (HBg.out.trans (hk'.below (B := wc.heap.size) (fun i hi => (HOG.out.lt i hi).1) hsg))
              have HRh := hide (show Reads wh wh.heap.size 1 Ah (m + 2) (u16s (us ++ [32, 59])) from by
                have e : u16s (us ++ [32, 59]) = u16s us ++ [Value.int .u16 32, Value.int .u16 59] := by simp [u16s, u16v]
                rw [e]; exact Reads.of_own ho')
              have HVh := hide (HVc.out.below HBh.out)
              have HTh := hide (HTc.out.go HBh.out)
              clear ho' hk' HOG hch1 hch2
              by_cases hm0 : m = 0
              · have hus : us = [] := List.eq_nil_of_length_eq_zero (by rw [HUM.out]; exact hm0)
                have hv1 : vs = [59] := by rw [HPV.out, if_pos hus]
                have hmv : mv = 1 := by rw [← HVM.out, hv1]; rfl
                subst hmv hm0
                have HV1 := hide hv1
                clear hus hv1
                go_wp2_with fail
                have hal := (Below.refl wh.heap.size wh).alloc (Nat.le_refl _) (.cells [Value.int .u16 59].toArray 34)
                refine (first_any (w := wh.alloc (.cells #[.int .u16 59] 34)) (HTh.out.go hal)).mono ?_
                rintro ei wi ⟨rfl, hbi⟩
                have hsi : (wh.alloc (.cells [Value.int .u16 59].toArray 34)).heap.size = wh.heap.size + 1 := by simp
                have hbi' : Below (wh.heap.size + 1) (wh.alloc (.cells [Value.int .u16 59].toArray 34)) wi := by rw [← hsi]; exact hbi
                have HBi := hide (show Below wh.heap.size wh wi from hal.trans (hbi'.mono (by omega)))
                have hRW := (reads_at wh 34 [.int .u16 59] 1 _ rfl rfl (by decide)).below hbi'
                have hRV := (HVh.out.below (HBi.out.mono HBh.out.size)).more (show wc.heap.size ≤ wh.heap.size + 1 by have := HBh.out.size; omega)
                have hBs : wh.heap.size + 1 ≤ wi.heap.size := by rw [← hsi]; exact hbi.size
                have CI := hide (units_is (c := cv) (d := 1) (w := wi) hBs HVM.out (ys := [59]) rfl hRV hRW (by decide) (by decide) (r := true) (decide_eq_true HV1.out))
                clear hbi hbi' hsi hRW hRV hBs hal
                go_wp2_with fail
                refine CI.out.mono ?_
                rintro ej wj ⟨rfl, hbj⟩
                have HBj := hide (bstep HBc.out (HBh.out.trans ((HBi.out.trans (hbj.mono HBi.out.size)).mono HBh.out.size)))
                clear hbj
                go_wp2_with fail
                go_ret
                exact ⟨rfl, HBj.out⟩
              · have hus : us ≠ [] := fun e => hm0 (by rw [← HUM.out, e]; rfl)
                have hv1 : vs = us ++ [32, 59] := by rw [HPV.out, if_neg hus]
                have hmv : mv = m + 2 := by rw [← HVM.out, hv1, List.length_append, HUM.out]; rfl
                subst hmv
                have HV1 := hide hv1
                have em : ((m : Int) == 0) = false := beq_eq_false_iff_ne.2 (by omega)
                have HLN := hide (show (us ++ [32, 59]).length = m + 2 by rw [List.length_append, HUM.out]; rfl)
                clear hus hv1
                go_wp2_with fail
                refine (first_any (w := wh) HTh.out).mono ?_
                rintro ei wi ⟨rfl, hbi⟩
                have hRW := HRh.out.below hbi
                have hRV := (HVh.out.below (hbi.mono HBh.out.size)).more HBh.out.size
                have CI := hide (units_is (c := cv) (d := ch) (w := wi) hbi.size HVM.out HLN.out hRV hRW (by omega) (by omega) (r := true) (decide_eq_true HV1.out))
                have HBi := hide hbi
                clear hbi hRW hRV
                go_wp2_with fail
                refine CI.out.mono ?_
                rintro ej wj ⟨rfl, hbj⟩
                have HBj := hide (bstep HBc.out (HBh.out.trans ((bstep HBi.out hbj).mono HBh.out.size)))
                clear hbj
                go_wp2_with fail
                go_ret
                exact ⟨rfl, HBj.out⟩
end Go.Proofs.YtelcjdblnagdgaaDoor

namespace Go.Proofs.YtelcjdblnagdgaaDoor.lawTreeMore
open Go.ChangeShapes Go.WideShapes Go.ChangeAt Go.RowKit

set_option maxRecDepth 1000000 in
theorem contract (H : Type) (enc : TypeId × Value → H) (W : World) (base : Nat) (args : Array Value) (ds gs : List (DataW H)) (before : List MemPlace)
    (hval : ∀ (j : Nat) t v, Tryd.f5.params[j]? = some t → args[j]? = some v → Value.okWide Tryd.prog W .any base t v)
    (hW : DataW.Whole enc Tryd.prog Tryd.f5.params.toList Rows.treeMoreSpec.vars false W args.toList ds gs before) (hL : laidMetH Tryd.prog Rows.treeMoreRow.laid W) :
    Calls Tryd.prog 5 args W fun e W' => ∃ v, e = .returned v ∧ Rows.treeMoreSpec.post enc Tryd.prog Tryd.f5 false true false false W args v W' := by
  have hW' := hW
  obtain ⟨p, q, hA0, hV, rfl, hfz, hnd⟩ := hW
  have hA : DataW.TrodAll enc Tryd.prog W 0 (fun _ => true) true Tryd.f5.params.toList args.toList ds p := hA0
  rw [Tryd.params5] at hA hval
  have hA1 := hA
  obtain ⟨v0, vs0, d0, ds0, p0, q0, hargs, rfl, rfl, h0, r0⟩ := trodAll_cons hA
  obtain ⟨rfl, rfl, rfl⟩ := trodAll_nil r0
  obtain rfl : args = #[v0] := by cases args; simp_all
  obtain ⟨rfl, rfl⟩ := trodVars_none hV
  obtain ⟨A0, n0, c0, x0, rfl, hc0, hm0, hr0⟩ := param_tree (hval 0 24 v0 rfl rfl) h0
  clear hA0
  have hlt := hW'.lt
  refine (treeMore_law A0 n0 c0 x0 hc0 hm0 W hr0 (tab_laid hL)).mono fun e W' ⟨he, hb⟩ => ?_
  subst he
  exact ⟨_, rfl, post_of_below (pv := []) hW' (fun _ _ _ => trodAll_cons_mk (shut_bool Tryd.underlying4 _) trodAll_mk0)
    (fun sp hsp => by
      rw [Tryd.params5]
      exact trodAll_stays (fun t ht => by
        have : t ∈ [24] := ht
        simp only [List.mem_cons, List.mem_nil_iff, or_false] at this
        rcases this with rfl <;> exact ⟨by kernel_rfl, of_decide_eq_true (by kernel_rfl)⟩) hA1 hb (fun x hx => hlt x (by simpa using hx)) (fun x hx => hsp x (by simpa using hx)))
    (fun _ _ => rfl) rfl hb (ok_one (by kernel_rfl) rfl (okWide_bool_mk Tryd.underlying4 _))⟩

theorem laid_met (os : Os) : laidMet Tryd.prog Rows.treeMoreRow.laid ((laidWorld os).forCall (fun _ _ => 0) ⟨#[], #[.agg #[.slice none 0 0]], []⟩).memory :=
  laidMet_of_run' 8 (by kernel_rfl) (by kernel_rfl)
theorem reads (os : Os) {H : Type} (enc : TypeId × Value → H) : ∃ places, DataW.whole enc Tryd.prog ((laidWorld os).forCall (fun _ _ => 0) ⟨#[], #[.agg #[.slice none 0 0]], []⟩).memory Tryd.f5.params.toList Rows.treeMoreSpec.vars false (#[.agg #[.slice none 0 0]] : Array Value).toList 8 = some ([.agg [.nil]], [], places) :=
  ⟨[], by kernel_rfl⟩

set_option maxRecDepth 100000 in
theorem lifted (os : Os) (started : os.Started) (H : Type) (enc : TypeId × Value → H) (F : Stop.Interp) :
    ReturnsInHanded {} Tryd.checked os 5 .any ((OpenSpec.ofChange Rows.treeMoreSpec).preRow enc Tryd.prog Tryd.f5 Rows.treeMoreRow.domain false Rows.treeMoreRow.laid) (((OpenSpec.ofChange Rows.treeMoreSpec).at F).post enc Tryd.prog Tryd.f5 false true false false) := by
  obtain ⟨places, hx⟩ := reads os enc
  refine returnsInHanded_of_row (C := Tryd.checked) (s := OpenSpec.ofChange Rows.treeMoreSpec) own started (by kernel_rfl) Tryd.func5
    (witness_row_at (enc := enc) (C := Tryd.checked) false (laidWorld os) #[.agg #[.slice none 0 0]] rfl (by kernel_rfl) (by kernel_rfl) (by kernel_rfl)
      (OpenSpec.preRow_of_cond 8 hx (by kernel_rfl) (fun k hk => by cases hk) (by kernel_rfl) (laid_met os))) ?_
  intro W base args ds gs before hval hW _ _ _ hL _ _
  exact contract H enc W base args ds gs before hval hW hL

theorem said : Rows.TreeMoreSaid :=
  OpenClaim.holds_of_cond 5 Tryd.f5 rfl rfl rfl rfl rfl rfl rfl ⟨rfl, rfl, rfl, rfl, rfl⟩ rfl rfl rfl rfl rfl (by kernel_rfl) Tryd.func5 (by kernel_rfl)
    (of_decide_eq_true (by kernel_rfl)) (by unfold Func.isWrapper; first | (rw [if_pos (by decide +kernel)]; kernel_rfl) | (rw [if_neg (by decide +kernel)]; exact ⟨rfl, rfl⟩))
    (fun os started H enc _ F => by rw [OpenClaim.pre_eq_preRow]; exact lifted os started H enc F)

theorem plain (f : FuncId) (fn : Func) (hf : Tryd.pinned.checked.prog.funcNamed "rendezvous/renlaw6.TreeMore" = some f) (hfn : Tryd.pinned.checked.prog.funcs[f]? = some fn) :
    false = Tryd.pinned.checked.prog.looks [] ∧ ∀ (j : Nat) t, fn.params[j]? = some t → Tryd.pinned.checked.prog.wantsStandIn t = false := by
  obtain rfl : f = 5 := Option.some.inj ((show Tryd.prog.funcNamed "rendezvous/renlaw6.TreeMore" = some 5 by kernel_rfl).symm.trans hf) |>.symm
  obtain rfl : fn = Tryd.f5 := (Option.some.inj (Tryd.func5.symm.trans hfn)).symm
  refine ⟨by kernel_rfl, fun j t ht => ?_⟩
  rw [Tryd.params5] at ht
  have hin : t ∈ [24] := Array.mem_toList_iff.2 (Array.mem_of_getElem? ht)
  have hall : ([24].all fun u => !Tryd.pinned.checked.prog.wantsStandIn u) = true := by kernel_rfl
  simpa using List.all_eq_true.1 hall t hin

/-- The card. -/
theorem card : Rows.TreeMoreCardSaid :=
  Claim7.holds_tied_plain_at .later [] _ _ _ _ said (fun _ h => by cases h) (by kernel_rfl) (fun _ h => by cases h) treeMore_row_tie rfl ⟨rfl, rfl⟩ (by kernel_rfl) rfl plain (by kernel_rfl)
end Go.Proofs.YtelcjdblnagdgaaDoor.lawTreeMore
