/- Joined for a claim: TPr2, TPr6. -/
import Derived.Test.YtelcjdblnagdgaaDoorM10
import Derived.Deep.CutBlock
import Derived.Deep.DeepCutAuto
namespace Go.Proofs.YtelcjdblnagdgaaDoor
open Go.RowKit

set_option maxHeartbeats 4000000 in
set_option maxRecDepth 100000 in
theorem st_2 {C : Cx} {m ck k0 : Nat} {Ak : Option Addr} {us : List UInt16} {v : Value} {w : World} (nm : List UInt8) (vs vm : Value) (nk nn : Int) (ng : Bool) (hN : NodeC C m) (hp : Pe C us v w) (hm : MayPut us ([[59]])) :
    Calls Tryd.prog 46 #[.pointer (some ⟨C.g, 0, none⟩), .int .i64 (k0 : Int), .agg #[.int .i64 2, .string ⟨nm.toArray⟩, vs, .int .i64 nk, .int .i64 nn, .bool ng, vm, .slice Ak 0 ck]] w (PutQ C us v w ([[59]])) := by
  obtain ⟨W, hW⟩ : ∃ W, w.alloc (.cells #[.int .i64 2, .string ⟨nm.toArray⟩, vs, .int .i64 nk, .int .i64 nn, .bool ng, vm, .slice Ak 0 ck] 42) = W := ⟨_, rfl⟩
  have hb0 : Below w.heap.size w W := by rw [← hW]; exact (Below.refl _ _).alloc (Nat.le_refl _) _
  have hX1 : w.heap.size < W.heap.size := by rw [← hW]; simp
  have hXg : w.heap.size ≠ C.g := fun e => by have := hp.pn.lt; omega
  have hXv : v.ownBlock ≠ some w.heap.size := fun e => by have := (hp.pn.own.lt _ e).2; omega
  have x0 : W.cell? ⟨w.heap.size, 0, none⟩ = some (.int .i64 2) := by rw [← hW, World.cell?_alloc_at _ _ _ _ rfl]; rfl
  have x7 : W.cell? ⟨w.heap.size, 7, none⟩ = some (.slice Ak 0 ck) := by rw [← hW, World.cell?_alloc_at _ _ _ _ rfl]; rfl
  have HP0 := hide (hp.below hb0)
  have HB0 := hide hb0
  have HN := hide hN
  have M1 := hide hm
  obtain ⟨X, hX⟩ : ∃ X, w.heap.size = X := ⟨_, rfl⟩
  go_enter Tryd.func46, Tryd.ntmps46
  go_upto_region 1 with (fail)
  clear hm hp hb0 hN
  clear hW
  rw [hX] at x0
  rw [hX] at x7
  rw [hX] at hX1 hXg hXv
  clear hX
  have C1 := hide (put_lit HP0.out [[59]] 1 rfl M1.out)
  go_wp2_with fail
  refine C1.out.mono ?_
  rintro e1 w1 ⟨rfl, v1, hp1, hk1⟩
  have HP1 := hide hp1
  have HK1 := hide (hk1)
  have x0_1 := (HK1.out.cell (p := ⟨X, 0, none⟩) hX1 hXg hXv).trans x0
  have x7_1 := (HK1.out.cell (p := ⟨X, 7, none⟩) hX1 hXg hXv).trans x7
  clear hp1 hk1
  go_wp2_with fail
  refine bodyPost_ret (v := .tuple #[]) (by simp [results, Tryd.results46, go_sem]) rfl ?_
  refine PutQ.back HB0.out ⟨rfl, v1, ?_, HK1.out⟩
  exact HP1.out
set_option maxHeartbeats 4000000 in
set_option maxRecDepth 100000 in
theorem st_3 {C : Cx} {m ck k0 : Nat} {Ak : Option Addr} {us : List UInt16} {v : Value} {w : World} (nm : List UInt8) (vs vm : Value) (nk nn : Int) (ng : Bool) {a0 : Tr} (hN : NodeC C m) (s0 : a0.size ≤ m) (hk : KidsS C w Ak [a0]) (hp : Pe C us v w) (hm : MayPut us ((inP (prT a0)) ++ ([[59]]))) :
    Calls Tryd.prog 46 #[.pointer (some ⟨C.g, 0, none⟩), .int .i64 (k0 : Int), .agg #[.int .i64 3, .string ⟨nm.toArray⟩, vs, .int .i64 nk, .int .i64 nn, .bool ng, vm, .slice Ak 1 ck]] w (PutQ C us v w ((inP (prT a0)) ++ ([[59]]))) := by
  obtain ⟨b, o, rfl, hka⟩ := hk (by simp)
  obtain ⟨W, hW⟩ : ∃ W, w.alloc (.cells #[.int .i64 3, .string ⟨nm.toArray⟩, vs, .int .i64 nk, .int .i64 nn, .bool ng, vm, .slice (some ⟨b, o, none⟩) 1 ck] 42) = W := ⟨_, rfl⟩
  have hb0 : Below w.heap.size w W := by rw [← hW]; exact (Below.refl _ _).alloc (Nat.le_refl _) _
  have hX1 : w.heap.size < W.heap.size := by rw [← hW]; simp
  have hXg : w.heap.size ≠ C.g := fun e => by have := hp.pn.lt; omega
  have hXv : v.ownBlock ≠ some w.heap.size := fun e => by have := (hp.pn.own.lt _ e).2; omega
  have x0 : W.cell? ⟨w.heap.size, 0, none⟩ = some (.int .i64 3) := by rw [← hW, World.cell?_alloc_at _ _ _ _ rfl]; rfl
  have x7 : W.cell? ⟨w.heap.size, 7, none⟩ = some (.slice (some ⟨b, o, none⟩) 1 ck) := by rw [← hW, World.cell?_alloc_at _ _ _ _ rfl]; rfl
  obtain ⟨p0, at0, bb0, cc0⟩ := (hka.below (hb0.mono (Nat.le_of_lt hp.blt))) 0 (by simp)
  have c0 : W.cell? ⟨b, o, none⟩ = some (.int .i64 (p0 : Int)) := cc0
  have AT0 : Hid (At C.ts p0 a0) := at0
  have HP0 := hide (hp.below hb0)
  have HB0 := hide hb0
  have HN := hide hN
  obtain ⟨mm1, rr1⟩ := hm.two (b := inP (prT a0)) (c := [[59]]) rfl
  have M1 := hide mm1
  have M2 := hide rr1
  obtain ⟨X, hX⟩ : ∃ X, w.heap.size = X := ⟨_, rfl⟩
  go_enter Tryd.func46, Tryd.ntmps46
  go_upto_region 1 with (fail)
  clear hm hp hb0 hN hka mm1 rr1 at0 cc0
  clear hW
  rw [hX] at x0
  rw [hX] at x7
  rw [hX] at hX1 hXg hXv
  clear hX
  have C1 := hide (pin_any HN.out s0 AT0.out HP0.out M1.out)
  go_wp2_with fail
  refine C1.out.mono ?_
  rintro e1 w1 ⟨rfl, v1, hp1, hk1⟩
  have HP1 := hide hp1
  have HK1 := hide (hk1)
  have x0_1 := (HK1.out.cell (p := ⟨X, 0, none⟩) hX1 hXg hXv).trans x0
  have x7_1 := (HK1.out.cell (p := ⟨X, 7, none⟩) hX1 hXg hXv).trans x7
  clear hp1 hk1
  have C2 := hide (put_lit HP1.out [[59]] 1 rfl M2.out)
  go_wp2_with fail
  refine C2.out.mono ?_
  rintro e2 w2 ⟨rfl, v2, hp2, hk2⟩
  have HP2 := hide hp2
  have HK2 := hide (HK1.out.trans hk2)
  have x0_2 := (HK2.out.cell (p := ⟨X, 0, none⟩) hX1 hXg hXv).trans x0
  have x7_2 := (HK2.out.cell (p := ⟨X, 7, none⟩) hX1 hXg hXv).trans x7
  clear hp2 hk2
  go_wp2_with fail
  refine bodyPost_ret (v := .tuple #[]) (by simp [results, Tryd.results46, go_sem]) rfl ?_
  refine PutQ.back HB0.out ⟨rfl, v2, ?_, HK2.out⟩
  have := HP2.out
  simp only [← putA_app] at this
  exact this
set_option maxHeartbeats 4000000 in
set_option maxRecDepth 100000 in
theorem st_7_no {C : Cx} {m ck k0 : Nat} {Ak : Option Addr} {us : List UInt16} {v : Value} {w : World} (nm : List UInt8) (vs vm : Value) (nk nn : Int) (ng : Bool) (hN : NodeC C m) (hp : Pe C us v w) (hm : MayPut us ([nm])) :
    Calls Tryd.prog 46 #[.pointer (some ⟨C.g, 0, none⟩), .int .i64 (k0 : Int), .agg #[.int .i64 7, .string ⟨nm.toArray⟩, vs, .int .i64 nk, .int .i64 nn, .bool ng, vm, .slice Ak 0 ck]] w (PutQ C us v w ([nm])) := by
  obtain ⟨W, hW⟩ : ∃ W, w.alloc (.cells #[.int .i64 7, .string ⟨nm.toArray⟩, vs, .int .i64 nk, .int .i64 nn, .bool ng, vm, .slice Ak 0 ck] 42) = W := ⟨_, rfl⟩
  have hb0 : Below w.heap.size w W := by rw [← hW]; exact (Below.refl _ _).alloc (Nat.le_refl _) _
  have hX1 : w.heap.size < W.heap.size := by rw [← hW]; simp
  have hXg : w.heap.size ≠ C.g := fun e => by have := hp.pn.lt; omega
  have hXv : v.ownBlock ≠ some w.heap.size := fun e => by have := (hp.pn.own.lt _ e).2; omega
  have x0 : W.cell? ⟨w.heap.size, 0, none⟩ = some (.int .i64 7) := by rw [← hW, World.cell?_alloc_at _ _ _ _ rfl]; rfl
  have x7 : W.cell? ⟨w.heap.size, 7, none⟩ = some (.slice Ak 0 ck) := by rw [← hW, World.cell?_alloc_at _ _ _ _ rfl]; rfl
  have x1 : W.cell? ⟨w.heap.size, 1, none⟩ = some (.string ⟨nm.toArray⟩) := by rw [← hW, World.cell?_alloc_at _ _ _ _ rfl]; rfl
  have HP0 := hide (hp.below hb0)
  have HB0 := hide hb0
  have HN := hide hN
  have M1 := hide hm
  obtain ⟨X, hX⟩ : ∃ X, w.heap.size = X := ⟨_, rfl⟩
  go_enter Tryd.func46, Tryd.ntmps46
  go_upto_region 1 with (fail)
  clear hm hp hb0 hN
  clear hW
  rw [hX] at x0
  rw [hX] at x7
  rw [hX] at x1
  rw [hX] at hX1 hXg hXv
  clear hX
  have C1 := hide (put_lit HP0.out [nm] 1 rfl M1.out)
  go_wp2_with fail
  refine C1.out.mono ?_
  rintro e1 w1 ⟨rfl, v1, hp1, hk1⟩
  have HP1 := hide hp1
  have HK1 := hide (hk1)
  have x0_1 := (HK1.out.cell (p := ⟨X, 0, none⟩) hX1 hXg hXv).trans x0
  have x7_1 := (HK1.out.cell (p := ⟨X, 7, none⟩) hX1 hXg hXv).trans x7
  have x1_1 := (HK1.out.cell (p := ⟨X, 1, none⟩) hX1 hXg hXv).trans x1
  clear hp1 hk1
  go_wp2_with fail
  refine bodyPost_ret (v := .tuple #[]) (by simp [results, Tryd.results46, go_sem]) rfl ?_
  refine PutQ.back HB0.out ⟨rfl, v1, ?_, HK1.out⟩
  exact HP1.out
set_option maxHeartbeats 4000000 in
set_option maxRecDepth 100000 in
theorem st_7_yes {C : Cx} {m ck k0 : Nat} {Ak : Option Addr} {us : List UInt16} {v : Value} {w : World} (nm : List UInt8) (vs vm : Value) (nk nn : Int) (ng : Bool) {a0 : Tr} (hN : NodeC C m) (s0 : a0.size ≤ m) (hk : KidsS C w Ak [a0]) (hp : Pe C us v w) (hm : MayPut us ([nm] ++ ([[61]] ++ (inP (prT a0))))) :
    Calls Tryd.prog 46 #[.pointer (some ⟨C.g, 0, none⟩), .int .i64 (k0 : Int), .agg #[.int .i64 7, .string ⟨nm.toArray⟩, vs, .int .i64 nk, .int .i64 nn, .bool ng, vm, .slice Ak 1 ck]] w (PutQ C us v w ([nm] ++ ([[61]] ++ (inP (prT a0))))) := by
  obtain ⟨b, o, rfl, hka⟩ := hk (by simp)
  obtain ⟨W, hW⟩ : ∃ W, w.alloc (.cells #[.int .i64 7, .string ⟨nm.toArray⟩, vs, .int .i64 nk, .int .i64 nn, .bool ng, vm, .slice (some ⟨b, o, none⟩) 1 ck] 42) = W := ⟨_, rfl⟩
  have hb0 : Below w.heap.size w W := by rw [← hW]; exact (Below.refl _ _).alloc (Nat.le_refl _) _
  have hX1 : w.heap.size < W.heap.size := by rw [← hW]; simp
  have hXg : w.heap.size ≠ C.g := fun e => by have := hp.pn.lt; omega
  have hXv : v.ownBlock ≠ some w.heap.size := fun e => by have := (hp.pn.own.lt _ e).2; omega
  have x0 : W.cell? ⟨w.heap.size, 0, none⟩ = some (.int .i64 7) := by rw [← hW, World.cell?_alloc_at _ _ _ _ rfl]; rfl
  have x7 : W.cell? ⟨w.heap.size, 7, none⟩ = some (.slice (some ⟨b, o, none⟩) 1 ck) := by rw [← hW, World.cell?_alloc_at _ _ _ _ rfl]; rfl
  have x1 : W.cell? ⟨w.heap.size, 1, none⟩ = some (.string ⟨nm.toArray⟩) := by rw [← hW, World.cell?_alloc_at _ _ _ _ rfl]; rfl
  obtain ⟨p0, at0, bb0, cc0⟩ := (hka.below (hb0.mono (Nat.le_of_lt hp.blt))) 0 (by simp)
  have c0 : W.cell? ⟨b, o, none⟩ = some (.int .i64 (p0 : Int)) := cc0
  have AT0 : Hid (At C.ts p0 a0) := at0
  have HP0 := hide (hp.below hb0)
  have HB0 := hide hb0
  have HN := hide hN
  obtain ⟨mm1, rr1⟩ := hm.two (b := [nm]) (c := [[61]] ++ (inP (prT a0))) rfl
  have M1 := hide mm1
  obtain ⟨mm2, rr2⟩ := rr1.two (b := [[61]]) (c := inP (prT a0)) rfl
  have M2 := hide mm2
  have M3 := hide rr2
  obtain ⟨X, hX⟩ : ∃ X, w.heap.size = X := ⟨_, rfl⟩
  go_enter Tryd.func46, Tryd.ntmps46
  go_upto_region 1 with (fail)
  clear hm hp hb0 hN hka mm1 rr1 mm2 rr2 at0 cc0
  clear hW
  rw [hX] at x0
  rw [hX] at x7
  rw [hX] at x1
  rw [hX] at hX1 hXg hXv
  clear hX
  have C1 := hide (put_lit HP0.out [nm] 1 rfl M1.out)
  go_wp2_with fail
  refine C1.out.mono ?_
  rintro e1 w1 ⟨rfl, v1, hp1, hk1⟩
  have HP1 := hide hp1
  have HK1 := hide (hk1)
  have c0_1 := ((HP0.out.low HK1.out).cell (p := ⟨b, o, none⟩) bb0).trans c0
  have x0_1 := (HK1.out.cell (p := ⟨X, 0, none⟩) hX1 hXg hXv).trans x0
  have x7_1 := (HK1.out.cell (p := ⟨X, 7, none⟩) hX1 hXg hXv).trans x7
  have x1_1 := (HK1.out.cell (p := ⟨X, 1, none⟩) hX1 hXg hXv).trans x1
  clear hp1 hk1
  have C2 := hide (put_lit HP1.out [[61]] 1 rfl M2.out)
  go_wp2_with fail
  refine C2.out.mono ?_
  rintro e2 w2 ⟨rfl, v2, hp2, hk2⟩
  have HP2 := hide hp2
  have HK2 := hide (HK1.out.trans hk2)
  have c0_2 := ((HP0.out.low HK2.out).cell (p := ⟨b, o, none⟩) bb0).trans c0
  have x0_2 := (HK2.out.cell (p := ⟨X, 0, none⟩) hX1 hXg hXv).trans x0
  have x7_2 := (HK2.out.cell (p := ⟨X, 7, none⟩) hX1 hXg hXv).trans x7
  have x1_2 := (HK2.out.cell (p := ⟨X, 1, none⟩) hX1 hXg hXv).trans x1
  clear hp2 hk2
  have C3 := hide (pin_any HN.out s0 AT0.out HP2.out M3.out)
  go_wp2_with fail
  refine C3.out.mono ?_
  rintro e3 w3 ⟨rfl, v3, hp3, hk3⟩
  have HP3 := hide hp3
  have HK3 := hide (HK2.out.trans hk3)
  have x0_3 := (HK3.out.cell (p := ⟨X, 0, none⟩) hX1 hXg hXv).trans x0
  have x7_3 := (HK3.out.cell (p := ⟨X, 7, none⟩) hX1 hXg hXv).trans x7
  have x1_3 := (HK3.out.cell (p := ⟨X, 1, none⟩) hX1 hXg hXv).trans x1
  clear hp3 hk3
  go_wp2_with fail
  refine bodyPost_ret (v := .tuple #[]) (by simp [results, Tryd.results46, go_sem]) rfl ?_
  refine PutQ.back HB0.out ⟨rfl, v3, ?_, HK3.out⟩
  have := HP3.out
  simp only [← putA_app, List.append_assoc] at this
  exact this
set_option maxHeartbeats 4000000 in
set_option maxRecDepth 100000 in
theorem st_12 {C : Cx} {m ck k0 : Nat} {Ak : Option Addr} {us : List UInt16} {v : Value} {w : World} (nm : List UInt8) (vs vm : Value) (nk nn : Int) (ng : Bool) (hN : NodeC C m) (hp : Pe C us v w) (hm : MayPut us ([[98, 114, 101, 97, 107]] ++ ((namedP nm) ++ ([[59]])))) :
    Calls Tryd.prog 46 #[.pointer (some ⟨C.g, 0, none⟩), .int .i64 (k0 : Int), .agg #[.int .i64 12, .string ⟨nm.toArray⟩, vs, .int .i64 nk, .int .i64 nn, .bool ng, vm, .slice Ak 0 ck]] w (PutQ C us v w ([[98, 114, 101, 97, 107]] ++ ((namedP nm) ++ ([[59]])))) := by
  obtain ⟨W, hW⟩ : ∃ W, w.alloc (.cells #[.int .i64 12, .string ⟨nm.toArray⟩, vs, .int .i64 nk, .int .i64 nn, .bool ng, vm, .slice Ak 0 ck] 42) = W := ⟨_, rfl⟩
  have hb0 : Below w.heap.size w W := by rw [← hW]; exact (Below.refl _ _).alloc (Nat.le_refl _) _
  have hX1 : w.heap.size < W.heap.size := by rw [← hW]; simp
  have hXg : w.heap.size ≠ C.g := fun e => by have := hp.pn.lt; omega
  have hXv : v.ownBlock ≠ some w.heap.size := fun e => by have := (hp.pn.own.lt _ e).2; omega
  have x0 : W.cell? ⟨w.heap.size, 0, none⟩ = some (.int .i64 12) := by rw [← hW, World.cell?_alloc_at _ _ _ _ rfl]; rfl
  have x7 : W.cell? ⟨w.heap.size, 7, none⟩ = some (.slice Ak 0 ck) := by rw [← hW, World.cell?_alloc_at _ _ _ _ rfl]; rfl
  have x1 : W.cell? ⟨w.heap.size, 1, none⟩ = some (.string ⟨nm.toArray⟩) := by rw [← hW, World.cell?_alloc_at _ _ _ _ rfl]; rfl
  have HP0 := hide (hp.below hb0)
  have HB0 := hide hb0
  have HN := hide hN
  obtain ⟨mm1, rr1⟩ := hm.two (b := [[98, 114, 101, 97, 107]]) (c := (namedP nm) ++ ([[59]])) rfl
  have M1 := hide mm1
  obtain ⟨mm2, rr2⟩ := rr1.two (b := namedP nm) (c := [[59]]) rfl
  have M2 := hide mm2
  have M3 := hide rr2
  obtain ⟨X, hX⟩ : ∃ X, w.heap.size = X := ⟨_, rfl⟩
  go_enter Tryd.func46, Tryd.ntmps46
  go_upto_region 1 with (fail)
  clear hm hp hb0 hN mm1 rr1 mm2 rr2
  clear hW
  rw [hX] at x0
  rw [hX] at x7
  rw [hX] at x1
  rw [hX] at hX1 hXg hXv
  clear hX
  have C1 := hide (put_lit HP0.out [[98, 114, 101, 97, 107]] 1 rfl M1.out)
  go_wp2_with fail
  refine C1.out.mono ?_
  rintro e1 w1 ⟨rfl, v1, hp1, hk1⟩
  have HP1 := hide hp1
  have HK1 := hide (hk1)
  have x0_1 := (HK1.out.cell (p := ⟨X, 0, none⟩) hX1 hXg hXv).trans x0
  have x7_1 := (HK1.out.cell (p := ⟨X, 7, none⟩) hX1 hXg hXv).trans x7
  have x1_1 := (HK1.out.cell (p := ⟨X, 1, none⟩) hX1 hXg hXv).trans x1
  clear hp1 hk1
  have C2 := hide (pnamed_any HP1.out M2.out)
  go_wp2_with fail
  refine C2.out.mono ?_
  rintro e2 w2 ⟨rfl, v2, hp2, hk2⟩
  have HP2 := hide hp2
  have HK2 := hide (HK1.out.trans hk2)
  have x0_2 := (HK2.out.cell (p := ⟨X, 0, none⟩) hX1 hXg hXv).trans x0
  have x7_2 := (HK2.out.cell (p := ⟨X, 7, none⟩) hX1 hXg hXv).trans x7
  have x1_2 := (HK2.out.cell (p := ⟨X, 1, none⟩) hX1 hXg hXv).trans x1
  clear hp2 hk2
  have C3 := hide (put_lit HP2.out [[59]] 1 rfl M3.out)
  go_wp2_with fail
  refine C3.out.mono ?_
  rintro e3 w3 ⟨rfl, v3, hp3, hk3⟩
  have HP3 := hide hp3
  have HK3 := hide (HK2.out.trans hk3)
  have x0_3 := (HK3.out.cell (p := ⟨X, 0, none⟩) hX1 hXg hXv).trans x0
  have x7_3 := (HK3.out.cell (p := ⟨X, 7, none⟩) hX1 hXg hXv).trans x7
  have x1_3 := (HK3.out.cell (p := ⟨X, 1, none⟩) hX1 hXg hXv).trans x1
  clear hp3 hk3
  go_wp2_with fail
  refine bodyPost_ret (v := .tuple #[]) (by simp [results, Tryd.results46, go_sem]) rfl ?_
  refine PutQ.back HB0.out ⟨rfl, v3, ?_, HK3.out⟩
  have := HP3.out
  simp only [← putA_app, List.append_assoc] at this
  exact this
set_option maxHeartbeats 4000000 in
set_option maxRecDepth 100000 in
theorem st_13 {C : Cx} {m ck k0 : Nat} {Ak : Option Addr} {us : List UInt16} {v : Value} {w : World} (nm : List UInt8) (vs vm : Value) (nk nn : Int) (ng : Bool) (hN : NodeC C m) (hp : Pe C us v w) (hm : MayPut us ([[99, 111, 110, 116, 105, 110, 117, 101]] ++ ((namedP nm) ++ ([[59]])))) :
    Calls Tryd.prog 46 #[.pointer (some ⟨C.g, 0, none⟩), .int .i64 (k0 : Int), .agg #[.int .i64 13, .string ⟨nm.toArray⟩, vs, .int .i64 nk, .int .i64 nn, .bool ng, vm, .slice Ak 0 ck]] w (PutQ C us v w ([[99, 111, 110, 116, 105, 110, 117, 101]] ++ ((namedP nm) ++ ([[59]])))) := by
  obtain ⟨W, hW⟩ : ∃ W, w.alloc (.cells #[.int .i64 13, .string ⟨nm.toArray⟩, vs, .int .i64 nk, .int .i64 nn, .bool ng, vm, .slice Ak 0 ck] 42) = W := ⟨_, rfl⟩
  have hb0 : Below w.heap.size w W := by rw [← hW]; exact (Below.refl _ _).alloc (Nat.le_refl _) _
  have hX1 : w.heap.size < W.heap.size := by rw [← hW]; simp
  have hXg : w.heap.size ≠ C.g := fun e => by have := hp.pn.lt; omega
  have hXv : v.ownBlock ≠ some w.heap.size := fun e => by have := (hp.pn.own.lt _ e).2; omega
  have x0 : W.cell? ⟨w.heap.size, 0, none⟩ = some (.int .i64 13) := by rw [← hW, World.cell?_alloc_at _ _ _ _ rfl]; rfl
  have x7 : W.cell? ⟨w.heap.size, 7, none⟩ = some (.slice Ak 0 ck) := by rw [← hW, World.cell?_alloc_at _ _ _ _ rfl]; rfl
  have x1 : W.cell? ⟨w.heap.size, 1, none⟩ = some (.string ⟨nm.toArray⟩) := by rw [← hW, World.cell?_alloc_at _ _ _ _ rfl]; rfl
  have HP0 := hide (hp.below hb0)
  have HB0 := hide hb0
  have HN := hide hN
  obtain ⟨mm1, rr1⟩ := hm.two (b := [[99, 111, 110, 116, 105, 110, 117, 101]]) (c := (namedP nm) ++ ([[59]])) rfl
  have M1 := hide mm1
  obtain ⟨mm2, rr2⟩ := rr1.two (b := namedP nm) (c := [[59]]) rfl
  have M2 := hide mm2
  have M3 := hide rr2
  obtain ⟨X, hX⟩ : ∃ X, w.heap.size = X := ⟨_, rfl⟩
  go_enter Tryd.func46, Tryd.ntmps46
  go_upto_region 1 with (fail)
  clear hm hp hb0 hN mm1 rr1 mm2 rr2
  clear hW
  rw [hX] at x0
  rw [hX] at x7
  rw [hX] at x1
  rw [hX] at hX1 hXg hXv
  clear hX
  have C1 := hide (put_lit HP0.out [[99, 111, 110, 116, 105, 110, 117, 101]] 1 rfl M1.out)
  go_wp2_with fail
  refine C1.out.mono ?_
  rintro e1 w1 ⟨rfl, v1, hp1, hk1⟩
  have HP1 := hide hp1
  have HK1 := hide (hk1)
  have x0_1 := (HK1.out.cell (p := ⟨X, 0, none⟩) hX1 hXg hXv).trans x0
  have x7_1 := (HK1.out.cell (p := ⟨X, 7, none⟩) hX1 hXg hXv).trans x7
  have x1_1 := (HK1.out.cell (p := ⟨X, 1, none⟩) hX1 hXg hXv).trans x1
  clear hp1 hk1
  have C2 := hide (pnamed_any HP1.out M2.out)
  go_wp2_with fail
  refine C2.out.mono ?_
  rintro e2 w2 ⟨rfl, v2, hp2, hk2⟩
  have HP2 := hide hp2
  have HK2 := hide (HK1.out.trans hk2)
  have x0_2 := (HK2.out.cell (p := ⟨X, 0, none⟩) hX1 hXg hXv).trans x0
  have x7_2 := (HK2.out.cell (p := ⟨X, 7, none⟩) hX1 hXg hXv).trans x7
  have x1_2 := (HK2.out.cell (p := ⟨X, 1, none⟩) hX1 hXg hXv).trans x1
  clear hp2 hk2
  have C3 := hide (put_lit HP2.out [[59]] 1 rfl M3.out)
  go_wp2_with fail
  refine C3.out.mono ?_
  rintro e3 w3 ⟨rfl, v3, hp3, hk3⟩
  have HP3 := hide hp3
  have HK3 := hide (HK2.out.trans hk3)
  have x0_3 := (HK3.out.cell (p := ⟨X, 0, none⟩) hX1 hXg hXv).trans x0
  have x7_3 := (HK3.out.cell (p := ⟨X, 7, none⟩) hX1 hXg hXv).trans x7
  have x1_3 := (HK3.out.cell (p := ⟨X, 1, none⟩) hX1 hXg hXv).trans x1
  clear hp3 hk3
  go_wp2_with fail
  refine bodyPost_ret (v := .tuple #[]) (by simp [results, Tryd.results46, go_sem]) rfl ?_
  refine PutQ.back HB0.out ⟨rfl, v3, ?_, HK3.out⟩
  have := HP3.out
  simp only [← putA_app, List.append_assoc] at this
  exact this
set_option maxHeartbeats 4000000 in
set_option maxRecDepth 100000 in
theorem st_14_no {C : Cx} {m ck k0 : Nat} {Ak : Option Addr} {us : List UInt16} {v : Value} {w : World} (nm : List UInt8) (vs vm : Value) (nk nn : Int) (ng : Bool) (hN : NodeC C m) (hp : Pe C us v w) (hm : MayPut us ([[114, 101, 116, 117, 114, 110]] ++ ([[59]]))) :
    Calls Tryd.prog 46 #[.pointer (some ⟨C.g, 0, none⟩), .int .i64 (k0 : Int), .agg #[.int .i64 14, .string ⟨nm.toArray⟩, vs, .int .i64 nk, .int .i64 nn, .bool ng, vm, .slice Ak 0 ck]] w (PutQ C us v w ([[114, 101, 116, 117, 114, 110]] ++ ([[59]]))) := by
  obtain ⟨W, hW⟩ : ∃ W, w.alloc (.cells #[.int .i64 14, .string ⟨nm.toArray⟩, vs, .int .i64 nk, .int .i64 nn, .bool ng, vm, .slice Ak 0 ck] 42) = W := ⟨_, rfl⟩
  have hb0 : Below w.heap.size w W := by rw [← hW]; exact (Below.refl _ _).alloc (Nat.le_refl _) _
  have hX1 : w.heap.size < W.heap.size := by rw [← hW]; simp
  have hXg : w.heap.size ≠ C.g := fun e => by have := hp.pn.lt; omega
  have hXv : v.ownBlock ≠ some w.heap.size := fun e => by have := (hp.pn.own.lt _ e).2; omega
  have x0 : W.cell? ⟨w.heap.size, 0, none⟩ = some (.int .i64 14) := by rw [← hW, World.cell?_alloc_at _ _ _ _ rfl]; rfl
  have x7 : W.cell? ⟨w.heap.size, 7, none⟩ = some (.slice Ak 0 ck) := by rw [← hW, World.cell?_alloc_at _ _ _ _ rfl]; rfl
  have HP0 := hide (hp.below hb0)
  have HB0 := hide hb0
  have HN := hide hN
  obtain ⟨mm1, rr1⟩ := hm.two (b := [[114, 101, 116, 117, 114, 110]]) (c := [[59]]) rfl
  have M1 := hide mm1
  have M2 := hide rr1
  obtain ⟨X, hX⟩ : ∃ X, w.heap.size = X := ⟨_, rfl⟩
  go_enter Tryd.func46, Tryd.ntmps46
  go_upto_region 1 with (fail)
  clear hm hp hb0 hN mm1 rr1
  clear hW
  rw [hX] at x0
  rw [hX] at x7
  rw [hX] at hX1 hXg hXv
  clear hX
  have C1 := hide (put_lit HP0.out [[114, 101, 116, 117, 114, 110]] 1 rfl M1.out)
  go_wp2_with fail
  refine C1.out.mono ?_
  rintro e1 w1 ⟨rfl, v1, hp1, hk1⟩
  have HP1 := hide hp1
  have HK1 := hide (hk1)
  have x0_1 := (HK1.out.cell (p := ⟨X, 0, none⟩) hX1 hXg hXv).trans x0
  have x7_1 := (HK1.out.cell (p := ⟨X, 7, none⟩) hX1 hXg hXv).trans x7
  clear hp1 hk1
  have C2 := hide (put_lit HP1.out [[59]] 1 rfl M2.out)
  go_wp2_with fail
  refine C2.out.mono ?_
  rintro e2 w2 ⟨rfl, v2, hp2, hk2⟩
  have HP2 := hide hp2
  have HK2 := hide (HK1.out.trans hk2)
  have x0_2 := (HK2.out.cell (p := ⟨X, 0, none⟩) hX1 hXg hXv).trans x0
  have x7_2 := (HK2.out.cell (p := ⟨X, 7, none⟩) hX1 hXg hXv).trans x7
  clear hp2 hk2
  go_wp2_with fail
  refine bodyPost_ret (v := .tuple #[]) (by simp [results, Tryd.results46, go_sem]) rfl ?_
  refine PutQ.back HB0.out ⟨rfl, v2, ?_, HK2.out⟩
  have := HP2.out
  simp only [← putA_app] at this
  exact this
set_option maxHeartbeats 4000000 in
set_option maxRecDepth 100000 in
theorem st_14_yes {C : Cx} {m ck k0 : Nat} {Ak : Option Addr} {us : List UInt16} {v : Value} {w : World} (nm : List UInt8) (vs vm : Value) (nk nn : Int) (ng : Bool) {a0 : Tr} (hN : NodeC C m) (s0 : a0.size ≤ m) (hk : KidsS C w Ak [a0]) (hp : Pe C us v w) (hm : MayPut us ([[114, 101, 116, 117, 114, 110]] ++ ((inP (prT a0)) ++ ([[59]])))) :
    Calls Tryd.prog 46 #[.pointer (some ⟨C.g, 0, none⟩), .int .i64 (k0 : Int), .agg #[.int .i64 14, .string ⟨nm.toArray⟩, vs, .int .i64 nk, .int .i64 nn, .bool ng, vm, .slice Ak 1 ck]] w (PutQ C us v w ([[114, 101, 116, 117, 114, 110]] ++ ((inP (prT a0)) ++ ([[59]])))) := by
  obtain ⟨b, o, rfl, hka⟩ := hk (by simp)
  obtain ⟨W, hW⟩ : ∃ W, w.alloc (.cells #[.int .i64 14, .string ⟨nm.toArray⟩, vs, .int .i64 nk, .int .i64 nn, .bool ng, vm, .slice (some ⟨b, o, none⟩) 1 ck] 42) = W := ⟨_, rfl⟩
  have hb0 : Below w.heap.size w W := by rw [← hW]; exact (Below.refl _ _).alloc (Nat.le_refl _) _
  have hX1 : w.heap.size < W.heap.size := by rw [← hW]; simp
  have hXg : w.heap.size ≠ C.g := fun e => by have := hp.pn.lt; omega
  have hXv : v.ownBlock ≠ some w.heap.size := fun e => by have := (hp.pn.own.lt _ e).2; omega
  have x0 : W.cell? ⟨w.heap.size, 0, none⟩ = some (.int .i64 14) := by rw [← hW, World.cell?_alloc_at _ _ _ _ rfl]; rfl
  have x7 : W.cell? ⟨w.heap.size, 7, none⟩ = some (.slice (some ⟨b, o, none⟩) 1 ck) := by rw [← hW, World.cell?_alloc_at _ _ _ _ rfl]; rfl
  obtain ⟨p0, at0, bb0, cc0⟩ := (hka.below (hb0.mono (Nat.le_of_lt hp.blt))) 0 (by simp)
  have c0 : W.cell? ⟨b, o, none⟩ = some (.int .i64 (p0 : Int)) := cc0
  have AT0 : Hid (At C.ts p0 a0) := at0
  have HP0 := hide (hp.below hb0)
  have HB0 := hide hb0
  have HN := hide hN
  obtain ⟨mm1, rr1⟩ := hm.two (b := [[114, 101, 116, 117, 114, 110]]) (c := (inP (prT a0)) ++ ([[59]])) rfl
  have M1 := hide mm1
  obtain ⟨mm2, rr2⟩ := rr1.two (b := inP (prT a0)) (c := [[59]]) rfl
  have M2 := hide mm2
  have M3 := hide rr2
  obtain ⟨X, hX⟩ : ∃ X, w.heap.size = X := ⟨_, rfl⟩
  go_enter Tryd.func46, Tryd.ntmps46
  go_upto_region 1 with (fail)
  clear hm hp hb0 hN hka mm1 rr1 mm2 rr2 at0 cc0
  clear hW
  rw [hX] at x0
  rw [hX] at x7
  rw [hX] at hX1 hXg hXv
  clear hX
  have C1 := hide (put_lit HP0.out [[114, 101, 116, 117, 114, 110]] 1 rfl M1.out)
  go_wp2_with fail
  refine C1.out.mono ?_
  rintro e1 w1 ⟨rfl, v1, hp1, hk1⟩
  have HP1 := hide hp1
  have HK1 := hide (hk1)
  have c0_1 := ((HP0.out.low HK1.out).cell (p := ⟨b, o, none⟩) bb0).trans c0
  have x0_1 := (HK1.out.cell (p := ⟨X, 0, none⟩) hX1 hXg hXv).trans x0
  have x7_1 := (HK1.out.cell (p := ⟨X, 7, none⟩) hX1 hXg hXv).trans x7
  clear hp1 hk1
  have C2 := hide (pin_any HN.out s0 AT0.out HP1.out M2.out)
  go_wp2_with fail
  refine C2.out.mono ?_
  rintro e2 w2 ⟨rfl, v2, hp2, hk2⟩
  have HP2 := hide hp2
  have HK2 := hide (HK1.out.trans hk2)
  have x0_2 := (HK2.out.cell (p := ⟨X, 0, none⟩) hX1 hXg hXv).trans x0
  have x7_2 := (HK2.out.cell (p := ⟨X, 7, none⟩) hX1 hXg hXv).trans x7
  clear hp2 hk2
  have C3 := hide (put_lit HP2.out [[59]] 1 rfl M3.out)
  go_wp2_with fail
  refine C3.out.mono ?_
  rintro e3 w3 ⟨rfl, v3, hp3, hk3⟩
  have HP3 := hide hp3
  have HK3 := hide (HK2.out.trans hk3)
  have x0_3 := (HK3.out.cell (p := ⟨X, 0, none⟩) hX1 hXg hXv).trans x0
  have x7_3 := (HK3.out.cell (p := ⟨X, 7, none⟩) hX1 hXg hXv).trans x7
  clear hp3 hk3
  go_wp2_with fail
  refine bodyPost_ret (v := .tuple #[]) (by simp [results, Tryd.results46, go_sem]) rfl ?_
  refine PutQ.back HB0.out ⟨rfl, v3, ?_, HK3.out⟩
  have := HP3.out
  simp only [← putA_app, List.append_assoc] at this
  exact this
set_option maxHeartbeats 4000000 in
set_option maxRecDepth 100000 in
theorem st_15 {C : Cx} {m ck k0 : Nat} {Ak : Option Addr} {us : List UInt16} {v : Value} {w : World} (nm : List UInt8) (vs vm : Value) (nk nn : Int) (ng : Bool) {a0 : Tr} (hN : NodeC C m) (s0 : a0.size ≤ m) (hk : KidsS C w Ak [a0]) (hp : Pe C us v w) (hm : MayPut us ([[116, 104, 114, 111, 119]] ++ ((inP (prT a0)) ++ ([[59]])))) :
    Calls Tryd.prog 46 #[.pointer (some ⟨C.g, 0, none⟩), .int .i64 (k0 : Int), .agg #[.int .i64 15, .string ⟨nm.toArray⟩, vs, .int .i64 nk, .int .i64 nn, .bool ng, vm, .slice Ak 1 ck]] w (PutQ C us v w ([[116, 104, 114, 111, 119]] ++ ((inP (prT a0)) ++ ([[59]])))) := by
  obtain ⟨b, o, rfl, hka⟩ := hk (by simp)
  obtain ⟨W, hW⟩ : ∃ W, w.alloc (.cells #[.int .i64 15, .string ⟨nm.toArray⟩, vs, .int .i64 nk, .int .i64 nn, .bool ng, vm, .slice (some ⟨b, o, none⟩) 1 ck] 42) = W := ⟨_, rfl⟩
  have hb0 : Below w.heap.size w W := by rw [← hW]; exact (Below.refl _ _).alloc (Nat.le_refl _) _
  have hX1 : w.heap.size < W.heap.size := by rw [← hW]; simp
  have hXg : w.heap.size ≠ C.g := fun e => by have := hp.pn.lt; omega
  have hXv : v.ownBlock ≠ some w.heap.size := fun e => by have := (hp.pn.own.lt _ e).2; omega
  have x0 : W.cell? ⟨w.heap.size, 0, none⟩ = some (.int .i64 15) := by rw [← hW, World.cell?_alloc_at _ _ _ _ rfl]; rfl
  have x7 : W.cell? ⟨w.heap.size, 7, none⟩ = some (.slice (some ⟨b, o, none⟩) 1 ck) := by rw [← hW, World.cell?_alloc_at _ _ _ _ rfl]; rfl
  obtain ⟨p0, at0, bb0, cc0⟩ := (hka.below (hb0.mono (Nat.le_of_lt hp.blt))) 0 (by simp)
  have c0 : W.cell? ⟨b, o, none⟩ = some (.int .i64 (p0 : Int)) := cc0
  have AT0 : Hid (At C.ts p0 a0) := at0
  have HP0 := hide (hp.below hb0)
  have HB0 := hide hb0
  have HN := hide hN
  obtain ⟨mm1, rr1⟩ := hm.two (b := [[116, 104, 114, 111, 119]]) (c := (inP (prT a0)) ++ ([[59]])) rfl
  have M1 := hide mm1
  obtain ⟨mm2, rr2⟩ := rr1.two (b := inP (prT a0)) (c := [[59]]) rfl
  have M2 := hide mm2
  have M3 := hide rr2
  obtain ⟨X, hX⟩ : ∃ X, w.heap.size = X := ⟨_, rfl⟩
  go_enter Tryd.func46, Tryd.ntmps46
  go_upto_region 1 with (fail)
  clear hm hp hb0 hN hka mm1 rr1 mm2 rr2 at0 cc0
  clear hW
  rw [hX] at x0
  rw [hX] at x7
  rw [hX] at hX1 hXg hXv
  clear hX
  have C1 := hide (put_lit HP0.out [[116, 104, 114, 111, 119]] 1 rfl M1.out)
  go_wp2_with fail
  refine C1.out.mono ?_
  rintro e1 w1 ⟨rfl, v1, hp1, hk1⟩
  have HP1 := hide hp1
  have HK1 := hide (hk1)
  have c0_1 := ((HP0.out.low HK1.out).cell (p := ⟨b, o, none⟩) bb0).trans c0
  have x0_1 := (HK1.out.cell (p := ⟨X, 0, none⟩) hX1 hXg hXv).trans x0
  have x7_1 := (HK1.out.cell (p := ⟨X, 7, none⟩) hX1 hXg hXv).trans x7
  clear hp1 hk1
  have C2 := hide (pin_any HN.out s0 AT0.out HP1.out M2.out)
  go_wp2_with fail
  refine C2.out.mono ?_
  rintro e2 w2 ⟨rfl, v2, hp2, hk2⟩
  have HP2 := hide hp2
  have HK2 := hide (HK1.out.trans hk2)
  have x0_2 := (HK2.out.cell (p := ⟨X, 0, none⟩) hX1 hXg hXv).trans x0
  have x7_2 := (HK2.out.cell (p := ⟨X, 7, none⟩) hX1 hXg hXv).trans x7
  clear hp2 hk2
  have C3 := hide (put_lit HP2.out [[59]] 1 rfl M3.out)
  go_wp2_with fail
  refine C3.out.mono ?_
  rintro e3 w3 ⟨rfl, v3, hp3, hk3⟩
  have HP3 := hide hp3
  have HK3 := hide (HK2.out.trans hk3)
  have x0_3 := (HK3.out.cell (p := ⟨X, 0, none⟩) hX1 hXg hXv).trans x0
  have x7_3 := (HK3.out.cell (p := ⟨X, 7, none⟩) hX1 hXg hXv).trans x7
  clear hp3 hk3
  go_wp2_with fail
  refine bodyPost_ret (v := .tuple #[]) (by simp [results, Tryd.results46, go_sem]) rfl ?_
  refine PutQ.back HB0.out ⟨rfl, v3, ?_, HK3.out⟩
  have := HP3.out
  simp only [← putA_app, List.append_assoc] at this
  exact this
set_option maxHeartbeats 4000000 in
set_option maxRecDepth 100000 in
theorem st_18 {C : Cx} {m ck k0 : Nat} {Ak : Option Addr} {us : List UInt16} {v : Value} {w : World} (nm : List UInt8) (vs vm : Value) (nk nn : Int) (ng : Bool) {a0 : Tr} (hN : NodeC C m) (s0 : a0.size ≤ m) (hk : KidsS C w Ak [a0]) (hp : Pe C us v w) (hm : MayPut us ([nm, [58]] ++ (prT a0))) :
    Calls Tryd.prog 46 #[.pointer (some ⟨C.g, 0, none⟩), .int .i64 (k0 : Int), .agg #[.int .i64 18, .string ⟨nm.toArray⟩, vs, .int .i64 nk, .int .i64 nn, .bool ng, vm, .slice Ak 1 ck]] w (PutQ C us v w ([nm, [58]] ++ (prT a0))) := by
  obtain ⟨b, o, rfl, hka⟩ := hk (by simp)
  obtain ⟨W, hW⟩ : ∃ W, w.alloc (.cells #[.int .i64 18, .string ⟨nm.toArray⟩, vs, .int .i64 nk, .int .i64 nn, .bool ng, vm, .slice (some ⟨b, o, none⟩) 1 ck] 42) = W := ⟨_, rfl⟩
  have hb0 : Below w.heap.size w W := by rw [← hW]; exact (Below.refl _ _).alloc (Nat.le_refl _) _
  have hX1 : w.heap.size < W.heap.size := by rw [← hW]; simp
  have hXg : w.heap.size ≠ C.g := fun e => by have := hp.pn.lt; omega
  have hXv : v.ownBlock ≠ some w.heap.size := fun e => by have := (hp.pn.own.lt _ e).2; omega
  have x0 : W.cell? ⟨w.heap.size, 0, none⟩ = some (.int .i64 18) := by rw [← hW, World.cell?_alloc_at _ _ _ _ rfl]; rfl
  have x7 : W.cell? ⟨w.heap.size, 7, none⟩ = some (.slice (some ⟨b, o, none⟩) 1 ck) := by rw [← hW, World.cell?_alloc_at _ _ _ _ rfl]; rfl
  have x1 : W.cell? ⟨w.heap.size, 1, none⟩ = some (.string ⟨nm.toArray⟩) := by rw [← hW, World.cell?_alloc_at _ _ _ _ rfl]; rfl
  obtain ⟨p0, at0, bb0, cc0⟩ := (hka.below (hb0.mono (Nat.le_of_lt hp.blt))) 0 (by simp)
  have c0 : W.cell? ⟨b, o, none⟩ = some (.int .i64 (p0 : Int)) := cc0
  have AT0 : Hid (At C.ts p0 a0) := at0
  have HP0 := hide (hp.below hb0)
  have HB0 := hide hb0
  have HN := hide hN
  obtain ⟨mm1, rr1⟩ := hm.two (b := [nm, [58]]) (c := prT a0) rfl
  have M1 := hide mm1
  have M2 := hide rr1
  obtain ⟨X, hX⟩ : ∃ X, w.heap.size = X := ⟨_, rfl⟩
  go_enter Tryd.func46, Tryd.ntmps46
  go_upto_region 1 with (fail)
  clear hm hp hb0 hN hka mm1 rr1 at0 cc0
  clear hW
  rw [hX] at x0
  rw [hX] at x7
  rw [hX] at x1
  rw [hX] at hX1 hXg hXv
  clear hX
  have C1 := hide (put_lit HP0.out [nm, [58]] 2 rfl M1.out)
  go_wp2_with fail
  refine C1.out.mono ?_
  rintro e1 w1 ⟨rfl, v1, hp1, hk1⟩
  have HP1 := hide hp1
  have HK1 := hide (hk1)
  have c0_1 := ((HP0.out.low HK1.out).cell (p := ⟨b, o, none⟩) bb0).trans c0
  have x0_1 := (HK1.out.cell (p := ⟨X, 0, none⟩) hX1 hXg hXv).trans x0
  have x7_1 := (HK1.out.cell (p := ⟨X, 7, none⟩) hX1 hXg hXv).trans x7
  have x1_1 := (HK1.out.cell (p := ⟨X, 1, none⟩) hX1 hXg hXv).trans x1
  clear hp1 hk1
  have C2 := hide (HN.out a0 p0 _ v1 w1 s0 AT0.out HP1.out M2.out)
  go_wp2_with fail
  refine C2.out.mono ?_
  rintro e2 w2 ⟨rfl, v2, hp2, hk2⟩
  have HP2 := hide hp2
  have HK2 := hide (HK1.out.trans hk2)
  have x0_2 := (HK2.out.cell (p := ⟨X, 0, none⟩) hX1 hXg hXv).trans x0
  have x7_2 := (HK2.out.cell (p := ⟨X, 7, none⟩) hX1 hXg hXv).trans x7
  have x1_2 := (HK2.out.cell (p := ⟨X, 1, none⟩) hX1 hXg hXv).trans x1
  clear hp2 hk2
  go_wp2_with fail
  refine bodyPost_ret (v := .tuple #[]) (by simp [results, Tryd.results46, go_sem]) rfl ?_
  refine PutQ.back HB0.out ⟨rfl, v2, ?_, HK2.out⟩
  have := HP2.out
  simp only [← putA_app] at this
  exact this
set_option maxHeartbeats 4000000 in
set_option maxRecDepth 100000 in
theorem st_20 {C : Cx} {m ck k0 : Nat} {Ak : Option Addr} {us : List UInt16} {v : Value} {w : World} (nm : List UInt8) (vs vm : Value) (nk nn : Int) (ng : Bool) (hN : NodeC C m) (hp : Pe C us v w) (hm : MayPut us ([nm])) :
    Calls Tryd.prog 46 #[.pointer (some ⟨C.g, 0, none⟩), .int .i64 (k0 : Int), .agg #[.int .i64 20, .string ⟨nm.toArray⟩, vs, .int .i64 nk, .int .i64 nn, .bool ng, vm, .slice Ak 0 ck]] w (PutQ C us v w ([nm])) := by
  obtain ⟨W, hW⟩ : ∃ W, w.alloc (.cells #[.int .i64 20, .string ⟨nm.toArray⟩, vs, .int .i64 nk, .int .i64 nn, .bool ng, vm, .slice Ak 0 ck] 42) = W := ⟨_, rfl⟩
  have hb0 : Below w.heap.size w W := by rw [← hW]; exact (Below.refl _ _).alloc (Nat.le_refl _) _
  have hX1 : w.heap.size < W.heap.size := by rw [← hW]; simp
  have hXg : w.heap.size ≠ C.g := fun e => by have := hp.pn.lt; omega
  have hXv : v.ownBlock ≠ some w.heap.size := fun e => by have := (hp.pn.own.lt _ e).2; omega
  have x0 : W.cell? ⟨w.heap.size, 0, none⟩ = some (.int .i64 20) := by rw [← hW, World.cell?_alloc_at _ _ _ _ rfl]; rfl
  have x7 : W.cell? ⟨w.heap.size, 7, none⟩ = some (.slice Ak 0 ck) := by rw [← hW, World.cell?_alloc_at _ _ _ _ rfl]; rfl
  have x1 : W.cell? ⟨w.heap.size, 1, none⟩ = some (.string ⟨nm.toArray⟩) := by rw [← hW, World.cell?_alloc_at _ _ _ _ rfl]; rfl
  have HP0 := hide (hp.below hb0)
  have HB0 := hide hb0
  have HN := hide hN
  have M1 := hide hm
  obtain ⟨X, hX⟩ : ∃ X, w.heap.size = X := ⟨_, rfl⟩
  go_enter Tryd.func46, Tryd.ntmps46
  go_upto_region 1 with (fail)
  clear hm hp hb0 hN
  clear hW
  rw [hX] at x0
  rw [hX] at x7
  rw [hX] at x1
  rw [hX] at hX1 hXg hXv
  clear hX
  have C1 := hide (put_lit HP0.out [nm] 1 rfl M1.out)
  go_wp2_with fail
  refine C1.out.mono ?_
  rintro e1 w1 ⟨rfl, v1, hp1, hk1⟩
  have HP1 := hide hp1
  have HK1 := hide (hk1)
  have x0_1 := (HK1.out.cell (p := ⟨X, 0, none⟩) hX1 hXg hXv).trans x0
  have x7_1 := (HK1.out.cell (p := ⟨X, 7, none⟩) hX1 hXg hXv).trans x7
  have x1_1 := (HK1.out.cell (p := ⟨X, 1, none⟩) hX1 hXg hXv).trans x1
  clear hp1 hk1
  go_wp2_with fail
  refine bodyPost_ret (v := .tuple #[]) (by simp [results, Tryd.results46, go_sem]) rfl ?_
  refine PutQ.back HB0.out ⟨rfl, v1, ?_, HK1.out⟩
  exact HP1.out
end Go.Proofs.YtelcjdblnagdgaaDoor

namespace Go.Proofs.YtelcjdblnagdgaaDoor
open Go.RowKit

set_option maxHeartbeats 4000000 in
set_option maxRecDepth 100000 in
theorem cp_8_two {C : Cx} {m ck : Nat} {Ak : Option Addr} {us : List UInt16} {v : Value} {w : World} (nm : List UInt8) (vs vm : Value) (nk nn : Int) (ng : Bool) {a0 a1 : Tr} (hN : NodeC C m) (s0 : a0.size ≤ m) (s1 : a1.size ≤ m) (hk : KidsS C w Ak [a0, a1]) (hp : Pe C us v w) (hm : MayPut us ([[105, 102]] ++ ((inP (prT a0)) ++ (prT a1)))) :
    Calls Tryd.prog 63 #[.pointer (some ⟨C.g, 0, none⟩), .agg #[.int .i64 8, .string ⟨nm.toArray⟩, vs, .int .i64 nk, .int .i64 nn, .bool ng, vm, .slice Ak 2 ck]] w (PutQ C us v w ([[105, 102]] ++ ((inP (prT a0)) ++ (prT a1)))) := by
  obtain ⟨b, o, rfl, hka⟩ := hk (by simp)
  obtain ⟨W, hW⟩ : ∃ W, w.alloc (.cells #[.int .i64 8, .string ⟨nm.toArray⟩, vs, .int .i64 nk, .int .i64 nn, .bool ng, vm, .slice (some ⟨b, o, none⟩) 2 ck] 42) = W := ⟨_, rfl⟩
  have hb0 : Below w.heap.size w W := by rw [← hW]; exact (Below.refl _ _).alloc (Nat.le_refl _) _
  have hX1 : w.heap.size < W.heap.size := by rw [← hW]; simp
  have hXg : w.heap.size ≠ C.g := fun e => by have := hp.pn.lt; omega
  have hXv : v.ownBlock ≠ some w.heap.size := fun e => by have := (hp.pn.own.lt _ e).2; omega
  have x0 : W.cell? ⟨w.heap.size, 0, none⟩ = some (.int .i64 8) := by rw [← hW, World.cell?_alloc_at _ _ _ _ rfl]; rfl
  have x7 : W.cell? ⟨w.heap.size, 7, none⟩ = some (.slice (some ⟨b, o, none⟩) 2 ck) := by rw [← hW, World.cell?_alloc_at _ _ _ _ rfl]; rfl
  obtain ⟨p0, at0, bb0, cc0⟩ := (hka.below (hb0.mono (Nat.le_of_lt hp.blt))) 0 (by simp)
  have c0 : W.cell? ⟨b, o, none⟩ = some (.int .i64 (p0 : Int)) := cc0
  have AT0 : Hid (At C.ts p0 a0) := at0
  obtain ⟨p1, at1, bb1, cc1⟩ := (hka.below (hb0.mono (Nat.le_of_lt hp.blt))) 1 (by simp)
  have c1 : W.cell? ⟨b, o + 1, none⟩ = some (.int .i64 (p1 : Int)) := cc1
  have AT1 : Hid (At C.ts p1 a1) := at1
  have HP0 := hide (hp.below hb0)
  have HB0 := hide hb0
  have HN := hide hN
  obtain ⟨mm1, rr1⟩ := hm.two (b := [[105, 102]]) (c := (inP (prT a0)) ++ (prT a1)) rfl
  have M1 := hide mm1
  obtain ⟨mm2, rr2⟩ := rr1.two (b := inP (prT a0)) (c := prT a1) rfl
  have M2 := hide mm2
  have M3 := hide rr2
  obtain ⟨X, hX⟩ : ∃ X, w.heap.size = X := ⟨_, rfl⟩
  go_enter Tryd.func63, Tryd.ntmps63
  go_upto_region 1 with (fail)
  clear hm hp hb0 hN hka mm1 rr1 mm2 rr2 at0 cc0 at1 cc1
  clear hW
  rw [hX] at x0
  rw [hX] at x7
  rw [hX] at hX1 hXg hXv
  clear hX
  have C1 := hide (put_lit HP0.out [[105, 102]] 1 rfl M1.out)
  go_wp2_with fail
  refine C1.out.mono ?_
  rintro e1 w1 ⟨rfl, v1, hp1, hk1⟩
  have HP1 := hide hp1
  have HK1 := hide (hk1)
  have c0_1 := ((HP0.out.low HK1.out).cell (p := ⟨b, o, none⟩) bb0).trans c0
  have c1_1 := ((HP0.out.low HK1.out).cell (p := ⟨b, o + 1, none⟩) bb1).trans c1
  have x0_1 := (HK1.out.cell (p := ⟨X, 0, none⟩) hX1 hXg hXv).trans x0
  have x7_1 := (HK1.out.cell (p := ⟨X, 7, none⟩) hX1 hXg hXv).trans x7
  clear hp1 hk1
  have C2 := hide (pin_any HN.out s0 AT0.out HP1.out M2.out)
  go_wp2_with fail
  refine C2.out.mono ?_
  rintro e2 w2 ⟨rfl, v2, hp2, hk2⟩
  have HP2 := hide hp2
  have HK2 := hide (HK1.out.trans hk2)
  have c1_2 := ((HP0.out.low HK2.out).cell (p := ⟨b, o + 1, none⟩) bb1).trans c1
  have x0_2 := (HK2.out.cell (p := ⟨X, 0, none⟩) hX1 hXg hXv).trans x0
  have x7_2 := (HK2.out.cell (p := ⟨X, 7, none⟩) hX1 hXg hXv).trans x7
  clear hp2 hk2
  have C3 := hide (HN.out a1 p1 _ v2 w2 s1 AT1.out HP2.out M3.out)
  go_wp2_with fail
  refine C3.out.mono ?_
  rintro e3 w3 ⟨rfl, v3, hp3, hk3⟩
  have HP3 := hide hp3
  have HK3 := hide (HK2.out.trans hk3)
  have x0_3 := (HK3.out.cell (p := ⟨X, 0, none⟩) hX1 hXg hXv).trans x0
  have x7_3 := (HK3.out.cell (p := ⟨X, 7, none⟩) hX1 hXg hXv).trans x7
  clear hp3 hk3
  go_wp2_with fail
  refine bodyPost_ret (v := .tuple #[]) (by simp [results, Tryd.results63, go_sem]) rfl ?_
  refine PutQ.back HB0.out ⟨rfl, v3, ?_, HK3.out⟩
  have := HP3.out
  simp only [← putA_app, List.append_assoc] at this
  exact this
set_option maxHeartbeats 4000000 in
set_option maxRecDepth 100000 in
theorem cp_8_three {C : Cx} {m ck : Nat} {Ak : Option Addr} {us : List UInt16} {v : Value} {w : World} (nm : List UInt8) (vs vm : Value) (nk nn : Int) (ng : Bool) {a0 a1 a2 : Tr} (hN : NodeC C m) (s0 : a0.size ≤ m) (s1 : a1.size ≤ m) (s2 : a2.size ≤ m) (hk : KidsS C w Ak [a0, a1, a2]) (hp : Pe C us v w) (hm : MayPut us ([[105, 102]] ++ ((inP (prT a0)) ++ ((prT a1) ++ ([[101, 108, 115, 101]] ++ (prT a2)))))) :
    Calls Tryd.prog 63 #[.pointer (some ⟨C.g, 0, none⟩), .agg #[.int .i64 8, .string ⟨nm.toArray⟩, vs, .int .i64 nk, .int .i64 nn, .bool ng, vm, .slice Ak 3 ck]] w (PutQ C us v w ([[105, 102]] ++ ((inP (prT a0)) ++ ((prT a1) ++ ([[101, 108, 115, 101]] ++ (prT a2)))))) := by
  obtain ⟨b, o, rfl, hka⟩ := hk (by simp)
  obtain ⟨W, hW⟩ : ∃ W, w.alloc (.cells #[.int .i64 8, .string ⟨nm.toArray⟩, vs, .int .i64 nk, .int .i64 nn, .bool ng, vm, .slice (some ⟨b, o, none⟩) 3 ck] 42) = W := ⟨_, rfl⟩
  have hb0 : Below w.heap.size w W := by rw [← hW]; exact (Below.refl _ _).alloc (Nat.le_refl _) _
  have hX1 : w.heap.size < W.heap.size := by rw [← hW]; simp
  have hXg : w.heap.size ≠ C.g := fun e => by have := hp.pn.lt; omega
  have hXv : v.ownBlock ≠ some w.heap.size := fun e => by have := (hp.pn.own.lt _ e).2; omega
  have x0 : W.cell? ⟨w.heap.size, 0, none⟩ = some (.int .i64 8) := by rw [← hW, World.cell?_alloc_at _ _ _ _ rfl]; rfl
  have x7 : W.cell? ⟨w.heap.size, 7, none⟩ = some (.slice (some ⟨b, o, none⟩) 3 ck) := by rw [← hW, World.cell?_alloc_at _ _ _ _ rfl]; rfl
  obtain ⟨p0, at0, bb0, cc0⟩ := (hka.below (hb0.mono (Nat.le_of_lt hp.blt))) 0 (by simp)
  have c0 : W.cell? ⟨b, o, none⟩ = some (.int .i64 (p0 : Int)) := cc0
  have AT0 : Hid (At C.ts p0 a0) := at0
  obtain ⟨p1, at1, bb1, cc1⟩ := (hka.below (hb0.mono (Nat.le_of_lt hp.blt))) 1 (by simp)
  have c1 : W.cell? ⟨b, o + 1, none⟩ = some (.int .i64 (p1 : Int)) := cc1
  have AT1 : Hid (At C.ts p1 a1) := at1
  obtain ⟨p2, at2, bb2, cc2⟩ := (hka.below (hb0.mono (Nat.le_of_lt hp.blt))) 2 (by simp)
  have c2 : W.cell? ⟨b, o + 2, none⟩ = some (.int .i64 (p2 : Int)) := cc2
  have AT2 : Hid (At C.ts p2 a2) := at2
  have HP0 := hide (hp.below hb0)
  have HB0 := hide hb0
  have HN := hide hN
  obtain ⟨mm1, rr1⟩ := hm.two (b := [[105, 102]]) (c := (inP (prT a0)) ++ ((prT a1) ++ ([[101, 108, 115, 101]] ++ (prT a2)))) rfl
  have M1 := hide mm1
  obtain ⟨mm2, rr2⟩ := rr1.two (b := inP (prT a0)) (c := (prT a1) ++ ([[101, 108, 115, 101]] ++ (prT a2))) rfl
  have M2 := hide mm2
  obtain ⟨mm3, rr3⟩ := rr2.two (b := prT a1) (c := [[101, 108, 115, 101]] ++ (prT a2)) rfl
  have M3 := hide mm3
  obtain ⟨mm4, rr4⟩ := rr3.two (b := [[101, 108, 115, 101]]) (c := prT a2) rfl
  have M4 := hide mm4
  have M5 := hide rr4
  obtain ⟨X, hX⟩ : ∃ X, w.heap.size = X := ⟨_, rfl⟩
  go_enter Tryd.func63, Tryd.ntmps63
  go_upto_region 1 with (fail)
  clear hm hp hb0 hN hka mm1 rr1 mm2 rr2 mm3 rr3 mm4 rr4 at0 cc0 at1 cc1 at2 cc2
  clear hW
  rw [hX] at x0
  rw [hX] at x7
  rw [hX] at hX1 hXg hXv
  clear hX
  have C1 := hide (put_lit HP0.out [[105, 102]] 1 rfl M1.out)
  go_wp2_with fail
  refine C1.out.mono ?_
  rintro e1 w1 ⟨rfl, v1, hp1, hk1⟩
  have HP1 := hide hp1
  have HK1 := hide (hk1)
  have c0_1 := ((HP0.out.low HK1.out).cell (p := ⟨b, o, none⟩) bb0).trans c0
  have c1_1 := ((HP0.out.low HK1.out).cell (p := ⟨b, o + 1, none⟩) bb1).trans c1
  have c2_1 := ((HP0.out.low HK1.out).cell (p := ⟨b, o + 2, none⟩) bb2).trans c2
  have x0_1 := (HK1.out.cell (p := ⟨X, 0, none⟩) hX1 hXg hXv).trans x0
  have x7_1 := (HK1.out.cell (p := ⟨X, 7, none⟩) hX1 hXg hXv).trans x7
  clear hp1 hk1
  have C2 := hide (pin_any HN.out s0 AT0.out HP1.out M2.out)
  go_wp2_with fail
  refine C2.out.mono ?_
  rintro e2 w2 ⟨rfl, v2, hp2, hk2⟩
  have HP2 := hide hp2
  have HK2 := hide (HK1.out.trans hk2)
  have c1_2 := ((HP0.out.low HK2.out).cell (p := ⟨b, o + 1, none⟩) bb1).trans c1
  have c2_2 := ((HP0.out.low HK2.out).cell (p := ⟨b, o + 2, none⟩) bb2).trans c2
  have x0_2 := (HK2.out.cell (p := ⟨X, 0, none⟩) hX1 hXg hXv).trans x0
  have x7_2 := (HK2.out.cell (p := ⟨X, 7, none⟩) hX1 hXg hXv).trans x7
  clear hp2 hk2
  have C3 := hide (HN.out a1 p1 _ v2 w2 s1 AT1.out HP2.out M3.out)
  go_wp2_with fail
  refine C3.out.mono ?_
  rintro e3 w3 ⟨rfl, v3, hp3, hk3⟩
  have HP3 := hide hp3
  have HK3 := hide (HK2.out.trans hk3)
  have c2_3 := ((HP0.out.low HK3.out).cell (p := ⟨b, o + 2, none⟩) bb2).trans c2
  have x0_3 := (HK3.out.cell (p := ⟨X, 0, none⟩) hX1 hXg hXv).trans x0
  have x7_3 := (HK3.out.cell (p := ⟨X, 7, none⟩) hX1 hXg hXv).trans x7
  clear hp3 hk3
  have C4 := hide (put_lit HP3.out [[101, 108, 115, 101]] 1 rfl M4.out)
  go_wp2_with fail
  refine C4.out.mono ?_
  rintro e4 w4 ⟨rfl, v4, hp4, hk4⟩
  have HP4 := hide hp4
  have HK4 := hide (HK3.out.trans hk4)
  have c2_4 := ((HP0.out.low HK4.out).cell (p := ⟨b, o + 2, none⟩) bb2).trans c2
  have x0_4 := (HK4.out.cell (p := ⟨X, 0, none⟩) hX1 hXg hXv).trans x0
  have x7_4 := (HK4.out.cell (p := ⟨X, 7, none⟩) hX1 hXg hXv).trans x7
  clear hp4 hk4
  have C5 := hide (HN.out a2 p2 _ v4 w4 s2 AT2.out HP4.out M5.out)
  go_wp2_with fail
  refine C5.out.mono ?_
  rintro e5 w5 ⟨rfl, v5, hp5, hk5⟩
  have HP5 := hide hp5
  have HK5 := hide (HK4.out.trans hk5)
  have x0_5 := (HK5.out.cell (p := ⟨X, 0, none⟩) hX1 hXg hXv).trans x0
  have x7_5 := (HK5.out.cell (p := ⟨X, 7, none⟩) hX1 hXg hXv).trans x7
  clear hp5 hk5
  go_wp2_with fail
  refine bodyPost_ret (v := .tuple #[]) (by simp [results, Tryd.results63, go_sem]) rfl ?_
  refine PutQ.back HB0.out ⟨rfl, v5, ?_, HK5.out⟩
  have := HP5.out
  simp only [← putA_app, List.append_assoc] at this
  exact this
set_option maxHeartbeats 4000000 in
set_option maxRecDepth 100000 in
theorem cp_9 {C : Cx} {m ck : Nat} {Ak : Option Addr} {us : List UInt16} {v : Value} {w : World} (nm : List UInt8) (vs vm : Value) (nk nn : Int) (ng : Bool) {a0 a1 : Tr} (hN : NodeC C m) (s0 : a0.size ≤ m) (s1 : a1.size ≤ m) (hk : KidsS C w Ak [a0, a1]) (hp : Pe C us v w) (hm : MayPut us ([[119, 104, 105, 108, 101]] ++ ((inP (prT a0)) ++ (prT a1)))) :
    Calls Tryd.prog 63 #[.pointer (some ⟨C.g, 0, none⟩), .agg #[.int .i64 9, .string ⟨nm.toArray⟩, vs, .int .i64 nk, .int .i64 nn, .bool ng, vm, .slice Ak 2 ck]] w (PutQ C us v w ([[119, 104, 105, 108, 101]] ++ ((inP (prT a0)) ++ (prT a1)))) := by
  obtain ⟨b, o, rfl, hka⟩ := hk (by simp)
  obtain ⟨W, hW⟩ : ∃ W, w.alloc (.cells #[.int .i64 9, .string ⟨nm.toArray⟩, vs, .int .i64 nk, .int .i64 nn, .bool ng, vm, .slice (some ⟨b, o, none⟩) 2 ck] 42) = W := ⟨_, rfl⟩
  have hb0 : Below w.heap.size w W := by rw [← hW]; exact (Below.refl _ _).alloc (Nat.le_refl _) _
  have hX1 : w.heap.size < W.heap.size := by rw [← hW]; simp
  have hXg : w.heap.size ≠ C.g := fun e => by have := hp.pn.lt; omega
  have hXv : v.ownBlock ≠ some w.heap.size := fun e => by have := (hp.pn.own.lt _ e).2; omega
  have x0 : W.cell? ⟨w.heap.size, 0, none⟩ = some (.int .i64 9) := by rw [← hW, World.cell?_alloc_at _ _ _ _ rfl]; rfl
  have x7 : W.cell? ⟨w.heap.size, 7, none⟩ = some (.slice (some ⟨b, o, none⟩) 2 ck) := by rw [← hW, World.cell?_alloc_at _ _ _ _ rfl]; rfl
  obtain ⟨p0, at0, bb0, cc0⟩ := (hka.below (hb0.mono (Nat.le_of_lt hp.blt))) 0 (by simp)
  have c0 : W.cell? ⟨b, o, none⟩ = some (.int .i64 (p0 : Int)) := cc0
  have AT0 : Hid (At C.ts p0 a0) := at0
  obtain ⟨p1, at1, bb1, cc1⟩ := (hka.below (hb0.mono (Nat.le_of_lt hp.blt))) 1 (by simp)
  have c1 : W.cell? ⟨b, o + 1, none⟩ = some (.int .i64 (p1 : Int)) := cc1
  have AT1 : Hid (At C.ts p1 a1) := at1
  have HP0 := hide (hp.below hb0)
  have HB0 := hide hb0
  have HN := hide hN
  obtain ⟨mm1, rr1⟩ := hm.two (b := [[119, 104, 105, 108, 101]]) (c := (inP (prT a0)) ++ (prT a1)) rfl
  have M1 := hide mm1
  obtain ⟨mm2, rr2⟩ := rr1.two (b := inP (prT a0)) (c := prT a1) rfl
  have M2 := hide mm2
  have M3 := hide rr2
  obtain ⟨X, hX⟩ : ∃ X, w.heap.size = X := ⟨_, rfl⟩
  go_enter Tryd.func63, Tryd.ntmps63
  go_upto_region 1 with (fail)
  clear hm hp hb0 hN hka mm1 rr1 mm2 rr2 at0 cc0 at1 cc1
  clear hW
  rw [hX] at x0
  rw [hX] at x7
  rw [hX] at hX1 hXg hXv
  clear hX
  have C1 := hide (put_lit HP0.out [[119, 104, 105, 108, 101]] 1 rfl M1.out)
  go_wp2_with fail
  refine C1.out.mono ?_
  rintro e1 w1 ⟨rfl, v1, hp1, hk1⟩
  have HP1 := hide hp1
  have HK1 := hide (hk1)
  have c0_1 := ((HP0.out.low HK1.out).cell (p := ⟨b, o, none⟩) bb0).trans c0
  have c1_1 := ((HP0.out.low HK1.out).cell (p := ⟨b, o + 1, none⟩) bb1).trans c1
  have x0_1 := (HK1.out.cell (p := ⟨X, 0, none⟩) hX1 hXg hXv).trans x0
  have x7_1 := (HK1.out.cell (p := ⟨X, 7, none⟩) hX1 hXg hXv).trans x7
  clear hp1 hk1
  have C2 := hide (pin_any HN.out s0 AT0.out HP1.out M2.out)
  go_wp2_with fail
  refine C2.out.mono ?_
  rintro e2 w2 ⟨rfl, v2, hp2, hk2⟩
  have HP2 := hide hp2
  have HK2 := hide (HK1.out.trans hk2)
  have c1_2 := ((HP0.out.low HK2.out).cell (p := ⟨b, o + 1, none⟩) bb1).trans c1
  have x0_2 := (HK2.out.cell (p := ⟨X, 0, none⟩) hX1 hXg hXv).trans x0
  have x7_2 := (HK2.out.cell (p := ⟨X, 7, none⟩) hX1 hXg hXv).trans x7
  clear hp2 hk2
  have C3 := hide (HN.out a1 p1 _ v2 w2 s1 AT1.out HP2.out M3.out)
  go_wp2_with fail
  refine C3.out.mono ?_
  rintro e3 w3 ⟨rfl, v3, hp3, hk3⟩
  have HP3 := hide hp3
  have HK3 := hide (HK2.out.trans hk3)
  have x0_3 := (HK3.out.cell (p := ⟨X, 0, none⟩) hX1 hXg hXv).trans x0
  have x7_3 := (HK3.out.cell (p := ⟨X, 7, none⟩) hX1 hXg hXv).trans x7
  clear hp3 hk3
  go_wp2_with fail
  refine bodyPost_ret (v := .tuple #[]) (by simp [results, Tryd.results63, go_sem]) rfl ?_
  refine PutQ.back HB0.out ⟨rfl, v3, ?_, HK3.out⟩
  have := HP3.out
  simp only [← putA_app, List.append_assoc] at this
  exact this
set_option maxHeartbeats 4000000 in
set_option maxRecDepth 100000 in
theorem cp_10 {C : Cx} {m ck : Nat} {Ak : Option Addr} {us : List UInt16} {v : Value} {w : World} (nm : List UInt8) (vs vm : Value) (nk nn : Int) (ng : Bool) {a0 a1 a2 a3 : Tr} (hN : NodeC C m) (s0 : a0.size ≤ m) (s1 : a1.size ≤ m) (s2 : a2.size ≤ m) (s3 : a3.size ≤ m) (hk : KidsS C w Ak [a0, a1, a2, a3]) (hp : Pe C us v w) (hm6 : m ≤ 1000000) (hm : MayPut us ([[102, 111, 114], [40]] ++ ((clauseP (a0.nd.kind, prT a0)) ++ ([[59]] ++ ((clauseP (a1.nd.kind, prT a1)) ++ ([[59]] ++ ((clauseP (a2.nd.kind, prT a2)) ++ ([[41]] ++ (prT a3))))))))) :
    Calls Tryd.prog 63 #[.pointer (some ⟨C.g, 0, none⟩), .agg #[.int .i64 10, .string ⟨nm.toArray⟩, vs, .int .i64 nk, .int .i64 nn, .bool ng, vm, .slice Ak 4 ck]] w (PutQ C us v w ([[102, 111, 114], [40]] ++ ((clauseP (a0.nd.kind, prT a0)) ++ ([[59]] ++ ((clauseP (a1.nd.kind, prT a1)) ++ ([[59]] ++ ((clauseP (a2.nd.kind, prT a2)) ++ ([[41]] ++ (prT a3))))))))) := by
  obtain ⟨b, o, rfl, hka⟩ := hk (by simp)
  obtain ⟨W, hW⟩ : ∃ W, w.alloc (.cells #[.int .i64 10, .string ⟨nm.toArray⟩, vs, .int .i64 nk, .int .i64 nn, .bool ng, vm, .slice (some ⟨b, o, none⟩) 4 ck] 42) = W := ⟨_, rfl⟩
  have hb0 : Below w.heap.size w W := by rw [← hW]; exact (Below.refl _ _).alloc (Nat.le_refl _) _
  have hX1 : w.heap.size < W.heap.size := by rw [← hW]; simp
  have hXg : w.heap.size ≠ C.g := fun e => by have := hp.pn.lt; omega
  have hXv : v.ownBlock ≠ some w.heap.size := fun e => by have := (hp.pn.own.lt _ e).2; omega
  have x0 : W.cell? ⟨w.heap.size, 0, none⟩ = some (.int .i64 10) := by rw [← hW, World.cell?_alloc_at _ _ _ _ rfl]; rfl
  have x7 : W.cell? ⟨w.heap.size, 7, none⟩ = some (.slice (some ⟨b, o, none⟩) 4 ck) := by rw [← hW, World.cell?_alloc_at _ _ _ _ rfl]; rfl
  obtain ⟨p0, at0, bb0, cc0⟩ := (hka.below (hb0.mono (Nat.le_of_lt hp.blt))) 0 (by simp)
  have c0 : W.cell? ⟨b, o, none⟩ = some (.int .i64 (p0 : Int)) := cc0
  have AT0 : Hid (At C.ts p0 a0) := at0
  obtain ⟨p1, at1, bb1, cc1⟩ := (hka.below (hb0.mono (Nat.le_of_lt hp.blt))) 1 (by simp)
  have c1 : W.cell? ⟨b, o + 1, none⟩ = some (.int .i64 (p1 : Int)) := cc1
  have AT1 : Hid (At C.ts p1 a1) := at1
  obtain ⟨p2, at2, bb2, cc2⟩ := (hka.below (hb0.mono (Nat.le_of_lt hp.blt))) 2 (by simp)
  have c2 : W.cell? ⟨b, o + 2, none⟩ = some (.int .i64 (p2 : Int)) := cc2
  have AT2 : Hid (At C.ts p2 a2) := at2
  obtain ⟨p3, at3, bb3, cc3⟩ := (hka.below (hb0.mono (Nat.le_of_lt hp.blt))) 3 (by simp)
  have c3 : W.cell? ⟨b, o + 3, none⟩ = some (.int .i64 (p3 : Int)) := cc3
  have AT3 : Hid (At C.ts p3 a3) := at3
  have HP0 := hide (hp.below hb0)
  have HB0 := hide hb0
  have HN := hide hN
  obtain ⟨mm1, rr1⟩ := hm.two (b := [[102, 111, 114], [40]]) (c := (clauseP (a0.nd.kind, prT a0)) ++ ([[59]] ++ ((clauseP (a1.nd.kind, prT a1)) ++ ([[59]] ++ ((clauseP (a2.nd.kind, prT a2)) ++ ([[41]] ++ (prT a3))))))) rfl
  have M1 := hide mm1
  obtain ⟨mm2, rr2⟩ := rr1.two (b := clauseP (a0.nd.kind, prT a0)) (c := [[59]] ++ ((clauseP (a1.nd.kind, prT a1)) ++ ([[59]] ++ ((clauseP (a2.nd.kind, prT a2)) ++ ([[41]] ++ (prT a3)))))) rfl
  have M2 := hide mm2
  obtain ⟨mm3, rr3⟩ := rr2.two (b := [[59]]) (c := (clauseP (a1.nd.kind, prT a1)) ++ ([[59]] ++ ((clauseP (a2.nd.kind, prT a2)) ++ ([[41]] ++ (prT a3))))) rfl
  have M3 := hide mm3
  obtain ⟨mm4, rr4⟩ := rr3.two (b := clauseP (a1.nd.kind, prT a1)) (c := [[59]] ++ ((clauseP (a2.nd.kind, prT a2)) ++ ([[41]] ++ (prT a3)))) rfl
  have M4 := hide mm4
  obtain ⟨mm5, rr5⟩ := rr4.two (b := [[59]]) (c := (clauseP (a2.nd.kind, prT a2)) ++ ([[41]] ++ (prT a3))) rfl
  have M5 := hide mm5
  obtain ⟨mm6, rr6⟩ := rr5.two (b := clauseP (a2.nd.kind, prT a2)) (c := [[41]] ++ (prT a3)) rfl
  have M6 := hide mm6
  obtain ⟨mm7, rr7⟩ := rr6.two (b := [[41]]) (c := prT a3) rfl
  have M7 := hide mm7
  have M8 := hide rr7
  obtain ⟨X, hX⟩ : ∃ X, w.heap.size = X := ⟨_, rfl⟩
  go_enter Tryd.func63, Tryd.ntmps63
  go_upto_region 1 with (fail)
  clear hm hp hb0 hN hka mm1 rr1 mm2 rr2 mm3 rr3 mm4 rr4 mm5 rr5 mm6 rr6 mm7 rr7 at0 cc0 at1 cc1 at2 cc2 at3 cc3
  clear hW
  rw [hX] at x0
  rw [hX] at x7
  rw [hX] at hX1 hXg hXv
  clear hX
  have C1 := hide (put_lit HP0.out [[102, 111, 114], [40]] 2 rfl M1.out)
  go_wp2_with fail
  refine C1.out.mono ?_
  rintro e1 w1 ⟨rfl, v1, hp1, hk1⟩
  have HP1 := hide hp1
  have HK1 := hide (hk1)
  have c0_1 := ((HP0.out.low HK1.out).cell (p := ⟨b, o, none⟩) bb0).trans c0
  have c1_1 := ((HP0.out.low HK1.out).cell (p := ⟨b, o + 1, none⟩) bb1).trans c1
  have c2_1 := ((HP0.out.low HK1.out).cell (p := ⟨b, o + 2, none⟩) bb2).trans c2
  have c3_1 := ((HP0.out.low HK1.out).cell (p := ⟨b, o + 3, none⟩) bb3).trans c3
  have x0_1 := (HK1.out.cell (p := ⟨X, 0, none⟩) hX1 hXg hXv).trans x0
  have x7_1 := (HK1.out.cell (p := ⟨X, 7, none⟩) hX1 hXg hXv).trans x7
  clear hp1 hk1
  have C2 := hide (pclause_any HN.out s0 hm6 AT0.out HP1.out M2.out)
  go_wp2_with fail
  refine C2.out.mono ?_
  rintro e2 w2 ⟨rfl, v2, hp2, hk2⟩
  have HP2 := hide hp2
  have HK2 := hide (HK1.out.trans hk2)
  have c1_2 := ((HP0.out.low HK2.out).cell (p := ⟨b, o + 1, none⟩) bb1).trans c1
  have c2_2 := ((HP0.out.low HK2.out).cell (p := ⟨b, o + 2, none⟩) bb2).trans c2
  have c3_2 := ((HP0.out.low HK2.out).cell (p := ⟨b, o + 3, none⟩) bb3).trans c3
  have x0_2 := (HK2.out.cell (p := ⟨X, 0, none⟩) hX1 hXg hXv).trans x0
  have x7_2 := (HK2.out.cell (p := ⟨X, 7, none⟩) hX1 hXg hXv).trans x7
  clear hp2 hk2
  have C3 := hide (put_lit HP2.out [[59]] 1 rfl M3.out)
  go_wp2_with fail
  refine C3.out.mono ?_
  rintro e3 w3 ⟨rfl, v3, hp3, hk3⟩
  have HP3 := hide hp3
  have HK3 := hide (HK2.out.trans hk3)
  have c1_3 := ((HP0.out.low HK3.out).cell (p := ⟨b, o + 1, none⟩) bb1).trans c1
  have c2_3 := ((HP0.out.low HK3.out).cell (p := ⟨b, o + 2, none⟩) bb2).trans c2
  have c3_3 := ((HP0.out.low HK3.out).cell (p := ⟨b, o + 3, none⟩) bb3).trans c3
  have x0_3 := (HK3.out.cell (p := ⟨X, 0, none⟩) hX1 hXg hXv).trans x0
  have x7_3 := (HK3.out.cell (p := ⟨X, 7, none⟩) hX1 hXg hXv).trans x7
  clear hp3 hk3
  have C4 := hide (pclause_any HN.out s1 hm6 AT1.out HP3.out M4.out)
  go_wp2_with fail
  refine C4.out.mono ?_
  rintro e4 w4 ⟨rfl, v4, hp4, hk4⟩
  have HP4 := hide hp4
  have HK4 := hide (HK3.out.trans hk4)
  have c2_4 := ((HP0.out.low HK4.out).cell (p := ⟨b, o + 2, none⟩) bb2).trans c2
  have c3_4 := ((HP0.out.low HK4.out).cell (p := ⟨b, o + 3, none⟩) bb3).trans c3
  have x0_4 := (HK4.out.cell (p := ⟨X, 0, none⟩) hX1 hXg hXv).trans x0
  have x7_4 := (HK4.out.cell (p := ⟨X, 7, none⟩) hX1 hXg hXv).trans x7
  clear hp4 hk4
  have C5 := hide (put_lit HP4.out [[59]] 1 rfl M5.out)
  go_wp2_with fail
  refine C5.out.mono ?_
  rintro e5 w5 ⟨rfl, v5, hp5, hk5⟩
  have HP5 := hide hp5
  have HK5 := hide (HK4.out.trans hk5)
  have c2_5 := ((HP0.out.low HK5.out).cell (p := ⟨b, o + 2, none⟩) bb2).trans c2
  have c3_5 := ((HP0.out.low HK5.out).cell (p := ⟨b, o + 3, none⟩) bb3).trans c3
  have x0_5 := (HK5.out.cell (p := ⟨X, 0, none⟩) hX1 hXg hXv).trans x0
  have x7_5 := (HK5.out.cell (p := ⟨X, 7, none⟩) hX1 hXg hXv).trans x7
  clear hp5 hk5
  have C6 := hide (pclause_any HN.out s2 hm6 AT2.out HP5.out M6.out)
  go_wp2_with fail
  refine C6.out.mono ?_
  rintro e6 w6 ⟨rfl, v6, hp6, hk6⟩
  have HP6 := hide hp6
  have HK6 := hide (HK5.out.trans hk6)
  have c3_6 := ((HP0.out.low HK6.out).cell (p := ⟨b, o + 3, none⟩) bb3).trans c3
  have x0_6 := (HK6.out.cell (p := ⟨X, 0, none⟩) hX1 hXg hXv).trans x0
  have x7_6 := (HK6.out.cell (p := ⟨X, 7, none⟩) hX1 hXg hXv).trans x7
  clear hp6 hk6
  have C7 := hide (put_lit HP6.out [[41]] 1 rfl M7.out)
  go_wp2_with fail
  refine C7.out.mono ?_
  rintro e7 w7 ⟨rfl, v7, hp7, hk7⟩
  have HP7 := hide hp7
  have HK7 := hide (HK6.out.trans hk7)
  have c3_7 := ((HP0.out.low HK7.out).cell (p := ⟨b, o + 3, none⟩) bb3).trans c3
  have x0_7 := (HK7.out.cell (p := ⟨X, 0, none⟩) hX1 hXg hXv).trans x0
  have x7_7 := (HK7.out.cell (p := ⟨X, 7, none⟩) hX1 hXg hXv).trans x7
  clear hp7 hk7
  have C8 := hide (HN.out a3 p3 _ v7 w7 s3 AT3.out HP7.out M8.out)
  go_wp2_with fail
  refine C8.out.mono ?_
  rintro e8 w8 ⟨rfl, v8, hp8, hk8⟩
  have HP8 := hide hp8
  have HK8 := hide (HK7.out.trans hk8)
  have x0_8 := (HK8.out.cell (p := ⟨X, 0, none⟩) hX1 hXg hXv).trans x0
  have x7_8 := (HK8.out.cell (p := ⟨X, 7, none⟩) hX1 hXg hXv).trans x7
  clear hp8 hk8
  go_wp2_with fail
  refine bodyPost_ret (v := .tuple #[]) (by simp [results, Tryd.results63, go_sem]) rfl ?_
  refine PutQ.back HB0.out ⟨rfl, v8, ?_, HK8.out⟩
  have := HP8.out
  simp only [← putA_app, List.append_assoc] at this
  exact this
set_option maxHeartbeats 4000000 in
set_option maxRecDepth 100000 in
theorem cp_16_yes {C : Cx} {m ck : Nat} {Ak : Option Addr} {us : List UInt16} {v : Value} {w : World} (nm : List UInt8) (vs vm : Value) (nk nn : Int) (ng : Bool) {a0 a1 a2 : Tr} (hN : NodeC C m) (s0 : a0.size ≤ m) (s1 : a1.size ≤ m) (s2 : a2.size ≤ m) (hk : KidsS C w Ak [a0, a1, a2]) (hp : Pe C us v w) (hK : a2.nd.kind = 4) (hm : MayPut us ([[116, 114, 121]] ++ ((prT a0) ++ ((prT a1) ++ ([[102, 105, 110, 97, 108, 108, 121]] ++ (prT a2)))))) :
    Calls Tryd.prog 63 #[.pointer (some ⟨C.g, 0, none⟩), .agg #[.int .i64 16, .string ⟨nm.toArray⟩, vs, .int .i64 nk, .int .i64 nn, .bool ng, vm, .slice Ak 3 ck]] w (PutQ C us v w ([[116, 114, 121]] ++ ((prT a0) ++ ((prT a1) ++ ([[102, 105, 110, 97, 108, 108, 121]] ++ (prT a2)))))) := by
  obtain ⟨b, o, rfl, hka⟩ := hk (by simp)
  obtain ⟨W, hW⟩ : ∃ W, w.alloc (.cells #[.int .i64 16, .string ⟨nm.toArray⟩, vs, .int .i64 nk, .int .i64 nn, .bool ng, vm, .slice (some ⟨b, o, none⟩) 3 ck] 42) = W := ⟨_, rfl⟩
  have hb0 : Below w.heap.size w W := by rw [← hW]; exact (Below.refl _ _).alloc (Nat.le_refl _) _
  have hX1 : w.heap.size < W.heap.size := by rw [← hW]; simp
  have hXg : w.heap.size ≠ C.g := fun e => by have := hp.pn.lt; omega
  have hXv : v.ownBlock ≠ some w.heap.size := fun e => by have := (hp.pn.own.lt _ e).2; omega
  have x0 : W.cell? ⟨w.heap.size, 0, none⟩ = some (.int .i64 16) := by rw [← hW, World.cell?_alloc_at _ _ _ _ rfl]; rfl
  have x7 : W.cell? ⟨w.heap.size, 7, none⟩ = some (.slice (some ⟨b, o, none⟩) 3 ck) := by rw [← hW, World.cell?_alloc_at _ _ _ _ rfl]; rfl
  obtain ⟨p0, at0, bb0, cc0⟩ := (hka.below (hb0.mono (Nat.le_of_lt hp.blt))) 0 (by simp)
  have c0 : W.cell? ⟨b, o, none⟩ = some (.int .i64 (p0 : Int)) := cc0
  have AT0 : Hid (At C.ts p0 a0) := at0
  obtain ⟨p1, at1, bb1, cc1⟩ := (hka.below (hb0.mono (Nat.le_of_lt hp.blt))) 1 (by simp)
  have c1 : W.cell? ⟨b, o + 1, none⟩ = some (.int .i64 (p1 : Int)) := cc1
  have AT1 : Hid (At C.ts p1 a1) := at1
  obtain ⟨p2, at2, bb2, cc2⟩ := (hka.below (hb0.mono (Nat.le_of_lt hp.blt))) 2 (by simp)
  have c2 : W.cell? ⟨b, o + 2, none⟩ = some (.int .i64 (p2 : Int)) := cc2
  have AT2 : Hid (At C.ts p2 a2) := at2
  have HP0 := hide (hp.below hb0)
  have HB0 := hide hb0
  have HN := hide hN
  obtain ⟨mm1, rr1⟩ := hm.two (b := [[116, 114, 121]]) (c := (prT a0) ++ ((prT a1) ++ ([[102, 105, 110, 97, 108, 108, 121]] ++ (prT a2)))) rfl
  have M1 := hide mm1
  obtain ⟨mm2, rr2⟩ := rr1.two (b := prT a0) (c := (prT a1) ++ ([[102, 105, 110, 97, 108, 108, 121]] ++ (prT a2))) rfl
  have M2 := hide mm2
  obtain ⟨mm3, rr3⟩ := rr2.two (b := prT a1) (c := [[102, 105, 110, 97, 108, 108, 121]] ++ (prT a2)) rfl
  have M3 := hide mm3
  obtain ⟨mm4, rr4⟩ := rr3.two (b := [[102, 105, 110, 97, 108, 108, 121]]) (c := prT a2) rfl
  have M4 := hide mm4
  have M5 := hide rr4
  have HKK := hide hK
  clear hK
  obtain ⟨X, hX⟩ : ∃ X, w.heap.size = X := ⟨_, rfl⟩
  go_enter Tryd.func63, Tryd.ntmps63
  go_upto_region 1 with (fail)
  clear hm hp hb0 hN hka mm1 rr1 mm2 rr2 mm3 rr3 mm4 rr4 at0 cc0 at1 cc1 at2 cc2
  clear hW
  rw [hX] at x0
  rw [hX] at x7
  rw [hX] at hX1 hXg hXv
  clear hX
  have C1 := hide (put_lit HP0.out [[116, 114, 121]] 1 rfl M1.out)
  go_wp2_with fail
  refine C1.out.mono ?_
  rintro e1 w1 ⟨rfl, v1, hp1, hk1⟩
  have HP1 := hide hp1
  have HK1 := hide (hk1)
  have c0_1 := ((HP0.out.low HK1.out).cell (p := ⟨b, o, none⟩) bb0).trans c0
  have c1_1 := ((HP0.out.low HK1.out).cell (p := ⟨b, o + 1, none⟩) bb1).trans c1
  have c2_1 := ((HP0.out.low HK1.out).cell (p := ⟨b, o + 2, none⟩) bb2).trans c2
  have x0_1 := (HK1.out.cell (p := ⟨X, 0, none⟩) hX1 hXg hXv).trans x0
  have x7_1 := (HK1.out.cell (p := ⟨X, 7, none⟩) hX1 hXg hXv).trans x7
  clear hp1 hk1
  have C2 := hide (HN.out a0 p0 _ v1 w1 s0 AT0.out HP1.out M2.out)
  go_wp2_with fail
  refine C2.out.mono ?_
  rintro e2 w2 ⟨rfl, v2, hp2, hk2⟩
  have HP2 := hide hp2
  have HK2 := hide (HK1.out.trans hk2)
  have c1_2 := ((HP0.out.low HK2.out).cell (p := ⟨b, o + 1, none⟩) bb1).trans c1
  have c2_2 := ((HP0.out.low HK2.out).cell (p := ⟨b, o + 2, none⟩) bb2).trans c2
  have x0_2 := (HK2.out.cell (p := ⟨X, 0, none⟩) hX1 hXg hXv).trans x0
  have x7_2 := (HK2.out.cell (p := ⟨X, 7, none⟩) hX1 hXg hXv).trans x7
  clear hp2 hk2
  have C3 := hide (HN.out a1 p1 _ v2 w2 s1 AT1.out HP2.out M3.out)
  go_wp2_with fail
  refine C3.out.mono ?_
  rintro e3 w3 ⟨rfl, v3, hp3, hk3⟩
  have HP3 := hide hp3
  have HK3 := hide (HK2.out.trans hk3)
  have c2_3 := ((HP0.out.low HK3.out).cell (p := ⟨b, o + 2, none⟩) bb2).trans c2
  have x0_3 := (HK3.out.cell (p := ⟨X, 0, none⟩) hX1 hXg hXv).trans x0
  have x7_3 := (HK3.out.cell (p := ⟨X, 7, none⟩) hX1 hXg hXv).trans x7
  clear hp3 hk3
  have CK2 := hide (show Calls Tryd.prog 78 #[.pointer (some ⟨C.g, 0, none⟩), .int .i64 (p2 : Int)] w3 fun e w' => e = .returned (.int .i64 4) ∧ w3 = w' from by have := pkind_any HP3.out AT2.out.get; rw [laid_kind, HKK.out] at this; exact this)
  go_wp2_with fail
  refine CK2.out.mono ?_
  rintro ek wk ⟨rfl, rfl⟩
  have C4 := hide (put_lit HP3.out [[102, 105, 110, 97, 108, 108, 121]] 1 rfl M4.out)
  go_wp2_with fail
  refine C4.out.mono ?_
  rintro e4 w4 ⟨rfl, v4, hp4, hk4⟩
  have HP4 := hide hp4
  have HK4 := hide (HK3.out.trans hk4)
  have c2_4 := ((HP0.out.low HK4.out).cell (p := ⟨b, o + 2, none⟩) bb2).trans c2
  have x0_4 := (HK4.out.cell (p := ⟨X, 0, none⟩) hX1 hXg hXv).trans x0
  have x7_4 := (HK4.out.cell (p := ⟨X, 7, none⟩) hX1 hXg hXv).trans x7
  clear hp4 hk4
  have C5 := hide (HN.out a2 p2 _ v4 w4 s2 AT2.out HP4.out M5.out)
  go_wp2_with fail
  refine C5.out.mono ?_
  rintro e5 w5 ⟨rfl, v5, hp5, hk5⟩
  have HP5 := hide hp5
  have HK5 := hide (HK4.out.trans hk5)
  have x0_5 := (HK5.out.cell (p := ⟨X, 0, none⟩) hX1 hXg hXv).trans x0
  have x7_5 := (HK5.out.cell (p := ⟨X, 7, none⟩) hX1 hXg hXv).trans x7
  clear hp5 hk5
  go_wp2_with fail
  refine bodyPost_ret (v := .tuple #[]) (by simp [results, Tryd.results63, go_sem]) rfl ?_
  refine PutQ.back HB0.out ⟨rfl, v5, ?_, HK5.out⟩
  have := HP5.out
  simp only [← putA_app, List.append_assoc] at this
  exact this
set_option maxHeartbeats 4000000 in
set_option maxRecDepth 100000 in
theorem cp_16_no {C : Cx} {m ck : Nat} {Ak : Option Addr} {us : List UInt16} {v : Value} {w : World} (nm : List UInt8) (vs vm : Value) (nk nn : Int) (ng : Bool) {a0 a1 a2 : Tr} (hN : NodeC C m) (s0 : a0.size ≤ m) (s1 : a1.size ≤ m) (_s2 : a2.size ≤ m) (hk : KidsS C w Ak [a0, a1, a2]) (hp : Pe C us v w) {K2 : Int} (hK : a2.nd.kind = K2) (hK4 : K2 ≠ 4) (hm : MayPut us ([[116, 114, 121]] ++ ((prT a0) ++ (prT a1)))) :
    Calls Tryd.prog 63 #[.pointer (some ⟨C.g, 0, none⟩), .agg #[.int .i64 16, .string ⟨nm.toArray⟩, vs, .int .i64 nk, .int .i64 nn, .bool ng, vm, .slice Ak 3 ck]] w (PutQ C us v w ([[116, 114, 121]] ++ ((prT a0) ++ (prT a1)))) := by
  obtain ⟨b, o, rfl, hka⟩ := hk (by simp)
  obtain ⟨W, hW⟩ : ∃ W, w.alloc (.cells #[.int .i64 16, .string ⟨nm.toArray⟩, vs, .int .i64 nk, .int .i64 nn, .bool ng, vm, .slice (some ⟨b, o, none⟩) 3 ck] 42) = W := ⟨_, rfl⟩
  have hb0 : Below w.heap.size w W := by rw [← hW]; exact (Below.refl _ _).alloc (Nat.le_refl _) _
  have hX1 : w.heap.size < W.heap.size := by rw [← hW]; simp
  have hXg : w.heap.size ≠ C.g := fun e => by have := hp.pn.lt; omega
  have hXv : v.ownBlock ≠ some w.heap.size := fun e => by have := (hp.pn.own.lt _ e).2; omega
  have x0 : W.cell? ⟨w.heap.size, 0, none⟩ = some (.int .i64 16) := by rw [← hW, World.cell?_alloc_at _ _ _ _ rfl]; rfl
  have x7 : W.cell? ⟨w.heap.size, 7, none⟩ = some (.slice (some ⟨b, o, none⟩) 3 ck) := by rw [← hW, World.cell?_alloc_at _ _ _ _ rfl]; rfl
  obtain ⟨p0, at0, bb0, cc0⟩ := (hka.below (hb0.mono (Nat.le_of_lt hp.blt))) 0 (by simp)
  have c0 : W.cell? ⟨b, o, none⟩ = some (.int .i64 (p0 : Int)) := cc0
  have AT0 : Hid (At C.ts p0 a0) := at0
  obtain ⟨p1, at1, bb1, cc1⟩ := (hka.below (hb0.mono (Nat.le_of_lt hp.blt))) 1 (by simp)
  have c1 : W.cell? ⟨b, o + 1, none⟩ = some (.int .i64 (p1 : Int)) := cc1
  have AT1 : Hid (At C.ts p1 a1) := at1
  obtain ⟨p2, at2, bb2, cc2⟩ := (hka.below (hb0.mono (Nat.le_of_lt hp.blt))) 2 (by simp)
  have c2 : W.cell? ⟨b, o + 2, none⟩ = some (.int .i64 (p2 : Int)) := cc2
  have AT2 : Hid (At C.ts p2 a2) := at2
  have HP0 := hide (hp.below hb0)
  have HB0 := hide hb0
  have HN := hide hN
  obtain ⟨mm1, rr1⟩ := hm.two (b := [[116, 114, 121]]) (c := (prT a0) ++ (prT a1)) rfl
  have M1 := hide mm1
  obtain ⟨mm2, rr2⟩ := rr1.two (b := prT a0) (c := prT a1) rfl
  have M2 := hide mm2
  have M3 := hide rr2
  have HKK := hide hK
  have e4 : (K2 == 4) = false := beq_eq_false_iff_ne.2 hK4
  clear hK hK4
  obtain ⟨X, hX⟩ : ∃ X, w.heap.size = X := ⟨_, rfl⟩
  go_enter Tryd.func63, Tryd.ntmps63
  go_upto_region 1 with (fail)
  clear hm hp hb0 hN hka mm1 rr1 mm2 rr2 at0 cc0 at1 cc1 at2 cc2
  clear hW
  rw [hX] at x0
  rw [hX] at x7
  rw [hX] at hX1 hXg hXv
  clear hX
  have C1 := hide (put_lit HP0.out [[116, 114, 121]] 1 rfl M1.out)
  go_wp2_with fail
  refine C1.out.mono ?_
  rintro e1 w1 ⟨rfl, v1, hp1, hk1⟩
  have HP1 := hide hp1
  have HK1 := hide (hk1)
  have c0_1 := ((HP0.out.low HK1.out).cell (p := ⟨b, o, none⟩) bb0).trans c0
  have c1_1 := ((HP0.out.low HK1.out).cell (p := ⟨b, o + 1, none⟩) bb1).trans c1
  have c2_1 := ((HP0.out.low HK1.out).cell (p := ⟨b, o + 2, none⟩) bb2).trans c2
  have x0_1 := (HK1.out.cell (p := ⟨X, 0, none⟩) hX1 hXg hXv).trans x0
  have x7_1 := (HK1.out.cell (p := ⟨X, 7, none⟩) hX1 hXg hXv).trans x7
  clear hp1 hk1
  have C2 := hide (HN.out a0 p0 _ v1 w1 s0 AT0.out HP1.out M2.out)
  go_wp2_with fail
  refine C2.out.mono ?_
  rintro e2 w2 ⟨rfl, v2, hp2, hk2⟩
  have HP2 := hide hp2
  have HK2 := hide (HK1.out.trans hk2)
  have c1_2 := ((HP0.out.low HK2.out).cell (p := ⟨b, o + 1, none⟩) bb1).trans c1
  have c2_2 := ((HP0.out.low HK2.out).cell (p := ⟨b, o + 2, none⟩) bb2).trans c2
  have x0_2 := (HK2.out.cell (p := ⟨X, 0, none⟩) hX1 hXg hXv).trans x0
  have x7_2 := (HK2.out.cell (p := ⟨X, 7, none⟩) hX1 hXg hXv).trans x7
  clear hp2 hk2
  have C3 := hide (HN.out a1 p1 _ v2 w2 s1 AT1.out HP2.out M3.out)
  go_wp2_with fail
  refine C3.out.mono ?_
  rintro e3 w3 ⟨rfl, v3, hp3, hk3⟩
  have HP3 := hide hp3
  have HK3 := hide (HK2.out.trans hk3)
  have c2_3 := ((HP0.out.low HK3.out).cell (p := ⟨b, o + 2, none⟩) bb2).trans c2
  have x0_3 := (HK3.out.cell (p := ⟨X, 0, none⟩) hX1 hXg hXv).trans x0
  have x7_3 := (HK3.out.cell (p := ⟨X, 7, none⟩) hX1 hXg hXv).trans x7
  clear hp3 hk3
  have CK2 := hide (show Calls Tryd.prog 78 #[.pointer (some ⟨C.g, 0, none⟩), .int .i64 (p2 : Int)] w3 fun e w' => e = .returned (.int .i64 K2) ∧ w3 = w' from by have := pkind_any HP3.out AT2.out.get; rw [laid_kind, HKK.out] at this; exact this)
  go_wp2_with fail
  refine CK2.out.mono ?_
  rintro ek wk ⟨rfl, rfl⟩
  go_wp2_with fail
  refine bodyPost_ret (v := .tuple #[]) (by simp [results, Tryd.results63, go_sem]) rfl ?_
  refine PutQ.back HB0.out ⟨rfl, v3, ?_, HK3.out⟩
  have := HP3.out
  simp only [← putA_app, List.append_assoc] at this
  exact this
set_option maxHeartbeats 4000000 in
set_option maxRecDepth 100000 in
theorem cp_17_no {C : Cx} {m ck : Nat} {Ak : Option Addr} {us : List UInt16} {v : Value} {w : World} (vs vm : Value) (nk nn : Int) (ng : Bool) {a0 : Tr} (hN : NodeC C m) (s0 : a0.size ≤ m) (hk : KidsS C w Ak [a0]) (hp : Pe C us v w) (hm : MayPut us ([[99, 97, 116, 99, 104]] ++ (prT a0))) :
    Calls Tryd.prog 63 #[.pointer (some ⟨C.g, 0, none⟩), .agg #[.int .i64 17, .string ⟨#[]⟩, vs, .int .i64 nk, .int .i64 nn, .bool ng, vm, .slice Ak 1 ck]] w (PutQ C us v w ([[99, 97, 116, 99, 104]] ++ (prT a0))) := by
  obtain ⟨b, o, rfl, hka⟩ := hk (by simp)
  obtain ⟨W, hW⟩ : ∃ W, w.alloc (.cells #[.int .i64 17, .string ⟨#[]⟩, vs, .int .i64 nk, .int .i64 nn, .bool ng, vm, .slice (some ⟨b, o, none⟩) 1 ck] 42) = W := ⟨_, rfl⟩
  have hb0 : Below w.heap.size w W := by rw [← hW]; exact (Below.refl _ _).alloc (Nat.le_refl _) _
  have hX1 : w.heap.size < W.heap.size := by rw [← hW]; simp
  have hXg : w.heap.size ≠ C.g := fun e => by have := hp.pn.lt; omega
  have hXv : v.ownBlock ≠ some w.heap.size := fun e => by have := (hp.pn.own.lt _ e).2; omega
  have x0 : W.cell? ⟨w.heap.size, 0, none⟩ = some (.int .i64 17) := by rw [← hW, World.cell?_alloc_at _ _ _ _ rfl]; rfl
  have x7 : W.cell? ⟨w.heap.size, 7, none⟩ = some (.slice (some ⟨b, o, none⟩) 1 ck) := by rw [← hW, World.cell?_alloc_at _ _ _ _ rfl]; rfl
  have x1 : W.cell? ⟨w.heap.size, 1, none⟩ = some (.string ⟨#[]⟩) := by rw [← hW, World.cell?_alloc_at _ _ _ _ rfl]; rfl
  obtain ⟨p0, at0, bb0, cc0⟩ := (hka.below (hb0.mono (Nat.le_of_lt hp.blt))) 0 (by simp)
  have c0 : W.cell? ⟨b, o, none⟩ = some (.int .i64 (p0 : Int)) := cc0
  have AT0 : Hid (At C.ts p0 a0) := at0
  have HP0 := hide (hp.below hb0)
  have HB0 := hide hb0
  have HN := hide hN
  obtain ⟨mm1, rr1⟩ := hm.two (b := [[99, 97, 116, 99, 104]]) (c := prT a0) rfl
  have M1 := hide mm1
  have M2 := hide rr1
  obtain ⟨X, hX⟩ : ∃ X, w.heap.size = X := ⟨_, rfl⟩
  go_enter Tryd.func63, Tryd.ntmps63
  go_upto_region 1 with (fail)
  clear hm hp hb0 hN hka mm1 rr1 at0 cc0
  clear hW
  rw [hX] at x0
  rw [hX] at x7
  rw [hX] at x1
  rw [hX] at hX1 hXg hXv
  clear hX
  have C1 := hide (put_lit HP0.out [[99, 97, 116, 99, 104]] 1 rfl M1.out)
  go_wp2_with fail
  refine C1.out.mono ?_
  rintro e1 w1 ⟨rfl, v1, hp1, hk1⟩
  have HP1 := hide hp1
  have HK1 := hide (hk1)
  have c0_1 := ((HP0.out.low HK1.out).cell (p := ⟨b, o, none⟩) bb0).trans c0
  have x0_1 := (HK1.out.cell (p := ⟨X, 0, none⟩) hX1 hXg hXv).trans x0
  have x7_1 := (HK1.out.cell (p := ⟨X, 7, none⟩) hX1 hXg hXv).trans x7
  have x1_1 := (HK1.out.cell (p := ⟨X, 1, none⟩) hX1 hXg hXv).trans x1
  clear hp1 hk1
  have C2 := hide (HN.out a0 p0 _ v1 w1 s0 AT0.out HP1.out M2.out)
  go_wp2_with fail
  refine C2.out.mono ?_
  rintro e2 w2 ⟨rfl, v2, hp2, hk2⟩
  have HP2 := hide hp2
  have HK2 := hide (HK1.out.trans hk2)
  have x0_2 := (HK2.out.cell (p := ⟨X, 0, none⟩) hX1 hXg hXv).trans x0
  have x7_2 := (HK2.out.cell (p := ⟨X, 7, none⟩) hX1 hXg hXv).trans x7
  have x1_2 := (HK2.out.cell (p := ⟨X, 1, none⟩) hX1 hXg hXv).trans x1
  clear hp2 hk2
  go_wp2_with fail
  refine bodyPost_ret (v := .tuple #[]) (by simp [results, Tryd.results63, go_sem]) rfl ?_
  refine PutQ.back HB0.out ⟨rfl, v2, ?_, HK2.out⟩
  have := HP2.out
  simp only [← putA_app] at this
  exact this
end Go.Proofs.YtelcjdblnagdgaaDoor
