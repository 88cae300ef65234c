/- Joined for a claim: TPr7, StrS, TQuo, BigSpec. -/
import Derived.Test.YtelcjdblnagdgaaDoorM10
import Derived.Deep.CutBlock
import Derived.Deep.DeepCutAuto
import Derived.Test.YtelcjdblnagdgaaDoorM03
import Derived.Test.YtelcjdblnagdgaaDoorM01
import Derived.Laws.BitsAllLaws
import Derived.Test.YtelcjdblnagdgaaDoorM02
import Derived.Deep.RegionLaw
import Derived.Deep.LoopGhost
namespace Go.Proofs.YtelcjdblnagdgaaDoor
open Go.RowKit

set_option maxHeartbeats 4000000 in
set_option maxRecDepth 100000 in
theorem dl_st_8 {C : Cx} {k0 : Nat} {us : List UInt16} {v : Value} {w : World} {tks : Tks} (nb : ByteArray) (vs vm vk : Value) (nk nn : Int) (ng : Bool) (hC : ∀ W, Below w.heap.size w W → Calls Tryd.prog 63 #[.pointer (some ⟨C.g, 0, none⟩), .agg #[.int .i64 8, .string nb, vs, .int .i64 nk, .int .i64 nn, .bool ng, vm, vk]] W (PutQ C us v W tks)) :
    Calls Tryd.prog 46 #[.pointer (some ⟨C.g, 0, none⟩), .int .i64 (k0 : Int), .agg #[.int .i64 8, .string nb, vs, .int .i64 nk, .int .i64 nn, .bool ng, vm, vk]] w (PutQ C us v w tks) := by
  have HC := hide hC
  clear hC
  go_enter Tryd.func46, Tryd.ntmps46
  go_wp2_with fail
  refine (HC.out _ ((Below.refl _ _).alloc (Nat.le_refl _) _)).mono ?_
  rintro e1 w1 ⟨rfl, v1, hp1, hk1⟩
  have HP1 := hide hp1
  have HK1 := hide hk1
  clear hp1 hk1
  go_wp2_with fail
  refine bodyPost_ret (v := .tuple #[]) (by simp [results, Tryd.results46, go_sem]) rfl ?_
  exact PutQ.back ((Below.refl _ _).alloc (Nat.le_refl _) _) ⟨rfl, v1, HP1.out, HK1.out⟩
set_option maxHeartbeats 4000000 in
set_option maxRecDepth 100000 in
theorem dl_st_9 {C : Cx} {k0 : Nat} {us : List UInt16} {v : Value} {w : World} {tks : Tks} (nb : ByteArray) (vs vm vk : Value) (nk nn : Int) (ng : Bool) (hC : ∀ W, Below w.heap.size w W → Calls Tryd.prog 63 #[.pointer (some ⟨C.g, 0, none⟩), .agg #[.int .i64 9, .string nb, vs, .int .i64 nk, .int .i64 nn, .bool ng, vm, vk]] W (PutQ C us v W tks)) :
    Calls Tryd.prog 46 #[.pointer (some ⟨C.g, 0, none⟩), .int .i64 (k0 : Int), .agg #[.int .i64 9, .string nb, vs, .int .i64 nk, .int .i64 nn, .bool ng, vm, vk]] w (PutQ C us v w tks) := by
  have HC := hide hC
  clear hC
  go_enter Tryd.func46, Tryd.ntmps46
  go_wp2_with fail
  refine (HC.out _ ((Below.refl _ _).alloc (Nat.le_refl _) _)).mono ?_
  rintro e1 w1 ⟨rfl, v1, hp1, hk1⟩
  have HP1 := hide hp1
  have HK1 := hide hk1
  clear hp1 hk1
  go_wp2_with fail
  refine bodyPost_ret (v := .tuple #[]) (by simp [results, Tryd.results46, go_sem]) rfl ?_
  exact PutQ.back ((Below.refl _ _).alloc (Nat.le_refl _) _) ⟨rfl, v1, HP1.out, HK1.out⟩
set_option maxHeartbeats 4000000 in
set_option maxRecDepth 100000 in
theorem dl_st_10 {C : Cx} {k0 : Nat} {us : List UInt16} {v : Value} {w : World} {tks : Tks} (nb : ByteArray) (vs vm vk : Value) (nk nn : Int) (ng : Bool) (hC : ∀ W, Below w.heap.size w W → Calls Tryd.prog 63 #[.pointer (some ⟨C.g, 0, none⟩), .agg #[.int .i64 10, .string nb, vs, .int .i64 nk, .int .i64 nn, .bool ng, vm, vk]] W (PutQ C us v W tks)) :
    Calls Tryd.prog 46 #[.pointer (some ⟨C.g, 0, none⟩), .int .i64 (k0 : Int), .agg #[.int .i64 10, .string nb, vs, .int .i64 nk, .int .i64 nn, .bool ng, vm, vk]] w (PutQ C us v w tks) := by
  have HC := hide hC
  clear hC
  go_enter Tryd.func46, Tryd.ntmps46
  go_wp2_with fail
  refine (HC.out _ ((Below.refl _ _).alloc (Nat.le_refl _) _)).mono ?_
  rintro e1 w1 ⟨rfl, v1, hp1, hk1⟩
  have HP1 := hide hp1
  have HK1 := hide hk1
  clear hp1 hk1
  go_wp2_with fail
  refine bodyPost_ret (v := .tuple #[]) (by simp [results, Tryd.results46, go_sem]) rfl ?_
  exact PutQ.back ((Below.refl _ _).alloc (Nat.le_refl _) _) ⟨rfl, v1, HP1.out, HK1.out⟩
set_option maxHeartbeats 4000000 in
set_option maxRecDepth 100000 in
theorem dl_st_16 {C : Cx} {k0 : Nat} {us : List UInt16} {v : Value} {w : World} {tks : Tks} (nb : ByteArray) (vs vm vk : Value) (nk nn : Int) (ng : Bool) (hC : ∀ W, Below w.heap.size w W → Calls Tryd.prog 63 #[.pointer (some ⟨C.g, 0, none⟩), .agg #[.int .i64 16, .string nb, vs, .int .i64 nk, .int .i64 nn, .bool ng, vm, vk]] W (PutQ C us v W tks)) :
    Calls Tryd.prog 46 #[.pointer (some ⟨C.g, 0, none⟩), .int .i64 (k0 : Int), .agg #[.int .i64 16, .string nb, vs, .int .i64 nk, .int .i64 nn, .bool ng, vm, vk]] w (PutQ C us v w tks) := by
  have HC := hide hC
  clear hC
  go_enter Tryd.func46, Tryd.ntmps46
  go_wp2_with fail
  refine (HC.out _ ((Below.refl _ _).alloc (Nat.le_refl _) _)).mono ?_
  rintro e1 w1 ⟨rfl, v1, hp1, hk1⟩
  have HP1 := hide hp1
  have HK1 := hide hk1
  clear hp1 hk1
  go_wp2_with fail
  refine bodyPost_ret (v := .tuple #[]) (by simp [results, Tryd.results46, go_sem]) rfl ?_
  exact PutQ.back ((Below.refl _ _).alloc (Nat.le_refl _) _) ⟨rfl, v1, HP1.out, HK1.out⟩
set_option maxHeartbeats 4000000 in
set_option maxRecDepth 100000 in
theorem dl_st_17 {C : Cx} {k0 : Nat} {us : List UInt16} {v : Value} {w : World} {tks : Tks} (nb : ByteArray) (vs vm vk : Value) (nk nn : Int) (ng : Bool) (hC : ∀ W, Below w.heap.size w W → Calls Tryd.prog 63 #[.pointer (some ⟨C.g, 0, none⟩), .agg #[.int .i64 17, .string nb, vs, .int .i64 nk, .int .i64 nn, .bool ng, vm, vk]] W (PutQ C us v W tks)) :
    Calls Tryd.prog 46 #[.pointer (some ⟨C.g, 0, none⟩), .int .i64 (k0 : Int), .agg #[.int .i64 17, .string nb, vs, .int .i64 nk, .int .i64 nn, .bool ng, vm, vk]] w (PutQ C us v w tks) := by
  have HC := hide hC
  clear hC
  go_enter Tryd.func46, Tryd.ntmps46
  go_wp2_with fail
  refine (HC.out _ ((Below.refl _ _).alloc (Nat.le_refl _) _)).mono ?_
  rintro e1 w1 ⟨rfl, v1, hp1, hk1⟩
  have HP1 := hide hp1
  have HK1 := hide hk1
  clear hp1 hk1
  go_wp2_with fail
  refine bodyPost_ret (v := .tuple #[]) (by simp [results, Tryd.results46, go_sem]) rfl ?_
  exact PutQ.back ((Below.refl _ _).alloc (Nat.le_refl _) _) ⟨rfl, v1, HP1.out, HK1.out⟩
set_option maxHeartbeats 4000000 in
set_option maxRecDepth 100000 in
theorem dl_st_19 {C : Cx} {k0 : Nat} {us : List UInt16} {v : Value} {w : World} {tks : Tks} (nb : ByteArray) (vs vm vk : Value) (nk nn : Int) (ng : Bool) (hC : ∀ W, Below w.heap.size w W → Calls Tryd.prog 63 #[.pointer (some ⟨C.g, 0, none⟩), .agg #[.int .i64 19, .string nb, vs, .int .i64 nk, .int .i64 nn, .bool ng, vm, vk]] W (PutQ C us v W tks)) :
    Calls Tryd.prog 46 #[.pointer (some ⟨C.g, 0, none⟩), .int .i64 (k0 : Int), .agg #[.int .i64 19, .string nb, vs, .int .i64 nk, .int .i64 nn, .bool ng, vm, vk]] w (PutQ C us v w tks) := by
  have HC := hide hC
  clear hC
  go_enter Tryd.func46, Tryd.ntmps46
  go_wp2_with fail
  refine (HC.out _ ((Below.refl _ _).alloc (Nat.le_refl _) _)).mono ?_
  rintro e1 w1 ⟨rfl, v1, hp1, hk1⟩
  have HP1 := hide hp1
  have HK1 := hide hk1
  clear hp1 hk1
  go_wp2_with fail
  refine bodyPost_ret (v := .tuple #[]) (by simp [results, Tryd.results46, go_sem]) rfl ?_
  exact PutQ.back ((Below.refl _ _).alloc (Nat.le_refl _) _) ⟨rfl, v1, HP1.out, HK1.out⟩
set_option maxHeartbeats 4000000 in
set_option maxRecDepth 100000 in
theorem dl_cp_19 {C : Cx} {us : List UInt16} {v : Value} {w : World} {tks : Tks} (nb : ByteArray) (vs vm vk : Value) (nk nn : Int) (ng : Bool) (hC : ∀ W, Below w.heap.size w W → Calls Tryd.prog 69 #[.pointer (some ⟨C.g, 0, none⟩), .agg #[.int .i64 19, .string nb, vs, .int .i64 nk, .int .i64 nn, .bool ng, vm, vk]] W (PutQ C us v W tks)) :
    Calls Tryd.prog 63 #[.pointer (some ⟨C.g, 0, none⟩), .agg #[.int .i64 19, .string nb, vs, .int .i64 nk, .int .i64 nn, .bool ng, vm, vk]] w (PutQ C us v w tks) := by
  have HC := hide hC
  clear hC
  go_enter Tryd.func63, Tryd.ntmps63
  go_wp2_with fail
  refine (HC.out _ ((Below.refl _ _).alloc (Nat.le_refl _) _)).mono ?_
  rintro e1 w1 ⟨rfl, v1, hp1, hk1⟩
  have HP1 := hide hp1
  have HK1 := hide hk1
  clear hp1 hk1
  go_wp2_with fail
  refine bodyPost_ret (v := .tuple #[]) (by simp [results, Tryd.results63, go_sem]) rfl ?_
  exact PutQ.back ((Below.refl _ _).alloc (Nat.le_refl _) _) ⟨rfl, v1, HP1.out, HK1.out⟩
set_option maxHeartbeats 4000000 in
set_option maxRecDepth 100000 in
theorem dl_ex_41 {C : Cx} {us : List UInt16} {v : Value} {w : World} {tks : Tks} (nb : ByteArray) (vs vm vk : Value) (nk nn : Int) (ng : Bool) (hC : ∀ W, Below w.heap.size w W → Calls Tryd.prog 69 #[.pointer (some ⟨C.g, 0, none⟩), .agg #[.int .i64 41, .string nb, vs, .int .i64 nk, .int .i64 nn, .bool ng, vm, vk]] W (PutQ C us v W tks)) :
    Calls Tryd.prog 47 #[.pointer (some ⟨C.g, 0, none⟩), .agg #[.int .i64 41, .string nb, vs, .int .i64 nk, .int .i64 nn, .bool ng, vm, vk]] w (PutQ C us v w tks) := by
  have HC := hide hC
  clear hC
  go_enter Tryd.func47, Tryd.ntmps47
  go_wp2_with fail
  refine (HC.out _ ((Below.refl _ _).alloc (Nat.le_refl _) _)).mono ?_
  rintro e1 w1 ⟨rfl, v1, hp1, hk1⟩
  have HP1 := hide hp1
  have HK1 := hide hk1
  clear hp1 hk1
  go_wp2_with fail
  refine bodyPost_ret (v := .tuple #[]) (by simp [results, Tryd.results47, go_sem]) rfl ?_
  exact PutQ.back ((Below.refl _ _).alloc (Nat.le_refl _) _) ⟨rfl, v1, HP1.out, HK1.out⟩
set_option maxHeartbeats 4000000 in
set_option maxRecDepth 100000 in
theorem dl_ex_42 {C : Cx} {us : List UInt16} {v : Value} {w : World} {tks : Tks} (nb : ByteArray) (vs vm vk : Value) (nk nn : Int) (ng : Bool) (hC : ∀ W, Below w.heap.size w W → Calls Tryd.prog 70 #[.pointer (some ⟨C.g, 0, none⟩), .agg #[.int .i64 42, .string nb, vs, .int .i64 nk, .int .i64 nn, .bool ng, vm, vk]] W (PutQ C us v W tks)) :
    Calls Tryd.prog 47 #[.pointer (some ⟨C.g, 0, none⟩), .agg #[.int .i64 42, .string nb, vs, .int .i64 nk, .int .i64 nn, .bool ng, vm, vk]] w (PutQ C us v w tks) := by
  have HC := hide hC
  clear hC
  go_enter Tryd.func47, Tryd.ntmps47
  go_wp2_with fail
  refine (HC.out _ ((Below.refl _ _).alloc (Nat.le_refl _) _)).mono ?_
  rintro e1 w1 ⟨rfl, v1, hp1, hk1⟩
  have HP1 := hide hp1
  have HK1 := hide hk1
  clear hp1 hk1
  go_wp2_with fail
  refine bodyPost_ret (v := .tuple #[]) (by simp [results, Tryd.results47, go_sem]) rfl ?_
  exact PutQ.back ((Below.refl _ _).alloc (Nat.le_refl _) _) ⟨rfl, v1, HP1.out, HK1.out⟩
set_option maxHeartbeats 4000000 in
set_option maxRecDepth 100000 in
theorem dl_ex_43 {C : Cx} {us : List UInt16} {v : Value} {w : World} {tks : Tks} (nb : ByteArray) (vs vm vk : Value) (nk nn : Int) (ng : Bool) (hC : ∀ W, Below w.heap.size w W → Calls Tryd.prog 71 #[.pointer (some ⟨C.g, 0, none⟩), .agg #[.int .i64 43, .string nb, vs, .int .i64 nk, .int .i64 nn, .bool ng, vm, vk]] W (PutQ C us v W tks)) :
    Calls Tryd.prog 47 #[.pointer (some ⟨C.g, 0, none⟩), .agg #[.int .i64 43, .string nb, vs, .int .i64 nk, .int .i64 nn, .bool ng, vm, vk]] w (PutQ C us v w tks) := by
  have HC := hide hC
  clear hC
  go_enter Tryd.func47, Tryd.ntmps47
  go_wp2_with fail
  refine (HC.out _ ((Below.refl _ _).alloc (Nat.le_refl _) _)).mono ?_
  rintro e1 w1 ⟨rfl, v1, hp1, hk1⟩
  have HP1 := hide hp1
  have HK1 := hide hk1
  clear hp1 hk1
  go_wp2_with fail
  refine bodyPost_ret (v := .tuple #[]) (by simp [results, Tryd.results47, go_sem]) rfl ?_
  exact PutQ.back ((Below.refl _ _).alloc (Nat.le_refl _) _) ⟨rfl, v1, HP1.out, HK1.out⟩
set_option maxHeartbeats 4000000 in
set_option maxRecDepth 100000 in
theorem dl_ex_44 {C : Cx} {us : List UInt16} {v : Value} {w : World} {tks : Tks} (nb : ByteArray) (vs vm vk : Value) (nk nn : Int) (ng : Bool) (hC : ∀ W, Below w.heap.size w W → Calls Tryd.prog 71 #[.pointer (some ⟨C.g, 0, none⟩), .agg #[.int .i64 44, .string nb, vs, .int .i64 nk, .int .i64 nn, .bool ng, vm, vk]] W (PutQ C us v W tks)) :
    Calls Tryd.prog 47 #[.pointer (some ⟨C.g, 0, none⟩), .agg #[.int .i64 44, .string nb, vs, .int .i64 nk, .int .i64 nn, .bool ng, vm, vk]] w (PutQ C us v w tks) := by
  have HC := hide hC
  clear hC
  go_enter Tryd.func47, Tryd.ntmps47
  go_wp2_with fail
  refine (HC.out _ ((Below.refl _ _).alloc (Nat.le_refl _) _)).mono ?_
  rintro e1 w1 ⟨rfl, v1, hp1, hk1⟩
  have HP1 := hide hp1
  have HK1 := hide hk1
  clear hp1 hk1
  go_wp2_with fail
  refine bodyPost_ret (v := .tuple #[]) (by simp [results, Tryd.results47, go_sem]) rfl ?_
  exact PutQ.back ((Below.refl _ _).alloc (Nat.le_refl _) _) ⟨rfl, v1, HP1.out, HK1.out⟩
set_option maxHeartbeats 4000000 in
set_option maxRecDepth 100000 in
theorem dl_ex_45 {C : Cx} {us : List UInt16} {v : Value} {w : World} {tks : Tks} (nb : ByteArray) (vs vm vk : Value) (nk nn : Int) (ng : Bool) (hC : ∀ W, Below w.heap.size w W → Calls Tryd.prog 71 #[.pointer (some ⟨C.g, 0, none⟩), .agg #[.int .i64 45, .string nb, vs, .int .i64 nk, .int .i64 nn, .bool ng, vm, vk]] W (PutQ C us v W tks)) :
    Calls Tryd.prog 47 #[.pointer (some ⟨C.g, 0, none⟩), .agg #[.int .i64 45, .string nb, vs, .int .i64 nk, .int .i64 nn, .bool ng, vm, vk]] w (PutQ C us v w tks) := by
  have HC := hide hC
  clear hC
  go_enter Tryd.func47, Tryd.ntmps47
  go_wp2_with fail
  refine (HC.out _ ((Below.refl _ _).alloc (Nat.le_refl _) _)).mono ?_
  rintro e1 w1 ⟨rfl, v1, hp1, hk1⟩
  have HP1 := hide hp1
  have HK1 := hide hk1
  clear hp1 hk1
  go_wp2_with fail
  refine bodyPost_ret (v := .tuple #[]) (by simp [results, Tryd.results47, go_sem]) rfl ?_
  exact PutQ.back ((Below.refl _ _).alloc (Nat.le_refl _) _) ⟨rfl, v1, HP1.out, HK1.out⟩
set_option maxHeartbeats 4000000 in
set_option maxRecDepth 100000 in
theorem dl_ex_46 {C : Cx} {us : List UInt16} {v : Value} {w : World} {tks : Tks} (nb : ByteArray) (vs vm vk : Value) (nk nn : Int) (ng : Bool) (hC : ∀ W, Below w.heap.size w W → Calls Tryd.prog 71 #[.pointer (some ⟨C.g, 0, none⟩), .agg #[.int .i64 46, .string nb, vs, .int .i64 nk, .int .i64 nn, .bool ng, vm, vk]] W (PutQ C us v W tks)) :
    Calls Tryd.prog 47 #[.pointer (some ⟨C.g, 0, none⟩), .agg #[.int .i64 46, .string nb, vs, .int .i64 nk, .int .i64 nn, .bool ng, vm, vk]] w (PutQ C us v w tks) := by
  have HC := hide hC
  clear hC
  go_enter Tryd.func47, Tryd.ntmps47
  go_wp2_with fail
  refine (HC.out _ ((Below.refl _ _).alloc (Nat.le_refl _) _)).mono ?_
  rintro e1 w1 ⟨rfl, v1, hp1, hk1⟩
  have HP1 := hide hp1
  have HK1 := hide hk1
  clear hp1 hk1
  go_wp2_with fail
  refine bodyPost_ret (v := .tuple #[]) (by simp [results, Tryd.results47, go_sem]) rfl ?_
  exact PutQ.back ((Below.refl _ _).alloc (Nat.le_refl _) _) ⟨rfl, v1, HP1.out, HK1.out⟩
set_option maxHeartbeats 4000000 in
set_option maxRecDepth 100000 in
theorem dl_ex_47 {C : Cx} {us : List UInt16} {v : Value} {w : World} {tks : Tks} (nb : ByteArray) (vs vm vk : Value) (nk nn : Int) (ng : Bool) (hC : ∀ W, Below w.heap.size w W → Calls Tryd.prog 71 #[.pointer (some ⟨C.g, 0, none⟩), .agg #[.int .i64 47, .string nb, vs, .int .i64 nk, .int .i64 nn, .bool ng, vm, vk]] W (PutQ C us v W tks)) :
    Calls Tryd.prog 47 #[.pointer (some ⟨C.g, 0, none⟩), .agg #[.int .i64 47, .string nb, vs, .int .i64 nk, .int .i64 nn, .bool ng, vm, vk]] w (PutQ C us v w tks) := by
  have HC := hide hC
  clear hC
  go_enter Tryd.func47, Tryd.ntmps47
  go_wp2_with fail
  refine (HC.out _ ((Below.refl _ _).alloc (Nat.le_refl _) _)).mono ?_
  rintro e1 w1 ⟨rfl, v1, hp1, hk1⟩
  have HP1 := hide hp1
  have HK1 := hide hk1
  clear hp1 hk1
  go_wp2_with fail
  refine bodyPost_ret (v := .tuple #[]) (by simp [results, Tryd.results47, go_sem]) rfl ?_
  exact PutQ.back ((Below.refl _ _).alloc (Nat.le_refl _) _) ⟨rfl, v1, HP1.out, HK1.out⟩
set_option maxHeartbeats 4000000 in
set_option maxRecDepth 100000 in
theorem dl_ex_48 {C : Cx} {us : List UInt16} {v : Value} {w : World} {tks : Tks} (nb : ByteArray) (vs vm vk : Value) (nk nn : Int) (ng : Bool) (hC : ∀ W, Below w.heap.size w W → Calls Tryd.prog 71 #[.pointer (some ⟨C.g, 0, none⟩), .agg #[.int .i64 48, .string nb, vs, .int .i64 nk, .int .i64 nn, .bool ng, vm, vk]] W (PutQ C us v W tks)) :
    Calls Tryd.prog 47 #[.pointer (some ⟨C.g, 0, none⟩), .agg #[.int .i64 48, .string nb, vs, .int .i64 nk, .int .i64 nn, .bool ng, vm, vk]] w (PutQ C us v w tks) := by
  have HC := hide hC
  clear hC
  go_enter Tryd.func47, Tryd.ntmps47
  go_wp2_with fail
  refine (HC.out _ ((Below.refl _ _).alloc (Nat.le_refl _) _)).mono ?_
  rintro e1 w1 ⟨rfl, v1, hp1, hk1⟩
  have HP1 := hide hp1
  have HK1 := hide hk1
  clear hp1 hk1
  go_wp2_with fail
  refine bodyPost_ret (v := .tuple #[]) (by simp [results, Tryd.results47, go_sem]) rfl ?_
  exact PutQ.back ((Below.refl _ _).alloc (Nat.le_refl _) _) ⟨rfl, v1, HP1.out, HK1.out⟩
set_option maxHeartbeats 4000000 in
set_option maxRecDepth 100000 in
theorem dl_ex_49 {C : Cx} {us : List UInt16} {v : Value} {w : World} {tks : Tks} (nb : ByteArray) (vs vm vk : Value) (nk nn : Int) (ng : Bool) (hC : ∀ W, Below w.heap.size w W → Calls Tryd.prog 71 #[.pointer (some ⟨C.g, 0, none⟩), .agg #[.int .i64 49, .string nb, vs, .int .i64 nk, .int .i64 nn, .bool ng, vm, vk]] W (PutQ C us v W tks)) :
    Calls Tryd.prog 47 #[.pointer (some ⟨C.g, 0, none⟩), .agg #[.int .i64 49, .string nb, vs, .int .i64 nk, .int .i64 nn, .bool ng, vm, vk]] w (PutQ C us v w tks) := by
  have HC := hide hC
  clear hC
  go_enter Tryd.func47, Tryd.ntmps47
  go_wp2_with fail
  refine (HC.out _ ((Below.refl _ _).alloc (Nat.le_refl _) _)).mono ?_
  rintro e1 w1 ⟨rfl, v1, hp1, hk1⟩
  have HP1 := hide hp1
  have HK1 := hide hk1
  clear hp1 hk1
  go_wp2_with fail
  refine bodyPost_ret (v := .tuple #[]) (by simp [results, Tryd.results47, go_sem]) rfl ?_
  exact PutQ.back ((Below.refl _ _).alloc (Nat.le_refl _) _) ⟨rfl, v1, HP1.out, HK1.out⟩
set_option maxHeartbeats 4000000 in
set_option maxRecDepth 100000 in
theorem dl_ex_50 {C : Cx} {us : List UInt16} {v : Value} {w : World} {tks : Tks} (nb : ByteArray) (vs vm vk : Value) (nk nn : Int) (ng : Bool) (hC : ∀ W, Below w.heap.size w W → Calls Tryd.prog 71 #[.pointer (some ⟨C.g, 0, none⟩), .agg #[.int .i64 50, .string nb, vs, .int .i64 nk, .int .i64 nn, .bool ng, vm, vk]] W (PutQ C us v W tks)) :
    Calls Tryd.prog 47 #[.pointer (some ⟨C.g, 0, none⟩), .agg #[.int .i64 50, .string nb, vs, .int .i64 nk, .int .i64 nn, .bool ng, vm, vk]] w (PutQ C us v w tks) := by
  have HC := hide hC
  clear hC
  go_enter Tryd.func47, Tryd.ntmps47
  go_wp2_with fail
  refine (HC.out _ ((Below.refl _ _).alloc (Nat.le_refl _) _)).mono ?_
  rintro e1 w1 ⟨rfl, v1, hp1, hk1⟩
  have HP1 := hide hp1
  have HK1 := hide hk1
  clear hp1 hk1
  go_wp2_with fail
  refine bodyPost_ret (v := .tuple #[]) (by simp [results, Tryd.results47, go_sem]) rfl ?_
  exact PutQ.back ((Below.refl _ _).alloc (Nat.le_refl _) _) ⟨rfl, v1, HP1.out, HK1.out⟩
set_option maxHeartbeats 4000000 in
set_option maxRecDepth 100000 in
theorem dl_ex_51 {C : Cx} {us : List UInt16} {v : Value} {w : World} {tks : Tks} (nb : ByteArray) (vs vm vk : Value) (nk nn : Int) (ng : Bool) (hC : ∀ W, Below w.heap.size w W → Calls Tryd.prog 71 #[.pointer (some ⟨C.g, 0, none⟩), .agg #[.int .i64 51, .string nb, vs, .int .i64 nk, .int .i64 nn, .bool ng, vm, vk]] W (PutQ C us v W tks)) :
    Calls Tryd.prog 47 #[.pointer (some ⟨C.g, 0, none⟩), .agg #[.int .i64 51, .string nb, vs, .int .i64 nk, .int .i64 nn, .bool ng, vm, vk]] w (PutQ C us v w tks) := by
  have HC := hide hC
  clear hC
  go_enter Tryd.func47, Tryd.ntmps47
  go_wp2_with fail
  refine (HC.out _ ((Below.refl _ _).alloc (Nat.le_refl _) _)).mono ?_
  rintro e1 w1 ⟨rfl, v1, hp1, hk1⟩
  have HP1 := hide hp1
  have HK1 := hide hk1
  clear hp1 hk1
  go_wp2_with fail
  refine bodyPost_ret (v := .tuple #[]) (by simp [results, Tryd.results47, go_sem]) rfl ?_
  exact PutQ.back ((Below.refl _ _).alloc (Nat.le_refl _) _) ⟨rfl, v1, HP1.out, HK1.out⟩
set_option maxHeartbeats 4000000 in
set_option maxRecDepth 100000 in
theorem dl_ex_52 {C : Cx} {us : List UInt16} {v : Value} {w : World} {tks : Tks} (nb : ByteArray) (vs vm vk : Value) (nk nn : Int) (ng : Bool) (hC : ∀ W, Below w.heap.size w W → Calls Tryd.prog 71 #[.pointer (some ⟨C.g, 0, none⟩), .agg #[.int .i64 52, .string nb, vs, .int .i64 nk, .int .i64 nn, .bool ng, vm, vk]] W (PutQ C us v W tks)) :
    Calls Tryd.prog 47 #[.pointer (some ⟨C.g, 0, none⟩), .agg #[.int .i64 52, .string nb, vs, .int .i64 nk, .int .i64 nn, .bool ng, vm, vk]] w (PutQ C us v w tks) := by
  have HC := hide hC
  clear hC
  go_enter Tryd.func47, Tryd.ntmps47
  go_wp2_with fail
  refine (HC.out _ ((Below.refl _ _).alloc (Nat.le_refl _) _)).mono ?_
  rintro e1 w1 ⟨rfl, v1, hp1, hk1⟩
  have HP1 := hide hp1
  have HK1 := hide hk1
  clear hp1 hk1
  go_wp2_with fail
  refine bodyPost_ret (v := .tuple #[]) (by simp [results, Tryd.results47, go_sem]) rfl ?_
  exact PutQ.back ((Below.refl _ _).alloc (Nat.le_refl _) _) ⟨rfl, v1, HP1.out, HK1.out⟩
set_option maxHeartbeats 4000000 in
set_option maxRecDepth 100000 in
theorem dl_ex_53 {C : Cx} {us : List UInt16} {v : Value} {w : World} {tks : Tks} (nb : ByteArray) (vs vm vk : Value) (nk nn : Int) (ng : Bool) (hC : ∀ W, Below w.heap.size w W → Calls Tryd.prog 71 #[.pointer (some ⟨C.g, 0, none⟩), .agg #[.int .i64 53, .string nb, vs, .int .i64 nk, .int .i64 nn, .bool ng, vm, vk]] W (PutQ C us v W tks)) :
    Calls Tryd.prog 47 #[.pointer (some ⟨C.g, 0, none⟩), .agg #[.int .i64 53, .string nb, vs, .int .i64 nk, .int .i64 nn, .bool ng, vm, vk]] w (PutQ C us v w tks) := by
  have HC := hide hC
  clear hC
  go_enter Tryd.func47, Tryd.ntmps47
  go_wp2_with fail
  refine (HC.out _ ((Below.refl _ _).alloc (Nat.le_refl _) _)).mono ?_
  rintro e1 w1 ⟨rfl, v1, hp1, hk1⟩
  have HP1 := hide hp1
  have HK1 := hide hk1
  clear hp1 hk1
  go_wp2_with fail
  refine bodyPost_ret (v := .tuple #[]) (by simp [results, Tryd.results47, go_sem]) rfl ?_
  exact PutQ.back ((Below.refl _ _).alloc (Nat.le_refl _) _) ⟨rfl, v1, HP1.out, HK1.out⟩
theorem put_nb3 {C : Cx} {us : List UInt16} {v : Value} {w : World} {nm : List UInt8} {nb : ByteArray} (h : ⟨nm.toArray⟩ = nb) (hp : Pe C us v w) (hm : MayPut us [[40], nm, [41]]) :
    Calls Tryd.prog 59 #[.pointer (some ⟨C.g, 0, none⟩), .slice (some ⟨w.heap.size, 0, none⟩) 3 3] (w.alloc (.cells #[.string ⟨#[40]⟩, .string nb, .string ⟨#[41]⟩] 9)) (PutQ C us v w [[40], nm, [41]]) := by
  subst h
  exact put_lit hp [[40], nm, [41]] 3 rfl hm
set_option maxHeartbeats 4000000 in
set_option maxRecDepth 100000 in
theorem cp_17_yes {C : Cx} {m ck : Nat} {Ak : Option Addr} {us : List UInt16} {v : Value} {w : World} (vs vm : Value) (nk nn : Int) (ng : Bool) {nm : List UInt8} {nb : ByteArray} {a0 : Tr} (hN : NodeC C m) (s0 : a0.size ≤ m) (hk : KidsS C w Ak [a0]) (hp : Pe C us v w) (hnb : ⟨nm.toArray⟩ = nb) (hne : nm ≠ []) (hm : MayPut us ([[99, 97, 116, 99, 104]] ++ ([[40], nm, [41]] ++ (prT a0)))) :
    Calls Tryd.prog 63 #[.pointer (some ⟨C.g, 0, none⟩), .agg #[.int .i64 17, .string nb, vs, .int .i64 nk, .int .i64 nn, .bool ng, vm, .slice Ak 1 ck]] w (PutQ C us v w ([[99, 97, 116, 99, 104]] ++ ([[40], nm, [41]] ++ (prT a0)))) := by
  obtain ⟨b, o, rfl, hka⟩ := hk (by simp)
  obtain ⟨W, hW⟩ : ∃ W, w.alloc (.cells #[.int .i64 17, .string nb, vs, .int .i64 nk, .int .i64 nn, .bool ng, vm, .slice (some ⟨b, o, none⟩) 1 ck] 42) = W := ⟨_, rfl⟩
  have hb0 : Below w.heap.size w W := by rw [← hW]; exact (Below.refl _ _).alloc (Nat.le_refl _) _
  have hX1 : w.heap.size < W.heap.size := by rw [← hW]; simp
  have hXg : w.heap.size ≠ C.g := fun e => by have := hp.pn.lt; omega
  have hXv : v.ownBlock ≠ some w.heap.size := fun e => by have := (hp.pn.own.lt _ e).2; omega
  have x0 : W.cell? ⟨w.heap.size, 0, none⟩ = some (.int .i64 17) := by rw [← hW, World.cell?_alloc_at _ _ _ _ rfl]; rfl
  have x7 : W.cell? ⟨w.heap.size, 7, none⟩ = some (.slice (some ⟨b, o, none⟩) 1 ck) := by rw [← hW, World.cell?_alloc_at _ _ _ _ rfl]; rfl
  have x1 : W.cell? ⟨w.heap.size, 1, none⟩ = some (.string nb) := by rw [← hW, World.cell?_alloc_at _ _ _ _ rfl]; rfl
  obtain ⟨p0, at0, bb0, cc0⟩ := (hka.below (hb0.mono (Nat.le_of_lt hp.blt))) 0 (by simp)
  have c0 : W.cell? ⟨b, o, none⟩ = some (.int .i64 (p0 : Int)) := cc0
  have AT0 : Hid (At C.ts p0 a0) := at0
  have HP0 := hide (hp.below hb0)
  have HB0 := hide hb0
  have HN := hide hN
  obtain ⟨mm1, rr1⟩ := hm.two (b := [[99, 97, 116, 99, 104]]) (c := [[40], nm, [41]] ++ (prT a0)) rfl
  have M1 := hide mm1
  obtain ⟨mm2, rr2⟩ := rr1.two (b := [[40], nm, [41]]) (c := prT a0) rfl
  have M2 := hide mm2
  have M3 := hide rr2
  have HNB := hide hnb
  have hd : nb.data.toList = nm := by rw [← hnb]
  have f1 : nb.toList ≠ [] := by rw [ByteArray.toList_eq, hd]; exact hne
  have f2 : (nb.toList == []) = false := beq_eq_false_iff_ne.2 f1
  have f3 : nb.toList.isEmpty = false := by rw [List.isEmpty_eq_false_iff]; exact f1
  clear hnb hd hne f1
  obtain ⟨X, hX⟩ : ∃ X, w.heap.size = X := ⟨_, rfl⟩
  go_enter Tryd.func63, Tryd.ntmps63
  go_upto_region 1 with (fail)
  clear hm hp hb0 hN hka mm1 rr1 mm2 rr2 at0 cc0
  clear hW
  rw [hX] at x0
  rw [hX] at x7
  rw [hX] at x1
  rw [hX] at hX1 hXg hXv
  clear hX
  have C1 := hide (put_lit HP0.out [[99, 97, 116, 99, 104]] 1 rfl M1.out)
  go_wp2_with fail
  refine C1.out.mono ?_
  rintro e1 w1 ⟨rfl, v1, hp1, hk1⟩
  have HP1 := hide hp1
  have HK1 := hide (hk1)
  have c0_1 := ((HP0.out.low HK1.out).cell (p := ⟨b, o, none⟩) bb0).trans c0
  have x0_1 := (HK1.out.cell (p := ⟨X, 0, none⟩) hX1 hXg hXv).trans x0
  have x7_1 := (HK1.out.cell (p := ⟨X, 7, none⟩) hX1 hXg hXv).trans x7
  have x1_1 := (HK1.out.cell (p := ⟨X, 1, none⟩) hX1 hXg hXv).trans x1
  clear hp1 hk1
  have C2 := hide (put_nb3 HNB.out HP1.out M2.out)
  go_wp2_with fail
  refine C2.out.mono ?_
  rintro e2 w2 ⟨rfl, v2, hp2, hk2⟩
  have HP2 := hide hp2
  have HK2 := hide (HK1.out.trans hk2)
  have c0_2 := ((HP0.out.low HK2.out).cell (p := ⟨b, o, none⟩) bb0).trans c0
  have x0_2 := (HK2.out.cell (p := ⟨X, 0, none⟩) hX1 hXg hXv).trans x0
  have x7_2 := (HK2.out.cell (p := ⟨X, 7, none⟩) hX1 hXg hXv).trans x7
  have x1_2 := (HK2.out.cell (p := ⟨X, 1, none⟩) hX1 hXg hXv).trans x1
  clear hp2 hk2
  have C3 := hide (HN.out a0 p0 _ v2 w2 s0 AT0.out HP2.out M3.out)
  go_wp2_with fail
  refine C3.out.mono ?_
  rintro e3 w3 ⟨rfl, v3, hp3, hk3⟩
  have HP3 := hide hp3
  have HK3 := hide (HK2.out.trans hk3)
  have x0_3 := (HK3.out.cell (p := ⟨X, 0, none⟩) hX1 hXg hXv).trans x0
  have x7_3 := (HK3.out.cell (p := ⟨X, 7, none⟩) hX1 hXg hXv).trans x7
  have x1_3 := (HK3.out.cell (p := ⟨X, 1, none⟩) hX1 hXg hXv).trans x1
  clear hp3 hk3
  go_wp2_with fail
  refine bodyPost_ret (v := .tuple #[]) (by simp [results, Tryd.results63, go_sem]) rfl ?_
  refine PutQ.back HB0.out ⟨rfl, v3, ?_, HK3.out⟩
  have := HP3.out
  simp only [← putA_app, List.append_assoc] at this
  exact this
set_option maxHeartbeats 4000000 in
set_option maxRecDepth 100000 in
theorem ex_38 {C : Cx} {m L ck : Nat} {Ak : Option Addr} {us : List UInt16} {v : Value} {w : World} (nb : ByteArray) (vs vm : Value) (nk nn : Int) (ng : Bool) {l : List Tr} (hN : NodeC C m) (hs : ∀ t ∈ l, t.size ≤ m) (hL : l.length = L) (hL6 : L ≤ 1000000) (hk : KidsS C w Ak l) (hp : Pe C us v w) (hm : MayPut us ([[91]] ++ ((comP partP (prs l)) ++ ([[93]])))) :
    Calls Tryd.prog 47 #[.pointer (some ⟨C.g, 0, none⟩), .agg #[.int .i64 38, .string nb, vs, .int .i64 nk, .int .i64 nn, .bool ng, vm, .slice Ak (L) ck]] w (PutQ C us v w ([[91]] ++ ((comP partP (prs l)) ++ ([[93]])))) := by
  obtain ⟨W, hW⟩ : ∃ W, w.alloc (.cells #[.int .i64 38, .string nb, vs, .int .i64 nk, .int .i64 nn, .bool ng, vm, .slice Ak (L) ck] 42) = W := ⟨_, rfl⟩
  have hb0 : Below w.heap.size w W := by rw [← hW]; exact (Below.refl _ _).alloc (Nat.le_refl _) _
  have hX1 : w.heap.size < W.heap.size := by rw [← hW]; simp
  have x0 : W.cell? ⟨w.heap.size, 0, none⟩ = some (.int .i64 38) := by rw [← hW, World.cell?_alloc_at _ _ _ _ rfl]; rfl
  have x7 : W.cell? ⟨w.heap.size, 7, none⟩ = some (.slice Ak (L) ck) := by rw [← hW, World.cell?_alloc_at _ _ _ _ rfl]; rfl
  have HKW := hide (hk.below (hb0.mono (Nat.le_of_lt hp.blt)))
  have HS := hide hs
  have HN := hide hN
  have HP0 := hide (hp.below hb0)
  have HB0 := hide hb0
  obtain ⟨mm1, rr1⟩ := hm.two (b := [[91]]) (c := (comP partP (prs l)) ++ ([[93]])) rfl
  have M1 := hide mm1
  obtain ⟨mm2, rr2⟩ := rr1.two (b := comP partP (prs l)) (c := [[93]]) rfl
  have M2 := hide mm2
  have M3 := hide rr2
  have HLL := hide hL
  clear hL
  obtain ⟨X, hX⟩ : ∃ X, w.heap.size = X := ⟨_, rfl⟩
  go_enter Tryd.func47, Tryd.ntmps47
  go_upto_region 1 with (fail)
  clear hm hp hb0 hN hs hk mm1 rr1 mm2 rr2
  clear hW
  rw [hX] at x0 x7 hX1
  clear hX
  have C1 := hide (put_lit HP0.out [[91]] 1 rfl M1.out)
  go_wp2_with fail
  refine C1.out.mono ?_
  rintro e1 w1 ⟨rfl, v1, hp1, hk1⟩
  have HP1 := hide hp1
  have HK1 := hide (hk1)
  clear hp1 hk1
  have C2 := hide (plist_part (ck := ck) HN.out HS.out (HKW.out.below (HP0.out.low HK1.out)) HP1.out HLL.out hL6 M2.out)
  go_wp2_with fail
  refine C2.out.mono ?_
  rintro e2 w2 ⟨rfl, v2, hp2, hk2⟩
  have HP2 := hide hp2
  have HK2 := hide (HK1.out.trans hk2)
  clear hp2 hk2
  have C3 := hide (put_lit HP2.out [[93]] 1 rfl M3.out)
  go_wp2_with fail
  refine C3.out.mono ?_
  rintro e3 w3 ⟨rfl, v3, hp3, hk3⟩
  have HP3 := hide hp3
  have HK3 := hide (HK2.out.trans hk3)
  clear hp3 hk3
  go_wp2_with fail
  refine bodyPost_ret (v := .tuple #[]) (by simp [results, Tryd.results47, go_sem]) rfl ?_
  refine PutQ.back HB0.out ⟨rfl, v3, ?_, HK3.out⟩
  have := HP3.out
  simp only [← putA_app, List.append_assoc] at this
  exact this
set_option maxHeartbeats 4000000 in
set_option maxRecDepth 100000 in
theorem ex_39 {C : Cx} {m L ck : Nat} {Ak : Option Addr} {us : List UInt16} {v : Value} {w : World} (nb : ByteArray) (vs vm : Value) (nk nn : Int) (ng : Bool) {l : List Tr} (hN : NodeC C m) (hs : ∀ t ∈ l, t.size ≤ m) (hL : l.length = L) (hL6 : L ≤ 1000000) (hk : KidsS C w Ak l) (hp : Pe C us v w) (hm : MayPut us ([[123]] ++ ((comP (·.2) (prs l)) ++ ([[125]])))) :
    Calls Tryd.prog 47 #[.pointer (some ⟨C.g, 0, none⟩), .agg #[.int .i64 39, .string nb, vs, .int .i64 nk, .int .i64 nn, .bool ng, vm, .slice Ak (L) ck]] w (PutQ C us v w ([[123]] ++ ((comP (·.2) (prs l)) ++ ([[125]])))) := by
  obtain ⟨W, hW⟩ : ∃ W, w.alloc (.cells #[.int .i64 39, .string nb, vs, .int .i64 nk, .int .i64 nn, .bool ng, vm, .slice Ak (L) ck] 42) = W := ⟨_, rfl⟩
  have hb0 : Below w.heap.size w W := by rw [← hW]; exact (Below.refl _ _).alloc (Nat.le_refl _) _
  have hX1 : w.heap.size < W.heap.size := by rw [← hW]; simp
  have x0 : W.cell? ⟨w.heap.size, 0, none⟩ = some (.int .i64 39) := by rw [← hW, World.cell?_alloc_at _ _ _ _ rfl]; rfl
  have x7 : W.cell? ⟨w.heap.size, 7, none⟩ = some (.slice Ak (L) ck) := by rw [← hW, World.cell?_alloc_at _ _ _ _ rfl]; rfl
  have HKW := hide (hk.below (hb0.mono (Nat.le_of_lt hp.blt)))
  have HS := hide hs
  have HN := hide hN
  have HP0 := hide (hp.below hb0)
  have HB0 := hide hb0
  obtain ⟨mm1, rr1⟩ := hm.two (b := [[123]]) (c := (comP (·.2) (prs l)) ++ ([[125]])) rfl
  have M1 := hide mm1
  obtain ⟨mm2, rr2⟩ := rr1.two (b := comP (·.2) (prs l)) (c := [[125]]) rfl
  have M2 := hide mm2
  have M3 := hide rr2
  have HLL := hide hL
  clear hL
  obtain ⟨X, hX⟩ : ∃ X, w.heap.size = X := ⟨_, rfl⟩
  go_enter Tryd.func47, Tryd.ntmps47
  go_upto_region 1 with (fail)
  clear hm hp hb0 hN hs hk mm1 rr1 mm2 rr2
  clear hW
  rw [hX] at x0 x7 hX1
  clear hX
  have C1 := hide (put_lit HP0.out [[123]] 1 rfl M1.out)
  go_wp2_with fail
  refine C1.out.mono ?_
  rintro e1 w1 ⟨rfl, v1, hp1, hk1⟩
  have HP1 := hide hp1
  have HK1 := hide (hk1)
  clear hp1 hk1
  have C2 := hide (plist_node (ck := ck) HN.out HS.out (HKW.out.below (HP0.out.low HK1.out)) HP1.out HLL.out hL6 M2.out)
  go_wp2_with fail
  refine C2.out.mono ?_
  rintro e2 w2 ⟨rfl, v2, hp2, hk2⟩
  have HP2 := hide hp2
  have HK2 := hide (HK1.out.trans hk2)
  clear hp2 hk2
  have C3 := hide (put_lit HP2.out [[125]] 1 rfl M3.out)
  go_wp2_with fail
  refine C3.out.mono ?_
  rintro e3 w3 ⟨rfl, v3, hp3, hk3⟩
  have HP3 := hide hp3
  have HK3 := hide (HK2.out.trans hk3)
  clear hp3 hk3
  go_wp2_with fail
  refine bodyPost_ret (v := .tuple #[]) (by simp [results, Tryd.results47, go_sem]) rfl ?_
  refine PutQ.back HB0.out ⟨rfl, v3, ?_, HK3.out⟩
  have := HP3.out
  simp only [← putA_app, List.append_assoc] at this
  exact this
set_option maxHeartbeats 4000000 in
set_option maxRecDepth 100000 in
theorem op_50 {C : Cx} {m n ck : Nat} {Ak : Option Addr} {us : List UInt16} {v : Value} {w : World} (nb : ByteArray) (vs vm : Value) (nk nn : Int) (ng : Bool) {l : List Tr} {a0 : Tr} (hN : NodeC C m) (hs : ∀ t ∈ l, t.size ≤ m) (s0 : a0.size ≤ m) (hl : l.length = n) (hn6 : n + 1 ≤ 1000000) (hcap : n + 1 ≤ ck) (hk : KidsS C w Ak (a0 :: l)) (hp : Pe C us v w) (hm : MayPut us (callP (prs (a0 :: l)))) :
    Calls Tryd.prog 71 #[.pointer (some ⟨C.g, 0, none⟩), .agg #[.int .i64 50, .string nb, vs, .int .i64 nk, .int .i64 nn, .bool ng, vm, .slice Ak (n + 1) ck]] w (PutQ C us v w (callP (prs (a0 :: l)))) := by
  obtain ⟨W, hW⟩ : ∃ W, w.alloc (.cells #[.int .i64 50, .string nb, vs, .int .i64 nk, .int .i64 nn, .bool ng, vm, .slice Ak (n + 1) ck] 42) = W := ⟨_, rfl⟩
  have hb0 : Below w.heap.size w W := by rw [← hW]; exact (Below.refl _ _).alloc (Nat.le_refl _) _
  have hX1 : w.heap.size < W.heap.size := by rw [← hW]; simp
  have x0 : W.cell? ⟨w.heap.size, 0, none⟩ = some (.int .i64 50) := by rw [← hW, World.cell?_alloc_at _ _ _ _ rfl]; rfl
  have x7 : W.cell? ⟨w.heap.size, 7, none⟩ = some (.slice Ak (n + 1) ck) := by rw [← hW, World.cell?_alloc_at _ _ _ _ rfl]; rfl
  have HKW := hide (hk.below (hb0.mono (Nat.le_of_lt hp.blt)))
  have HS := hide hs
  have HN := hide hN
  have HP0 := hide (hp.below hb0)
  have HB0 := hide hb0
  have M1 := hide hm
  have HLL := hide hl
  clear hl
  obtain ⟨X, hX⟩ : ∃ X, w.heap.size = X := ⟨_, rfl⟩
  go_enter Tryd.func71, Tryd.ntmps71
  go_upto_region 1 with (fail)
  clear hm hp hb0 hN hs hk 
  clear hW
  rw [hX] at x0 x7 hX1
  clear hX
  have C1 := hide (pcall_any HN.out HS.out s0 HLL.out hn6 hcap HKW.out HP0.out M1.out)
  go_wp2_with fail
  refine C1.out.mono ?_
  rintro e1 w1 ⟨rfl, v1, hp1, hk1⟩
  have HP1 := hide hp1
  have HK1 := hide (hk1)
  clear hp1 hk1
  go_wp2_with fail
  refine bodyPost_ret (v := .tuple #[]) (by simp [results, Tryd.results71, go_sem]) rfl ?_
  refine PutQ.back HB0.out ⟨rfl, v1, ?_, HK1.out⟩
  exact HP1.out
set_option maxHeartbeats 4000000 in
set_option maxRecDepth 100000 in
theorem op_51 {C : Cx} {m n ck : Nat} {Ak : Option Addr} {us : List UInt16} {v : Value} {w : World} (nb : ByteArray) (vs vm : Value) (nk nn : Int) (ng : Bool) {l : List Tr} {a0 : Tr} (hN : NodeC C m) (hs : ∀ t ∈ l, t.size ≤ m) (s0 : a0.size ≤ m) (hl : l.length = n) (hn6 : n + 1 ≤ 1000000) (hcap : n + 1 ≤ ck) (hk : KidsS C w Ak (a0 :: l)) (hp : Pe C us v w) (hm : MayPut us ([[110, 101, 119]] ++ (callP (prs (a0 :: l))))) :
    Calls Tryd.prog 71 #[.pointer (some ⟨C.g, 0, none⟩), .agg #[.int .i64 51, .string nb, vs, .int .i64 nk, .int .i64 nn, .bool ng, vm, .slice Ak (n + 1) ck]] w (PutQ C us v w ([[110, 101, 119]] ++ (callP (prs (a0 :: l))))) := by
  obtain ⟨W, hW⟩ : ∃ W, w.alloc (.cells #[.int .i64 51, .string nb, vs, .int .i64 nk, .int .i64 nn, .bool ng, vm, .slice Ak (n + 1) ck] 42) = W := ⟨_, rfl⟩
  have hb0 : Below w.heap.size w W := by rw [← hW]; exact (Below.refl _ _).alloc (Nat.le_refl _) _
  have hX1 : w.heap.size < W.heap.size := by rw [← hW]; simp
  have x0 : W.cell? ⟨w.heap.size, 0, none⟩ = some (.int .i64 51) := by rw [← hW, World.cell?_alloc_at _ _ _ _ rfl]; rfl
  have x7 : W.cell? ⟨w.heap.size, 7, none⟩ = some (.slice Ak (n + 1) ck) := by rw [← hW, World.cell?_alloc_at _ _ _ _ rfl]; rfl
  have HKW := hide (hk.below (hb0.mono (Nat.le_of_lt hp.blt)))
  have HS := hide hs
  have HN := hide hN
  have HP0 := hide (hp.below hb0)
  have HB0 := hide hb0
  obtain ⟨mm1, rr1⟩ := hm.two (b := [[110, 101, 119]]) (c := callP (prs (a0 :: l))) rfl
  have M1 := hide mm1
  have M2 := hide rr1
  have HLL := hide hl
  clear hl
  obtain ⟨X, hX⟩ : ∃ X, w.heap.size = X := ⟨_, rfl⟩
  go_enter Tryd.func71, Tryd.ntmps71
  go_upto_region 1 with (fail)
  clear hm hp hb0 hN hs hk mm1 rr1
  clear hW
  rw [hX] at x0 x7 hX1
  clear hX
  have C1 := hide (put_lit HP0.out [[110, 101, 119]] 1 rfl M1.out)
  go_wp2_with fail
  refine C1.out.mono ?_
  rintro e1 w1 ⟨rfl, v1, hp1, hk1⟩
  have HP1 := hide hp1
  have HK1 := hide (hk1)
  clear hp1 hk1
  have C2 := hide (pcall_any HN.out HS.out s0 HLL.out hn6 hcap (HKW.out.below (HP0.out.low HK1.out)) HP1.out M2.out)
  go_wp2_with fail
  refine C2.out.mono ?_
  rintro e2 w2 ⟨rfl, v2, hp2, hk2⟩
  have HP2 := hide hp2
  have HK2 := hide (HK1.out.trans hk2)
  clear hp2 hk2
  go_wp2_with fail
  refine bodyPost_ret (v := .tuple #[]) (by simp [results, Tryd.results71, go_sem]) rfl ?_
  refine PutQ.back HB0.out ⟨rfl, v2, ?_, HK2.out⟩
  have := HP2.out
  simp only [← putA_app] at this
  exact this
set_option maxHeartbeats 4000000 in
set_option maxRecDepth 100000 in
theorem st_5 {C : Cx} {m L ck k0 : Nat} {Ak : Option Addr} {us : List UInt16} {v : Value} {w : World} (nb : ByteArray) (vs vm : Value) (nk nn : Int) (ng : Bool) {l : List Tr} {x : Nd} (hN : NodeC C m) (hs : ∀ t ∈ l, t.size ≤ m) (hat : At C.ts k0 (.mk x l)) (hx : x.kind = 5 ∨ x.kind = 6) (hL : l.length = L) (hL6 : L ≤ 1000000) (hk : KidsS C w Ak l) (hp : Pe C us v w) (hm : MayPut us ((declsP x (prs l)) ++ ([[59]]))) :
    Calls Tryd.prog 46 #[.pointer (some ⟨C.g, 0, none⟩), .int .i64 (k0 : Int), .agg #[.int .i64 5, .string nb, vs, .int .i64 nk, .int .i64 nn, .bool ng, vm, .slice Ak (L) ck]] w (PutQ C us v w ((declsP x (prs l)) ++ ([[59]]))) := by
  obtain ⟨W, hW⟩ : ∃ W, w.alloc (.cells #[.int .i64 5, .string nb, vs, .int .i64 nk, .int .i64 nn, .bool ng, vm, .slice Ak (L) ck] 42) = W := ⟨_, rfl⟩
  have hb0 : Below w.heap.size w W := by rw [← hW]; exact (Below.refl _ _).alloc (Nat.le_refl _) _
  have hX1 : w.heap.size < W.heap.size := by rw [← hW]; simp
  have x0 : W.cell? ⟨w.heap.size, 0, none⟩ = some (.int .i64 5) := by rw [← hW, World.cell?_alloc_at _ _ _ _ rfl]; rfl
  have x7 : W.cell? ⟨w.heap.size, 7, none⟩ = some (.slice Ak (L) ck) := by rw [← hW, World.cell?_alloc_at _ _ _ _ rfl]; rfl
  have HKW := hide (hk.below (hb0.mono (Nat.le_of_lt hp.blt)))
  have HS := hide hs
  have HN := hide hN
  have HP0 := hide (hp.below hb0)
  have HB0 := hide hb0
  obtain ⟨mm1, rr1⟩ := hm.two (b := declsP x (prs l)) (c := [[59]]) rfl
  have M1 := hide mm1
  have M2 := hide rr1
  have HLL := hide hL
  clear hL
  have HAT := hide hat
  have HKX := hide hx
  clear hat hx
  obtain ⟨X, hX⟩ : ∃ X, w.heap.size = X := ⟨_, rfl⟩
  go_enter Tryd.func46, Tryd.ntmps46
  go_upto_region 1 with (fail)
  clear hm hp hb0 hN hs hk mm1 rr1
  clear hW
  rw [hX] at x0 x7 hX1
  clear hX
  have C1 := hide (pdecls_any HN.out HS.out HAT.out HKX.out HP0.out (by rw [HLL.out]; exact hL6) M1.out)
  go_wp2_with fail
  refine C1.out.mono ?_
  rintro e1 w1 ⟨rfl, v1, hp1, hk1⟩
  have HP1 := hide hp1
  have HK1 := hide (hk1)
  clear hp1 hk1
  have C2 := hide (put_lit HP1.out [[59]] 1 rfl M2.out)
  go_wp2_with fail
  refine C2.out.mono ?_
  rintro e2 w2 ⟨rfl, v2, hp2, hk2⟩
  have HP2 := hide hp2
  have HK2 := hide (HK1.out.trans hk2)
  clear hp2 hk2
  go_wp2_with fail
  refine bodyPost_ret (v := .tuple #[]) (by simp [results, Tryd.results46, go_sem]) rfl ?_
  refine PutQ.back HB0.out ⟨rfl, v2, ?_, HK2.out⟩
  have := HP2.out
  simp only [← putA_app] at this
  exact this
set_option maxHeartbeats 4000000 in
set_option maxRecDepth 100000 in
theorem st_6 {C : Cx} {m L ck k0 : Nat} {Ak : Option Addr} {us : List UInt16} {v : Value} {w : World} (nb : ByteArray) (vs vm : Value) (nk nn : Int) (ng : Bool) {l : List Tr} {x : Nd} (hN : NodeC C m) (hs : ∀ t ∈ l, t.size ≤ m) (hat : At C.ts k0 (.mk x l)) (hx : x.kind = 5 ∨ x.kind = 6) (hL : l.length = L) (hL6 : L ≤ 1000000) (hk : KidsS C w Ak l) (hp : Pe C us v w) (hm : MayPut us ((declsP x (prs l)) ++ ([[59]]))) :
    Calls Tryd.prog 46 #[.pointer (some ⟨C.g, 0, none⟩), .int .i64 (k0 : Int), .agg #[.int .i64 6, .string nb, vs, .int .i64 nk, .int .i64 nn, .bool ng, vm, .slice Ak (L) ck]] w (PutQ C us v w ((declsP x (prs l)) ++ ([[59]]))) := by
  obtain ⟨W, hW⟩ : ∃ W, w.alloc (.cells #[.int .i64 6, .string nb, vs, .int .i64 nk, .int .i64 nn, .bool ng, vm, .slice Ak (L) ck] 42) = W := ⟨_, rfl⟩
  have hb0 : Below w.heap.size w W := by rw [← hW]; exact (Below.refl _ _).alloc (Nat.le_refl _) _
  have hX1 : w.heap.size < W.heap.size := by rw [← hW]; simp
  have x0 : W.cell? ⟨w.heap.size, 0, none⟩ = some (.int .i64 6) := by rw [← hW, World.cell?_alloc_at _ _ _ _ rfl]; rfl
  have x7 : W.cell? ⟨w.heap.size, 7, none⟩ = some (.slice Ak (L) ck) := by rw [← hW, World.cell?_alloc_at _ _ _ _ rfl]; rfl
  have HKW := hide (hk.below (hb0.mono (Nat.le_of_lt hp.blt)))
  have HS := hide hs
  have HN := hide hN
  have HP0 := hide (hp.below hb0)
  have HB0 := hide hb0
  obtain ⟨mm1, rr1⟩ := hm.two (b := declsP x (prs l)) (c := [[59]]) rfl
  have M1 := hide mm1
  have M2 := hide rr1
  have HLL := hide hL
  clear hL
  have HAT := hide hat
  have HKX := hide hx
  clear hat hx
  obtain ⟨X, hX⟩ : ∃ X, w.heap.size = X := ⟨_, rfl⟩
  go_enter Tryd.func46, Tryd.ntmps46
  go_upto_region 1 with (fail)
  clear hm hp hb0 hN hs hk mm1 rr1
  clear hW
  rw [hX] at x0 x7 hX1
  clear hX
  have C1 := hide (pdecls_any HN.out HS.out HAT.out HKX.out HP0.out (by rw [HLL.out]; exact hL6) M1.out)
  go_wp2_with fail
  refine C1.out.mono ?_
  rintro e1 w1 ⟨rfl, v1, hp1, hk1⟩
  have HP1 := hide hp1
  have HK1 := hide (hk1)
  clear hp1 hk1
  have C2 := hide (put_lit HP1.out [[59]] 1 rfl M2.out)
  go_wp2_with fail
  refine C2.out.mono ?_
  rintro e2 w2 ⟨rfl, v2, hp2, hk2⟩
  have HP2 := hide hp2
  have HK2 := hide (HK1.out.trans hk2)
  clear hp2 hk2
  go_wp2_with fail
  refine bodyPost_ret (v := .tuple #[]) (by simp [results, Tryd.results46, go_sem]) rfl ?_
  refine PutQ.back HB0.out ⟨rfl, v2, ?_, HK2.out⟩
  have := HP2.out
  simp only [← putA_app] at this
  exact this
set_option maxHeartbeats 4000000 in
set_option maxRecDepth 100000 in
theorem ex_33 {C : Cx} {m ck : Nat} {Ak : Option Addr} {us : List UInt16} {v : Value} {w : World} (nm : List UInt8) (vs vm : Value) (nk nn : Int) (ng : Bool) (hN : NodeC C m) (hp : Pe C us v w) (hm : MayPut us ([nm])) :
    Calls Tryd.prog 47 #[.pointer (some ⟨C.g, 0, none⟩), .agg #[.int .i64 33, .string ⟨nm.toArray⟩, vs, .int .i64 nk, .int .i64 nn, .bool ng, vm, .slice Ak 0 ck]] w (PutQ C us v w ([nm])) := by
  obtain ⟨W, hW⟩ : ∃ W, w.alloc (.cells #[.int .i64 33, .string ⟨nm.toArray⟩, vs, .int .i64 nk, .int .i64 nn, .bool ng, vm, .slice Ak 0 ck] 42) = W := ⟨_, rfl⟩
  have hb0 : Below w.heap.size w W := by rw [← hW]; exact (Below.refl _ _).alloc (Nat.le_refl _) _
  have hX1 : w.heap.size < W.heap.size := by rw [← hW]; simp
  have hXg : w.heap.size ≠ C.g := fun e => by have := hp.pn.lt; omega
  have hXv : v.ownBlock ≠ some w.heap.size := fun e => by have := (hp.pn.own.lt _ e).2; omega
  have x0 : W.cell? ⟨w.heap.size, 0, none⟩ = some (.int .i64 33) := by rw [← hW, World.cell?_alloc_at _ _ _ _ rfl]; rfl
  have x7 : W.cell? ⟨w.heap.size, 7, none⟩ = some (.slice Ak 0 ck) := by rw [← hW, World.cell?_alloc_at _ _ _ _ rfl]; rfl
  have x1 : W.cell? ⟨w.heap.size, 1, none⟩ = some (.string ⟨nm.toArray⟩) := by rw [← hW, World.cell?_alloc_at _ _ _ _ rfl]; rfl
  have HP0 := hide (hp.below hb0)
  have HB0 := hide hb0
  have HN := hide hN
  have M1 := hide hm
  obtain ⟨X, hX⟩ : ∃ X, w.heap.size = X := ⟨_, rfl⟩
  go_enter Tryd.func47, Tryd.ntmps47
  go_upto_region 1 with (fail)
  clear hm hp hb0 hN
  clear hW
  rw [hX] at x0
  rw [hX] at x7
  rw [hX] at x1
  rw [hX] at hX1 hXg hXv
  clear hX
  have C1 := hide (put_lit HP0.out [nm] 1 rfl M1.out)
  go_wp2_with fail
  refine C1.out.mono ?_
  rintro e1 w1 ⟨rfl, v1, hp1, hk1⟩
  have HP1 := hide hp1
  have HK1 := hide (hk1)
  have x0_1 := (HK1.out.cell (p := ⟨X, 0, none⟩) hX1 hXg hXv).trans x0
  have x7_1 := (HK1.out.cell (p := ⟨X, 7, none⟩) hX1 hXg hXv).trans x7
  have x1_1 := (HK1.out.cell (p := ⟨X, 1, none⟩) hX1 hXg hXv).trans x1
  clear hp1 hk1
  go_wp2_with fail
  refine bodyPost_ret (v := .tuple #[]) (by simp [results, Tryd.results47, go_sem]) rfl ?_
  refine PutQ.back HB0.out ⟨rfl, v1, ?_, HK1.out⟩
  exact HP1.out
set_option maxHeartbeats 4000000 in
set_option maxRecDepth 100000 in
theorem ex_34 {C : Cx} {m ck : Nat} {Ak : Option Addr} {us : List UInt16} {v : Value} {w : World} (nm : List UInt8) (vs vm : Value) (nk nn : Int) (ng : Bool) (hN : NodeC C m) (hp : Pe C us v w) (hm : MayPut us ([[116, 114, 117, 101]])) :
    Calls Tryd.prog 47 #[.pointer (some ⟨C.g, 0, none⟩), .agg #[.int .i64 34, .string ⟨nm.toArray⟩, vs, .int .i64 nk, .int .i64 nn, .bool ng, vm, .slice Ak 0 ck]] w (PutQ C us v w ([[116, 114, 117, 101]])) := by
  obtain ⟨W, hW⟩ : ∃ W, w.alloc (.cells #[.int .i64 34, .string ⟨nm.toArray⟩, vs, .int .i64 nk, .int .i64 nn, .bool ng, vm, .slice Ak 0 ck] 42) = W := ⟨_, rfl⟩
  have hb0 : Below w.heap.size w W := by rw [← hW]; exact (Below.refl _ _).alloc (Nat.le_refl _) _
  have hX1 : w.heap.size < W.heap.size := by rw [← hW]; simp
  have hXg : w.heap.size ≠ C.g := fun e => by have := hp.pn.lt; omega
  have hXv : v.ownBlock ≠ some w.heap.size := fun e => by have := (hp.pn.own.lt _ e).2; omega
  have x0 : W.cell? ⟨w.heap.size, 0, none⟩ = some (.int .i64 34) := by rw [← hW, World.cell?_alloc_at _ _ _ _ rfl]; rfl
  have x7 : W.cell? ⟨w.heap.size, 7, none⟩ = some (.slice Ak 0 ck) := by rw [← hW, World.cell?_alloc_at _ _ _ _ rfl]; rfl
  have HP0 := hide (hp.below hb0)
  have HB0 := hide hb0
  have HN := hide hN
  have M1 := hide hm
  obtain ⟨X, hX⟩ : ∃ X, w.heap.size = X := ⟨_, rfl⟩
  go_enter Tryd.func47, Tryd.ntmps47
  go_upto_region 1 with (fail)
  clear hm hp hb0 hN
  clear hW
  rw [hX] at x0
  rw [hX] at x7
  rw [hX] at hX1 hXg hXv
  clear hX
  have C1 := hide (put_lit HP0.out [[116, 114, 117, 101]] 1 rfl M1.out)
  go_wp2_with fail
  refine C1.out.mono ?_
  rintro e1 w1 ⟨rfl, v1, hp1, hk1⟩
  have HP1 := hide hp1
  have HK1 := hide (hk1)
  have x0_1 := (HK1.out.cell (p := ⟨X, 0, none⟩) hX1 hXg hXv).trans x0
  have x7_1 := (HK1.out.cell (p := ⟨X, 7, none⟩) hX1 hXg hXv).trans x7
  clear hp1 hk1
  go_wp2_with fail
  refine bodyPost_ret (v := .tuple #[]) (by simp [results, Tryd.results47, go_sem]) rfl ?_
  refine PutQ.back HB0.out ⟨rfl, v1, ?_, HK1.out⟩
  exact HP1.out
set_option maxHeartbeats 4000000 in
set_option maxRecDepth 100000 in
theorem ex_35 {C : Cx} {m ck : Nat} {Ak : Option Addr} {us : List UInt16} {v : Value} {w : World} (nm : List UInt8) (vs vm : Value) (nk nn : Int) (ng : Bool) (hN : NodeC C m) (hp : Pe C us v w) (hm : MayPut us ([[102, 97, 108, 115, 101]])) :
    Calls Tryd.prog 47 #[.pointer (some ⟨C.g, 0, none⟩), .agg #[.int .i64 35, .string ⟨nm.toArray⟩, vs, .int .i64 nk, .int .i64 nn, .bool ng, vm, .slice Ak 0 ck]] w (PutQ C us v w ([[102, 97, 108, 115, 101]])) := by
  obtain ⟨W, hW⟩ : ∃ W, w.alloc (.cells #[.int .i64 35, .string ⟨nm.toArray⟩, vs, .int .i64 nk, .int .i64 nn, .bool ng, vm, .slice Ak 0 ck] 42) = W := ⟨_, rfl⟩
  have hb0 : Below w.heap.size w W := by rw [← hW]; exact (Below.refl _ _).alloc (Nat.le_refl _) _
  have hX1 : w.heap.size < W.heap.size := by rw [← hW]; simp
  have hXg : w.heap.size ≠ C.g := fun e => by have := hp.pn.lt; omega
  have hXv : v.ownBlock ≠ some w.heap.size := fun e => by have := (hp.pn.own.lt _ e).2; omega
  have x0 : W.cell? ⟨w.heap.size, 0, none⟩ = some (.int .i64 35) := by rw [← hW, World.cell?_alloc_at _ _ _ _ rfl]; rfl
  have x7 : W.cell? ⟨w.heap.size, 7, none⟩ = some (.slice Ak 0 ck) := by rw [← hW, World.cell?_alloc_at _ _ _ _ rfl]; rfl
  have HP0 := hide (hp.below hb0)
  have HB0 := hide hb0
  have HN := hide hN
  have M1 := hide hm
  obtain ⟨X, hX⟩ : ∃ X, w.heap.size = X := ⟨_, rfl⟩
  go_enter Tryd.func47, Tryd.ntmps47
  go_upto_region 1 with (fail)
  clear hm hp hb0 hN
  clear hW
  rw [hX] at x0
  rw [hX] at x7
  rw [hX] at hX1 hXg hXv
  clear hX
  have C1 := hide (put_lit HP0.out [[102, 97, 108, 115, 101]] 1 rfl M1.out)
  go_wp2_with fail
  refine C1.out.mono ?_
  rintro e1 w1 ⟨rfl, v1, hp1, hk1⟩
  have HP1 := hide hp1
  have HK1 := hide (hk1)
  have x0_1 := (HK1.out.cell (p := ⟨X, 0, none⟩) hX1 hXg hXv).trans x0
  have x7_1 := (HK1.out.cell (p := ⟨X, 7, none⟩) hX1 hXg hXv).trans x7
  clear hp1 hk1
  go_wp2_with fail
  refine bodyPost_ret (v := .tuple #[]) (by simp [results, Tryd.results47, go_sem]) rfl ?_
  refine PutQ.back HB0.out ⟨rfl, v1, ?_, HK1.out⟩
  exact HP1.out
set_option maxHeartbeats 4000000 in
set_option maxRecDepth 100000 in
theorem ex_36 {C : Cx} {m ck : Nat} {Ak : Option Addr} {us : List UInt16} {v : Value} {w : World} (nm : List UInt8) (vs vm : Value) (nk nn : Int) (ng : Bool) (hN : NodeC C m) (hp : Pe C us v w) (hm : MayPut us ([[110, 117, 108, 108]])) :
    Calls Tryd.prog 47 #[.pointer (some ⟨C.g, 0, none⟩), .agg #[.int .i64 36, .string ⟨nm.toArray⟩, vs, .int .i64 nk, .int .i64 nn, .bool ng, vm, .slice Ak 0 ck]] w (PutQ C us v w ([[110, 117, 108, 108]])) := by
  obtain ⟨W, hW⟩ : ∃ W, w.alloc (.cells #[.int .i64 36, .string ⟨nm.toArray⟩, vs, .int .i64 nk, .int .i64 nn, .bool ng, vm, .slice Ak 0 ck] 42) = W := ⟨_, rfl⟩
  have hb0 : Below w.heap.size w W := by rw [← hW]; exact (Below.refl _ _).alloc (Nat.le_refl _) _
  have hX1 : w.heap.size < W.heap.size := by rw [← hW]; simp
  have hXg : w.heap.size ≠ C.g := fun e => by have := hp.pn.lt; omega
  have hXv : v.ownBlock ≠ some w.heap.size := fun e => by have := (hp.pn.own.lt _ e).2; omega
  have x0 : W.cell? ⟨w.heap.size, 0, none⟩ = some (.int .i64 36) := by rw [← hW, World.cell?_alloc_at _ _ _ _ rfl]; rfl
  have x7 : W.cell? ⟨w.heap.size, 7, none⟩ = some (.slice Ak 0 ck) := by rw [← hW, World.cell?_alloc_at _ _ _ _ rfl]; rfl
  have HP0 := hide (hp.below hb0)
  have HB0 := hide hb0
  have HN := hide hN
  have M1 := hide hm
  obtain ⟨X, hX⟩ : ∃ X, w.heap.size = X := ⟨_, rfl⟩
  go_enter Tryd.func47, Tryd.ntmps47
  go_upto_region 1 with (fail)
  clear hm hp hb0 hN
  clear hW
  rw [hX] at x0
  rw [hX] at x7
  rw [hX] at hX1 hXg hXv
  clear hX
  have C1 := hide (put_lit HP0.out [[110, 117, 108, 108]] 1 rfl M1.out)
  go_wp2_with fail
  refine C1.out.mono ?_
  rintro e1 w1 ⟨rfl, v1, hp1, hk1⟩
  have HP1 := hide hp1
  have HK1 := hide (hk1)
  have x0_1 := (HK1.out.cell (p := ⟨X, 0, none⟩) hX1 hXg hXv).trans x0
  have x7_1 := (HK1.out.cell (p := ⟨X, 7, none⟩) hX1 hXg hXv).trans x7
  clear hp1 hk1
  go_wp2_with fail
  refine bodyPost_ret (v := .tuple #[]) (by simp [results, Tryd.results47, go_sem]) rfl ?_
  refine PutQ.back HB0.out ⟨rfl, v1, ?_, HK1.out⟩
  exact HP1.out
set_option maxHeartbeats 4000000 in
set_option maxRecDepth 100000 in
theorem ex_37 {C : Cx} {m ck : Nat} {Ak : Option Addr} {us : List UInt16} {v : Value} {w : World} (nm : List UInt8) (vs vm : Value) (nk nn : Int) (ng : Bool) (hN : NodeC C m) (hp : Pe C us v w) (hm : MayPut us ([[116, 104, 105, 115]])) :
    Calls Tryd.prog 47 #[.pointer (some ⟨C.g, 0, none⟩), .agg #[.int .i64 37, .string ⟨nm.toArray⟩, vs, .int .i64 nk, .int .i64 nn, .bool ng, vm, .slice Ak 0 ck]] w (PutQ C us v w ([[116, 104, 105, 115]])) := by
  obtain ⟨W, hW⟩ : ∃ W, w.alloc (.cells #[.int .i64 37, .string ⟨nm.toArray⟩, vs, .int .i64 nk, .int .i64 nn, .bool ng, vm, .slice Ak 0 ck] 42) = W := ⟨_, rfl⟩
  have hb0 : Below w.heap.size w W := by rw [← hW]; exact (Below.refl _ _).alloc (Nat.le_refl _) _
  have hX1 : w.heap.size < W.heap.size := by rw [← hW]; simp
  have hXg : w.heap.size ≠ C.g := fun e => by have := hp.pn.lt; omega
  have hXv : v.ownBlock ≠ some w.heap.size := fun e => by have := (hp.pn.own.lt _ e).2; omega
  have x0 : W.cell? ⟨w.heap.size, 0, none⟩ = some (.int .i64 37) := by rw [← hW, World.cell?_alloc_at _ _ _ _ rfl]; rfl
  have x7 : W.cell? ⟨w.heap.size, 7, none⟩ = some (.slice Ak 0 ck) := by rw [← hW, World.cell?_alloc_at _ _ _ _ rfl]; rfl
  have HP0 := hide (hp.below hb0)
  have HB0 := hide hb0
  have HN := hide hN
  have M1 := hide hm
  obtain ⟨X, hX⟩ : ∃ X, w.heap.size = X := ⟨_, rfl⟩
  go_enter Tryd.func47, Tryd.ntmps47
  go_upto_region 1 with (fail)
  clear hm hp hb0 hN
  clear hW
  rw [hX] at x0
  rw [hX] at x7
  rw [hX] at hX1 hXg hXv
  clear hX
  have C1 := hide (put_lit HP0.out [[116, 104, 105, 115]] 1 rfl M1.out)
  go_wp2_with fail
  refine C1.out.mono ?_
  rintro e1 w1 ⟨rfl, v1, hp1, hk1⟩
  have HP1 := hide hp1
  have HK1 := hide (hk1)
  have x0_1 := (HK1.out.cell (p := ⟨X, 0, none⟩) hX1 hXg hXv).trans x0
  have x7_1 := (HK1.out.cell (p := ⟨X, 7, none⟩) hX1 hXg hXv).trans x7
  clear hp1 hk1
  go_wp2_with fail
  refine bodyPost_ret (v := .tuple #[]) (by simp [results, Tryd.results47, go_sem]) rfl ?_
  refine PutQ.back HB0.out ⟨rfl, v1, ?_, HK1.out⟩
  exact HP1.out
end Go.Proofs.YtelcjdblnagdgaaDoor

namespace Go.Proofs.YtelcjdblnagdgaaDoor
open Go.RowKit

theorem Reads.spot {w : World} {B n : Nat} {A : Option Addr} {l : List UInt8} (h : Reads w B 1 A n (u8s l)) (h0 : 0 < l.length) :
    ∃ b off, A = some ⟨b, off, none⟩ ∧ ∀ j, j < l.length → w.cell? ⟨b, off + j, none⟩ = some (.int .u8 ((l.getD j 0).toNat : Int)) := by
  have hl : l.length = n := by have := h.1; simpa [u8s] using this
  obtain ⟨ad, e, hb, hc⟩ := h.2 (by omega)
  have hs : ad.spot = none := by
    have h1 := hc 0 (u8v l[0]) (by rw [u8s, List.getElem?_map, List.getElem?_eq_getElem h0]; rfl)
    cases hsp : ad.spot with
    | none => rfl
    | some s =>
      exfalso
      simp only [Addr.add, if_true, World.cell?, hsp] at h1
      split at h1
      · simp at h1
      · cases h1
  obtain ⟨b, off, sp⟩ := ad
  simp only at hs
  subst hs
  refine ⟨b, off, e, fun j hj => ?_⟩
  have h1 := hc j (u8v l[j]) (by rw [u8s, List.getElem?_map, List.getElem?_eq_getElem hj]; rfl)
  rw [Addr.add_lit] at h1
  rw [h1]
  simp [u8v, List.getD, hj]

theorem run_str {w : World} {B n c : Nat} {A : Option Addr} {l : List UInt8} (h : Reads w B 1 A n (u8s l)) :
    (convert 93 9 (.slice A n c)).run Tryd.prog w = .ok (.string ⟨l.toArray⟩) w := by
  have hl : l.length = n := by have := h.1; simpa [u8s] using this
  rcases Nat.eq_zero_or_pos l.length with h0 | h0
  · have hx : l = [] := List.eq_nil_of_length_eq_zero h0
    subst hx
    have hn : n = 0 := hl.symm
    subst hn
    clear hl h
    rw [run_convert_bytes_string w _ _ 5 A 0 c Tryd.underlying93 Tryd.underlying5 Tryd.underlying9]
    cases A with
    | none => rfl
    | some a => exact run_bytesToString w a 0 c [] rfl
  · obtain ⟨b, off, rfl, hc⟩ := h.spot h0
    rw [run_convert_bytes_arg w _ 5 Tryd.underlying93 Tryd.underlying5 b off n c (l.map fun x => (x.toNat : Int)) (by simpa using hl) (fun i hi => by rw [hc i (by omega)]; simp [List.getD, show i < l.length by omega]) _ Tryd.underlying9]
    congr 3
    simp only [strOfNums, List.map_map]
    congr 1
    have e : ((fun n : Int => UInt8.ofNat n.toNat) ∘ fun x : UInt8 => (x.toNat : Int)) = id := by
      funext x; simp
    rw [e, List.map_id]

end Go.Proofs.YtelcjdblnagdgaaDoor

namespace Go.Proofs.YtelcjdblnagdgaaDoor
open Go.RowKit

section
variable {P : Program} {w0 w : World} {ops : Array Oper} {o : Oper} {a : Act} {K : Act → World → Prop} {Q : Exit → Act → World → Prop} {E : Prop}
/-- append of what the operation ahead has laid, at a step of a region that draws. -/
theorem step_litB (hgd : o.guard = none) (s x : Operand) (t : TypeId)
    (ho : o.op = .call { callee := .builtin .append, args := #[s, x], argTypes := #[t, t] })
    (e : TypeId) (i : TypeInfo) (z : Value) (bytes : Nat) (ht : P.underlying t = some (.slice e)) (hi : P.info? e = some i) (hz : i.zero = some z)
    (hsize : i.size = 1) (hby : i.bytes = bytes) (hzs : z.cells.size = 1)
    (v : Value) (xs : List Value) (hs : a.eval s = v) (hm : Made w0 w e v xs)
    (cs : List Value) (m c : Nat) (hx : a.eval x = .slice (some ⟨w.heap.size, 0, none⟩) m c) (hl : cs.length = m) (h1 : (cs.all fun u => u.oneCell') = true)
    (hm0 : 0 < m) (hsz : xs.length + m ≤ 70368744177664) (hb2 : bytes ≤ 2)
    (h : ∀ v' w', Made w0 w' e v' (xs ++ cs) → w.grownBy w' v.ownBlock → K (a.put o.dst v') w') :
    if Region.wanted o (yielded ops a.tmps) = true then Oper.wp P o a (w.alloc (.cells cs.toArray e)) K Q else E := by
  subst hl
  refine step_append_lies (w.alloc (.cells cs.toArray e)) hgd s x t ho w0.heap.size e i z 1 bytes ht hi hz hsize hby hzs (by omega) v xs.length xs hs (hm.own.alloc _) ⟨w.heap.size, 0, none⟩ _ c cs hx (by omega) ?_ (fun u hu => List.all_eq_true.1 h1 u hu) hm0 (by unfold maxLen; omega) ?_ (Nat.le_trans hm.below.size (by simp)) _ rfl ?_
  · intro j u hu
    rw [Addr.add_lit, World.cell?_alloc_at _ _ _ _ rfl]
    simpa using hu
  · calc (xs.length + cs.length) * bytes ≤ 70368744177664 * 2 := Nat.mul_le_mul hsz hb2
      _ ≤ 140737488355328 := by omega
  · intro gg cap w' h1 h2 _ _
    have hgr : w.grownBy w' v.ownBlock := grown_trans (grown_alloc w _ _) h2
    exact h _ w' ⟨by rw [List.length_append]; exact h1, hm.below.grown hgr hm.below.size (fun k hk => (hm.own.lt k hk).1)⟩ hgr
theorem step_litD (hgd : o.guard = none) (s x : Operand) (t : TypeId)
    (ho : o.op = .call { callee := .builtin .append, args := #[s, x], argTypes := #[t, t] })
    (e : TypeId) (i : TypeInfo) (z : Value) (bytes : Nat) (ht : P.underlying t = some (.slice e)) (hi : P.info? e = some i) (hz : i.zero = some z)
    (hsize : i.size = 1) (hby : i.bytes = bytes) (hzs : z.cells.size = 1)
    (v : Value) (xs : List Value) (hs : a.eval s = v) (hm : Made w0 w e v xs)
    (cs : List Value) (m c : Nat) (hx : a.eval x = .slice (some ⟨w.heap.size, 0, none⟩) m c) (hl : cs.length = m) (h1 : (cs.all fun u => u.oneCell') = true)
    (hm0 : 0 < m) (hsz : xs.length + m ≤ 70368744177664) (hb2 : bytes ≤ 2)
    (h : ∀ v' w', Made w0 w' e v' (xs ++ cs) → K (a.put o.dst v') w') :
    if Region.wanted o (yielded ops a.tmps) = true then Oper.wp P o a (w.alloc (.cells cs.toArray e)).drew K Q else E :=
  step_litB (w := w.drew) hgd s x t ho e i z bytes ht hi hz hsize hby hzs v xs hs hm.drew cs m c hx hl h1 hm0 hsz hb2 (fun v' w' h1 _ => h v' w' h1)
end
def quoA (u : List UInt16) : List UInt8 := 34 :: u.flatMap quo1
theorem quoA_take {u : List UInt16} {k : Nat} (h : k < u.length) : quoA (u.take (k + 1)) = quoA (u.take k) ++ quo1 u[k] := by
  unfold quoA
  rw [List.take_succ_eq_append_getElem h, List.flatMap_append]
  simp
theorem quo1_lenQ (x : UInt16) : (quo1 x).length ≤ 6 := by unfold quo1; split <;> simp
theorem quoA_len (u : List UInt16) : (quoA u).length ≤ 6 * u.length + 1 := by
  unfold quoA
  rw [List.length_cons]
  have : (u.flatMap quo1).length ≤ 6 * u.length := by
    induction u with
    | nil => simp
    | cons x r ih => rw [List.flatMap_cons, List.length_append, List.length_cons]; have := quo1_lenQ x; omega
  omega
theorem hex_get {d : Nat} (hd : d < 16) : ∀ h, (ByteArray.mk #[48, 49, 50, 51, 52, 53, 54, 55, 56, 57, 97, 98, 99, 100, 101, 102])[d]'h = hexD d := by
  have h : d = 0 ∨ d = 1 ∨ d = 2 ∨ d = 3 ∨ d = 4 ∨ d = 5 ∨ d = 6 ∨ d = 7 ∨ d = 8 ∨ d = 9 ∨ d = 10 ∨ d = 11 ∨ d = 12 ∨ d = 13 ∨ d = 14 ∨ d = 15 := by omega
  rcases h with rfl | rfl | rfl | rfl | rfl | rfl | rfl | rfl | rfl | rfl | rfl | rfl | rfl | rfl | rfl | rfl <;> exact fun _ => rfl
theorem and15 {x : Nat} (h : x < 65536) : bits .and .u16 (x : Int) 15 = ((x % 16 : Nat) : Int) := by
  have := u16_and_nat x 15 h (by omega)
  rw [show (15 : Int) = ((15 : Nat) : Int) from rfl, this, show (15 : Nat) = 2 ^ 4 - 1 from rfl, Nat.and_two_pow_sub_one_eq_mod]
theorem quoP_is (u : List UInt16) : quoP u = quoA u ++ [34] := rfl
theorem quoP_cells (u : List UInt16) : u8s (quoA u) ++ [.int .u8 34] = u8s (quoP u) := by rw [quoP_is]; unfold u8s; rw [List.map_append]; rfl
set_option maxHeartbeats 40000000 in
set_option maxRecDepth 100000 in
theorem quoted_any {A : Option Addr} {c B n : Nat} {us : List UInt16} {w : World} (hn : us.length = n) (hB : B ≤ w.heap.size) (ha : Reads w B 1 A n (u16s us)) (hl : n ≤ 1000000) :
    Calls Tryd.prog 66 #[.slice A n c] w fun e w' => e = .returned (.string ⟨(quoP us).toArray⟩) ∧ Below w.heap.size w w' := by
  subst hn
  obtain ⟨i0, hi0, hz0, hz1, hz2⟩ := info_parts Tryd.info_u8
  have HA := hide ha
  have HM0 := hide (Made.lit w 5 (u8s [34]) (by simp [u8s, maxLen]))
  clear ha
  go_enter Tryd.func66, Tryd.ntmps66
  go_wp2_with fail
  go_loopg [3, 9] us.length (fun r v i wr => ∃ k : Nat, k + r = us.length ∧ i = .int .i64 k ∧ Hid (Made w wr 5 v (u8s (quoA (us.take k)))))
  case atStart => exact ⟨0, by omega, rfl, HM0.out⟩
  case round =>
    obtain ⟨k, hkr, rfl, hm⟩ := hrel
    have hq := quoA_len (us.take k)
    have hq2 : (u8s (quoA (us.take k))).length ≤ 6 * k + 1 := by rw [u8s_len]; rw [List.length_take] at hq; omega
    clear hq
    by_cases hlt : k < us.length
    · obtain ⟨ad, hA, _, hca⟩ := (HA.out.below (hm.out.below.mono hB)).u16 hlt
      subst hA
      have h3 : (k : Int) < (us.length : Int) := by omega
      have hx := us[k].toNat_lt
      have HT := hide (quoA_take hlt)
      obtain ⟨x, hxx⟩ : ∃ x, us[k] = x := ⟨_, rfl⟩
      rw [hxx] at hca hx HT
      clear hxx
      by_cases hp : 32 ≤ x.toNat ∧ x.toNat ≤ 126 ∧ x.toNat ≠ 34 ∧ x.toNat ≠ 92
      · have HQ1 := hide (show quo1 x = [x.toUInt8] by unfold quo1; rw [if_pos hp])
        obtain ⟨p1, p2, p3, p4⟩ := hp
        obtain ⟨y, hy⟩ : ∃ y, x.toNat = y := ⟨_, rfl⟩
        have HC := hide (show u8s [x.toUInt8] = [.int .u8 (y : Int)] by rw [← hy]; simp [u8s, u8v]; omega)
        rw [hy] at p1 p2 p3 p4 hca hx
        clear hy
        have q3 : ((y : Int) != 34) = true := by simp; omega
        have q4 : ((y : Int) != 92) = true := by simp; omega
        go_wp2_with (at_builtin; refine wpList_lit rfl _ _ 93 rfl 5 i0 _ 1 Tryd.underlying93 hi0 hz0 hz1 hz2 rfl _ _ rfl hm.out [.int .u8 (y : Int)] 1 1 rfl rfl rfl (by omega) (by omega) ?_; intro v' w' hm')
        go_roundg (gk - 1)
        all_goals first
          | omega
          | exact ⟨k + 1, by omega, by go_num, hm'.cells (by rw [HT.out, HQ1.out, ← HC.out]; simp [u8s])⟩
      · have HQ1 := hide (show quo1 x = [92, 117, hexD (x.toNat / 4096), hexD (x.toNat / 256 % 16), hexD (x.toNat / 16 % 16), hexD (x.toNat % 16)] by unfold quo1; rw [if_neg hp])
        obtain ⟨y, hy⟩ : ∃ y, x.toNat = y := ⟨_, rfl⟩
        rw [hy] at hp hca hx HQ1
        clear hy
        have hy4 : y < 65536 := hx
        obtain ⟨d0, hd0⟩ : ∃ d, y / 4096 = d := ⟨_, rfl⟩
        obtain ⟨d1, hd1⟩ : ∃ d, y / 256 % 16 = d := ⟨_, rfl⟩
        obtain ⟨d2, hd2⟩ : ∃ d, y / 16 % 16 = d := ⟨_, rfl⟩
        obtain ⟨d3, hd3⟩ : ∃ d, y % 16 = d := ⟨_, rfl⟩
        have e0 : (y : Int) / 4096 = (d0 : Int) := by omega
        have e1 : bits .and .u16 ((y : Int) / 256) 15 = (d1 : Int) := by
          rw [show (y : Int) / 256 = ((y / 256 : Nat) : Int) by omega, and15 (by omega), hd1]
        have e2 : bits .and .u16 ((y : Int) / 16) 15 = (d2 : Int) := by
          rw [show (y : Int) / 16 = ((y / 16 : Nat) : Int) by omega, and15 (by omega), hd2]
        have e3 : bits .and .u16 (y : Int) 15 = (d3 : Int) := by rw [and15 hy4, hd3]
        have l0 : d0 < 16 := by omega
        have l1 : d1 < 16 := by omega
        have l2 : d2 < 16 := by omega
        have l3 : d3 < 16 := by omega
        have g0 := hex_get l0
        have g1 := hex_get l1
        have g2 := hex_get l2
        have g3 := hex_get l3
        have k0 : (d0 : Int) < 16 := by omega
        have k1 : (d1 : Int) < 16 := by omega
        have k2 : (d2 : Int) < 16 := by omega
        have k3 : (d3 : Int) < 16 := by omega
        rw [hd0, hd1, hd2, hd3] at HQ1
        have hc : (¬ 32 ≤ y) ∨ (32 ≤ y ∧ ¬ y ≤ 126) ∨ (32 ≤ y ∧ y ≤ 126 ∧ y = 34) ∨ (32 ≤ y ∧ y ≤ 126 ∧ y = 92) := by omega
        clear hp hd0 hd1 hd2 hd3
        go_upto_region 5 with (fail)
        go_cut [9, 26] (fun i cc wx => i = .int .i64 k ∧ cc = .bool false ∧ wx = wr)
        case first =>
          rcases hc with c1 | ⟨c1, c2⟩ | ⟨c1, c2, c3⟩ | ⟨c1, c2, c4⟩
          · have b1 : ¬ (32 ≤ (y : Int)) := by omega
            go_wp2_with fail
            go_meet
            exact ⟨rfl, rfl, rfl⟩
          · have b2 : ¬ ((y : Int) ≤ 126) := by omega
            go_wp2_with fail
            go_meet
            exact ⟨rfl, rfl, rfl⟩
          · have b3 : ((y : Int) != 34) = false := by simp; omega
            clear c3
            go_wp2_with fail
            go_meet
            exact ⟨rfl, rfl, rfl⟩
          · have b3 : ((y : Int) != 34) = true := by simp; omega
            have b4 : ((y : Int) != 92) = false := by simp; omega
            clear c4
            go_wp2_with fail
            go_meet
            exact ⟨rfl, rfl, rfl⟩
        case rest =>
          obtain ⟨rfl, rfl, rfl⟩ := hcut
          go_wp2_with fail
          go_region_law (refine step_litD rfl _ _ 93 rfl 5 i0 _ 1 Tryd.underlying93 hi0 hz0 hz1 hz2 rfl _ _ rfl hm.out [.int .u8 92, .int .u8 117, .int .u8 ((hexD d0).toNat : Int), .int .u8 ((hexD d1).toNat : Int), .int .u8 ((hexD d2).toNat : Int), .int .u8 ((hexD d3).toNat : Int)] 6 6 rfl rfl rfl (by omega) (by omega) (by omega) ?_; intro v' w' hm')
          all_goals go_wp2
          all_goals go_roundg (gk - 1)
          all_goals first
            | omega
            | exact ⟨k + 1, by omega, by go_num, hm'.cells (by rw [HT.out, HQ1.out]; simp [u8s, u8v])⟩
    · have hkk : us.take k = us := List.take_of_length_le (by omega)
      rw [hkk] at hm hq2
      go_wp2_with (at_builtin; refine wpList_lit rfl _ _ 93 rfl 5 i0 _ 1 Tryd.underlying93 hi0 hz0 hz1 hz2 rfl _ _ rfl hm.out [.int .u8 34] 1 1 rfl rfl rfl (by omega) (by omega) ?_; intro v' w' hm'; have hm2 : Made w w' 5 v' (u8s (quoP us)) := hm'.cells (quoP_cells us); obtain ⟨A', c', rfl, _, _, hr⟩ := hm2.u8; have hs := run_str (c := c') hr)
      go_ret
      exact ⟨rfl, hm2.below⟩
end Go.Proofs.YtelcjdblnagdgaaDoor

namespace Go.Proofs.YtelcjdblnagdgaaDoor

def trimL : List Nat → List Nat
  | [] => []
  | x :: r => if trimL r = [] ∧ x = 0 then [] else x :: trimL r
theorem trimL_zero (l : List Nat) : trimL (l ++ [0]) = trimL l := by
  induction l with
  | nil => rfl
  | cons x r ih => rw [List.cons_append, trimL, trimL, ih]
theorem trimL_stop {x : Nat} (h : x ≠ 0) (l : List Nat) : trimL (l ++ [x]) = l ++ [x] := by
  induction l with
  | nil => simp [trimL, h]
  | cons y r ih => rw [List.cons_append, trimL, ih, if_neg (by simp)]
theorem trimL_take (l : List Nat) : trimL l = l.take (trimL l).length := by
  induction l with
  | nil => rfl
  | cons x r ih =>
    by_cases h : trimL r = [] ∧ x = 0
    · simp [trimL, h]
    · rw [trimL, if_neg h, List.length_cons, List.take_succ_cons, ← ih]
theorem trimL_len (l : List Nat) : (trimL l).length ≤ l.length := by
  have := congrArg List.length (trimL_take l)
  rw [List.length_take] at this
  omega
def valL : List Nat → Nat
  | [] => 0
  | x :: r => x + 4294967296 * valL r
theorem valL_app (l r : List Nat) : valL (l ++ r) = valL l + 4294967296 ^ l.length * valL r := by
  induction l with
  | nil => simp [valL]
  | cons x l ih =>
    rw [List.cons_append, valL, valL, ih, List.length_cons, Nat.pow_succ, Nat.mul_add, Nat.mul_comm (4294967296 ^ l.length) 4294967296, Nat.mul_assoc]
    omega
theorem trimL_nil {l : List Nat} : trimL l = [] ↔ valL l = 0 := by
  induction l with
  | nil => simp [trimL, valL]
  | cons x r ih =>
    rw [trimL, valL]
    by_cases h : trimL r = [] ∧ x = 0
    · rw [if_pos h]
      have := ih.1 h.1
      simp [this, h.2]
    · rw [if_neg h]
      constructor
      · intro h2; cases h2
      · intro h2
        exact absurd ⟨ih.2 (by omega), by omega⟩ h
theorem trimL_limbsN : ∀ (f : Nat) (l : List Nat), l.length ≤ f → (∀ x ∈ l, x < 4294967296) → trimL l = limbsN f (valL l) := by
  intro f
  induction f with
  | zero =>
    intro l hl _
    have : l = [] := List.eq_nil_of_length_eq_zero (by omega)
    subst this; rfl
  | succ f ih =>
    intro l hl hx
    cases l with
    | nil => rfl
    | cons x r =>
      have h1 := hx x (by simp)
      have h2 := ih r (by simp at hl; omega) (fun y hy => hx y (by simp [hy]))
      rw [limbsN, trimL]
      by_cases h : trimL r = [] ∧ x = 0
      · rw [if_pos h, if_pos (by rw [valL, trimL_nil.1 h.1, h.2])]
      · have hv : valL (x :: r) ≠ 0 := fun h3 => h (by
          rw [valL] at h3
          exact ⟨trimL_nil.2 (by omega), by omega⟩)
        rw [if_neg h, if_neg hv, valL, h2]
        congr 1
        · omega
        · congr 1; omega
theorem limbsN_le : ∀ (k f v : Nat), v < 4294967296 ^ k → (limbsN f v).length ≤ k := by
  intro k
  induction k with
  | zero =>
    intro f v hv
    have : v = 0 := by simpa using hv
    subst this
    cases f <;> simp [limbsN]
  | succ k ih =>
    intro f v hv
    cases f with
    | zero => simp [limbsN]
    | succ f =>
      rw [limbsN]
      by_cases h : v = 0
      · rw [if_pos h]; simp
      · rw [if_neg h, List.length_cons]
        have := ih f (v / 4294967296) (Nat.div_lt_of_lt_mul (by rw [Nat.pow_succ, Nat.mul_comm] at hv; exact hv))
        omega
theorem limbsN_gt : ∀ (k f v : Nat), k < f → 4294967296 ^ k ≤ v → k < (limbsN f v).length := by
  intro k
  induction k with
  | zero =>
    intro f v hf hv
    obtain ⟨f, rfl⟩ : ∃ m, f = m + 1 := ⟨f - 1, by omega⟩
    have hv1 : 1 ≤ v := hv
    rw [limbsN, if_neg (by omega)]; simp
  | succ k ih =>
    intro f v hf hv
    obtain ⟨f, rfl⟩ : ∃ m, f = m + 1 := ⟨f - 1, by omega⟩
    have h1 : 4294967296 ^ k ≤ v / 4294967296 := (Nat.le_div_iff_mul_le (by omega)).2 (by rw [← Nat.pow_succ]; exact hv)
    have h2 : 0 < 4294967296 ^ k := Nat.pow_pos (by omega)
    rw [limbsN, if_neg (by intro h; subst h; simp at h1), List.length_cons]
    have := ih f _ (by omega) h1
    omega
theorem limbsN_lt : ∀ (f v : Nat), ∀ x ∈ limbsN f v, x < 4294967296 := by
  intro f
  induction f with
  | zero => intro v x hx; simp [limbsN] at hx
  | succ f ih =>
    intro v x hx
    rw [limbsN] at hx
    split at hx
    · simp at hx
    · rcases List.mem_cons.1 hx with h | h
      · rw [h]; exact Nat.mod_lt _ (by omega)
      · exact ih _ x h
theorem limbsN_val : ∀ (f v : Nat), v < 4294967296 ^ f → valL (limbsN f v) = v := by
  intro f
  induction f with
  | zero => intro v hv; simp at hv; subst hv; rfl
  | succ f ih =>
    intro v hv
    rw [limbsN]
    by_cases h : v = 0
    · rw [if_pos h, h]; rfl
    · rw [if_neg h, valL, ih _ (Nat.div_lt_of_lt_mul (by rw [Nat.pow_succ, Nat.mul_comm] at hv; exact hv))]
      exact Nat.mod_add_div _ _
def mulGo : List Nat → Nat → List Nat × Nat
  | [], c => ([], c)
  | x :: r, c => ((c + 10 * x) % 4294967296 :: (mulGo r ((c + 10 * x) / 4294967296)).1, (mulGo r ((c + 10 * x) / 4294967296)).2)
theorem mulGo_len : ∀ (l : List Nat) (c : Nat), (mulGo l c).1.length = l.length := by
  intro l
  induction l with
  | nil => intro c; rfl
  | cons x r ih => intro c; simp [mulGo, ih]
theorem mulGo_lt : ∀ (l : List Nat) (c : Nat), ∀ x ∈ (mulGo l c).1, x < 4294967296 := by
  intro l
  induction l with
  | nil => intro c x hx; simp [mulGo] at hx
  | cons y r ih =>
    intro c x hx
    rw [mulGo] at hx
    rcases List.mem_cons.1 hx with h | h
    · rw [h]; exact Nat.mod_lt _ (by omega)
    · exact ih _ x h
theorem mulGo_val : ∀ (l : List Nat) (c : Nat), valL (mulGo l c).1 + 4294967296 ^ l.length * (mulGo l c).2 = 10 * valL l + c := by
  intro l
  induction l with
  | nil => intro c; simp [mulGo, valL]
  | cons x r ih =>
    intro c
    have h := ih ((c + 10 * x) / 4294967296)
    have h2 := Nat.mod_add_div (c + 10 * x) 4294967296
    simp only [mulGo, valL, List.length_cons]
    rw [Nat.pow_succ, Nat.mul_comm (4294967296 ^ r.length) 4294967296, Nat.mul_assoc]
    omega
theorem mulGo_carry : ∀ (l : List Nat) (c : Nat), c ≤ 9 → (∀ x ∈ l, x < 4294967296) → (mulGo l c).2 ≤ 9 := by
  intro l
  induction l with
  | nil => intro c hc _; exact hc
  | cons x r ih =>
    intro c hc hx
    have := hx x (by simp)
    exact ih _ (by omega) (fun y hy => hx y (by simp [hy]))
theorem big8_pos : big8 = 4294967296 ^ 8 := rfl
theorem limbs_le {v : Nat} (h : v < big8) : (limbs v).length ≤ 8 := limbsN_le 8 9 v h
theorem limbs_gt {v : Nat} (h : big8 ≤ v) : 8 < (limbs v).length := limbsN_gt 8 9 v (by omega) h
theorem limbs_lt (v : Nat) : ∀ x ∈ limbs v, x < 4294967296 := limbsN_lt 9 v
theorem big89 {v : Nat} (h : v < big8) : v < 4294967296 ^ 9 := Nat.lt_of_lt_of_le h (by rw [big8_pos]; exact Nat.pow_le_pow_right (by omega) (by omega))
/-- one digit more -/
theorem limbs_step {v d : Nat} (h : v < big8) (hd : d ≤ 9) : trimL ((mulGo (limbs v) d).1 ++ [(mulGo (limbs v) d).2]) = limbs (10 * v + d) := by
  have hc := mulGo_carry (limbs v) d hd (limbs_lt v)
  have hv := mulGo_val (limbs v) d
  have h1 : valL (limbs v) = v := limbsN_val 9 v (big89 h)
  rw [trimL_limbsN 9 _ (by rw [List.length_append, mulGo_len]; have := limbs_le h; simp; omega) (by
    intro x hx
    rcases List.mem_append.1 hx with h2 | h2
    · exact mulGo_lt _ _ x h2
    · simp at h2; omega)]
  rw [valL_app, mulGo_len, show valL [(mulGo (limbs v) d).2] = (mulGo (limbs v) d).2 by simp [valL], hv, h1]
  rfl
theorem limbs_trim {v : Nat} (h : v < big8) : trimL (limbs v) = limbs v := by
  rw [trimL_limbsN 9 _ (by have := limbs_le h; omega) (limbs_lt v), show valL (limbs v) = v from limbsN_val 9 v (big89 h)]
  rfl
theorem limbs_zero : limbs 0 = [] := rfl
end Go.Proofs.YtelcjdblnagdgaaDoor
