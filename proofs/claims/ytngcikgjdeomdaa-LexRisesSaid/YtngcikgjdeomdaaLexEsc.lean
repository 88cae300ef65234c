/- The reader's escape, walked: what stands behind a backslash. -/
import Derived.Test.YtngcikgjdeomdaaLexCode
import Derived.Laws.StandIn
import Derived.Lib.Bytealg
namespace Go.Proofs.Ytngcikgjdeomdaa
open Go.RowKit

theorem run_indexByteS (s : ByteArray) (c : Int) (w : World) :
    (callFunc 112 #[.string s, .int .u8 c]).run Try.prog w = .ok (.value (.int .i64 (Lib.indexByte s.data.toList c.toNat.toUInt8))) w := by
  rw [run_callFunc_indexByte Try.func112 (by kernel_rfl) (by kernel_rfl) (by kernel_rfl) (by kernel_rfl), Lib.run_indexByteString]
  rfl
theorem slIndexByte_any (s : ByteArray) (c : Int) (w : World) : Calls Try.prog 101 #[.string s, .int .u8 c] w fun e w' => e = .returned (.int .i64 (Lib.indexByte s.data.toList c.toNat.toUInt8)) ∧ w = w' := by
  have hx := run_indexByteS s c
  go_enter Try.func101, Try.ntmps101
  go_wp2
  go_ret
  exact ⟨rfl, rfl⟩
theorem sIndexByte_any (s : ByteArray) (c : Int) (w : World) {i : Int} (hi : Lib.indexByte s.data.toList c.toNat.toUInt8 = i) : Calls Try.prog 83 #[.string s, .int .u8 c] w fun e w' => e = .returned (.int .i64 i) ∧ w = w' := by
  subst hi
  go_enter Try.func83, Try.ntmps83
  go_wp2_with (go_at_call 101; refine (slIndexByte_any _ _ _).mono ?_; rintro e w' ⟨rfl, rfl⟩)
  go_ret
  exact ⟨rfl, rfl⟩
/-- what the index is, of a unit -/
def escIdx (x : UInt16) : Int := Lib.indexByte [110, 116, 114, 98, 118, 102] (IntKind.u8.wrap (x.toNat : Int)).toNat.toUInt8
theorem escIdx_no {x : UInt16} (h : x.toNat < 128) (hs : simpleF x = none) : escIdx x = -1 := by
  have e : (IntKind.u8.wrap (x.toNat : Int)).toNat = x.toNat := by rw [IntKind.wrap_u8]; omega
  unfold escIdx
  rw [e]
  have hne : ∀ k : UInt16, k ∈ ([110, 116, 114, 98, 118, 102] : List UInt16) → x ≠ k := by
    intro k hk he
    subst he
    revert hs
    simp only [List.mem_cons, List.mem_nil_iff, or_false] at hk
    rcases hk with rfl | rfl | rfl | rfl | rfl | rfl <;> decide
  have hb : ∀ k : UInt16, k ∈ ([110, 116, 114, 98, 118, 102] : List UInt16) → (k.toNat.toUInt8 == x.toNat.toUInt8) = false := by
    intro k hk
    have h1 := hne k hk
    rw [beq_eq_false_iff_ne]
    intro h2
    apply h1
    refine UInt16.toNat_inj.1 ?_
    have h3 := congrArg UInt8.toNat h2
    have h4 : k.toNat < 128 := by
      simp only [List.mem_cons, List.mem_nil_iff, or_false] at hk
      rcases hk with rfl | rfl | rfl | rfl | rfl | rfl <;> decide
    simp at h3
    omega
  have b1 := hb 110 (by simp)
  have b2 := hb 116 (by simp)
  have b3 := hb 114 (by simp)
  have b4 := hb 98 (by simp)
  have b5 := hb 118 (by simp)
  have b6 := hb 102 (by simp)
  have c1 : ((110 : UInt8) == x.toNat.toUInt8) = false := b1
  have c2 : ((116 : UInt8) == x.toNat.toUInt8) = false := b2
  have c3 : ((114 : UInt8) == x.toNat.toUInt8) = false := b3
  have c4 : ((98 : UInt8) == x.toNat.toUInt8) = false := b4
  have c5 : ((118 : UInt8) == x.toNat.toUInt8) = false := b5
  have c6 : ((102 : UInt8) == x.toNat.toUInt8) = false := b6
  generalize x.toNat.toUInt8 = z at c1 c2 c3 c4 c5 c6 ⊢
  simp only [Lib.indexByte, c1, c2, c3, c4, c5, c6, Bool.false_eq_true, if_false]
  rfl
theorem simple_cases {x y : UInt16} (h : simpleF x = some y) : (x = 110 ∧ y = 10) ∨ (x = 116 ∧ y = 9) ∨ (x = 114 ∧ y = 13) ∨ (x = 98 ∧ y = 8) ∨ (x = 118 ∧ y = 11) ∨ (x = 102 ∧ y = 12) := by
  unfold simpleF at h
  repeat' split at h
  all_goals simp_all
theorem escF_at {u : List UInt16} {k : Nat} (h : k < u.length) : escF (u.drop k) = if (simpleF u[k]).isSome = true then (0, (simpleF u[k]).getD 0, 1) else escR u[k] (u.drop (k + 1)) := by
  rw [List.drop_eq_getElem_cons h]; rfl
end Go.Proofs.Ytngcikgjdeomdaa
