/- What renref3.Number calls. No condition but the lengths. -/
import Derived.Test.YtginfodcobpljaaDoorRTell2
import Derived.Test.YtginfodcobpljaaDoorRNeg
import Derived.Test.YtginfodcobpljaaDoorEq
import Derived.Test.YtginfodcobpljaaDoorRAscii
import Derived.Deep.CutBlock
import Derived.Deep.DeepCutAuto
import Derived.Deep.RegionWith
import Derived.Deep.RegionHeld3
namespace Go.Proofs.YtginfodcobpljaaDoor
open Go.RowKit

theorem rascii_inf (w : World) : Calls Tryd.prog 18 #[.string ⟨#[73, 110, 102, 105, 110, 105, 116, 121]⟩] w fun e w' => ∃ A c, e = .returned (.slice A infinity.length c) ∧ Reads w' w'.heap.size 1 A infinity.length (u16s infinity) ∧ Below w.heap.size w w' := by
  refine (rascii_any _ w (by decide)).mono ?_
  rintro e w' ⟨v, rfl, hm⟩
  have hm' : Made w w' 42 v (u16s infinity) := hm
  obtain ⟨A, c, rfl, _, _, hr⟩ := hm'.u16
  exact ⟨A, c, rfl, hr, hm'.below⟩
theorem numericF_odd (xs : List UInt16) : numericF [120, 88, 111, 79, 46, 43, 45, 95] xs = strangeF xs := by
  have e : numU [120, 88, 111, 79, 46, 43, 45, 95] = okUnit := by
    funext x
    rw [Bool.eq_iff_iff]
    have h1 : isOne x [120, 88, 111, 79, 46, 43, 45, 95] = decide (x ∈ oddUnits) := by
      rw [Bool.eq_iff_iff, decide_eq_true_eq]
      simp only [isOne, oddUnits, List.any_cons, List.any_nil, Bool.or_false, Bool.or_eq_true, beq_iff_eq, List.mem_cons, List.mem_nil_iff, or_false, ← UInt16.toNat_inj]
      simp
      omega
    rw [numU, numU0, okUnit, h1]
  rw [numericF, strangeF, e]
theorem r3neg_base {ts : List UInt16} {k n : Int} {ok : Bool} (hb : BaseOk ts k n ok) (w : World) :
    Calls Tryd.prog 52 #[.agg #[.int .i64 k, .int .i64 n]] w fun e w' => e = .returned (.agg #[.int .i64 (negNm ⟨k, n⟩).kind, .int .i64 (negNm ⟨k, n⟩).n]) ∧ Below w.heap.size w w' := by
  rcases hb.2 with ⟨rfl, rfl⟩ | ⟨rfl, rfl⟩ | ⟨rfl, h1, h2⟩
  · exact r3neg_nan w
  · exact r3neg_inf w
  · by_cases h3 : n = 0
    · subst h3; exact r3neg_nought w
    · have e : negNm ⟨0, n⟩ = ⟨0, -n⟩ := by simp [negNm, h3]
      rw [e]
      exact r3neg_whole n (by omega) h2 w
end Go.Proofs.YtginfodcobpljaaDoor
