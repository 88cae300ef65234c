/- Texts of bytes as units and back, in plain Lean. No program is walked here. -/
import Derived.Test.YtginfodcobpljaaDoorSpecB
import Derived.Test.YtginfodcobpljaaDoorAscii
import Derived.Test.YtginfodcobpljaaDoorStr
namespace Go.Proofs.YtginfodcobpljaaDoor

theorem run1_ascii (b : UInt8) (l : List UInt8) : run1 (ascii (b :: l)) = some (b.toNat, 1) := by
  have hb := b.toNat_lt
  have e : ((ascii (b :: l)).getD 0 0).toNat = b.toNat := by simp [ascii]
  unfold run1
  rw [e, if_pos (by omega)]
theorem bytesF_ascii (l : List UInt8) : ∃ bs, bytesF (ascii l) = some bs ∧ ((∀ b ∈ l, b.toNat < 128) → bs = l) := by
  induction l with
  | nil => exact ⟨[], rfl, fun _ => rfl⟩
  | cons b l ih =>
    obtain ⟨bs, h1, h2⟩ := ih
    refine ⟨enc8 b.toNat ++ bs, ?_, fun h => ?_⟩
    · rw [bytesF_good (by simp [ascii]) (run1_ascii b l)]
      have : (ascii (b :: l)).drop 1 = ascii l := rfl
      rw [this, h1]
      rfl
    · rw [h2 (fun x hx => h x (by simp [hx]))]
      unfold enc8
      rw [if_pos (h b (by simp))]
      simp
theorem plainOk_ascii (l : List UInt8) : plainOk (ascii l) = l.all fun b => decide (b.toNat < 128) := by
  induction l with
  | nil => rfl
  | cons b l ih =>
    have e : plainOk (ascii (b :: l)) = (decide (b.toUInt16.toNat ≤ 127) && plainOk (ascii l)) := by simp [plainOk, ascii]
    rw [e, ih, List.all_cons]
    congr 1
    simp
    omega
theorem plainF_ascii (s : ByteArray) (h : plainOk (ascii s.data.toList) = true) : plainF (ascii s.data.toList) = s := by
  unfold plainF
  rw [if_pos h]
  have : (ascii s.data.toList).map (·.toUInt8) = s.data.toList := by
    rw [ascii, List.map_map]
    conv => rhs; rw [← List.map_id s.data.toList]
    refine List.map_congr_left fun b _ => ?_
    have hb := b.toNat_lt
    refine UInt8.toNat_inj.1 ?_
    simp
  rw [this]
end Go.Proofs.YtginfodcobpljaaDoor
