/- text.Ascii: its contract. No condition but the length. -/
import Derived.Test.YtngcikgjdeomdaaBase
namespace Go.Proofs.Ytngcikgjdeomdaa
open Go.RowKit

def ascii (l : List UInt8) : List UInt16 := l.map (·.toUInt16)
theorem ascii_snoc (s : ByteArray) (k : Nat) (h : k < s.size) : u16s (ascii (s.data.toList.take (k + 1))) = u16s (ascii (s.data.toList.take k)) ++ [.int .u16 (s[k].toNat : Int)] := by
  rw [List.take_succ_eq_append_getElem (by simpa using h)]
  simp [ascii, u16s, u16v]
  rfl

set_option maxHeartbeats 400000 in
theorem ascii_any (s : ByteArray) (w : World) (hs : s.size ≤ 70368744177664) :
    Calls Try.prog 20 #[.string s] w fun e w' => ∃ v, e = .returned v ∧ Made w w' 32 v (u16s (ascii s.data.toList)) := by
  obtain ⟨i0, hi0, hz0, hz1, hz2⟩ := info_parts Try.info_u16
  go_enter Try.func20, Try.ntmps20
  go_wp2
  go_loopw [3, 7] (fun v i wr => ∃ k : Nat, k ≤ s.size ∧ i = .int .i64 k ∧ Made w wr 32 v (u16s (ascii (s.data.toList.take k)))) (fun _ i _ => s.size - (intOf i).toNat)
  case atStart => exact ⟨0, Nat.zero_le _, rfl, Made.nil _ _⟩
  case round =>
    obtain ⟨k, hk, rfl, hm⟩ := hrel
    by_cases hlt : k < s.size
    · have hb := s[k].toNat_lt
      have hle : (u16s (ascii (s.data.toList.take k))).length ≤ k := by simp [u16s, ascii]; omega
      go_wp2_with (at_builtin; refine wpList_lit rfl _ _ 22 rfl 32 i0 _ 2 Try.underlying22 hi0 hz0 hz1 hz2 rfl _ _ rfl hm _ 1 1 rfl rfl rfl (by omega) (by omega) ?_; intro v' w' hm')
      go_roundw
      case rel => exact ⟨k + 1, by omega, by go_num, by rw [ascii_snoc s k hlt]; exact hm'⟩
      case measure => simp [intOf]; omega
    · go_wp2
      go_ret
      have hkk : k = s.size := by omega
      subst hkk
      exact ⟨_, rfl, hm.cells (by rw [List.take_of_length_le (by simp)])⟩
end Go.Proofs.Ytngcikgjdeomdaa
