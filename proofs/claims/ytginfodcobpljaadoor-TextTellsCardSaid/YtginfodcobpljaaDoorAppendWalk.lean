/- utf8.AppendRune onto what the call has made: its contract at a rune. The library's own text is walked. -/
import Derived.Test.YtginfodcobpljaaDoorBase
import Derived.Test.YtginfodcobpljaaDoorEnc8
namespace Go.Proofs.YtginfodcobpljaaDoor
open Go.RowKit

theorem u8v_of (n : Nat) (h : n < 256) : u8v (UInt8.ofNat n) = .int .u8 (n : Int) := by
  unfold u8v
  congr 1
  simp
  omega

section
variable (w0 w : World) (v : Value) (xs : List Value) (r : Nat)
set_option maxHeartbeats 1000000 in
set_option maxRecDepth 100000 in
theorem rune1 (hm : Made w0 w 5 v xs) (hsz : xs.length ≤ 1000000000000) (h1 : r < 128) :
    Calls Tryd.prog 44 #[v, .int .i32 r] w fun e w' => ∃ v', e = .returned v' ∧ Made w0 w' 5 v' (xs ++ [.int .u8 (r : Int)]) := by
  obtain ⟨i0, hi0, hz0, hz1, hz2⟩ := info_parts Tryd.info_u8
  go_enter Tryd.func44, Tryd.ntmps44
  go_wp2_with (at_builtin; refine wpList_lit rfl _ _ 22 rfl 5 i0 _ 1 Tryd.underlying22 hi0 hz0 hz1 hz2 rfl _ _ rfl hm _ 1 1 rfl rfl rfl (by omega) (by omega) ?_; intro v' w' hm')
  go_ret
  exact ⟨_, rfl, hm'⟩
set_option maxHeartbeats 4000000 in
set_option maxRecDepth 1000000 in
theorem rune2 (hm : Made w0 w 5 v xs) (hsz : xs.length ≤ 1000000000000) (h0 : 128 ≤ r) (h1 : r < 2048) :
    Calls Tryd.prog 60 #[v, .int .i32 r] w fun e w' => ∃ v', e = .returned v' ∧ Made w0 w' 5 v' (xs ++ [.int .u8 (192 + (r : Int) / 64), .int .u8 (128 + (r : Int) % 64)]) := by
  obtain ⟨i0, hi0, hz0, hz1, hz2⟩ := info_parts Tryd.info_u8
  go_enter Tryd.func60, Tryd.ntmps60
  go_wp2_with (at_builtin; refine wpList_lit rfl _ _ 22 rfl 5 i0 _ 1 Tryd.underlying22 hi0 hz0 hz1 hz2 rfl _ _ rfl hm _ 2 2 rfl rfl rfl (by omega) (by omega) ?_; intro v' w' hm')
  go_ret
  exact ⟨_, rfl, hm'⟩
set_option maxHeartbeats 4000000 in
set_option maxRecDepth 1000000 in
theorem rune3lo (hm : Made w0 w 5 v xs) (hsz : xs.length ≤ 1000000000000) (h0 : 2048 ≤ r) (h1 : r < 55296) :
    Calls Tryd.prog 60 #[v, .int .i32 r] w fun e w' => ∃ v', e = .returned v' ∧ Made w0 w' 5 v' (xs ++ [.int .u8 (224 + (r : Int) / 4096), .int .u8 (128 + (r : Int) / 64 % 64), .int .u8 (128 + (r : Int) % 64)]) := by
  obtain ⟨i0, hi0, hz0, hz1, hz2⟩ := info_parts Tryd.info_u8
  go_enter Tryd.func60, Tryd.ntmps60
  go_wp2_with (at_builtin; refine wpList_lit rfl _ _ 22 rfl 5 i0 _ 1 Tryd.underlying22 hi0 hz0 hz1 hz2 rfl _ _ rfl hm _ 3 3 rfl rfl rfl (by omega) (by omega) ?_; intro v' w' hm')
  go_ret
  exact ⟨_, rfl, hm'⟩
set_option maxHeartbeats 4000000 in
set_option maxRecDepth 1000000 in
theorem rune3hi (hm : Made w0 w 5 v xs) (hsz : xs.length ≤ 1000000000000) (h0 : 57344 ≤ r) (h1 : r < 65536) :
    Calls Tryd.prog 60 #[v, .int .i32 r] w fun e w' => ∃ v', e = .returned v' ∧ Made w0 w' 5 v' (xs ++ [.int .u8 (224 + (r : Int) / 4096), .int .u8 (128 + (r : Int) / 64 % 64), .int .u8 (128 + (r : Int) % 64)]) := by
  obtain ⟨i0, hi0, hz0, hz1, hz2⟩ := info_parts Tryd.info_u8
  go_enter Tryd.func60, Tryd.ntmps60
  go_wp2_with (at_builtin; refine wpList_lit rfl _ _ 22 rfl 5 i0 _ 1 Tryd.underlying22 hi0 hz0 hz1 hz2 rfl _ _ rfl hm _ 3 3 rfl rfl rfl (by omega) (by omega) ?_; intro v' w' hm')
  go_ret
  exact ⟨_, rfl, hm'⟩
set_option maxHeartbeats 4000000 in
set_option maxRecDepth 1000000 in
theorem rune4 (hm : Made w0 w 5 v xs) (hsz : xs.length ≤ 1000000000000) (h0 : 65536 ≤ r) (h1 : r ≤ 1114111) :
    Calls Tryd.prog 60 #[v, .int .i32 r] w fun e w' => ∃ v', e = .returned v' ∧ Made w0 w' 5 v' (xs ++ [.int .u8 (240 + (r : Int) / 262144), .int .u8 (128 + (r : Int) / 4096 % 64), .int .u8 (128 + (r : Int) / 64 % 64), .int .u8 (128 + (r : Int) % 64)]) := by
  obtain ⟨i0, hi0, hz0, hz1, hz2⟩ := info_parts Tryd.info_u8
  go_enter Tryd.func60, Tryd.ntmps60
  go_wp2_with (at_builtin; refine wpList_lit rfl _ _ 22 rfl 5 i0 _ 1 Tryd.underlying22 hi0 hz0 hz1 hz2 rfl _ _ rfl hm _ 4 4 rfl rfl rfl (by omega) (by omega) ?_; intro v' w' hm')
  go_ret
  exact ⟨_, rfl, hm'⟩

end
end Go.Proofs.YtginfodcobpljaaDoor
