/- utf8.AppendRune onto what the call has made: its contract at every rune. -/
import Derived.Test.YtginfodcobpljaaDoorAppendWalk
namespace Go.Proofs.YtginfodcobpljaaDoor
open Go.RowKit
section
variable (w0 w : World) (v : Value) (xs : List Value) (r : Nat)
set_option maxHeartbeats 1000000 in
theorem rune_on (R : Value → World → Prop) (h0 : 128 ≤ r) (h1 : r ≤ 1114111) (c : Calls Tryd.prog 60 #[v, .int .i32 r] w fun e w' => ∃ v', e = .returned v' ∧ R v' w') :
    Calls Tryd.prog 44 #[v, .int .i32 r] w fun e w' => ∃ v', e = .returned v' ∧ R v' w' := by
  have HC := hide c
  clear c
  go_enter Tryd.func44, Tryd.ntmps44
  go_wp2_with (go_at_call 60; refine HC.out.mono ?_; rintro e w' ⟨v', rfl, hb⟩)
  go_ret
  exact ⟨_, rfl, hb⟩

theorem rune_any (hm : Made w0 w 5 v xs) (hsz : xs.length ≤ 1000000000000) (h : r < 55296 ∨ 57344 ≤ r) (h1 : r ≤ 1114111) :
    Calls Tryd.prog 44 #[v, .int .i32 r] w fun e w' => ∃ v', e = .returned v' ∧ Made w0 w' 5 v' (xs ++ u8s (enc8 r)) := by
  by_cases c1 : r < 128
  · refine (rune1 w0 w v xs r hm hsz c1).mono ?_
    rintro e w' ⟨v', rfl, hm'⟩
    exact ⟨v', rfl, hm'.cells (by simp only [enc8, if_pos c1, u8s, List.map_cons, List.map_nil]; rw [u8v_of _ (by omega)])⟩
  by_cases c2 : r < 2048
  · refine (rune_on w v r _ (by omega) h1 (rune2 w0 w v xs r hm hsz (by omega) c2)).mono ?_
    rintro e w' ⟨v', rfl, hm'⟩
    exact ⟨v', rfl, hm'.cells (by simp only [enc8, if_neg c1, if_pos c2, u8s, List.map_cons, List.map_nil]; rw [u8v_of _ (by omega), u8v_of _ (by omega)]; rfl)⟩
  by_cases c3 : r < 65536
  · have h3 : Calls Tryd.prog 60 #[v, .int .i32 r] w fun e w' => ∃ v', e = .returned v' ∧ Made w0 w' 5 v' (xs ++ [.int .u8 (224 + (r : Int) / 4096), .int .u8 (128 + (r : Int) / 64 % 64), .int .u8 (128 + (r : Int) % 64)]) := by
      rcases h with h | h
      · exact rune3lo w0 w v xs r hm hsz (by omega) h
      · exact rune3hi w0 w v xs r hm hsz h c3
    refine (rune_on w v r _ (by omega) h1 h3).mono ?_
    rintro e w' ⟨v', rfl, hm'⟩
    exact ⟨v', rfl, hm'.cells (by simp only [enc8, if_neg c1, if_neg c2, if_pos c3, u8s, List.map_cons, List.map_nil]; rw [u8v_of _ (by omega), u8v_of _ (by omega), u8v_of _ (by omega)]; rfl)⟩
  · refine (rune_on w v r _ (by omega) h1 (rune4 w0 w v xs r hm hsz (by omega) h1)).mono ?_
    rintro e w' ⟨v', rfl, hm'⟩
    exact ⟨v', rfl, hm'.cells (by simp only [enc8, if_neg c1, if_neg c2, if_neg c3, u8s, List.map_cons, List.map_nil]; rw [u8v_of _ (by omega), u8v_of _ (by omega), u8v_of _ (by omega), u8v_of _ (by omega)]; rfl)⟩
end
end Go.Proofs.YtginfodcobpljaaDoor
