/- Joined for a claim: Misc. -/
import Derived.Test.YtbljbmeifmpfoaaK04
import Derived.Test.YtbljbmeifmpfoaaK13
import Derived.Deep.RegionWith
namespace Go.Proofs.Ytbljbmeifmpfoaa
open Go.RowKit

theorem rnum_any (k n k' n' : Int) (w : World) :
    Calls Try.prog 36 #[.agg #[.int .i64 k, .int .i64 n], .agg #[.int .i64 k', .int .i64 n']] w fun e w' => e = .returned (.bool (decide (k = k' ∧ n = n'))) ∧ Below w.heap.size w w' := by
  by_cases h : k = k'
  · subst h
    go_enter Try.func36, Try.ntmps36
    go_wp2
    go_ret
    exact ⟨ret_bool (by rw [Bool.eq_iff_iff]; simp), by go_grown⟩
  · have e1 : (k == k') = false := beq_eq_false_iff_ne.2 h
    have H := hide h
    clear h
    go_enter Try.func36, Try.ntmps36
    go_wp2
    go_ret
    exact ⟨ret_bool (decide_eq_false (fun h2 => H.out h2.1)).symm, by go_grown⟩

set_option maxRecDepth 100000 in
/-- a text of one byte, out of a block that has just been made -/
theorem run_str1 (W : World) (d : Nat) (h : d < 256) : (convert 80 9 (.slice (some ⟨W.heap.size, 0, none⟩) 1 1)).run Try.prog (W.alloc (.cells #[.int .u8 (d : Int)] 5)) = .ok (.string ⟨#[chr d]⟩) (W.alloc (.cells #[.int .u8 (d : Int)] 5)) := by
  have hm := Made.lit W 5 [.int .u8 (d : Int)] (by unfold maxLen; simp)
  have hm' : Made W (W.alloc (.cells #[.int .u8 (d : Int)] 5)) 5 (.slice (some ⟨W.heap.size, 0, none⟩) 1 1) (u8s [chr d]) := by
    have e : u8s [chr d] = [.int .u8 (d : Int)] := by
      simp only [u8s, List.map_cons, List.map_nil, u8v]
      rw [chr_nat h]
    rw [e]
    exact hm
  obtain ⟨A, c, hv, _, _, hr⟩ := hm'.u8
  injection hv with h1 h2 h3
  have h := run_str (c := c) hr
  rw [← h1, ← h3] at h
  exact h
set_option maxRecDepth 100000 in
theorem run_str1' (W w2 : World) (d : Nat) (h : d < 256) (hb : Below (W.alloc (.cells #[.int .u8 (d : Int)] 5)).heap.size (W.alloc (.cells #[.int .u8 (d : Int)] 5)) w2) :
    (convert 80 9 (.slice (some ⟨W.heap.size, 0, none⟩) 1 1)).run Try.prog w2 = .ok (.string ⟨#[chr d]⟩) w2 := by
  have hm := Made.lit W 5 [.int .u8 (d : Int)] (by unfold maxLen; simp)
  have hm' : Made W (W.alloc (.cells #[.int .u8 (d : Int)] 5)) 5 (.slice (some ⟨W.heap.size, 0, none⟩) 1 1) (u8s [chr d]) := by
    have e : u8s [chr d] = [.int .u8 (d : Int)] := by
      simp only [u8s, List.map_cons, List.map_nil, u8v]
      rw [chr_nat h]
    rw [e]
    exact hm
  obtain ⟨A, c, hv, _, _, hr⟩ := (hm'.call hb).u8
  injection hv with h1 h2 h3
  have h := run_str (c := c) hr
  rw [← h1, ← h3] at h
  exact h
set_option maxRecDepth 100000 in
theorem run_str1d (W : World) (d : Nat) (h : d < 256) : (convert 80 9 (.slice (some ⟨W.heap.size, 0, none⟩) 1 1)).run Try.prog (W.alloc (.cells #[.int .u8 (d : Int)] 5)).drew = .ok (.string ⟨#[chr d]⟩) (W.alloc (.cells #[.int .u8 (d : Int)] 5)).drew :=
  run_str1' W _ d h ((Below.refl _ _).drew)
set_option maxRecDepth 100000 in
theorem run_str1e (W w2 : World) (d : Nat) (h : d < 256) (hb : Below (W.alloc (.cells #[.int .u8 (d : Int)] 5)).drew.heap.size (W.alloc (.cells #[.int .u8 (d : Int)] 5)).drew w2) :
    (convert 80 9 (.slice (some ⟨W.heap.size, 0, none⟩) 1 1)).run Try.prog w2 = .ok (.string ⟨#[chr d]⟩) w2 :=
  run_str1' W w2 d h ⟨hb.os, hb.tape, hb.output, hb.size, hb.block⟩

set_option maxRecDepth 100000 in
theorem dec_below1 {w w2 : World} (hb : Below w.drew.heap.size w.drew w2) (o : Obj) : Below w.heap.size w (w2.alloc o) :=
  (show Below w.heap.size w w2 from ⟨hb.os, hb.tape, hb.output, hb.size, hb.block⟩).alloc hb.size o
set_option maxRecDepth 100000 in
theorem dec_below2 {w w2 : World} {o : Obj} (hb : Below (w.alloc o).drew.heap.size (w.alloc o).drew w2) : Below w.heap.size w w2 :=
  ((Below.refl w.heap.size w).alloc (Nat.le_refl _) o).trans ⟨hb.os, hb.tape, hb.output, hb.size, fun k hk => hb.block k (by simp; omega)⟩
set_option maxRecDepth 100000 in
theorem dec_val {n : Nat} (h : decS n = decS (n / 10) ++ [chr (48 + n % 10)]) : Value.string (⟨(decS (n / 10)).toArray⟩ ++ ⟨#[chr (48 + n % 10)]⟩) = .string ⟨(decS n).toArray⟩ := by
  rw [h]
  congr 1

set_option maxHeartbeats 1000000 in
set_option maxRecDepth 100000 in
theorem dec_any (n : Nat) : n ≤ 9223372036854775807 → ∀ w : World, Calls Try.prog 76 #[.int .i64 (n : Int)] w fun e w' => e = .returned (.string ⟨(decS n).toArray⟩) ∧ Below w.heap.size w w' := by
  induction n using Nat.strongRecOn with
  | _ n ih =>
    intro hn w
    by_cases h : n < 10
    · rw [decS_lo h]
      have hs := run_str1 w (48 + n) (by omega)
      rw [show ((48 + n : Nat) : Int) = 48 + (n : Int) by omega] at hs
      have HI := hide ih
      clear ih
      go_enter Try.func76, Try.ntmps76
      go_wp2
      go_ret
      exact ⟨rfl, by go_grown⟩
    · have hI := ih (n / 10) (by omega) (by omega)
      have e10 : ((n / 10 : Nat) : Int) = (n : Int) / 10 := by omega
      rw [e10] at hI
      have HI := hide hI
      clear hI e10
      have HL := decS_len (n / 10)
      have HS := hide (decS_hi h)
      have hs := fun W => run_str1 W (48 + n % 10) (by omega)
      have hs2 := fun W w2 => run_str1e W w2 (48 + n % 10) (by omega)
      have hs3 := fun W => run_str1d W (48 + n % 10) (by omega)
      simp only [show ((48 + n % 10 : Nat) : Int) = 48 + (n : Int) % 10 by omega] at hs hs2 hs3
      have HS2 := hide hs2
      clear ih hs2
      go_enter Try.func76, Try.ntmps76
      go_wp2_with fail
      have hq1 : IntKind.i64.wrap ((n : Int) / 10) = (n : Int) / 10 := by rw [IntKind.wrap_i64]; omega
      have hq2 : (n : Int).tmod 10 = (n : Int) % 10 := Int.tmod_eq_emod_of_nonneg (by omega)
      have hq3 : IntKind.i64.wrap (48 + (n : Int) % 10) = 48 + (n : Int) % 10 := by rw [IntKind.wrap_i64]; omega
      have hq4 : IntKind.u8.wrap (48 + (n : Int) % 10) = 48 + (n : Int) % 10 := by rw [IntKind.wrap_u8]; omega
      go_region_with (go_at_call 76; refine (HI.out _).mono ?_; rintro e w2 ⟨rfl, hb2⟩; (try have hc2 := HS2.out _ _ hb2))
      all_goals go_wp2
      all_goals go_ret
      all_goals refine ⟨congrArg Ending.returned (?_ : (_ : Value) = _), ?_⟩
      all_goals first | exact dec_below1 hb2 _ | exact dec_below2 hb2 | exact dec_val HS.out
end Go.Proofs.Ytbljbmeifmpfoaa
