/- renref.Dec below nought. Walked. -/
import Derived.Test.YtngcikgjdeomdaaMisc
import Derived.Test.YtngcikgjdeomdaaDecLaw
import Derived.Deep.RegionWith
namespace Go.Proofs.Ytngcikgjdeomdaa
open Go.RowKit

theorem neg_val {n : Nat} (h : decS n = decS (n / 10) ++ [chr (48 + n % 10)]) : Value.string (⟨#[45]⟩ ++ ⟨(decS (n / 10)).toArray⟩ ++ ⟨#[chr (48 + n % 10)]⟩) = .string ⟨(45 :: decS n).toArray⟩ := by
  rw [h]
  congr 1
theorem neg_val' {n : Nat} (h : decS n = decS (n / 10) ++ [chr (48 + n % 10)]) : Value.string ((⟨#[45]⟩ ++ ⟨(decS (n / 10)).toArray⟩) ++ ⟨#[chr (48 + n % 10)]⟩) = .string ⟨(45 :: decS n).toArray⟩ := neg_val h
theorem neg_quo (n : Nat) : (-(n : Int)).tdiv 10 = -((n / 10 : Nat) : Int) := by
  rw [Int.neg_tdiv, Int.tdiv_eq_ediv_of_nonneg (by omega)]
  omega
theorem neg_rem (n : Nat) : (-(n : Int)).tmod 10 = -((n % 10 : Nat) : Int) := by
  rw [Int.neg_tmod, Int.tmod_eq_emod_of_nonneg (by omega)]
  omega
set_option maxHeartbeats 1000000 in
set_option maxRecDepth 100000 in
theorem dec_neg (n : Nat) (h0 : 0 < n) (hn : n ≤ 9223372036854775808) (x : Int) (hx : x = -(n : Int)) (w : World) : Calls Try.prog 19 #[.int .i64 x] w fun e w' => e = .returned (.string ⟨(45 :: decS n).toArray⟩) ∧ Below w.heap.size w w' := by
  have hx0 : x < 0 := by omega
  have hq := neg_quo n
  have hr := neg_rem n
  rw [← hx] at hq hr
  by_cases h : n < 10
  · have hs := run_str1 w (48 + n) (by omega)
    rw [show ((48 + n : Nat) : Int) = 48 + (n : Int) by omega] at hs
    rw [show n / 10 = 0 by omega] at hq
    rw [show n % 10 = n by omega] at hr
    have hq' : x.tdiv 10 = 0 := by rw [hq]; rfl
    have HD := hide (decS_lo h)
    clear hq hx
    go_enter Try.func19, Try.ntmps19
    go_wp2
    go_ret
    exact ⟨by rw [HD.out]; rfl, by go_grown⟩
  · have hI := dec_any (n / 10) (by omega)
    have HI := hide hI
    have HL := decS_len (n / 10)
    have HS := hide (decS_hi h)
    obtain ⟨q, hqq⟩ : ∃ q, n / 10 = q := ⟨_, rfl⟩
    obtain ⟨r, hrr⟩ : ∃ r, n % 10 = r := ⟨_, rfl⟩
    have hq1 : 1 ≤ q := by omega
    have hqb : q ≤ 922337203685477580 := by omega
    have hr9 : r ≤ 9 := by omega
    rw [hqq] at hq HI HL HS
    rw [hrr] at hr HS
    have hs := fun W => run_str1 W (48 + r) (by omega)
    have hs2 := fun W w2 => run_str1e W w2 (48 + r) (by omega)
    have hs3 := fun W => run_str1d W (48 + r) (by omega)
    simp only [show ((48 + r : Nat) : Int) = 48 + (r : Int) by omega] at hs hs2 hs3
    have HS2 := hide hs2
    have eq0 : (-(q : Int) == 0) = false := beq_eq_false_iff_ne.2 (by omega)
    have HX := hide hx
    clear hs2 hI hqq hrr hx
    go_enter Try.func19, Try.ntmps19
    go_wp2_with fail
    have hw1 : IntKind.i64.wrap (-(q : Int)) = -(q : Int) := by rw [IntKind.wrap_i64]; omega
    have hw2 : IntKind.i64.wrap (q : Int) = (q : Int) := by rw [IntKind.wrap_i64]; omega
    have hw3 : IntKind.i64.wrap (48 + (r : Int)) = 48 + (r : Int) := by rw [IntKind.wrap_i64]; omega
    have hw4 : IntKind.u8.wrap (48 + (r : Int)) = 48 + (r : Int) := by rw [IntKind.wrap_u8]; omega
    have hqv : decS n = decS q ++ [chr (48 + r)] := HS.out
    clear hqv
    go_region_with (go_at_call 19; refine (HI.out _).mono ?_; rintro e w2 ⟨rfl, hb2⟩; (try have hc2 := HS2.out _ _ hb2))
    all_goals go_wp2
    all_goals go_ret
    all_goals refine ⟨congrArg Ending.returned (?_ : (_ : Value) = _), ?_⟩
    all_goals first | exact dec_below1 hb2 _ | exact dec_below2 hb2 | (rw [HS.out]; congr 1)
end Go.Proofs.Ytngcikgjdeomdaa
