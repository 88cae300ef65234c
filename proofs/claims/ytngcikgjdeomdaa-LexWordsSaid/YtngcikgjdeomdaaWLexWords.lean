/- The law LexWords, walked: a word, a sign, a name are told as the document tells them. -/
import Derived.Test.YtngcikgjdeomdaaLexFirst
import Derived.Test.YtngcikgjdeomdaaR5Split
namespace Go.Proofs.Ytngcikgjdeomdaa
open Go.RowKit

theorem lword_is {s : ByteArray} {n : Nat} (h : wordF s.data.toList = n) (w : World) : Calls Try.prog 21 #[.string s] w fun e w' => e = .returned (.int .i64 (n : Int)) ∧ w = w' := by
  subst h
  exact lword_any s w
theorem lsign_at {s : ByteArray} {n : Nat} (h : signF s.data.toList = n) (w : World) : Calls Try.prog 23 #[.string s] w fun e w' => e = .returned (.int .i64 (n : Int)) ∧ w = w' := by
  subst h
  exact lsign_any s w
set_option maxHeartbeats 4000000 in
set_option maxRecDepth 100000 in
theorem lexWords_law (s : ByteArray) (_hs : s.size ≤ maxLen) (w : World) :
    Calls Try.prog 9 #[.string s] w fun e w' => e = .returned (.bool true) ∧ Below w.heap.size w w' := by
  by_cases hlong : 5000 < s.size
  · have h2 : (5000 : Int) < (s.size : Int) := by omega
    go_enter Try.func9, Try.ntmps9
    go_wp2_with fail
    refine (lfirst_any w).mono ?_
    rintro e w1 ⟨rfl, hb1⟩
    go_wp2_with fail
    refine (lfirst_any w1).mono ?_
    rintro e w2 ⟨rfl, hb2⟩
    go_wp2_with fail
    go_ret
    exact ⟨rfl, bstep hb1 hb2⟩
  · have hl : s.size ≤ 5000 := by omega
    obtain ⟨a, ha⟩ : ∃ n, wordF s.data.toList = n := ⟨_, rfl⟩
    obtain ⟨b, hb⟩ : ∃ n, signF s.data.toList = n := ⟨_, rfl⟩
    obtain ⟨c, hc⟩ : ∃ n, nameF s.data.toList = n := ⟨_, rfl⟩
    have HA := hide ha
    have HB := hide hb
    have HC := hide hc
    clear ha hb hc hlong
    go_enter Try.func9, Try.ntmps9
    go_wp2_with fail
    refine (lfirst_any w).mono ?_
    rintro e w1 ⟨rfl, hb1⟩
    go_wp2_with fail
    refine (lfirst_any w1).mono ?_
    rintro e w2 ⟨rfl, hb2⟩
    go_wp2_with fail
    refine (lword_is HA.out _).mono ?_
    rintro e w3 ⟨rfl, rfl⟩
    go_wp2_with fail
    refine (rword_any s _ HA.out).mono ?_
    rintro e w4 ⟨rfl, hb4⟩
    go_wp2_with fail
    refine (lsign_at HB.out _).mono ?_
    rintro e w5 ⟨rfl, rfl⟩
    go_wp2_with fail
    refine (rsign_any s _ HB.out).mono ?_
    rintro e w6 ⟨rfl, hb6⟩
    go_wp2_with fail
    refine (lname_any s _ (by omega) HC.out).mono ?_
    rintro e w7 ⟨rfl, rfl⟩
    go_wp2_with fail
    refine (rname_any s _ (by omega) HC.out).mono ?_
    rintro e w8 ⟨rfl, hb8⟩
    go_wp2_with fail
    go_ret
    exact ⟨rfl, bstep hb1 (bstep hb2 (bstep hb4 (bstep hb6 hb8)))⟩
end Go.Proofs.Ytngcikgjdeomdaa
