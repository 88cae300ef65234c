/- The statements' own first, walked: it returns true. -/
import Derived.Test.YtngcikgjdeomdaaLexRead
import Derived.Test.YtngcikgjdeomdaaEq
namespace Go.Proofs.Ytngcikgjdeomdaa
open Go.RowKit

theorem ltok_is {A : Option Addr} {c B n N a e : Nat} {u : List UInt16} {ts : List Tok} {w : World} (hB : B ≤ w.heap.size) (hn : u.length = n) (ha : Reads w B 1 A n (u16s u)) (hc : n ≤ c) (hc2 : c ≤ maxLen) (hq : lexF u = (ts, a, e)) (hN : ts.length = N) :
    Calls Try.prog 14 #[.slice A n c] w fun ev w' => ∃ A' c', ev = .returned (.tuple #[.slice A' N c', .int .i64 (a : Int), .int .i64 (e : Int)]) ∧ TokL w' w.heap.size ts (.slice A' N c') ∧ N ≤ c' ∧ c' ≤ maxLen ∧ Below w.heap.size w w' := by
  subst hN
  refine (ltokens_any hB hn ha hc hc2).mono ?_
  rintro ev w' ⟨v, rfl, ht, hb⟩
  rw [hq] at ht ⊢
  obtain ⟨A', c', rfl, h1, h2⟩ := ht.shape
  exact ⟨A', c', rfl, ht, h1, h2, hb⟩
theorem lasc_lit (s : ByteArray) (l : List UInt16) (n : Nat) (hs : ascii s.data.toList = l) (hn : l.length = n) (hl : s.size ≤ 4096) (w : World) :
    Calls Try.prog 20 #[.string s] w fun e w' => ∃ A c, e = .returned (.slice A n c) ∧ Reads w' w'.heap.size 1 A n (u16s l) ∧ n ≤ c ∧ c ≤ maxLen ∧ Below w.heap.size w w' := by
  subst hn
  refine (ascii_any s w (by omega)).mono ?_
  rintro e w' ⟨v, rfl, hm⟩
  rw [hs] at hm
  obtain ⟨A, c, rfl, h1, h2, hr⟩ := hm.u16
  exact ⟨A, c, rfl, hr, h1, h2, hm.below⟩
theorem texts_is {A : Option Addr} {base n c : Nat} {ts : List Tok} {w : World} {s : ByteArray} (hn : ts.length = n) (h : TokL w base ts (.slice A n c)) (hl : n ≤ 8192) (hl2 : (textsF ts).length ≤ 70368744177664) (hs : ⟨(textsF ts).toArray⟩ = s) :
    Calls Try.prog 27 #[.slice A n c] w fun e w' => e = .returned (.string s) ∧ w = w' := by
  subst hs
  exact texts_any hn h hl hl2
theorem lunits_eq {A A' : Option Addr} {c d B n m : Nat} {xs ys : List UInt16} {w : World} (hB : B ≤ w.heap.size) (hn : xs.length = n) (hm : ys.length = m) (ha : Reads w B 1 A n (u16s xs)) (hb : Reads w B 1 A' m (u16s ys)) (hl : n ≤ 70368744177664) (hl2 : m ≤ 70368744177664) {r : Bool} (hr : decide (xs = ys) = r) :
    Calls Try.prog 17 #[.slice A n c, .slice A' m d] w fun e w' => e = .returned (.bool r) ∧ Below w.heap.size w w' := by
  subst hn hm hr
  exact runits_any hB ha hb hl hl2
theorem reads_lit (w : World) (e : TypeId) (cs : List Value) (n : Nat) (hn : cs.length = n) (h : n ≤ maxLen) : Reads (w.alloc (.cells cs.toArray e)) (w.heap.size + 1) 1 (some ⟨w.heap.size, 0, none⟩) n cs := by
  subst hn
  have := Reads.of_own (Made.lit w e cs h).own
  rwa [show (w.alloc (.cells cs.toArray e)).heap.size = w.heap.size + 1 by simp] at this
def tks1 : List Tok := [{ noTok with kind := 1, text := [97] }, { noTok with kind := 5, text := [43, 43], pos := 1 }, { noTok with kind := 5, text := [43], pos := 3 }, { noTok with kind := 1, text := [98], pos := 4 }, { noTok with pos := 5 }]
def tks4 : List Tok := [{ noTok with kind := 1, text := [97] }, { noTok with kind := 1, text := [98], pos := 10, nl := true }, { noTok with pos := 11 }]
def tks5 : List Tok := [{ noTok with kind := 4, str := [233] }, { noTok with pos := 8 }]
theorem fv1 : lexF [97, 43, 43, 43, 98] = (tks1, 0, 0) := by decide +kernel
theorem fv2 : lexF [49, 110, 32, 48, 48, 55] = ([], 3, 5) := by decide +kernel
theorem fv3 : lexF [49, 46, 53] = ([], 0, 6) := by decide +kernel
theorem fv4 : lexF [97, 32, 47, 42, 32, 10, 32, 42, 47, 32, 98] = (tks4, 0, 0) := by decide +kernel
theorem fv5 : lexF [34, 92, 117, 48, 48, 101, 57, 34] = (tks5, 0, 0) := by decide +kernel
theorem bstep {a b c : World} (h : Below a.heap.size a b) (k : Below b.heap.size b c) : Below a.heap.size a c := h.trans (k.mono h.size)

set_option maxHeartbeats 4000000 in
set_option maxRecDepth 100000 in
theorem lfirst_any (w : World) : Calls Try.prog 12 #[] w fun e w' => e = .returned (.bool true) ∧ Below w.heap.size w w' := by
  go_enter Try.func12, Try.ntmps12
  go_wp2_with fail
  refine (lasc_lit _ [97, 43, 43, 43, 98] 5 rfl rfl (by decide) _).mono ?_
  rintro e w1 ⟨A1, c1, rfl, hr1, hl1, hm1, hb1⟩
  go_wp2_with fail
  refine (ltok_is (N := 5) (Nat.le_refl _) rfl hr1 hl1 hm1 fv1 rfl).mono ?_
  rintro e w2 ⟨B1, d1, rfl, ht1, _, _, hb2⟩
  have HT1 := hide ht1
  have HB := hide (bstep hb1 hb2)
  clear ht1 hr1 hl1 hm1 hb1 hb2
  go_wp2_with fail
  refine (lasc_lit _ [49, 110, 32, 48, 48, 55] 6 rfl rfl (by decide) _).mono ?_
  rintro e w3 ⟨A2, c2, rfl, hr2, hl2, hm2, hb3⟩
  go_wp2_with fail
  refine (ltok_is (N := 0) (Nat.le_refl _) rfl hr2 hl2 hm2 fv2 rfl).mono ?_
  rintro e w4 ⟨B2, d2, rfl, _, _, _, hb4⟩
  have HB4 := hide (bstep HB.out (bstep hb3 hb4))
  have HT4 := hide (HT1.out.below (bstep hb3 hb4))
  clear hr2 hl2 hm2 hb3 hb4 HB HT1
  go_wp2_with fail
  refine (lasc_lit _ [49, 46, 53] 3 rfl rfl (by decide) _).mono ?_
  rintro e w5 ⟨A3, c3, rfl, hr3, hl3, hm3, hb5⟩
  go_wp2_with fail
  refine (ltok_is (N := 0) (Nat.le_refl _) rfl hr3 hl3 hm3 fv3 rfl).mono ?_
  rintro e w6 ⟨B3, d3, rfl, _, _, _, hb6⟩
  have HB6 := hide (bstep HB4.out (bstep hb5 hb6))
  have HT6 := hide (HT4.out.below (bstep hb5 hb6))
  clear hr3 hl3 hm3 hb5 hb6 HB4 HT4
  go_wp2_with fail
  refine (lasc_lit _ [97, 32, 47, 42, 32, 10, 32, 42, 47, 32, 98] 11 rfl rfl (by decide) _).mono ?_
  rintro e w7 ⟨A4, c4, rfl, hr4, hl4, hm4, hb7⟩
  go_wp2_with fail
  refine (ltok_is (N := 3) (Nat.le_refl _) rfl hr4 hl4 hm4 fv4 rfl).mono ?_
  rintro e w8 ⟨B4, d4, rfl, ht4, hc4, _, hb8⟩
  have HU8 := hide ht4
  have HB8 := hide (bstep HB6.out (bstep hb7 hb8))
  have HT8 := hide (HT6.out.below (bstep hb7 hb8))
  clear hr4 hl4 hm4 hb7 hb8 HB6 HT6 ht4
  go_wp2_with fail
  refine (lasc_lit _ [34, 92, 117, 48, 48, 101, 57, 34] 8 rfl rfl (by decide) _).mono ?_
  rintro e w9 ⟨A5, c5, rfl, hr5, hl5, hm5, hb9⟩
  go_wp2_with fail
  refine (ltok_is (N := 2) (Nat.le_refl _) rfl hr5 hl5 hm5 fv5 rfl).mono ?_
  rintro e w10 ⟨B5, d5, rfl, ht5, hc5, _, hb10⟩
  have HB10 := hide (bstep HB8.out (bstep hb9 hb10))
  have HT10 := hide (HT8.out.below (bstep hb9 hb10))
  have HU10 := hide (HU8.out.below (bstep hb9 hb10))
  have HV10 := hide ht5
  clear hr5 hl5 hm5 hb9 hb10 HB8 HT8 HU8 ht5
  obtain ⟨g4, rfl, _, hg4, hat4⟩ := HU10.out.at_ (by decide)
  obtain ⟨_, _, _, _, hm0⟩ := hat4 0 (by decide)
  obtain ⟨_, _, _, _, hm1⟩ := hat4 1 (by decide)
  have hx0 : w10.cell? ⟨g4, 8, none⟩ = some (.bool false) := hm0.k8
  have hx1 : w10.cell? ⟨g4, 17, none⟩ = some (.bool true) := hm1.k8
  obtain ⟨g5, rfl, _, hg5, hat5⟩ := HV10.out.at_ (by decide)
  obtain ⟨As, _, cs, _, hs0⟩ := hat5 0 (by decide)
  have hx2 : w10.cell? ⟨g5, 2, none⟩ = some (.slice As 1 cs) := hs0.k2
  have HSTR := hide (show Reads w10 w10.heap.size 1 As 1 (u16s [233]) from Reads.of_own hs0.str)
  clear hat4 hm0 hm1 hat5 hs0
  go_wp2_with fail
  refine (texts_is (n := 5) rfl HT10.out (by omega) (by decide) (s := ⟨#[97, 32, 43, 43, 32, 43, 32, 98, 32, 32]⟩) rfl).mono ?_
  rintro e w11 ⟨rfl, rfl⟩
  go_wp2_with fail
  refine (lunits_eq (w := w10.alloc (.cells #[.int .u16 233] 32)) (B := w10.heap.size + 1) (by simp) rfl rfl (xs := [233]) (ys := [233]) ((HSTR.out.alloc (Nat.le_refl _) _).more (by simp)) (reads_lit w10 32 [.int .u16 233] 1 rfl (by decide)) (by decide) (by decide) (r := true) rfl).mono ?_
  rintro e w12 ⟨rfl, hb12⟩
  go_wp2_with fail
  go_ret
  exact ⟨rfl, bstep HB10.out (bstep ((Below.refl _ _).alloc (Nat.le_refl _) _) hb12)⟩
end Go.Proofs.Ytngcikgjdeomdaa
