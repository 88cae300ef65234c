/- The law LexDigits, walked. -/
import Derived.Test.YtngcikgjdeomdaaLexFirst
import Derived.Test.YtngcikgjdeomdaaPDigits
import Derived.Test.YtngcikgjdeomdaaDecNeg
namespace Go.Proofs.Ytngcikgjdeomdaa
open Go.RowKit

theorem dec_is (n : Nat) (hn : n ≤ 9223372036854775807) (x : Int) (hx : x = (n : Int)) (w : World) : Calls Try.prog 19 #[.int .i64 x] w fun e w' => e = .returned (.string ⟨(decS n).toArray⟩) ∧ Below w.heap.size w w' := by
  subst hx
  exact dec_any n hn w
/-- what the walk asks of one source -/
structure Src (s : ByteArray) (q : List Tok × Nat × Nat) (N : Nat) : Prop where
  val : lexF (ascii s.data.toList) = q
  len : (ascii s.data.toList).length = s.size
  many : q.1.length = N
  short : s.size ≤ 100
theorem lsrc_tok {s : ByteArray} {ts : List Tok} {a er N : Nat} (h : Src s (ts, a, er) N) {A : Option Addr} {c : Nat} {w : World} (hr : Reads w w.heap.size 1 A s.size (u16s (ascii s.data.toList))) (hc : s.size ≤ c) (hc2 : c ≤ maxLen) :
    Calls Try.prog 14 #[.slice A s.size c] w fun ev w' => ∃ A' c', ev = .returned (.tuple #[.slice A' N c', .int .i64 (a : Int), .int .i64 (er : Int)]) ∧ TokL w' w.heap.size ts (.slice A' N c') ∧ N ≤ c' ∧ c' ≤ maxLen ∧ Below w.heap.size w w' :=
  ltok_is (Nat.le_refl _) h.len hr hc hc2 h.val h.many
theorem lascii_str (s : ByteArray) (hs : s.size ≤ 70368744177664) (w : World) :
    Calls Try.prog 20 #[.string s] w fun e w' => ∃ A c, e = .returned (.slice A s.size c) ∧ Reads w' w'.heap.size 1 A s.size (u16s (ascii s.data.toList)) ∧ s.size ≤ c ∧ c ≤ maxLen ∧ Below w.heap.size w w' := by
  refine (ascii_any s w hs).mono ?_
  rintro e w' ⟨v, rfl, hm⟩
  obtain ⟨A, c, rfl, h1, h2, hr⟩ := hm.u16
  have hl : (ascii s.data.toList).length = s.size := by simp [ascii]
  rw [hl] at hr h1 ⊢
  exact ⟨A, c, rfl, hr, h1, h2, hm.below⟩
theorem src_of (b : List UInt8) (hb : b.length ≤ 100) {q : List Tok × Nat × Nat} (hq : lexL 0 (ascii b) = q) : Src ⟨b.toArray⟩ q q.1.length := by
  have hl : (ascii b).length = b.length := by simp [ascii]
  have hs : (⟨b.toArray⟩ : ByteArray).size = b.length := by show b.toArray.size = b.length; simp
  refine ⟨?_, by rw [hs]; exact hl, rfl, by rw [hs]; exact hb⟩
  show lexF (ascii b) = q
  rw [lexF_short (by omega), hq]
theorem app_str (a b : List UInt8) : (⟨(a ++ b).toArray⟩ : ByteArray) = ⟨a.toArray⟩ ++ ⟨b.toArray⟩ := by
  refine ByteArray.ext ?_
  simp
/-- the three sources -/
structure Three (s s2 s3 : ByteArray) (q1 q2 q3 : List Tok × Nat × Nat) : Prop where
  a : Src s q1 q1.1.length
  b : Src s2 q2 q2.1.length
  c : Src s3 q3 q3.1.length
theorem three_of (b : List UInt8) (hb : b.length ≤ 90) : Three ⟨b.toArray⟩ (⟨b.toArray⟩ ++ ⟨#[110]⟩) (⟨#[48]⟩ ++ ⟨b.toArray⟩) (lexL 0 (ascii b)) (lexL 0 (ascii b ++ [110])) (lexL 0 ([48] ++ ascii b)) := by
  refine ⟨src_of b (by omega) rfl, ?_, ?_⟩
  · have := src_of (b ++ [110]) (by simp; omega) (q := lexL 0 (ascii b ++ [110])) (by simp [ascii])
    exact app_str b [110] ▸ this
  · have := src_of ([48] ++ b) (by simp; omega) (q := lexL 0 ([48] ++ ascii b)) (by simp [ascii])
    exact app_str [48] b ▸ this
set_option maxHeartbeats 8000000 in
set_option maxRecDepth 100000 in
theorem lexDigits_law (x : Int) (hx : -9223372036854775808 ≤ x ∧ x ≤ 9223372036854775807) (w : World) :
    Calls Try.prog 6 #[.int .i64 x] w fun e w' => e = .returned (.bool true) ∧ Below w.heap.size w w' := by
  obtain ⟨hx1, hx2⟩ := hx
  by_cases hneg : x < 0
  · obtain ⟨n, hn⟩ : ∃ n : Nat, x = -(n : Int) := ⟨x.natAbs, by omega⟩
    have hD := hide (fun w => dec_neg n (by omega) (by omega) x hn w)
    have h3 := three_of (45 :: decS n) (by have := dec_short (n := n) (by omega); simp; omega)
    have hl1 : lexL 0 (ascii (45 :: decS n)) = consT { noTok with kind := 5, text := [45] } (lexL 1 (dec16 n)) := lex_neg n
    rw [hl1, lex_num] at h3
    clear hl1
    obtain ⟨⟨ts2, a2, e2⟩, hq2⟩ : ∃ q, lexL 0 (ascii (45 :: decS n) ++ [110]) = q := ⟨_, rfl⟩
    obtain ⟨⟨ts3, a3, e3⟩, hq3⟩ : ∃ q, lexL 0 ([48] ++ ascii (45 :: decS n)) = q := ⟨_, rfl⟩
    rw [hq2, hq3] at h3
    clear hq2 hq3
    obtain ⟨s, hs⟩ : ∃ s : ByteArray, ⟨(45 :: decS n).toArray⟩ = s := ⟨_, rfl⟩
    rw [hs] at h3 hD
    clear hs
    obtain ⟨s2, hs2⟩ : ∃ s2 : ByteArray, s ++ ⟨#[110]⟩ = s2 := ⟨_, rfl⟩
    obtain ⟨s3, hs3⟩ : ∃ s3 : ByteArray, ⟨#[48]⟩ ++ s = s3 := ⟨_, rfl⟩
    rw [hs2, hs3] at h3
    by_cases hbig : n ≤ 9007199254740991
    · rw [if_pos hbig] at h3
      obtain ⟨ts1, hts1⟩ : ∃ ts1, { noTok with kind := 5, text := [45] } :: [setAt { noTok with kind := 2, nn := n } 1 false, setAt noTok (1 + (dec16 n).length) false] = ts1 := ⟨_, rfl⟩
      rw [show consT { noTok with kind := 5, text := [45] } ([setAt { noTok with kind := 2, nn := (n : Int) } 1 false, setAt noTok (1 + (dec16 n).length) false], 0, 0) = (ts1, 0, 0) from by rw [← hts1]; rfl] at h3
      have HT1 := hide hts1
      clear hts1 hn hbig
      have HA := hide h3.a
      have HB := hide h3.b
      have HC := hide h3.c
      have hza := h3.a.short
      have hzb := h3.b.short
      have hzc := h3.c.short
      clear h3
      obtain ⟨N1, hN1⟩ : ∃ N, ts1.length = N := ⟨_, rfl⟩
      obtain ⟨N2, hN2⟩ : ∃ N, ts2.length = N := ⟨_, rfl⟩
      obtain ⟨N3, hN3⟩ : ∃ N, ts3.length = N := ⟨_, rfl⟩
      simp only [hN1, hN2, hN3] at HA HB HC
      have HN1 := hide hN1
      have HN2 := hide hN2
      clear hN1 hN2 hN3
      go_enter Try.func6, Try.ntmps6
      go_wp2_with fail
      refine (lfirst_any w).mono ?_
      rintro e w1 ⟨rfl, hb1⟩
      go_wp2_with fail
      refine (hD.out w1).mono ?_
      rintro e w2 ⟨rfl, hb2⟩
      go_wp2_with fail
      refine (lascii_str s (by omega) w2).mono ?_
      rintro e w3 ⟨A3, c3, rfl, hr3, hl3, hm3, hb3⟩
      go_wp2_with fail
      refine (lsrc_tok HA.out hr3 hl3 hm3).mono ?_
      rintro e w4 ⟨A4, c4, rfl, ht4, hc4, _, hb4⟩
      have HT4 := hide ht4
      have HB4 := hide (bstep hb1 (bstep hb2 (bstep hb3 hb4)))
      clear hb1 hb2 hb3 hb4 hr3 hl3 hm3 ht4
      go_wp2_with fail
      refine (lascii_str s2 (by omega) w4).mono ?_
      rintro e w5 ⟨A5, c5, rfl, hr5, hl5, hm5, hb5⟩
      go_wp2_with fail
      refine (lsrc_tok HB.out hr5 hl5 hm5).mono ?_
      rintro e w6 ⟨A6, c6, rfl, ht6, hc6, _, hb6⟩
      have HT6 := hide ht6
      have HT46 := hide (HT4.out.below (bstep hb5 hb6))
      have HB6 := hide (bstep HB4.out (bstep hb5 hb6))
      clear hb5 hb6 hr5 hl5 hm5 ht6 HT4 HB4
      go_wp2_with fail
      refine (lascii_str s3 (by omega) w6).mono ?_
      rintro e w7 ⟨A7, c7, rfl, hr7, hl7, hm7, hb7⟩
      go_wp2_with fail
      refine (lsrc_tok HC.out hr7 hl7 hm7).mono ?_
      rintro e w8 ⟨A8, c8, rfl, ht8, hc8, _, hb8⟩
      have HT68 := hide (HT6.out.below (bstep hb7 hb8))
      have HT48 := hide (HT46.out.below (bstep hb7 hb8))
      have HB8 := hide (bstep HB6.out (bstep hb7 hb8))
      clear hb7 hb8 hr7 hl7 hm7 ht8 HT6 HT46 HB6
      clear hs2 hs3
      have hN : N1 = 3 := by rw [← HN1.out, ← HT1.out]; rfl
      subst hN
      go_wp2_with fail
      refine (lfirst_any w8).mono ?_
      rintro e w9 ⟨rfl, hb9⟩
      have HT9 := hide (HT48.out.below hb9)
      obtain ⟨g, rfl, _, _, hat⟩ := HT9.out.at_ (by rw [HN1.out]; omega)
      obtain ⟨_, _, _, _, h0⟩ := hat 0 (by rw [HN1.out]; omega)
      have hk1 : w9.cell? ⟨g, 1, none⟩ = some (.string ⟨#[45]⟩) := by
        have := h0.k1
        have h2 : ts1[0]'(by rw [HN1.out]; omega) = { noTok with kind := 5, text := [45] } := by
          simp only [← HT1.out, List.getElem_cons_zero]
        rw [h2] at this
        exact this
      clear hat h0
      go_wp2_with fail
      go_ret
      exact ⟨rfl, bstep HB8.out hb9⟩
    · rw [if_neg hbig] at h3
      obtain ⟨ts1, hts1⟩ : ∃ ts1 : List Tok, [] = ts1 := ⟨_, rfl⟩
      rw [show consT { noTok with kind := 5, text := [45] } ([], 1, 6) = (ts1, 1, 6) from by rw [← hts1]; rfl] at h3
      have hxb : x < -9007199254740991 := by omega
      clear hts1 hn hbig
      have HA := hide h3.a
      have HB := hide h3.b
      have HC := hide h3.c
      have hza := h3.a.short
      have hzb := h3.b.short
      have hzc := h3.c.short
      clear h3
      obtain ⟨N1, hN1⟩ : ∃ N, ts1.length = N := ⟨_, rfl⟩
      obtain ⟨N2, hN2⟩ : ∃ N, ts2.length = N := ⟨_, rfl⟩
      obtain ⟨N3, hN3⟩ : ∃ N, ts3.length = N := ⟨_, rfl⟩
      simp only [hN1, hN2, hN3] at HA HB HC
      have HN1 := hide hN1
      have HN2 := hide hN2
      clear hN1 hN2 hN3
      go_enter Try.func6, Try.ntmps6
      go_wp2_with fail
      refine (lfirst_any w).mono ?_
      rintro e w1 ⟨rfl, hb1⟩
      go_wp2_with fail
      refine (hD.out w1).mono ?_
      rintro e w2 ⟨rfl, hb2⟩
      go_wp2_with fail
      refine (lascii_str s (by omega) w2).mono ?_
      rintro e w3 ⟨A3, c3, rfl, hr3, hl3, hm3, hb3⟩
      go_wp2_with fail
      refine (lsrc_tok HA.out hr3 hl3 hm3).mono ?_
      rintro e w4 ⟨A4, c4, rfl, ht4, hc4, _, hb4⟩
      have HT4 := hide ht4
      have HB4 := hide (bstep hb1 (bstep hb2 (bstep hb3 hb4)))
      clear hb1 hb2 hb3 hb4 hr3 hl3 hm3 ht4
      go_wp2_with fail
      refine (lascii_str s2 (by omega) w4).mono ?_
      rintro e w5 ⟨A5, c5, rfl, hr5, hl5, hm5, hb5⟩
      go_wp2_with fail
      refine (lsrc_tok HB.out hr5 hl5 hm5).mono ?_
      rintro e w6 ⟨A6, c6, rfl, ht6, hc6, _, hb6⟩
      have HT6 := hide ht6
      have HT46 := hide (HT4.out.below (bstep hb5 hb6))
      have HB6 := hide (bstep HB4.out (bstep hb5 hb6))
      clear hb5 hb6 hr5 hl5 hm5 ht6 HT4 HB4
      go_wp2_with fail
      refine (lascii_str s3 (by omega) w6).mono ?_
      rintro e w7 ⟨A7, c7, rfl, hr7, hl7, hm7, hb7⟩
      go_wp2_with fail
      refine (lsrc_tok HC.out hr7 hl7 hm7).mono ?_
      rintro e w8 ⟨A8, c8, rfl, ht8, hc8, _, hb8⟩
      have HT68 := hide (HT6.out.below (bstep hb7 hb8))
      have HT48 := hide (HT46.out.below (bstep hb7 hb8))
      have HB8 := hide (bstep HB6.out (bstep hb7 hb8))
      clear hb7 hb8 hr7 hl7 hm7 ht8 HT6 HT46 HB6
      clear hs2 hs3
      go_wp2_with fail
      refine (lfirst_any w8).mono ?_
      rintro e w9 ⟨rfl, hb9⟩
      go_wp2_with fail
      go_ret
      exact ⟨rfl, bstep HB8.out hb9⟩
  · obtain ⟨n, hn⟩ : ∃ n : Nat, x = (n : Int) := ⟨x.natAbs, by omega⟩
    have hD := hide (fun w => dec_is n (by omega) x hn w)
    have h3 := three_of (decS n) (by have := dec_short (n := n) (by omega); simp; omega)
    have hl1 : lexL 0 (ascii (decS n)) = _ := lex_num 0 n
    have hl2 : lexL 0 (ascii (decS n) ++ [110]) = _ := lex_bign (n := n) (Nat.lt_of_le_of_lt (show n ≤ 9223372036854775807 by omega) (by decide))
    have hl3 : lexL 0 ([48] ++ ascii (decS n)) = _ := lex_lead n
    rw [hl1, hl2, hl3] at h3
    clear hl1 hl2 hl3
    obtain ⟨ts2, hts2⟩ : ∃ ts2, [setAt { noTok with kind := 3, mag := limbs n } 0 false, setAt noTok (0 + (dec16 n ++ [110]).length) false] = ts2 := ⟨_, rfl⟩
    rw [hts2] at h3
    have HT2 := hide hts2
    clear hts2
    obtain ⟨s, hs⟩ : ∃ s : ByteArray, ⟨(decS n).toArray⟩ = s := ⟨_, rfl⟩
    rw [hs] at h3 hD
    clear hs
    obtain ⟨s2, hs2⟩ : ∃ s2 : ByteArray, s ++ ⟨#[110]⟩ = s2 := ⟨_, rfl⟩
    obtain ⟨s3, hs3⟩ : ∃ s3 : ByteArray, ⟨#[48]⟩ ++ s = s3 := ⟨_, rfl⟩
    rw [hs2, hs3] at h3
    by_cases hbig : n ≤ 9007199254740991
    · rw [if_pos hbig] at h3
      obtain ⟨ts1, hts1⟩ : ∃ ts1, [setAt { noTok with kind := 2, nn := (n : Int) } 0 false, setAt noTok (0 + (dec16 n).length) false] = ts1 := ⟨_, rfl⟩
      rw [hts1] at h3
      have HT1 := hide hts1
      have hxb : x ≤ 9007199254740991 := by omega
      have HX := hide hn
      clear hts1 hn hbig
      have HA := hide h3.a
      have HB := hide h3.b
      have HC := hide h3.c
      have hza := h3.a.short
      have hzb := h3.b.short
      have hzc := h3.c.short
      clear h3
      obtain ⟨N1, hN1⟩ : ∃ N, ts1.length = N := ⟨_, rfl⟩
      obtain ⟨N2, hN2⟩ : ∃ N, ts2.length = N := ⟨_, rfl⟩
      obtain ⟨N3, hN3⟩ : ∃ N, ([] : List Tok).length = N := ⟨_, rfl⟩
      simp only [hN1, hN2, hN3] at HA HB HC
      have HN1 := hide hN1
      have HN2 := hide hN2
      clear hN1 hN2 hN3
      go_enter Try.func6, Try.ntmps6
      go_wp2_with fail
      refine (lfirst_any w).mono ?_
      rintro e w1 ⟨rfl, hb1⟩
      go_wp2_with fail
      refine (hD.out w1).mono ?_
      rintro e w2 ⟨rfl, hb2⟩
      go_wp2_with fail
      refine (lascii_str s (by omega) w2).mono ?_
      rintro e w3 ⟨A3, c3, rfl, hr3, hl3, hm3, hb3⟩
      go_wp2_with fail
      refine (lsrc_tok HA.out hr3 hl3 hm3).mono ?_
      rintro e w4 ⟨A4, c4, rfl, ht4, hc4, _, hb4⟩
      have HT4 := hide ht4
      have HB4 := hide (bstep hb1 (bstep hb2 (bstep hb3 hb4)))
      clear hb1 hb2 hb3 hb4 hr3 hl3 hm3 ht4
      go_wp2_with fail
      refine (lascii_str s2 (by omega) w4).mono ?_
      rintro e w5 ⟨A5, c5, rfl, hr5, hl5, hm5, hb5⟩
      go_wp2_with fail
      refine (lsrc_tok HB.out hr5 hl5 hm5).mono ?_
      rintro e w6 ⟨A6, c6, rfl, ht6, hc6, _, hb6⟩
      have HT6 := hide ht6
      have HT46 := hide (HT4.out.below (bstep hb5 hb6))
      have HB6 := hide (bstep HB4.out (bstep hb5 hb6))
      clear hb5 hb6 hr5 hl5 hm5 ht6 HT4 HB4
      go_wp2_with fail
      refine (lascii_str s3 (by omega) w6).mono ?_
      rintro e w7 ⟨A7, c7, rfl, hr7, hl7, hm7, hb7⟩
      go_wp2_with fail
      refine (lsrc_tok HC.out hr7 hl7 hm7).mono ?_
      rintro e w8 ⟨A8, c8, rfl, ht8, hc8, _, hb8⟩
      have HT68 := hide (HT6.out.below (bstep hb7 hb8))
      have HT48 := hide (HT46.out.below (bstep hb7 hb8))
      have HB8 := hide (bstep HB6.out (bstep hb7 hb8))
      clear hb7 hb8 hr7 hl7 hm7 ht8 HT6 HT46 HB6
      clear hs2 hs3
      have hN : N1 = 2 := by rw [← HN1.out, ← HT1.out]; rfl
      subst hN
      obtain ⟨g, rfl, _, hg, hat⟩ := HT48.out.at_ (by rw [HN1.out]; omega)
      obtain ⟨_, _, _, _, h0⟩ := hat 0 (by rw [HN1.out]; omega)
      have h2 : ts1[0]'(by rw [HN1.out]; omega) = setAt { noTok with kind := 2, nn := (n : Int) } 0 false := by
        simp only [← HT1.out, List.getElem_cons_zero]
      have hk0 : w8.cell? ⟨g, 0, none⟩ = some (.int .i64 2) := by
        have := h0.k0
        rw [h2] at this
        exact this
      have hk4 : w8.cell? ⟨g, 4, none⟩ = some (.int .i64 x) := by
        have := h0.k4
        rw [h2] at this
        rw [HX.out]
        exact this
      clear hat h0 h2
      have ex : (x != x) = false := by simp
      have hNb : N2 = 2 := by rw [← HN2.out, ← HT2.out]; rfl
      subst hNb
      go_wp2_with fail
      refine (lfirst_any w8).mono ?_
      rintro e w9 ⟨rfl, hb9⟩
      have HT9 := hide (HT68.out.below hb9)
      obtain ⟨g2, rfl, _, _, hat⟩ := HT9.out.at_ (by rw [HN2.out]; omega)
      obtain ⟨_, _, _, _, h0⟩ := hat 0 (by rw [HN2.out]; omega)
      have hk2 : w9.cell? ⟨g2, 0, none⟩ = some (.int .i64 3) := by
        have := h0.k0
        have h2 : ts2[0]'(by rw [HN2.out]; omega) = setAt { noTok with kind := 3, mag := limbs n } 0 false := by
          simp only [← HT2.out, List.getElem_cons_zero]
        rw [h2] at this
        exact this
      clear hat h0
      go_wp2_with fail
      go_ret
      exact ⟨rfl, bstep HB8.out hb9⟩
    · rw [if_neg hbig] at h3
      have hxb : ¬ x ≤ 9007199254740991 := by omega
      clear hn hbig
      have HA := hide h3.a
      have HB := hide h3.b
      have HC := hide h3.c
      have hza := h3.a.short
      have hzb := h3.b.short
      have hzc := h3.c.short
      clear h3
      obtain ⟨N1, hN1⟩ : ∃ N, ([] : List Tok).length = N := ⟨_, rfl⟩
      obtain ⟨N2, hN2⟩ : ∃ N, ts2.length = N := ⟨_, rfl⟩
      obtain ⟨N3, hN3⟩ : ∃ N, ([] : List Tok).length = N := ⟨_, rfl⟩
      simp only [hN1, hN2] at HA HB HC
      have HN1 := hide hN1
      have HN2 := hide hN2
      clear hN1 hN2 hN3
      go_enter Try.func6, Try.ntmps6
      go_wp2_with fail
      refine (lfirst_any w).mono ?_
      rintro e w1 ⟨rfl, hb1⟩
      go_wp2_with fail
      refine (hD.out w1).mono ?_
      rintro e w2 ⟨rfl, hb2⟩
      go_wp2_with fail
      refine (lascii_str s (by omega) w2).mono ?_
      rintro e w3 ⟨A3, c3, rfl, hr3, hl3, hm3, hb3⟩
      go_wp2_with fail
      refine (lsrc_tok HA.out hr3 hl3 hm3).mono ?_
      rintro e w4 ⟨A4, c4, rfl, ht4, hc4, _, hb4⟩
      have HT4 := hide ht4
      have HB4 := hide (bstep hb1 (bstep hb2 (bstep hb3 hb4)))
      clear hb1 hb2 hb3 hb4 hr3 hl3 hm3 ht4
      go_wp2_with fail
      refine (lascii_str s2 (by omega) w4).mono ?_
      rintro e w5 ⟨A5, c5, rfl, hr5, hl5, hm5, hb5⟩
      go_wp2_with fail
      refine (lsrc_tok HB.out hr5 hl5 hm5).mono ?_
      rintro e w6 ⟨A6, c6, rfl, ht6, hc6, _, hb6⟩
      have HT6 := hide ht6
      have HT46 := hide (HT4.out.below (bstep hb5 hb6))
      have HB6 := hide (bstep HB4.out (bstep hb5 hb6))
      clear hb5 hb6 hr5 hl5 hm5 ht6 HT4 HB4
      go_wp2_with fail
      refine (lascii_str s3 (by omega) w6).mono ?_
      rintro e w7 ⟨A7, c7, rfl, hr7, hl7, hm7, hb7⟩
      go_wp2_with fail
      refine (lsrc_tok HC.out hr7 hl7 hm7).mono ?_
      rintro e w8 ⟨A8, c8, rfl, ht8, hc8, _, hb8⟩
      have HT68 := hide (HT6.out.below (bstep hb7 hb8))
      have HT48 := hide (HT46.out.below (bstep hb7 hb8))
      have HB8 := hide (bstep HB6.out (bstep hb7 hb8))
      clear hb7 hb8 hr7 hl7 hm7 ht8 HT6 HT46 HB6
      clear hs2 hs3
      have hNb : N2 = 2 := by rw [← HN2.out, ← HT2.out]; rfl
      subst hNb
      go_wp2_with fail
      refine (lfirst_any w8).mono ?_
      rintro e w9 ⟨rfl, hb9⟩
      have HT9 := hide (HT68.out.below hb9)
      obtain ⟨g2, rfl, _, _, hat⟩ := HT9.out.at_ (by rw [HN2.out]; omega)
      obtain ⟨_, _, _, _, h0⟩ := hat 0 (by rw [HN2.out]; omega)
      have hk2 : w9.cell? ⟨g2, 0, none⟩ = some (.int .i64 3) := by
        have := h0.k0
        have h2 : ts2[0]'(by rw [HN2.out]; omega) = setAt { noTok with kind := 3, mag := limbs n } 0 false := by
          simp only [← HT2.out, List.getElem_cons_zero]
        rw [h2] at this
        exact this
      clear hat h0
      go_wp2_with fail
      go_ret
      exact ⟨rfl, bstep HB8.out hb9⟩
end Go.Proofs.Ytngcikgjdeomdaa
