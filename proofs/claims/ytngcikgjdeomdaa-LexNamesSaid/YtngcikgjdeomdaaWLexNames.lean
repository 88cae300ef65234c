/- The law LexNames, walked. -/
import Derived.Test.YtngcikgjdeomdaaLexFirst
import Derived.Test.YtngcikgjdeomdaaPNames
import Derived.Test.YtngcikgjdeomdaaR5Words
import Derived.Deep.RegionHeld3
namespace Go.Proofs.Ytngcikgjdeomdaa
open Go.RowKit

theorem lword_is {s : ByteArray} {n : Nat} (h : wordF s.data.toList = n) (w : World) : Calls Try.prog 21 #[.string s] w fun e w' => e = .returned (.int .i64 (n : Int)) ∧ w = w' := by
  subst h
  exact lword_any s w
theorem lsign_at {s : ByteArray} {n : Nat} (h : signF s.data.toList = n) (w : World) : Calls Try.prog 23 #[.string s] w fun e w' => e = .returned (.int .i64 (n : Int)) ∧ w = w' := by
  subst h
  exact lsign_any s w
theorem lascii_str (s : ByteArray) (hs : s.size ≤ 70368744177664) (w : World) :
    Calls Try.prog 20 #[.string s] w fun e w' => ∃ A c, e = .returned (.slice A s.size c) ∧ Reads w' w'.heap.size 1 A s.size (u16s (ascii s.data.toList)) ∧ s.size ≤ c ∧ c ≤ maxLen ∧ Below w.heap.size w w' := by
  refine (ascii_any s w hs).mono ?_
  rintro e w' ⟨v, rfl, hm⟩
  obtain ⟨A, c, rfl, h1, h2, hr⟩ := hm.u16
  have hl : (ascii s.data.toList).length = s.size := by simp [ascii]
  rw [hl] at hr h1 ⊢
  exact ⟨A, c, rfl, hr, h1, h2, hm.below⟩
set_option maxHeartbeats 8000000 in
set_option maxRecDepth 100000 in
theorem lexNames_law (s : ByteArray) (_hs : s.size ≤ maxLen) (w : World) :
    Calls Try.prog 11 #[.string s] w fun e w' => e = .returned (.bool true) ∧ Below w.heap.size w w' := by
  by_cases hlong : 4000 < s.size
  · have h2 : (4000 : Int) < (s.size : Int) := by omega
    go_enter Try.func11, Try.ntmps11
    go_wp2_with fail
    refine (lfirst_any w).mono ?_
    rintro e w1 ⟨rfl, hb1⟩
    go_wp2_with fail
    refine (lfirst_any w1).mono ?_
    rintro e w2 ⟨rfl, hb2⟩
    go_wp2_with fail
    go_ret
    exact ⟨rfl, bstep hb1 hb2⟩
  · have hl : s.size ≤ 4000 := by omega
    have hbl : s.data.toList.length ≤ 4000 := by simpa using hl
    have hal : (ascii s.data.toList).length = s.size := by simp [ascii]
    have HAL := hide hal
    obtain ⟨⟨ts, at0, er⟩, hq⟩ : ∃ q, lexF (ascii s.data.toList) = q := ⟨_, rfl⟩
    obtain ⟨nm, hnm⟩ : ∃ n, nameF s.data.toList = n := ⟨_, rfl⟩
    obtain ⟨wd, hwd⟩ : ∃ n, wordF s.data.toList = n := ⟨_, rfl⟩
    obtain ⟨sg, hsg⟩ : ∃ n, signF s.data.toList = n := ⟨_, rfl⟩
    have HNM := hide hnm
    have HWD := hide hwd
    have HSG := hide hsg
    have HQ := hide hq
    have hlaw := hide (fun h => names_law hbl h)
    rw [hnm, hwd, hsg, hq] at hlaw
    have hsgt := hide (fun h => sign_two (b := s.data.toList) h)
    rw [hsg, hq] at hsgt
    clear hlong hal hnm hwd hsg hq hbl
    obtain ⟨N, hN⟩ : ∃ N, ts.length = N := ⟨_, rfl⟩
    have HN := hide hN
    clear hN
    go_enter Try.func11, Try.ntmps11
    go_wp2_with fail
    refine (lfirst_any w).mono ?_
    rintro e w1 ⟨rfl, hb1⟩
    go_wp2_with fail
    refine (lascii_str s (by omega) w1).mono ?_
    rintro e w2 ⟨A2, c2, rfl, hr2, hl2, hm2, hb2⟩
    go_wp2_with fail
    refine (ltok_is (Nat.le_refl _) HAL.out hr2 hl2 hm2 HQ.out HN.out).mono ?_
    rintro e w3 ⟨A3, c3, rfl, ht3, hc3, _, hb3⟩
    have HT := hide ht3
    have HB := hide (bstep hb1 (bstep hb2 hb3))
    clear hb1 hr2 hl2 hm2 hb2 ht3 hb3
    by_cases hcase : nm = true ∨ 0 < wd ∨ sg = 1
    · obtain ⟨k, hk1, hk2⟩ := hlaw.out hcase
      obtain ⟨rfl, rfl, rfl⟩ : ts = [{ noTok with kind := k, text := s.data.toList }, setAt noTok s.data.toList.length false] ∧ at0 = 0 ∧ er = 0 := by
        simpa only [Prod.mk.injEq] using hk1
      obtain rfl : N = 2 := HN.out.symm
      obtain ⟨g, rfl, _, hg, hat⟩ := HT.out.at_ (by simp)
      obtain ⟨_, _, _, _, h0⟩ := hat 0 (by simp)
      have hx0 : w3.cell? ⟨g, 0, none⟩ = some (.int .i64 (k : Int)) := h0.k0
      have hx1 : w3.cell? ⟨g, 1, none⟩ = some (.string s) := h0.k1
      have hx7 : w3.cell? ⟨g, 7, none⟩ = some (.int .i64 0) := h0.k7
      clear hk1 hcase hlaw hsgt hat h0
      rcases hk2 with ⟨rfl, rfl, rfl⟩ | ⟨rfl, rfl, hw0⟩ | ⟨rfl, rfl, rfl, rfl⟩
      · go_wp2_with (first | (go_at_call 25; refine (lname_any s _ (by omega) HNM.out).mono ?_; rintro e5 w5 ⟨rfl, rfl⟩) | (go_at_call 21; refine (lword_is HWD.out _).mono ?_; rintro e5 w5 ⟨rfl, rfl⟩) | (go_at_call 23; refine (lsign_at HSG.out _).mono ?_; rintro e5 w5 ⟨rfl, rfl⟩))
        go_region_held3 (fun w' => w'.cell? ⟨g, 0, none⟩ = some (.int .i64 1) ∧ w'.cell? ⟨g, 1, none⟩ = some (.string s) ∧ w'.cell? ⟨g, 7, none⟩ = some (.int .i64 0))
          (first | (exact ⟨hx0, hx1, hx7⟩) | (exact ⟨(hb7.cell (p := ⟨g, 0, none⟩) hg).trans hx0, (hb7.cell (p := ⟨g, 1, none⟩) hg).trans hx1, (hb7.cell (p := ⟨g, 7, none⟩) hg).trans hx7⟩) | go_keep)
          (first | (go_at_call 12; go_split_ands; refine (lfirst_any _).mono ?_; rintro e7 w7 ⟨rfl, hb7⟩) | (go_at_call 25; go_split_ands; refine (lname_any s _ (by omega) HNM.out).mono ?_; rintro e5 w5 ⟨rfl, rfl⟩) | (go_at_call 21; go_split_ands; refine (lword_is HWD.out _).mono ?_; rintro e5 w5 ⟨rfl, rfl⟩))
        all_goals go_wp2_with fail
        all_goals go_ret
        all_goals exact ⟨rfl, bstep HB.out ⟨hb7.os, hb7.tape, hb7.output, hb7.size, hb7.block⟩⟩
      · go_wp2_with (first | (go_at_call 25; refine (lname_any s _ (by omega) HNM.out).mono ?_; rintro e5 w5 ⟨rfl, rfl⟩) | (go_at_call 21; refine (lword_is HWD.out _).mono ?_; rintro e5 w5 ⟨rfl, rfl⟩) | (go_at_call 23; refine (lsign_at HSG.out _).mono ?_; rintro e5 w5 ⟨rfl, rfl⟩))
        go_region_held3 (fun w' => w'.cell? ⟨g, 0, none⟩ = some (.int .i64 6) ∧ w'.cell? ⟨g, 1, none⟩ = some (.string s) ∧ w'.cell? ⟨g, 7, none⟩ = some (.int .i64 0))
          (first | (exact ⟨hx0, hx1, hx7⟩) | (exact ⟨(hb7.cell (p := ⟨g, 0, none⟩) hg).trans hx0, (hb7.cell (p := ⟨g, 1, none⟩) hg).trans hx1, (hb7.cell (p := ⟨g, 7, none⟩) hg).trans hx7⟩) | go_keep)
          (first | (go_at_call 12; go_split_ands; refine (lfirst_any _).mono ?_; rintro e7 w7 ⟨rfl, hb7⟩) | (go_at_call 25; go_split_ands; refine (lname_any s _ (by omega) HNM.out).mono ?_; rintro e5 w5 ⟨rfl, rfl⟩) | (go_at_call 21; go_split_ands; refine (lword_is HWD.out _).mono ?_; rintro e5 w5 ⟨rfl, rfl⟩))
        all_goals go_wp2_with fail
        all_goals go_ret
        all_goals exact ⟨rfl, bstep HB.out ⟨hb7.os, hb7.tape, hb7.output, hb7.size, hb7.block⟩⟩
      · go_wp2_with (first | (go_at_call 25; refine (lname_any s _ (by omega) HNM.out).mono ?_; rintro e5 w5 ⟨rfl, rfl⟩) | (go_at_call 21; refine (lword_is HWD.out _).mono ?_; rintro e5 w5 ⟨rfl, rfl⟩) | (go_at_call 23; refine (lsign_at HSG.out _).mono ?_; rintro e5 w5 ⟨rfl, rfl⟩))
        go_region_held3 (fun w' => w'.cell? ⟨g, 0, none⟩ = some (.int .i64 5) ∧ w'.cell? ⟨g, 1, none⟩ = some (.string s) ∧ w'.cell? ⟨g, 7, none⟩ = some (.int .i64 0))
          (first | (exact ⟨hx0, hx1, hx7⟩) | (exact ⟨(hb7.cell (p := ⟨g, 0, none⟩) hg).trans hx0, (hb7.cell (p := ⟨g, 1, none⟩) hg).trans hx1, (hb7.cell (p := ⟨g, 7, none⟩) hg).trans hx7⟩) | go_keep)
          (first | (go_at_call 12; go_split_ands; refine (lfirst_any _).mono ?_; rintro e7 w7 ⟨rfl, hb7⟩) | (go_at_call 25; go_split_ands; refine (lname_any s _ (by omega) HNM.out).mono ?_; rintro e5 w5 ⟨rfl, rfl⟩) | (go_at_call 21; go_split_ands; refine (lword_is HWD.out _).mono ?_; rintro e5 w5 ⟨rfl, rfl⟩))
        all_goals go_wp2_with fail
        all_goals go_ret
        all_goals exact ⟨rfl, bstep HB.out ⟨hb7.os, hb7.tape, hb7.output, hb7.size, hb7.block⟩⟩
    · have hnm : nm = false := by cases nm with | false => rfl | true => exact absurd (.inl rfl) hcase
      have hwd : wd = 0 := by have : ¬ 0 < wd := fun h => hcase (.inr (.inl h)); omega
      have hsg : sg ≠ 1 := fun h => hcase (.inr (.inr h))
      subst hnm hwd
      have e1 : ((sg : Int) == 1) = false := beq_eq_false_iff_ne.2 (by omega)
      have h2f := hide (fun h => hsgt.out h)
      clear hcase hlaw hsgt hsg
      by_cases h2 : sg = 2
      · subst h2
        obtain rfl : er = 6 := h2f.out rfl
        go_wp2_with (first | (go_at_call 25; refine (lname_any s _ (by omega) HNM.out).mono ?_; rintro e5 w5 ⟨rfl, rfl⟩) | (go_at_call 21; refine (lword_is HWD.out _).mono ?_; rintro e5 w5 ⟨rfl, rfl⟩) | (go_at_call 23; refine (lsign_at HSG.out _).mono ?_; rintro e5 w5 ⟨rfl, rfl⟩) | (go_at_call 12; refine (lfirst_any _).mono ?_; rintro e7 w7 ⟨rfl, hb7⟩))
        go_ret
        exact ⟨rfl, bstep HB.out hb7⟩
      · have e2 : ((sg : Int) != 2) = true := by rw [bne_iff_ne]; omega
        clear h2
        go_wp2_with (first | (go_at_call 25; refine (lname_any s _ (by omega) HNM.out).mono ?_; rintro e5 w5 ⟨rfl, rfl⟩) | (go_at_call 21; refine (lword_is HWD.out _).mono ?_; rintro e5 w5 ⟨rfl, rfl⟩) | (go_at_call 23; refine (lsign_at HSG.out _).mono ?_; rintro e5 w5 ⟨rfl, rfl⟩) | (go_at_call 12; refine (lfirst_any _).mono ?_; rintro e7 w7 ⟨rfl, hb7⟩))
        go_ret
        exact ⟨rfl, bstep HB.out hb7⟩
end Go.Proofs.Ytngcikgjdeomdaa
