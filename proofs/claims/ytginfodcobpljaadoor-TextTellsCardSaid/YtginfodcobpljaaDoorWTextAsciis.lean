/- The law TextAsciis, walked: texts of bytes below 128 are units and plain texts, there and back, and well formed. -/
import Derived.Test.YtginfodcobpljaaDoorKit3
import Derived.Test.YtginfodcobpljaaDoorBytesT
import Derived.Test.YtginfodcobpljaaDoorAsciiLaw
namespace Go.Proofs.YtginfodcobpljaaDoor
open Go.RowKit

theorem plain_is {A : Option Addr} {c B n : Nat} {xs : List UInt16} {w : World} (hB : B ≤ w.heap.size) (hn : xs.length = n) (ha : Reads w B 1 A n (u16s xs)) (hl : n ≤ 70368744177664) {t : ByteArray} {b : Bool} (h1 : plainF xs = t) (h2 : plainOk xs = b) :
    Calls Tryd.prog 30 #[.slice A n c] w fun e w' => e = .returned (.tuple #[.string t, .bool b]) ∧ Below w.heap.size w w' := by
  subst hn h1 h2
  exact plain_any hB ha hl
theorem bytes_is {A : Option Addr} {c B n : Nat} {u : List UInt16} {w : World} (hB : B ≤ w.heap.size) (hn : u.length = n) (ha : Reads w B 1 A n (u16s u)) (hl : n ≤ 100000000000) {e : Nat} {bs : List UInt8} (h1 : bErr u = e) (h2 : bOut u = bs) :
    Calls Tryd.prog 25 #[.slice A n c] w fun ev w' => ∃ A' c', ev = .returned (.tuple #[.slice A' bs.length c', .int .i64 (e : Int)]) ∧ Reads w' w'.heap.size 1 A' bs.length (u8s bs) ∧ bs.length ≤ c' ∧ c' ≤ maxLen ∧ Below w.heap.size w w' := by
  subst hn h1 h2
  refine (bytes_any (c := c) hB ha hl).mono ?_
  rintro ev w' ⟨v, rfl, hm⟩
  have hb := hm.below
  obtain ⟨A', c', rfl, h1, h2, hr⟩ := hm.u8
  exact ⟨A', c', rfl, hr, h1, h2, hb⟩
theorem all_snoc (l : List UInt8) (k : Nat) (h : k < l.length) : (l.take (k + 1)).all (fun b => decide (b.toNat < 128)) = ((l.take k).all (fun b => decide (b.toNat < 128)) && decide (l[k].toNat < 128)) := by
  rw [List.take_succ_eq_append_getElem h, List.all_append]
  simp

set_option maxHeartbeats 8000000 in
set_option maxRecDepth 100000 in
theorem textAsciis_law (s : ByteArray) (hs : s.size ≤ maxLen) (w : World) (hT : Tabs w) :
    Calls Tryd.prog 11 #[.string s] w fun e w' => e = .returned (.bool true) ∧ Below w.heap.size w w' := by
  have HT := hide hT
  clear hT
  go_enter Tryd.func11, Tryd.ntmps11
  go_wp2_with fail
  refine (first_any w HT.out).mono ?_
  rintro e w1 ⟨rfl, hb1⟩
  have hs1 := hb1.size
  have HT1 := hide (HT.out.grow hb1)
  by_cases hl : 4000 < s.size
  · go_wp2_with fail
    refine (first_any _ HT1.out).mono ?_
    rintro e w2 ⟨rfl, hb2⟩
    go_wp2
    go_ret
    exact ⟨rfl, bthen hb1 hb2⟩
  go_wp2_with fail
  refine (ascii_any s w1 (by omega)).mono ?_
  rintro e w2 ⟨v2, rfl, hm2⟩
  have hb2 := hm2.below
  have hs2 := hb2.size
  obtain ⟨A2, c2, rfl, h21, h22, hr2⟩ := hm2.u16
  have hlen : (ascii s.data.toList).length = s.size := by simp [ascii]
  clear hm2
  rw [hlen] at h21 hr2 ⊢
  have HT2 := hide (HT1.out.grow hb2)
  obtain ⟨t, ht⟩ : ∃ t, plainF (ascii s.data.toList) = t := ⟨_, rfl⟩
  obtain ⟨p, hp⟩ : ∃ p, plainOk (ascii s.data.toList) = p := ⟨_, rfl⟩
  have htp : p = true → t = s := fun h => by rw [← ht]; exact plainF_ascii s (by rw [hp, h])
  have hpa : p = s.data.toList.all fun b => decide (b.toNat < 128) := by rw [← hp]; exact plainOk_ascii _
  have HP := hide (show plainF (ascii s.data.toList) = t ∧ plainOk (ascii s.data.toList) = p from ⟨ht, hp⟩)
  have HPA := hide hpa
  have HTP := hide htp
  have HLEN := hide hlen
  clear ht hp htp hpa hlen
  go_wp2_with fail
  refine (plain_is (Nat.le_refl _) HLEN.out hr2 (by omega) HP.out.1 HP.out.2).mono ?_
  rintro e w3 ⟨rfl, hb3⟩
  have hs3 := hb3.size
  go_wp2
  go_loop [6, 7] (fun q i => ∃ k b, k ≤ s.size ∧ i = .int .i64 (k : Nat) ∧ q = .bool b ∧ Hid (b = (s.data.toList.take k).all fun b => decide (b.toNat < 128))) (fun _ i => s.size - (intOf i).toNat)
  case atStart => exact ⟨0, true, Nat.zero_le _, rfl, rfl, rfl⟩
  case round =>
    obtain ⟨k, b, hk, rfl, rfl, hb⟩ := hrel
    by_cases hlt : k < s.size
    · have hx := s[k].toNat_lt
      have hnext : (s.data.toList.take (k + 1)).all (fun b => decide (b.toNat < 128)) = (b && decide (s[k].toNat < 128)) := by
        rw [all_snoc _ k (by simpa using hlt), ← hb.out]
        rfl
      have HN := hide hnext
      clear hnext
      cases b with
      | false =>
        go_wp2
        go_round
        case rel => exact ⟨k + 1, false, by omega, by go_num, rfl, hide (by rw [HN.out]; rfl)⟩
        case measure => simp [intOf]; omega
      | true =>
        by_cases h8 : s[k].toNat < 128
        · go_wp2
          go_round
          case rel => exact ⟨k + 1, true, by omega, by go_num, by go_num, hide (by rw [HN.out]; simp [h8])⟩
          case measure => simp [intOf]; omega
        · go_wp2
          go_round
          case rel => exact ⟨k + 1, false, by omega, by go_num, by go_num, hide (by rw [HN.out]; simp [h8])⟩
          case measure => simp [intOf]; omega
    · obtain rfl : k = s.size := by omega
      obtain rfl : b = p := by rw [hb.out, HPA.out, List.take_of_length_le (by simp)]
      have HT3 := hide (HT2.out.grow hb3)
      obtain ⟨bs, hbs, hbe⟩ := bytesF_ascii s.data.toList
      have HB1 := hide (show bErr (ascii s.data.toList) = 0 by unfold bErr; rw [hbs]; rfl)
      have HB2 := hide (show bOut (ascii s.data.toList) = bs by unfold bOut; rw [hbs]; rfl)
      have hr23 := hr2.below hb3
      clear hbs
      cases b with
      | false =>
        clear hbe
        go_wp2_with fail
        refine (bytes_is (B := w2.heap.size) hs3 HLEN.out hr23 (by omega) HB1.out HB2.out).mono ?_
        rintro e w4 ⟨A4, c4, rfl, hr4, h41, h42, hb4⟩
        go_wp2_with fail
        refine (first_any _ (HT3.out.grow hb4)).mono ?_
        rintro e w5 ⟨rfl, hb5⟩
        go_wp2
        go_ret
        exact ⟨rfl, bthen (bthen (bthen (bthen hb1 hb2) hb3) hb4) hb5⟩
      | true =>
        have hts : t = s := HTP.out rfl
        have hbl : bs = s.data.toList := hbe fun x hx => of_decide_eq_true (List.all_eq_true.1 HPA.out.symm x hx)
        subst hts hbl
        have hL : t.data.toList.length = t.size := by simp
        have HL := hide hL
        clear hbe hL
        go_wp2_with fail
        refine (bytes_is (B := w2.heap.size) hs3 HLEN.out hr23 (by omega) HB1.out HB2.out).mono ?_
        rintro e w4 ⟨A4, c4, rfl, hr4, h41, h42, hb4⟩
        go_wp2_with fail
        refine (first_any _ (HT3.out.grow hb4)).mono ?_
        rintro e w5 ⟨rfl, hb5⟩
        have hstr := run_str (n := t.size) (c := c4) (l := t.data.toList) (by have h9 := hr4.below hb5; rwa [show t.data.toList.length = t.size by simp] at h9)
        rw [show (⟨t.data.toList.toArray⟩ : ByteArray) = t by cases t; simp] at hstr
        go_wp2
        go_ret
        exact ⟨rfl, bthen (bthen (bthen (bthen hb1 hb2) hb3) hb4) hb5⟩
end Go.Proofs.YtginfodcobpljaaDoor
