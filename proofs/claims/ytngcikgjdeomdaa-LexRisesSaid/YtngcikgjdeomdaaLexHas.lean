/- The reader's has, walked: do these bytes stand here? -/
import Derived.Test.YtngcikgjdeomdaaLexIs
namespace Go.Proofs.Ytngcikgjdeomdaa
open Go.RowKit

theorem starts_get {s : List UInt8} {l : List UInt16} : starts s l = true ↔ ∀ i (h : i < s.length), l[i]? = some s[i].toUInt16 := by
  unfold starts
  rw [List.isPrefixOf_iff_prefix, List.prefix_iff_getElem?]
  simp
theorem starts_no {s : List UInt8} {l : List UInt16} {i : Nat} (h : i < s.length) (h2 : l[i]? ≠ some s[i].toUInt16) : starts s l = false := by
  cases hs : starts s l with
  | false => rfl
  | true => exact absurd (starts_get.1 hs i h) h2

set_option maxHeartbeats 2000000 in
set_option maxRecDepth 100000 in
theorem lhas_any {A : Option Addr} {c g B k n : Nat} {u : List UInt16} (s : ByteArray) {w : World} (hr : Rd w g A n c k) (hn : u.length = n) (ha : Reads w B 1 A n (u16s u)) (hk : k ≤ n) (hl : n ≤ 4096) (hs : s.size ≤ 4096) {q : Bool} (hq : starts s.data.toList (u.drop k) = q) :
    Calls Try.prog 41 #[.pointer (some ⟨g, 0, none⟩), .string s] w fun e w' => e = .returned (.bool q) ∧ ∃ m, w' = w.drewN m := by
  subst hn
  have HQ := hide hq
  have HA := hide ha
  have HR := hide hr
  clear hq ha hr
  go_enter Try.func41, Try.ntmps41
  go_wp2
  go_loopw [8] (fun i wr => ∃ j : Nat, j ≤ s.size ∧ i = .int .i64 (j : Nat) ∧ (∃ m, wr = w.drewN m) ∧ Hid (∀ i (h : i < s.data.toList.length), i < j → (u.drop k)[i]? = some s.data.toList[i].toUInt16)) (fun i _ => s.size - (intOf i).toNat)
  case atStart => exact ⟨0, Nat.zero_le _, rfl, ⟨0, rfl⟩, fun i _ h => absurd h (by omega)⟩
  case round =>
    obtain ⟨j, hj, rfl, ⟨m, hw⟩, hpre⟩ := hrel
    have hc0 : wr.cell? ⟨g, 0, none⟩ = some (.slice A u.length c) := by rw [hw]; exact (HR.out.drewN m).c0
    have hc1 : wr.cell? ⟨g, 1, none⟩ = some (.int .i64 (k : Int)) := by rw [hw]; exact (HR.out.drewN m).c1
    have har : Hid (Reads wr B 1 A u.length (u16s u)) := by rw [hw]; exact HA.out.drewN m
    have HW := hide hw
    clear hw
    by_cases hlt : j < s.size
    · have hjl : j < s.data.toList.length := by simpa using hlt
      by_cases hin : k + j < u.length
      · have hin2 : ¬ (u.length : Int) ≤ (k : Int) + (j : Int) := by omega
        have hin3 : (k : Int) + (j : Int) < (u.length : Int) := by omega
        have hin4 : decide ((u.length : Int) ≤ (k : Int) + (j : Int)) = false := decide_eq_false hin2
        obtain ⟨b, off, rfl, _, hcell⟩ := har.out.spotL (by omega)
        have hca := hcell (k + j) hin
        have hx := u[k + j].toNat_lt
        have hy := s[j].toNat_lt
        obtain ⟨x, hxx⟩ : ∃ x, u[k + j].toNat = x := ⟨_, rfl⟩
        rw [hxx] at hca hx
        by_cases he : x = s[j].toNat
        · have e1 : ((x : Int) != (s[j].toNat : Int)) = false := by rw [he]; simp
          have HN := hide (show (u.drop k)[j]? = some s.data.toList[j].toUInt16 by
            rw [List.getElem?_drop, List.getElem?_eq_getElem hin]
            congr 1
            refine UInt16.toNat_inj.1 ?_
            rw [hxx, he]
            simp
            rfl)
          clear hcell he hxx hin
          go_wp2_with fail
          go_quiet (fail)
          go_wp2
          go_roundw
          case rel =>
            refine ⟨j + 1, by omega, by go_num, ⟨_, by rw [HW.out]; exact World.drewN_drewN _ _ _⟩, ?_⟩
            intro i h hi
            by_cases e : i = j
            · subst e; exact HN.out
            · exact hpre.out i h (by omega)
          case measure => simp [intOf]; omega
        · have e1 : ((x : Int) != (s[j].toNat : Int)) = true := by rw [bne_iff_ne]; omega
          have HN := hide (show false = q by
            rw [← HQ.out, starts_no hjl]
            rw [List.getElem?_drop, List.getElem?_eq_getElem hin]
            intro h
            injection h with h
            apply he
            rw [← hxx, h]
            simp
            rfl)
          clear hcell he hxx hin
          go_wp2_with fail
          go_quiet (fail)
          go_wp2
          go_ret
          exact ⟨ret_bool HN.out, _, by rw [HW.out]; exact World.drewN_drewN _ _ _⟩
      · have hin2 : (u.length : Int) ≤ (k : Int) + (j : Int) := by omega
        have HN := hide (show false = q by
          rw [← HQ.out, starts_no hjl]
          rw [List.getElem?_eq_none (by rw [List.length_drop]; omega)]
          exact fun h => by cases h)
        clear hin
        go_wp2_with fail
        go_quiet (fail)
        go_wp2
        go_ret
        exact ⟨ret_bool HN.out, _, by rw [HW.out]; exact World.drewN_drewN _ _ _⟩
    · have HN := hide (show true = q by
        rw [← HQ.out, starts_get.2]
        intro i h
        exact hpre.out i h (by have : i < s.size := by simpa using h
                               omega))
      go_wp2
      go_ret
      exact ⟨ret_bool HN.out, m, HW.out⟩
end Go.Proofs.Ytngcikgjdeomdaa
