/- The well formed sign at the head of bytes, in the reference's own words, in plain Lean. No program. -/
import Derived.Test.YtginfodcobpljaaDoorSpecU
namespace Go.Proofs.YtginfodcobpljaaDoor
open Go.Lib

def signP (l : List UInt8) : Nat × Nat := if isBad (dec l) = true then (0, 0) else ((dec l).2, (dec l).1)
def byteN (l : List UInt8) (k : Nat) : Nat := (l.getD k 0).toNat
/-- the number of the bytes so far -/
def sv (l : List UInt8) (v0 : Nat) : Nat → Nat
  | 0 => v0
  | k + 1 => sv l v0 k * 64 + byteN l (k + 1) % 64
def Lead (c n v0 least : Nat) : Prop :=
  (n = 2 ∧ 192 ≤ c ∧ c < 224 ∧ v0 = c - 192 ∧ least = 128) ∨ (n = 3 ∧ 224 ≤ c ∧ c < 240 ∧ v0 = c - 224 ∧ least = 2048) ∨ (n = 4 ∧ 240 ≤ c ∧ c < 248 ∧ v0 = c - 240 ∧ least = 65536)
def Conts (l : List UInt8) (n : Nat) : Prop := ∀ k, 1 ≤ k → k < n → byteN l k / 64 = 2
def Off (v least : Nat) : Prop := v < least ∨ 1114111 < v ∨ (55296 ≤ v ∧ v < 57344)
theorem byteN_lt (l : List UInt8) (k : Nat) : byteN l k < 256 := UInt8.toNat_lt _
theorem bad_of {l : List UInt8} (h : dec l = (65533, 1)) : signP l = (0, 0) := by unfold signP; rw [h]; rfl
theorem good_of {l : List UInt8} {r n : Nat} (h : dec l = (r, n)) (h2 : ¬ (r = 65533 ∧ n ≤ 1)) : signP l = (n, r) := by
  unfold signP
  rw [h, if_neg (by simp only [isBad, Bool.and_eq_true, beq_iff_eq, decide_eq_true_eq]; exact h2)]
theorem dec_eq (l : List UInt8) : dec l = decodeN l.length (byteN l 0) (byteN l 1) (byteN l 2) (byteN l 3) := rfl
theorem signP_ascii {l : List UInt8} (h : byteN l 0 < 128) : signP l = (1, byteN l 0) := by
  refine good_of ?_ (by omega)
  rw [dec_eq, decodeN, if_pos h]
theorem signP_none {l : List UInt8} (h : 128 ≤ byteN l 0) (h2 : byteN l 0 < 192 ∨ 248 ≤ byteN l 0) : signP l = (0, 0) := by
  refine bad_of ?_
  rw [dec_eq, decodeN, if_neg (by omega), if_neg (by omega), if_neg (by omega), if_neg (by omega)]
theorem signP_short {l : List UInt8} {n v0 least : Nat} (hc : Lead (byteN l 0) n v0 least) (h : l.length < n) : signP l = (0, 0) := by
  refine bad_of ?_
  unfold Lead at hc
  rw [dec_eq, decodeN, if_neg (by omega), if_neg (by omega), if_neg (by omega), if_neg (by omega)]
theorem signP_cont {l : List UInt8} {n v0 least k : Nat} (hc : Lead (byteN l 0) n v0 least) (h1 : 1 ≤ k) (h2 : k < n) (h3 : byteN l k / 64 ≠ 2) : signP l = (0, 0) := by
  refine bad_of ?_
  unfold Lead at hc
  have hk : k = 1 ∨ k = 2 ∨ k = 3 := by omega
  rcases hk with rfl | rfl | rfl
  all_goals rw [dec_eq, decodeN, if_neg (by omega), if_neg (by omega), if_neg (by omega), if_neg (by omega)]
theorem sv_1 (l : List UInt8) (v0 : Nat) : sv l v0 1 = v0 * 64 + byteN l 1 % 64 := rfl
theorem sv_2 (l : List UInt8) (v0 : Nat) : sv l v0 2 = (v0 * 64 + byteN l 1 % 64) * 64 + byteN l 2 % 64 := rfl
theorem sv_3 (l : List UInt8) (v0 : Nat) : sv l v0 3 = ((v0 * 64 + byteN l 1 % 64) * 64 + byteN l 2 % 64) * 64 + byteN l 3 % 64 := rfl
theorem sv_lt {l : List UInt8} {c n v0 least k : Nat} (hc : Lead c n v0 least) (hk : k < n) : sv l v0 k < 2097152 := by
  unfold Lead at hc
  have h : k = 0 ∨ k = 1 ∨ k = 2 ∨ k = 3 := by omega
  rcases h with rfl | rfl | rfl | rfl
  · rw [sv]; omega
  · rw [sv_1]; omega
  · rw [sv_2]; omega
  · rw [sv_3]; omega
set_option maxRecDepth 1000000 in
theorem signP_end {l : List UInt8} {n v0 least : Nat} (hc : Lead (byteN l 0) n v0 least) (hs : Conts l n) (hl : n ≤ l.length) :
    (Off (sv l v0 (n - 1)) least → signP l = (0, 0)) ∧ (¬ Off (sv l v0 (n - 1)) least → signP l = (n, sv l v0 (n - 1))) := by
  unfold Lead at hc
  unfold Conts at hs
  rcases hc with ⟨hn, h1, h2, hv, hq⟩ | ⟨hn, h1, h2, hv, hq⟩ | ⟨hn, h1, h2, hv, hq⟩
  all_goals subst hn hv hq
  · have c1 := hs 1 (by omega) (by omega)
    rw [show 2 - 1 = 1 from rfl, sv_1]
    unfold Off
    refine ⟨fun ho => bad_of ?_, fun ho => good_of ?_ (by omega)⟩
    · rw [dec_eq, decodeN, if_neg (by omega), if_pos (by omega), if_neg (by omega)]
    · rw [dec_eq, decodeN, if_neg (by omega), if_pos (by omega), if_pos (by omega)]
      simp only [Prod.mk.injEq, and_true]
      omega
  · have c1 := hs 1 (by omega) (by omega)
    have c2 := hs 2 (by omega) (by omega)
    rw [show 3 - 1 = 2 from rfl, sv_2]
    unfold Off
    refine ⟨fun ho => bad_of ?_, fun ho => good_of ?_ (by omega)⟩
    · rw [dec_eq, decodeN, if_neg (by omega), if_neg (by omega), if_pos (by omega), if_neg (by omega)]
    · rw [dec_eq, decodeN, if_neg (by omega), if_neg (by omega), if_pos (by omega), if_pos (by omega)]
      simp only [Prod.mk.injEq, and_true]
      omega
  · have c1 := hs 1 (by omega) (by omega)
    have c2 := hs 2 (by omega) (by omega)
    have c3 := hs 3 (by omega) (by omega)
    rw [show 4 - 1 = 3 from rfl, sv_3]
    unfold Off
    refine ⟨fun ho => bad_of ?_, fun ho => good_of ?_ (by omega)⟩
    · rw [dec_eq, decodeN, if_neg (by omega), if_neg (by omega), if_neg (by omega), if_pos (by omega), if_neg (by omega)]
    · rw [dec_eq, decodeN, if_neg (by omega), if_neg (by omega), if_neg (by omega), if_pos (by omega), if_pos (by omega)]
      simp only [Prod.mk.injEq, and_true]
      omega
theorem byteN_drop (b : List UInt8) (k j : Nat) : byteN (b.drop k) j = (b.getD (k + j) 0).toNat := by
  unfold byteN
  simp [List.getD_eq_getElem?_getD, List.getElem?_drop]
theorem Conts.next {l : List UInt8} {k : Nat} (h : Conts l k) (hk : byteN l k / 64 = 2) : Conts l (k + 1) := fun j h1 h2 => by
  by_cases e : j = k
  · subst e; exact hk
  · exact h j h1 (by omega)
theorem Conts.one (l : List UInt8) : Conts l 1 := fun j h1 h2 => absurd h2 (by omega)
theorem Lead.pick {c : Nat} (h : 192 ≤ c) (h2 : c < 248) : ∃ n v0 least, Lead c n v0 least := by
  by_cases h3 : c < 224
  · exact ⟨2, c - 192, 128, Or.inl ⟨rfl, h, h3, rfl, rfl⟩⟩
  · by_cases h4 : c < 240
    · exact ⟨3, c - 224, 2048, Or.inr (Or.inl ⟨rfl, by omega, h4, rfl, rfl⟩)⟩
    · exact ⟨4, c - 240, 65536, Or.inr (Or.inr ⟨rfl, by omega, h2, rfl, rfl⟩)⟩
end Go.Proofs.YtginfodcobpljaaDoor
