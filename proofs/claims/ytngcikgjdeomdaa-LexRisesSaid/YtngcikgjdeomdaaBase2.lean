/- More words for slices that a call has made or that came in. No condition. -/
import Derived.Test.YtngcikgjdeomdaaBase
namespace Go.Proofs.Ytngcikgjdeomdaa
open Go.RowKit

theorem Made.call {w0 w w' : World} {e : TypeId} {v : Value} {xs : List Value} (h : Made w0 w e v xs) (hb : Below w.heap.size w w') : Made w0 w' e v xs :=
  ⟨h.own.kept (row := none) ⟨hb.os, hb.tape, hb.output, hb.size, fun k hk _ => hb.block k hk⟩ (by cases hv : v.ownBlock <;> simp), h.below.trans (hb.mono h.below.size)⟩
theorem Made.u16 {w0 w : World} {e : TypeId} {v : Value} {xs : List UInt16} (h : Made w0 w e v (u16s xs)) :
    ∃ A c, v = .slice A xs.length c ∧ xs.length ≤ c ∧ c ≤ maxLen ∧ Reads w w.heap.size 1 A xs.length (u16s xs) := by
  obtain ⟨A, c, hv, h1, h2, h3⟩ := h.shape
  have e : (u16s xs).length = xs.length := by simp [u16s]
  rw [e] at hv h1 h3
  exact ⟨A, c, hv, h1, h2, h3⟩
theorem Made.u8 {w0 w : World} {e : TypeId} {v : Value} {xs : List UInt8} (h : Made w0 w e v (u8s xs)) :
    ∃ A c, v = .slice A xs.length c ∧ xs.length ≤ c ∧ c ≤ maxLen ∧ Reads w w.heap.size 1 A xs.length (u8s xs) := by
  obtain ⟨A, c, hv, h1, h2, h3⟩ := h.shape
  have e : (u8s xs).length = xs.length := by simp [u8s]
  rw [e] at hv h1 h3
  exact ⟨A, c, hv, h1, h2, h3⟩
theorem Reads.u16 {w : World} {B n : Nat} {A : Option Addr} {xs : List UInt16} (h : Reads w B 1 A n (u16s xs)) {k : Nat} (hk : k < xs.length) :
    ∃ ad, A = some ad ∧ ad.block < B ∧ w.cell? (ad.add k) = some (.int .u16 (xs[k].toNat : Int)) := by
  have hl : xs.length = n := by have := h.1; simpa [u16s] using this
  obtain ⟨ad, u, e, hb, hx, hc⟩ := h.at_ (k := k) (by omega)
  refine ⟨ad, e, hb, ?_⟩
  rw [hc]
  simp [u16s, hk] at hx
  rw [← hx]; rfl
theorem Reads.u8 {w : World} {B n : Nat} {A : Option Addr} {xs : List UInt8} (h : Reads w B 1 A n (u8s xs)) {k : Nat} (hk : k < xs.length) :
    ∃ ad, A = some ad ∧ ad.block < B ∧ w.cell? (ad.add k) = some (.int .u8 (xs[k].toNat : Int)) := by
  have hl : xs.length = n := by have := h.1; simpa [u8s] using this
  obtain ⟨ad, u, e, hb, hx, hc⟩ := h.at_ (k := k) (by omega)
  refine ⟨ad, e, hb, ?_⟩
  rw [hc]
  simp [u8s, hk] at hx
  rw [← hx]; rfl
theorem Addr.add_zero (a : Addr) : a.add 0 = a := by simp [Addr.add]
theorem Reads.u16_0 {w : World} {B n : Nat} {A : Option Addr} {xs : List UInt16} (h : Reads w B 1 A n (u16s xs)) (hk : 0 < xs.length) :
    ∃ ad, A = some ad ∧ ad.block < B ∧ w.cell? ad = some (.int .u16 (xs[0].toNat : Int)) := by
  obtain ⟨ad, h1, h2, h3⟩ := h.u16 hk
  rw [Addr.add_zero] at h3
  exact ⟨ad, h1, h2, h3⟩
/-- A cut from k on. -/
theorem Reads.cut16 {w : World} {B c : Nat} {A : Option Addr} {xs : List UInt16} (h : Reads w B 1 A xs.length (u16s xs)) {k : Nat} (hk : k ≤ xs.length) (hc : xs.length ≤ c) :
    Reads w B 1 (if c = k then A else A.map (·.add k)) (xs.drop k).length (u16s (xs.drop k)) := by
  have h1 := h.cut (k := k) (cap := c) hk hc
  simp only [Nat.mul_one] at h1
  rw [List.length_drop]
  simpa [u16s, List.map_drop] using h1
theorem Reads.cut8 {w : World} {B c : Nat} {A : Option Addr} {xs : List UInt8} (h : Reads w B 1 A xs.length (u8s xs)) {k : Nat} (hk : k ≤ xs.length) (hc : xs.length ≤ c) :
    Reads w B 1 (if c = k then A else A.map (·.add k)) (xs.drop k).length (u8s (xs.drop k)) := by
  have h1 := h.cut (k := k) (cap := c) hk hc
  simp only [Nat.mul_one] at h1
  rw [List.length_drop]
  simpa [u8s, List.map_drop] using h1
theorem Reads.take16 {w : World} {B n : Nat} {A : Option Addr} {xs : List UInt16} (h : Reads w B 1 A n (u16s xs)) {k : Nat} (hk : k ≤ xs.length) :
    Reads w B 1 A (xs.take k).length (u16s (xs.take k)) := by
  have hl : xs.length = n := by have := h.1; simpa [u16s] using this
  have h1 := h.take (k := k) (by omega)
  rw [List.length_take, Nat.min_eq_left hk]
  simpa [u16s, List.map_take] using h1
theorem Reads.take8 {w : World} {B n : Nat} {A : Option Addr} {xs : List UInt8} (h : Reads w B 1 A n (u8s xs)) {k : Nat} (hk : k ≤ xs.length) :
    Reads w B 1 A (xs.take k).length (u8s (xs.take k)) := by
  have hl : xs.length = n := by have := h.1; simpa [u8s] using this
  have h1 := h.take (k := k) (by omega)
  rw [List.length_take, Nat.min_eq_left hk]
  simpa [u8s, List.map_take] using h1
theorem ret_ib {k : IntKind} {n m : Int} {a b : Bool} (h : n = m) (h2 : a = b) : Ending.returned (.tuple #[.int k n, .bool a]) = .returned (.tuple #[.int k m, .bool b]) := by rw [h, h2]
end Go.Proofs.Ytngcikgjdeomdaa
