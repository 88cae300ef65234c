/- Bytes as a text, and text.Plain: contracts. No condition but the lengths. -/
import Derived.Test.YtngcikgjdeomdaaAppendAny
import Derived.Test.YtngcikgjdeomdaaSpec
import Derived.Test.YtngcikgjdeomdaaSmall
namespace Go.Proofs.Ytngcikgjdeomdaa
open Go.RowKit

theorem Reads.spot {w : World} {B n : Nat} {A : Option Addr} {l : List UInt8} (h : Reads w B 1 A n (u8s l)) (h0 : 0 < l.length) :
    ∃ b off, A = some ⟨b, off, none⟩ ∧ ∀ j, j < l.length → w.cell? ⟨b, off + j, none⟩ = some (.int .u8 ((l.getD j 0).toNat : Int)) := by
  have hl : l.length = n := by have := h.1; simpa [u8s] using this
  obtain ⟨ad, e, hb, hc⟩ := h.2 (by omega)
  have hs : ad.spot = none := by
    have h1 := hc 0 (u8v l[0]) (by rw [u8s, List.getElem?_map, List.getElem?_eq_getElem h0]; rfl)
    cases hsp : ad.spot with
    | none => rfl
    | some s =>
      exfalso
      simp only [Addr.add, if_true, World.cell?, hsp] at h1
      split at h1
      · simp at h1
      · cases h1
  obtain ⟨b, off, sp⟩ := ad
  simp only at hs
  subst hs
  refine ⟨b, off, e, fun j hj => ?_⟩
  have h1 := hc j (u8v l[j]) (by rw [u8s, List.getElem?_map, List.getElem?_eq_getElem hj]; rfl)
  rw [Addr.add_lit] at h1
  rw [h1]
  simp [u8v, List.getD, hj]

theorem run_str {w : World} {B n c : Nat} {A : Option Addr} {l : List UInt8} (h : Reads w B 1 A n (u8s l)) :
    (convert 63 9 (.slice A n c)).run Try.prog w = .ok (.string ⟨l.toArray⟩) w := by
  have hl : l.length = n := by have := h.1; simpa [u8s] using this
  rcases Nat.eq_zero_or_pos l.length with h0 | h0
  · have hx : l = [] := List.eq_nil_of_length_eq_zero h0
    subst hx
    have hn : n = 0 := hl.symm
    subst hn
    clear hl h
    rw [run_convert_bytes_string w _ _ 5 A 0 c Try.underlying63 Try.underlying5 Try.underlying9]
    cases A with
    | none => rfl
    | some a => exact run_bytesToString w a 0 c [] rfl
  · obtain ⟨b, off, rfl, hc⟩ := h.spot h0
    rw [run_convert_bytes_arg w _ 5 Try.underlying63 Try.underlying5 b off n c (l.map fun x => (x.toNat : Int)) (by simpa using hl) (fun i hi => by rw [hc i (by omega)]; simp [List.getD, show i < l.length by omega]) _ Try.underlying9]
    congr 3
    simp only [strOfNums, List.map_map]
    congr 1
    have e : ((fun n : Int => UInt8.ofNat n.toNat) ∘ fun x : UInt8 => (x.toNat : Int)) = id := by
      funext x; simp
    rw [e, List.map_id]

def plainOk (u : List UInt16) : Bool := u.all fun x => decide (x.toNat ≤ 127)
def plainF (u : List UInt16) : ByteArray := if plainOk u then ⟨(u.map (·.toUInt8)).toArray⟩ else .empty
theorem ret_sb {s t : ByteArray} {a b : Bool} (h : s = t) (h2 : a = b) : Ending.returned (.tuple #[.string s, .bool a]) = .returned (.tuple #[.string t, .bool b]) := by rw [h, h2]
theorem plain_snoc (u : List UInt16) (k : Nat) (h : k < u.length) : u8s ((u.take (k + 1)).map (·.toUInt8)) = u8s ((u.take k).map (·.toUInt8)) ++ [u8v u[k].toUInt8] := by
  rw [List.take_succ_eq_append_getElem h, List.map_append, u8s, List.map_append]; rfl
theorem plain_cell {x : UInt16} (h : x.toNat ≤ 127) : u8v x.toUInt8 = .int .u8 (x.toNat : Int) := by
  unfold u8v
  congr 1
  simp
  omega

set_option maxHeartbeats 400000 in
set_option maxRecDepth 100000 in
theorem plain_any {A : Option Addr} {c B : Nat} {xs : List UInt16} {w : World} (hB : B ≤ w.heap.size) (ha : Reads w B 1 A xs.length (u16s xs)) (hl : xs.length ≤ 70368744177664) :
    Calls Try.prog 66 #[.slice A xs.length c] w fun e w' => e = .returned (.tuple #[.string (plainF xs), .bool (plainOk xs)]) ∧ Below w.heap.size w w' := by
  obtain ⟨i0, hi0, hz0, hz1, hz2⟩ := info_parts Try.info_u8
  go_enter Try.func66, Try.ntmps66
  go_wp2
  go_loopw [4, 9] (fun v i wr => ∃ k : Nat, k ≤ xs.length ∧ i = .int .i64 k ∧ Hid (plainOk (xs.take k) = true) ∧ Made w wr 5 v (u8s ((xs.take k).map (·.toUInt8)))) (fun _ i _ => xs.length - (intOf i).toNat)
  case atStart => exact ⟨0, Nat.zero_le _, rfl, rfl, Made.nil _ _⟩
  case round =>
    obtain ⟨k, hk, rfl, hok, hm⟩ := hrel
    by_cases hlt : k < xs.length
    · obtain ⟨ad, hA, _, hca⟩ := (ha.below (hm.below.mono hB)).u16 hlt
      subst hA
      have h3 : (k : Int) < (xs.length : Int) := by omega
      have hlen : (u8s ((xs.take k).map (·.toUInt8))).length ≤ k := by simp [u8s]; omega
      have hx := xs[k].toNat_lt
      by_cases hp : xs[k].toNat ≤ 127
      · have HC := hide (plain_cell hp)
        have HS := hide (plain_snoc xs k hlt)
        have HO : Hid (plainOk (xs.take (k + 1)) = true) := by
          rw [List.take_succ_eq_append_getElem hlt, plainOk, List.all_append]
          have := hok.out
          rw [plainOk] at this
          rw [this]
          simp [hp, Hid]
        go_wp2_with (at_builtin; refine wpList_lit rfl _ _ 63 rfl 5 i0 _ 1 Try.underlying63 hi0 hz0 hz1 hz2 rfl _ _ rfl hm _ 1 1 rfl rfl rfl (by omega) (by omega) ?_; intro v' w' hm')
        go_roundw
        case rel => exact ⟨k + 1, by omega, by go_num, HO, hm'.cells (by rw [HS.out, HC.out])⟩
        case measure => simp [intOf]; omega
      · have HO : Hid (plainOk xs = false) := List.all_eq_false.2 ⟨xs[k], List.getElem_mem _, by simpa using hp⟩
        go_wp2
        go_ret2
        exact ⟨ret_sb (by rw [plainF, HO.out]; rfl) HO.out.symm, hm.below⟩
    · have hkk : xs.take k = xs := List.take_of_length_le (by omega)
      rw [hkk] at hok hm
      obtain ⟨A', c', rfl, _, _, hr⟩ := hm.u8
      rw [List.length_map] at hr ⊢
      have hs := run_str (c := c') hr
      go_wp2
      go_ret2
      exact ⟨ret_sb (by rw [plainF, hok.out]; rfl) hok.out.symm, hm.below⟩
end Go.Proofs.Ytngcikgjdeomdaa
