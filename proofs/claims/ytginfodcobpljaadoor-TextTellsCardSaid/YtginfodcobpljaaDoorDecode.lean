/- utf8.DecodeRune over a slice of bytes that is not empty: its contract, over decodeRuneSlow's. -/
import Derived.Test.YtginfodcobpljaaDoorDecodeSlow
import Derived.Test.YtginfodcobpljaaDoorBase2
import Derived.Test.YtginfodcobpljaaDoorSpecU
namespace Go.Proofs.YtginfodcobpljaaDoor
open Go.RowKit Go.Lib

/-- The cells of bytes that a slice reads as: the first four. -/
theorem Reads.head {w : World} {B n : Nat} {A : Option Addr} {l : List UInt8} (h : Reads w B 1 A n (u8s l)) (h0 : 0 < l.length) :
    ∃ b off, A = some ⟨b, off, none⟩ ∧ b < B ∧ ∀ j, j < l.length → w.cell? ⟨b, off + j, none⟩ = some (.int .u8 ((l.getD j 0).toNat : Int)) := by
  have hl : l.length = n := by have := h.1; simpa [u8s] using this
  obtain ⟨ad, e, hb, hc⟩ := h.2 (by omega)
  have hs : ad.spot = none := by
    have h1 := hc 0 (u8v l[0]) (by rw [u8s, List.getElem?_map, List.getElem?_eq_getElem h0]; rfl)
    cases hsp : ad.spot with
    | none => rfl
    | some s =>
      exfalso
      simp only [Addr.add, if_true, World.cell?, hsp] at h1
      split at h1
      · simp at h1
      · cases h1
  obtain ⟨b, off, sp⟩ := ad
  simp only at hs
  subst hs
  refine ⟨b, off, e, hb, fun j hj => ?_⟩
  have h1 := hc j (u8v l[j]) (by rw [u8s, List.getElem?_map, List.getElem?_eq_getElem hj]; rfl)
  rw [Addr.add_lit] at h1
  rw [h1]
  simp [u8v, List.getD, hj]


set_option maxHeartbeats 1000000 in
set_option maxRecDepth 1000000 in
theorem decode_ascii (n b off cap : Nat) (x0 : UInt8) (w : World) (hn : (0 : Int) < (n : Int)) (hs0 : w.cell? ⟨b, off, none⟩ = some (.int .u8 x0.toNat)) (ha : (x0.toNat : Int) < 128) :
    Calls Tryd.prog 35 #[.slice (some ⟨b, off, none⟩) n cap] w fun e w' => e = .returned (.tuple #[.int .i32 x0.toNat, .int .i64 1]) ∧ w' = w := by
  have l0 := x0.toNat_lt
  go_enter Tryd.func35, Tryd.ntmps35
  go_wp2
  go_loop [8] (fun i => i = .int .i64 0) (fun _ => 0)
  case atStart => rfl
  case round =>
    subst hrel
    go_wp2
    go_ret2
    exact ⟨rfl, rfl⟩
set_option maxHeartbeats 1000000 in
set_option maxRecDepth 1000000 in
theorem decode_on (n b off cap : Nat) (x0 : UInt8) (w : World) (R K : Int) (Q : World → Prop) (hz : (0 : Int) < (n : Int)) (hs0 : w.cell? ⟨b, off, none⟩ = some (.int .u8 x0.toNat)) (ha : ¬ ((x0.toNat : Int) < 128))
    (cS : Calls Tryd.prog 53 #[.slice (some ⟨b, off, none⟩) n cap] w fun e w' => e = .returned (.tuple #[.int .i32 R, .int .i64 K]) ∧ Q w') :
    Calls Tryd.prog 35 #[.slice (some ⟨b, off, none⟩) n cap] w fun e w' => e = .returned (.tuple #[.int .i32 R, .int .i64 K]) ∧ Q w' := by
  have HS := hide cS
  clear cS
  go_enter Tryd.func35, Tryd.ntmps35
  go_wp2
  go_loop [8] (fun i => i = .int .i64 0) (fun _ => 0)
  case atStart => rfl
  case round =>
    subst hrel
    go_wp2_with (go_at_call 53; refine HS.out.mono ?_; rintro e w' ⟨rfl, hb⟩)
    go_ret2
    exact ⟨rfl, hb⟩

theorem decode_any {A : Option Addr} {cap B : Nat} {l : List UInt8} {w : World} (hT : Tabs w) (h0 : 0 < l.length) (hr : Reads w B 1 A l.length (u8s l)) :
    Calls Tryd.prog 35 #[.slice A l.length cap] w fun e w' => e = .returned (.tuple #[.int .i32 (dec l).1, .int .i64 (dec l).2]) ∧ Below w.heap.size w w' := by
  obtain ⟨b, off, rfl, _, hc⟩ := hr.head h0
  have hs0 : w.cell? ⟨b, off, none⟩ = some (.int .u8 ((l.getD 0 0).toNat : Int)) := hc 0 h0
  by_cases ha : (l.getD 0 0).toNat < 128
  · have hd : dec l = ((l.getD 0 0).toNat, 1) := by simp only [dec, decodeN]; rw [if_pos ha]
    rw [hd]
    refine (decode_ascii _ b off cap _ w (by omega) hs0 (by omega)).mono ?_
    rintro e w' ⟨rfl, rfl⟩
    exact ⟨rfl, Below.refl _ _⟩
  · exact decode_on _ b off cap _ w _ _ _ (by omega) hs0 (by omega) (slow_any _ b off cap _ _ _ _ w hT h0 hs0 (fun h => hc 1 h) (fun h => hc 2 h) (fun h => hc 3 h))
end Go.Proofs.YtginfodcobpljaaDoor
