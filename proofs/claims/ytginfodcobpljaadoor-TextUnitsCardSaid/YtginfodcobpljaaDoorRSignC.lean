/- renref3.sign, walked: a sign of four bytes. -/
import Derived.Test.YtginfodcobpljaaDoorRSignA
namespace Go.Proofs.YtginfodcobpljaaDoor
open Go.RowKit
set_option maxHeartbeats 4000000 in
set_option maxRecDepth 1000000 in
theorem sign_c4 {c k blk off : Nat} {b l : List UInt8} {w : World} (hk : k < b.length) (hl : b.length ≤ 4096) {X v0 : Nat} (hX : X < 256) (q1 : 240 ≤ X) (q2 : X < 248) (hv : v0 = X - 240) (_HX : Hid (byteN l 0 = X)) (HLL : Hid (b.drop k = l))
    (HLd : Hid (Lead (byteN l 0) 4 v0 65536)) (hc0 : w.cell? ⟨blk, off + k, none⟩ = some (.int .u8 (X : Int))) (HL : Hid (l.length = b.length - k)) (HC : Hid (∀ j, j < b.length → w.cell? ⟨blk, off + j, none⟩ = some (.int .u8 (((b.getD j 0).toNat : Nat) : Int)))) :
    Calls Tryd.prog 43 #[.slice (some ⟨blk, off, none⟩) b.length c, .int .i64 (k : Int)] w fun e w' => e = .returned (.tuple #[.int .i64 ((signP l).1 : Int), .int .i64 ((signP l).2 : Int)]) ∧ w = w' := by
  have HV := hide hv
  have HXL := hide hX
  have ga : (192 : Int) ≤ (X : Int) := by omega
  have gb : (224 : Int) ≤ (X : Int) := by omega
  have gb2 : ¬ (X : Int) < 224 := by omega
  have gc : (240 : Int) ≤ (X : Int) := by omega
  have gc2 : ¬ (X : Int) < 240 := by omega
  have gd : (X : Int) < 248 := by omega
  by_cases hs : l.length < 4
  · have HR := hide (signP_short HLd.out hs)
    have gl : (b.length : Int) - (k : Int) < 4 := by have := HL.out; omega
    clear hs hv
    go_enter Tryd.func43, Tryd.ntmps43
    go_wp2
    go_ret2
    exact ⟨ret_ii HR.out, rfl⟩
  have gl : ¬ (b.length : Int) - (k : Int) < 4 := by have := HL.out; omega
  have hbl : k + 4 ≤ b.length := by have := HL.out; omega
  have HE := hide (fun h => signP_end HLd.out h (by omega : 4 ≤ l.length))
  have hvx : ∀ j, j < 4 → sv l v0 j < 2097152 := fun j hj => sv_lt HLd.out hj
  have HSV := hide hvx
  have hcont : ∀ j, 1 ≤ j → j < 4 → byteN l j / 64 ≠ 2 → signP l = (0, 0) := fun j h1 h2 h3 => signP_cont HLd.out h1 h2 h3
  have HCO := hide hcont
  have hcl : ∀ j, k + j < b.length → w.cell? ⟨blk, off + (k + j), none⟩ = some (.int .u8 ((byteN l j : Nat) : Int)) := fun j hj => by
    have h9 := HC.out (k + j) hj
    rw [← byteN_drop, HLL.out] at h9
    exact h9
  have HCL := hide hcl
  clear hs hv hvx hcont hcl
  go_enter Tryd.func43, Tryd.ntmps43
  go_wp2
  go_loop [8, 10] (fun v i => ∃ j : Nat, j < 4 ∧ i = .int .i64 ((j : Int) + 1) ∧ v = .int .i64 ((sv l v0 j : Nat) : Int) ∧ Hid (Conts l (j + 1))) (fun _ i => 4 - (intOf i).toNat)
  case atStart => exact ⟨0, by omega, rfl, by rw [show sv l v0 0 = v0 from rfl, HV.out]; congr 1; have := HXL.out; omega, Conts.one l⟩
  case round =>
    obtain ⟨j, hj, rfl, rfl, hcs⟩ := hrel
    have hb := HSV.out j hj
    by_cases hlt : j + 1 < 4
    · have hsn : sv l v0 (j + 1) = sv l v0 j * 64 + byteN l (j + 1) % 64 := rfl
      have HSN := hide hsn
      clear hsn
      obtain ⟨V, hV⟩ : ∃ V, sv l v0 j = V := ⟨_, rfl⟩
      rw [hV] at hb HSN ⊢
      have hca := HCL.out (j + 1) (by omega)
      obtain ⟨Y, hY⟩ : ∃ Y, byteN l (j + 1) = Y := ⟨_, rfl⟩
      have hy := byteN_lt l (j + 1)
      rw [hY] at hca HSN hy
      have HY := hide hY
      clear hV hY
      by_cases hc : Y / 64 = 2
      · have e1 := cont_no hy hc
        have e2 := and63 hy
        have HN := hide (hcs.out.next (by rw [HY.out]; exact hc))
        have HSN2 := hide (show ((sv l v0 (j + 1) : Nat) : Int) = (V : Int) * 64 + ((Y % 64 : Nat) : Int) by rw [HSN.out]; omega)
        have hyy : Y % 64 < 64 := by omega
        clear hc
        go_wp2
        go_round
        case rel => exact ⟨j + 1, by omega, by go_num, by rw [HSN2.out]; go_num, HN⟩
        case measure => simp [intOf]; omega
      · have e1 := cont_yes hy hc
        have HR := hide (HCO.out (j + 1) (by omega) hlt (by rw [HY.out]; exact hc))
        clear hc
        go_wp2
        go_ret2
        exact ⟨ret_ii HR.out, rfl⟩
    · obtain rfl : j = 4 - 1 := by omega
      have he := HE.out hcs.out
      obtain ⟨V, hV⟩ : ∃ V, sv l v0 (4 - 1) = V := ⟨_, rfl⟩
      rw [hV] at he hb ⊢
      clear hV
      unfold Off at he
      have HE2 := hide he
      obtain ⟨Z, hZ⟩ : ∃ Z : Int, (V : Int) = Z := ⟨_, rfl⟩
      rw [hZ]
      have HZ := hide hZ
      have hz0 : 0 ≤ Z := by omega
      have hz1 : Z < 2097152 := by omega
      clear he hlt hZ hb hj
      by_cases o1 : Z < 65536
      · have HR := hide (HE2.out.1 (Or.inl (by have := HZ.out; omega)))
        clear gl hbl
        go_wp2
        go_ret2
        exact ⟨ret_ii HR.out, rfl⟩
      by_cases o2 : 1114111 < Z
      · have HR := hide (HE2.out.1 (Or.inr (Or.inl (by have := HZ.out; omega))))
        clear gl hbl
        go_wp2
        go_ret2
        exact ⟨ret_ii HR.out, rfl⟩
      by_cases o3 : 55296 ≤ Z ∧ Z < 57344
      · have HR := hide (HE2.out.1 (Or.inr (Or.inr (by have := HZ.out; omega))))
        obtain ⟨o3, o4⟩ := o3
        clear gl hbl
        exact absurd o4 (by omega)
      · have HR := hide (HE2.out.2 (by have := HZ.out; omega))
        have o4 : Z < 55296 ∨ ((55296 : Int) ≤ Z ∧ ¬ Z < 57344) := by omega
        clear o3 gl hbl
        rcases o4 with o3 | ⟨o3, o4⟩
        · exact absurd o3 (by omega)
        · go_wp2
          go_ret2
          exact ⟨by rw [← HZ.out]; exact ret_ii HR.out, rfl⟩
end Go.Proofs.YtginfodcobpljaaDoor
