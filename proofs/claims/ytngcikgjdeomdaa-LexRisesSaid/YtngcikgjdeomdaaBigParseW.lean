/- big.Parse: its walk. -/
import Derived.Test.YtngcikgjdeomdaaBigParse
namespace Go.Proofs.Ytngcikgjdeomdaa
open Go.RowKit

set_option maxHeartbeats 8000000 in
set_option maxRecDepth 1000000 in
theorem bparse_any {s : ByteArray} {l : List UInt16} (h : s.data.toList = asc l) (hd : ∀ x ∈ l, isDigit x = true) (h0 : 0 < l.length) (hz : l[0] ≠ 48 ∨ l = [48]) (hl : l.length ≤ 4096) (w : World) :
    Calls Try.prog 73 #[.string s] w (ParsePost (decVal l) w) := by
  obtain ⟨i0, hi0, hz0, hz1, hz2⟩ := info_parts Try.info_u32
  obtain ⟨hs, hget⟩ := asc_at h hd
  have HG := hide hget
  have hs0 : 0 < s.size := by omega
  have hs1 : s.size ≤ 4096 := by omega
  have HD := hide (fun w => bdigits_is h hd h0 hz hl w)
  have hb0 := (hget 0 hs0 h0).2
  have e45 : ((s[0].toNat : Int) == 45) = false := beq_eq_false_iff_ne.2 (by omega)
  have e450 : (s.toList == [45, 48]) = false := by
    rw [beq_eq_false_iff_ne, ByteArray.toList_eq]
    intro h3
    have h4 : s.data.toList[0]? = some 45 := by rw [h3]; rfl
    have h5 : s.data.toList[0]? = some s[0] := by rw [List.getElem?_eq_getElem (by simpa using hs0)]; rfl
    rw [h5] at h4
    have h6 : s[0].toNat = 45 := by rw [Option.some.inj h4]; rfl
    omega
  have HS0 := hide (show PaS w (w.alloc (.cells #[.bool false, .slice none 0 0] 37)) (.slice none 0 0) ([] : List Nat).length [] from ⟨World.ownsRow_nil _ _ _ _, Blk.new w [.bool false, .slice none 0 0] _, (Below.refl _ _).alloc (Nat.le_refl _) _⟩)
  have HL := hide hs
  clear hget h hd hz hs
  go_enter Try.func73, Try.ntmps73
  go_wp2_with fail
  go_quiet (fail)
  go_wp2_with (go_at_call 91; refine (HD.out _).mono ?_; rintro e1 w1 ⟨rfl, rfl⟩)
  go_loopg [6, 33] l.length (fun r m i wr => ∃ (k : Nat) (ms : List Nat) (n : Nat), k + r = l.length ∧ i = .int .i64 k ∧ Hid (ms.length = n) ∧ Hid (PaS w wr m n ms) ∧ Hid (AtPar l k ms))
  case atStart => exact ⟨0, [], 0, by omega, rfl, rfl, HS0.out.drewN _, AtPar.start l⟩
  case round =>
    obtain ⟨k, ms, n, hkr, rfl, hn, hS, hat⟩ := hrel
    obtain ⟨G, rfl⟩ : ∃ G, G = gk := ⟨_, rfl⟩
    obtain ⟨wo, rfl⟩ : ∃ wo, wo = wr := ⟨_, rfl⟩
    obtain ⟨A, cp, rfl, hnc, hcp⟩ := own_shape hS.out.own
    have hsl := HL.out
    have hlt8 : n ≤ 8 := by have := limbs_le hat.out.2.1; rw [← hat.out.2.2, hn.out] at this; exact this
    by_cases hlt : k < l.length
    · have hks : k < s.size := by omega
      have hgk := (HG.out k hks hlt).2
      obtain ⟨d, hdd⟩ : ∃ d, s[k].toNat = d + 48 := ⟨s[k].toNat - 48, by omega⟩
      have HDD := hide hdd
      have HDD' : l[k].toNat = d + 48 := by rw [← (HG.out k hks hlt).1, hdd]
      have HDD' := hide HDD'
      have hcl : (s[k].toNat : Int) = (d : Int) + 48 := by omega
      have hd9 : d ≤ 9 := by omega
      clear hdd hsl
      go_wp2_with fail
      go_loopg [8, 43] n (fun r c8 i43 wi => ∃ (j c : Nat) (outs : List Nat), j + r = n ∧ c8 = .int .u64 c ∧ i43 = .int .i64 j ∧ c ≤ 9 ∧ Hid (PaS w wi (.slice A n cp) n (mulCells ms outs)) ∧ Hid (AtMul ms d j c outs))
      case atStart => exact ⟨0, d, [], by omega, rfl, rfl, hd9, hS, AtMul.start ms d⟩
      case round =>
        obtain ⟨j, c, outs, hjr, rfl, rfl, hc9, hSi, hatm⟩ := hrel
        by_cases hjn : j < n
        · have hn0 : 0 < n := by omega
          obtain ⟨g, cap, hv, hgb, hgl⟩ := hSi.out.own.form hn0
          injection hv with hA _ hcap
          subst hA hcap
          have hol : outs.length = j := hatm.out.1
          have hml : ms.length = n := hn.out
          have hjm : j < ms.length := by omega
          have hxl := limbs_lt (decVal (l.take k)) ms[j] (by rw [← hat.out.2.2]; exact List.getElem_mem hjm)
          have hce : wr.cell? ⟨g, j, none⟩ = some (.int .u32 (ms[j] : Int)) := by
            rw [hSi.out.own.cellAt j (by omega)]
            subst hol
            have h1 := mulCells_get hjm
            simp only [u32s, List.getElem?_map, h1]; rfl
          have hfr := hSi.out.own.frozenAt j
          have hset := hide (fun x : Nat => mulCells_set (ms := ms) (outs := outs) (by omega) x)
          have hstep := hide (hatm.out.step hjm)
          obtain ⟨x, hx⟩ : ∃ x, ms[j] = x := ⟨_, rfl⟩
          rw [hx] at hce hstep hxl
          have hxi : (x : Int) ≤ 4294967295 := by omega
          have HOL := hide hol
          clear hx hol hml hxl
          go_wp2_with fail
          go_roundg (gk - 1)
          case measure => omega
          case rel =>
            refine ⟨j + 1, (c + 10 * x) / 4294967296, outs ++ [(c + 10 * x) % 4294967296], by omega, congrArg (Value.int .u64) (by omega), by go_num, by omega, ?_, hstep.out⟩
            have hst := hSi.out.own.stored j (.int .u32 (((c + 10 * x) % 4294967296 : Nat) : Int))
            have h1 := hst.1
            rw [u32s_set, show j = outs.length from HOL.out.symm, hset.out] at h1
            have h2 := hSi.out.grown (by rw [show j = outs.length from HOL.out.symm] at hst; exact hst.2) h1
            have e : (((c + 10 * x) % 4294967296 : Nat) : Int) = ((c : Int) + 10 * (x : Int)) % 4294967296 := by omega
            rw [e, HOL.out] at h2
            exact h2
        · obtain rfl : j = n := by omega
          have hlen : outs.length = ms.length := by rw [hatm.out.1, hn.out]
          have hmo : mulCells ms outs = outs := by unfold mulCells; rw [hlen, List.drop_length, List.append_nil]
          have hdone := (show AtMul ms d ms.length c outs by have := hatm.out; rwa [← hn.out] at this).done
          have hSo := hide (show PaS w wr (.slice A j cp) j outs by have := hSi.out; rwa [hmo] at this)
          have hst := hat.out.step hlt HDD'.out hd9 hdone
          obtain ⟨zs, hzs⟩ : ∃ z, trimL (outs ++ [c]) = z := ⟨_, rfl⟩
          obtain ⟨m, hm⟩ : ∃ m, zs.length = m := ⟨_, rfl⟩
          have hmj : m ≤ j + 1 := by
            have := trimL_len (outs ++ [c])
            rw [hzs, hm, List.length_append, hatm.out.1] at this
            exact this
          rw [hzs] at hst
          have HZS := hide hzs
          have HM := hide hm
          have HST := hide hst
          have HOL := hide (show outs.length = j from hatm.out.1)
          have hbase : w.heap.size + 1 ≤ wr.heap.size := hSo.out.res.1
          have hlz : ∀ v : World, v.heap.size = v.heap.size := fun _ => rfl
          clear hlz hzs hm hst hlen hmo hdone hSi hS hatm
          by_cases h8 : m ≤ 8
          · go_wp2_with (at_builtin; refine wpList_litG rfl _ _ 35 rfl 88 i0 _ 1 4 Try.underlying35 hi0 hz0 hz1 hz2 rfl (by decide) (w.heap.size + 1) hbase (.slice A j cp) (u32s outs) j rfl hSo.out.own [.int .u32 (c : Int)] 1 1 rfl rfl rfl (by omega) (by omega) ?_; intro v' w' ho hgr; obtain ⟨Av, cv, rfl, hcv1, hcv2⟩ := own_shape ho)
            have hrd := hide (Reads.of_own (by rw [u32s_app outs [c] |>.symm]; exact ho) : Reads w' w'.heap.size 1 Av (j + 1) (u32s (outs ++ [c])))
            have HP := hide (hSo.out.trimmed (m := m) (zs := zs) hgr (by rw [u32s_app outs [c] |>.symm]; exact ho) HZS.out HM.out hmj)
            clear ho hgr
            refine (btrim_is (xs := outs ++ [c]) (m := m) (by rw [List.length_append, HOL.out]; rfl) hrd.out (by omega) hcv1 hcv2 (by rw [HZS.out, HM.out])).mono ?_
            rintro e3 w3 ⟨rfl, rfl⟩
            go_wp2_with fail
            go_roundg (G - 1)
            case measure => omega
            case rel => exact ⟨k + 1, zs, m, by omega, by go_num, HM.out, HP.out, AtPar.go hlt HST.out (by rw [HM.out]; exact h8)⟩
          · have hov := hide (AtPar.over HST.out (by rw [HM.out]; exact h8))
            go_wp2_with (at_builtin; refine wpList_litG rfl _ _ 35 rfl 88 i0 _ 1 4 Try.underlying35 hi0 hz0 hz1 hz2 rfl (by decide) (w.heap.size + 1) hbase (.slice A j cp) (u32s outs) j rfl hSo.out.own [.int .u32 (c : Int)] 1 1 rfl rfl rfl (by omega) (by omega) ?_; intro v' w' ho hgr; obtain ⟨Av, cv, rfl, hcv1, hcv2⟩ := own_shape ho)
            have hrd := hide (Reads.of_own (by rw [u32s_app outs [c] |>.symm]; exact ho) : Reads w' w'.heap.size 1 Av (j + 1) (u32s (outs ++ [c])))
            have HP := hide (hSo.out.trimmed (m := m) (zs := zs) hgr (by rw [u32s_app outs [c] |>.symm]; exact ho) HZS.out HM.out hmj)
            clear ho hgr
            refine (btrim_is (xs := outs ++ [c]) (m := m) (by rw [List.length_append, HOL.out]; rfl) hrd.out (by omega) hcv1 hcv2 (by rw [HZS.out, HM.out])).mono ?_
            rintro e3 w3 ⟨rfl, rfl⟩
            have hR := hide HP.out.res
            obtain ⟨b0, fb0⟩ := hR.out.2 0 (by decide)
            obtain ⟨b1, fb1⟩ := hR.out.2 1 (by decide)
            go_wp2_with fail
            obtain ⟨q0, q1⟩ := set2_cells (v0 := .bool false) (v1 := .slice none 0 0) hR.out rfl
            refine bodyPost_ret (v := .tuple #[.agg #[.bool false, .slice none 0 0], .int .i64 3]) (by simp [results, Try.results73, go_sem, q0, q1]) rfl ?_
            exact ⟨none, 0, 0, 3, rfl, set2_below HP.out.below (Nat.le_refl _), .inr ⟨rfl, hov.out⟩⟩
    · have hke : k = l.length := by omega
      obtain ⟨hv8, hms⟩ := (show AtPar l l.length ms by have := hat.out; rwa [hke] at this).done
      clear hke
      have hmt : trimL ms = ms := by rw [hms]; exact limbs_trim hv8
      have HMT := hide hmt
      have HV8 := hide hv8
      have HMS := hide hms
      have hrd := hide (Reads.of_own hS.out.own)
      have hks2 : ¬ k < s.size := by omega
      clear hmt hv8 hms hat hsl
      by_cases hn0' : n = 0
      · have hn0 := hide hn0'
        clear hn0'
        go_wp2_with fail
        refine (bmade_nil hn.out hrd.out (Nat.le_refl _) (by omega) hnc hcp HMT.out hn0.out).mono ?_
        rintro e3 w3 ⟨rfl, hb3⟩
        have hP3 := hide (hS.out.below' hb3)
        clear hb3
        obtain ⟨b0, fb0⟩ := hP3.out.res.2 0 (by decide)
        obtain ⟨b1, fb1⟩ := hP3.out.res.2 1 (by decide)
        go_wp2_with fail
        obtain ⟨q0, q1⟩ := set2_cells (v0 := .bool false) (v1 := .slice none 0 0) hP3.out.res rfl
        refine bodyPost_ret (v := .tuple #[.agg #[.bool false, .slice none 0 0], .int .i64 0]) (by simp [results, Try.results73, go_sem, q0, q1]) rfl ?_
        have hnil : limbs (decVal l) = [] := by rw [← HMS.out]; exact List.eq_nil_of_length_eq_zero (by rw [hn.out, hn0.out])
        exact ⟨none, 0, 0, 0, rfl, set2_below hP3.out.below (Nat.le_refl _), .inl ⟨rfl, HV8.out, by rw [hnil]; exact World.ownsRow_nil _ _ _ _⟩⟩
      · have hn0 := hide hn0'
        clear hn0'
        go_wp2_with fail
        refine (bmade_pos hn.out hrd.out (Nat.le_refl _) (by omega) hnc hcp HMT.out hn0.out).mono ?_
        rintro e3 w3 ⟨rfl, hb3⟩
        have hP3 := hide (hS.out.below' hb3)
        clear hb3
        obtain ⟨b0, fb0⟩ := hP3.out.res.2 0 (by decide)
        obtain ⟨b1, fb1⟩ := hP3.out.res.2 1 (by decide)
        go_wp2_with fail
        obtain ⟨q0, q1⟩ := set2_cells (v0 := .bool false) (v1 := .slice A n cp) hP3.out.res rfl
        refine bodyPost_ret (v := .tuple #[.agg #[.bool false, .slice A n cp], .int .i64 0]) (by simp [results, Try.results73, go_sem, q0, q1]) rfl ?_
        exact ⟨A, n, cp, 0, rfl, set2_below hP3.out.below (Nat.le_refl _), .inl ⟨rfl, HV8.out, by rw [← HMS.out, hn.out]; exact own_base (set2_own hP3.out.own (by omega)) (by omega)⟩⟩
end Go.Proofs.Ytngcikgjdeomdaa
