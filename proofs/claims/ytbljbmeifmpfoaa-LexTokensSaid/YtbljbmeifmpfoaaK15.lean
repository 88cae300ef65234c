/- Joined for a claim: BigParseW, LexBig, LexSign, LexSignW, LexStrange, Eq, Search, Ascii, Digits. -/
import Derived.Test.YtbljbmeifmpfoaaK09
import Derived.Test.YtbljbmeifmpfoaaK08
import Derived.Deep.CutBlock
import Derived.Deep.DeepCutAuto
import Derived.Deep.RegionWith
import Derived.Deep.LoopGhost
import Derived.Deep.RegionHeld3
import Derived.Test.YtbljbmeifmpfoaaK06
import Derived.Test.YtbljbmeifmpfoaaK03
import Derived.Test.YtbljbmeifmpfoaaK01
namespace Go.Proofs.Ytbljbmeifmpfoaa
open Go.RowKit

set_option maxHeartbeats 8000000 in
set_option maxRecDepth 1000000 in
theorem bparse_any {s : ByteArray} {l : List UInt16} (h : s.data.toList = asc l) (hd : ∀ x ∈ l, isDigit x = true) (h0 : 0 < l.length) (hz : l[0] ≠ 48 ∨ l = [48]) (hl : l.length ≤ 4096) (w : World) :
    Calls Try.prog 58 #[.string s] w (ParsePost (decVal l) w) := by
  obtain ⟨i0, hi0, hz0, hz1, hz2⟩ := info_parts Try.info_u32
  obtain ⟨hs, hget⟩ := asc_at h hd
  have HG := hide hget
  have hs0 : 0 < s.size := by omega
  have hs1 : s.size ≤ 4096 := by omega
  have HD := hide (fun w => bdigits_is h hd h0 hz hl w)
  have hb0 := (hget 0 hs0 h0).2
  have e45 : ((s[0].toNat : Int) == 45) = false := beq_eq_false_iff_ne.2 (by omega)
  have e450 : (s.toList == [45, 48]) = false := by
    rw [beq_eq_false_iff_ne, ByteArray.toList_eq]
    intro h3
    have h4 : s.data.toList[0]? = some 45 := by rw [h3]; rfl
    have h5 : s.data.toList[0]? = some s[0] := by rw [List.getElem?_eq_getElem (by simpa using hs0)]; rfl
    rw [h5] at h4
    have h6 : s[0].toNat = 45 := by rw [Option.some.inj h4]; rfl
    omega
  have HS0 := hide (show PaS w (w.alloc (.cells #[.bool false, .slice none 0 0] 38)) (.slice none 0 0) ([] : List Nat).length [] from ⟨World.ownsRow_nil _ _ _ _, Blk.new w [.bool false, .slice none 0 0] _, (Below.refl _ _).alloc (Nat.le_refl _) _⟩)
  have HL := hide hs
  clear hget h hd hz hs
  go_enter Try.func58, Try.ntmps58
  go_wp2_with fail
  go_quiet (fail)
  go_wp2_with (go_at_call 79; refine (HD.out _).mono ?_; rintro e1 w1 ⟨rfl, rfl⟩)
  go_loopg [6, 33] l.length (fun r m i wr => ∃ (k : Nat) (ms : List Nat) (n : Nat), k + r = l.length ∧ i = .int .i64 k ∧ Hid (ms.length = n) ∧ Hid (PaS w wr m n ms) ∧ Hid (AtPar l k ms))
  case atStart => exact ⟨0, [], 0, by omega, rfl, rfl, HS0.out.drewN _, AtPar.start l⟩
  case round =>
    obtain ⟨k, ms, n, hkr, rfl, hn, hS, hat⟩ := hrel
    obtain ⟨G, rfl⟩ : ∃ G, G = gk := ⟨_, rfl⟩
    obtain ⟨wo, rfl⟩ : ∃ wo, wo = wr := ⟨_, rfl⟩
    obtain ⟨A, cp, rfl, hnc, hcp⟩ := own_shape hS.out.own
    have hsl := HL.out
    have hlt8 : n ≤ 8 := by have := limbs_le hat.out.2.1; rw [← hat.out.2.2, hn.out] at this; exact this
    by_cases hlt : k < l.length
    · have hks : k < s.size := by omega
      have hgk := (HG.out k hks hlt).2
      obtain ⟨d, hdd⟩ : ∃ d, s[k].toNat = d + 48 := ⟨s[k].toNat - 48, by omega⟩
      have HDD := hide hdd
      have HDD' : l[k].toNat = d + 48 := by rw [← (HG.out k hks hlt).1, hdd]
      have HDD' := hide HDD'
      have hcl : (s[k].toNat : Int) = (d : Int) + 48 := by omega
      have hd9 : d ≤ 9 := by omega
      clear hdd hsl
      go_wp2_with fail
      go_loopg [8, 43] n (fun r c8 i43 wi => ∃ (j c : Nat) (outs : List Nat), j + r = n ∧ c8 = .int .u64 c ∧ i43 = .int .i64 j ∧ c ≤ 9 ∧ Hid (PaS w wi (.slice A n cp) n (mulCells ms outs)) ∧ Hid (AtMul ms d j c outs))
      case atStart => exact ⟨0, d, [], by omega, rfl, rfl, hd9, hS, AtMul.start ms d⟩
      case round =>
        obtain ⟨j, c, outs, hjr, rfl, rfl, hc9, hSi, hatm⟩ := hrel
        by_cases hjn : j < n
        · have hn0 : 0 < n := by omega
          obtain ⟨g, cap, hv, hgb, hgl⟩ := hSi.out.own.form hn0
          injection hv with hA _ hcap
          subst hA hcap
          have hol : outs.length = j := hatm.out.1
          have hml : ms.length = n := hn.out
          have hjm : j < ms.length := by omega
          have hxl := limbs_lt (decVal (l.take k)) ms[j] (by rw [← hat.out.2.2]; exact List.getElem_mem hjm)
          have hce : wr.cell? ⟨g, j, none⟩ = some (.int .u32 (ms[j] : Int)) := by
            rw [hSi.out.own.cellAt j (by omega)]
            subst hol
            have h1 := mulCells_get hjm
            simp only [u32s, List.getElem?_map, h1]; rfl
          have hfr := hSi.out.own.frozenAt j
          have hset := hide (fun x : Nat => mulCells_set (ms := ms) (outs := outs) (by omega) x)
          have hstep := hide (hatm.out.step hjm)
          obtain ⟨x, hx⟩ : ∃ x, ms[j] = x := ⟨_, rfl⟩
          rw [hx] at hce hstep hxl
          have hxi : (x : Int) ≤ 4294967295 := by omega
          have HOL := hide hol
          clear hx hol hml hxl
          go_wp2_with fail
          go_roundg (gk - 1)
          case measure => omega
          case rel =>
            refine ⟨j + 1, (c + 10 * x) / 4294967296, outs ++ [(c + 10 * x) % 4294967296], by omega, congrArg (Value.int .u64) (by omega), by go_num, by omega, ?_, hstep.out⟩
            have hst := hSi.out.own.stored j (.int .u32 (((c + 10 * x) % 4294967296 : Nat) : Int))
            have h1 := hst.1
            rw [u32s_set, show j = outs.length from HOL.out.symm, hset.out] at h1
            have h2 := hSi.out.grown (by rw [show j = outs.length from HOL.out.symm] at hst; exact hst.2) h1
            have e : (((c + 10 * x) % 4294967296 : Nat) : Int) = ((c : Int) + 10 * (x : Int)) % 4294967296 := by omega
            rw [e, HOL.out] at h2
            exact h2
        · obtain rfl : j = n := by omega
          have hlen : outs.length = ms.length := by rw [hatm.out.1, hn.out]
          have hmo : mulCells ms outs = outs := by unfold mulCells; rw [hlen, List.drop_length, List.append_nil]
          have hdone := (show AtMul ms d ms.length c outs by have := hatm.out; rwa [← hn.out] at this).done
          have hSo := hide (show PaS w wr (.slice A j cp) j outs by have := hSi.out; rwa [hmo] at this)
          have hst := hat.out.step hlt HDD'.out hd9 hdone
          obtain ⟨zs, hzs⟩ : ∃ z, trimL (outs ++ [c]) = z := ⟨_, rfl⟩
          obtain ⟨m, hm⟩ : ∃ m, zs.length = m := ⟨_, rfl⟩
          have hmj : m ≤ j + 1 := by
            have := trimL_len (outs ++ [c])
            rw [hzs, hm, List.length_append, hatm.out.1] at this
            exact this
          rw [hzs] at hst
          have HZS := hide hzs
          have HM := hide hm
          have HST := hide hst
          have HOL := hide (show outs.length = j from hatm.out.1)
          have hbase : w.heap.size + 1 ≤ wr.heap.size := hSo.out.res.1
          have hlz : ∀ v : World, v.heap.size = v.heap.size := fun _ => rfl
          clear hlz hzs hm hst hlen hmo hdone hSi hS hatm
          by_cases h8 : m ≤ 8
          · go_wp2_with (at_builtin; refine wpList_litG rfl _ _ 36 rfl 98 i0 _ 1 4 Try.underlying36 hi0 hz0 hz1 hz2 rfl (by decide) (w.heap.size + 1) hbase (.slice A j cp) (u32s outs) j rfl hSo.out.own [.int .u32 (c : Int)] 1 1 rfl rfl rfl (by omega) (by omega) ?_; intro v' w' ho hgr; obtain ⟨Av, cv, rfl, hcv1, hcv2⟩ := own_shape ho)
            have hrd := hide (Reads.of_own (by rw [u32s_app outs [c] |>.symm]; exact ho) : Reads w' w'.heap.size 1 Av (j + 1) (u32s (outs ++ [c])))
            have HP := hide (hSo.out.trimmed (m := m) (zs := zs) hgr (by rw [u32s_app outs [c] |>.symm]; exact ho) HZS.out HM.out hmj)
            clear ho hgr
            refine (btrim_is (xs := outs ++ [c]) (m := m) (by rw [List.length_append, HOL.out]; rfl) hrd.out (by omega) hcv1 hcv2 (by rw [HZS.out, HM.out])).mono ?_
            rintro e3 w3 ⟨rfl, rfl⟩
            go_wp2_with fail
            go_roundg (G - 1)
            case measure => omega
            case rel => exact ⟨k + 1, zs, m, by omega, by go_num, HM.out, HP.out, AtPar.go hlt HST.out (by rw [HM.out]; exact h8)⟩
          · have hov := hide (AtPar.over HST.out (by rw [HM.out]; exact h8))
            go_wp2_with (at_builtin; refine wpList_litG rfl _ _ 36 rfl 98 i0 _ 1 4 Try.underlying36 hi0 hz0 hz1 hz2 rfl (by decide) (w.heap.size + 1) hbase (.slice A j cp) (u32s outs) j rfl hSo.out.own [.int .u32 (c : Int)] 1 1 rfl rfl rfl (by omega) (by omega) ?_; intro v' w' ho hgr; obtain ⟨Av, cv, rfl, hcv1, hcv2⟩ := own_shape ho)
            have hrd := hide (Reads.of_own (by rw [u32s_app outs [c] |>.symm]; exact ho) : Reads w' w'.heap.size 1 Av (j + 1) (u32s (outs ++ [c])))
            have HP := hide (hSo.out.trimmed (m := m) (zs := zs) hgr (by rw [u32s_app outs [c] |>.symm]; exact ho) HZS.out HM.out hmj)
            clear ho hgr
            refine (btrim_is (xs := outs ++ [c]) (m := m) (by rw [List.length_append, HOL.out]; rfl) hrd.out (by omega) hcv1 hcv2 (by rw [HZS.out, HM.out])).mono ?_
            rintro e3 w3 ⟨rfl, rfl⟩
            have hR := hide HP.out.res
            obtain ⟨b0, fb0⟩ := hR.out.2 0 (by decide)
            obtain ⟨b1, fb1⟩ := hR.out.2 1 (by decide)
            go_wp2_with fail
            obtain ⟨q0, q1⟩ := set2_cells (v0 := .bool false) (v1 := .slice none 0 0) hR.out rfl
            refine bodyPost_ret (v := .tuple #[.agg #[.bool false, .slice none 0 0], .int .i64 3]) (by simp [results, Try.results58, go_sem, q0, q1]) rfl ?_
            exact ⟨none, 0, 0, 3, rfl, set2_below HP.out.below (Nat.le_refl _), .inr ⟨rfl, hov.out⟩⟩
    · have hke : k = l.length := by omega
      obtain ⟨hv8, hms⟩ := (show AtPar l l.length ms by have := hat.out; rwa [hke] at this).done
      clear hke
      have hmt : trimL ms = ms := by rw [hms]; exact limbs_trim hv8
      have HMT := hide hmt
      have HV8 := hide hv8
      have HMS := hide hms
      have hrd := hide (Reads.of_own hS.out.own)
      have hks2 : ¬ k < s.size := by omega
      clear hmt hv8 hms hat hsl
      by_cases hn0' : n = 0
      · have hn0 := hide hn0'
        clear hn0'
        go_wp2_with fail
        refine (bmade_nil hn.out hrd.out (Nat.le_refl _) (by omega) hnc hcp HMT.out hn0.out).mono ?_
        rintro e3 w3 ⟨rfl, hb3⟩
        have hP3 := hide (hS.out.below' hb3)
        clear hb3
        obtain ⟨b0, fb0⟩ := hP3.out.res.2 0 (by decide)
        obtain ⟨b1, fb1⟩ := hP3.out.res.2 1 (by decide)
        go_wp2_with fail
        obtain ⟨q0, q1⟩ := set2_cells (v0 := .bool false) (v1 := .slice none 0 0) hP3.out.res rfl
        refine bodyPost_ret (v := .tuple #[.agg #[.bool false, .slice none 0 0], .int .i64 0]) (by simp [results, Try.results58, go_sem, q0, q1]) rfl ?_
        have hnil : limbs (decVal l) = [] := by rw [← HMS.out]; exact List.eq_nil_of_length_eq_zero (by rw [hn.out, hn0.out])
        exact ⟨none, 0, 0, 0, rfl, set2_below hP3.out.below (Nat.le_refl _), .inl ⟨rfl, HV8.out, by rw [hnil]; exact World.ownsRow_nil _ _ _ _⟩⟩
      · have hn0 := hide hn0'
        clear hn0'
        go_wp2_with fail
        refine (bmade_pos hn.out hrd.out (Nat.le_refl _) (by omega) hnc hcp HMT.out hn0.out).mono ?_
        rintro e3 w3 ⟨rfl, hb3⟩
        have hP3 := hide (hS.out.below' hb3)
        clear hb3
        obtain ⟨b0, fb0⟩ := hP3.out.res.2 0 (by decide)
        obtain ⟨b1, fb1⟩ := hP3.out.res.2 1 (by decide)
        go_wp2_with fail
        obtain ⟨q0, q1⟩ := set2_cells (v0 := .bool false) (v1 := .slice A n cp) hP3.out.res rfl
        refine bodyPost_ret (v := .tuple #[.agg #[.bool false, .slice A n cp], .int .i64 0]) (by simp [results, Try.results58, go_sem, q0, q1]) rfl ?_
        exact ⟨A, n, cp, 0, rfl, set2_below hP3.out.below (Nat.le_refl _), .inl ⟨rfl, HV8.out, by rw [← HMS.out, hn.out]; exact own_base (set2_own hP3.out.own (by omega)) (by omega)⟩⟩
end Go.Proofs.Ytbljbmeifmpfoaa

namespace Go.Proofs.Ytbljbmeifmpfoaa
open Go.RowKit

/-- what the call has made so far -/
structure BgS (w wr : World) (g : Nat) (A : Option Addr) (n c k R : Nat) (X : Option Addr) (mx cx : Nat) : Prop where
  mv : Mv w wr g A n c k
  zero : Blk wr w.heap.size zero9
  box : Blk wr R [.bool false, .slice X mx cx]
theorem BgS.drewN {w wr : World} {g n c k R mx cx : Nat} {A X : Option Addr} (h : BgS w wr g A n c k R X mx cx) (hg : g < w.heap.size) (hR : w.heap.size ≤ R) (m : Nat) : BgS w (wr.drewN m) g A n c k R X mx cx :=
  ⟨h.mv.drewN m, h.zero.grown (grown_drewN wr (some g) m) (by omega), h.box.grown (grown_drewN wr (some g) m) (by omega)⟩
theorem own_drewN {w : World} {base e n : Nat} {v : Value} {xs : List Value} (h : w.ownsRow base e 1 v n xs) (m : Nat) : (w.drewN m).ownsRow base e 1 v n xs :=
  h.kept (row := none) ⟨rfl, rfl, rfl, Nat.le_refl _, fun _ _ _ => rfl⟩ (by cases hv : v.ownBlock <;> simp)
theorem bigT_over {v n e m : Nat} {r : List UInt16} {t : Tok} (h : big8 ≤ v) (hq : bigT v n r = (e, t, m)) : 6 = e ∧ noTok = t ∧ 0 = m := by
  unfold bigT at hq
  rw [if_pos h] at hq
  exact ans_bad hq
theorem bigT_odd {v n e m : Nat} {r : List UInt16} {t : Tok} (h : v < big8) (h2 : (isAt 0 isLet r || isAt 0 isDigit r) = true) (hq : bigT v n r = (e, t, m)) : 5 = e ∧ noTok = t ∧ 0 = m := by
  unfold bigT at hq
  rw [if_neg (Nat.not_le.2 h), if_pos h2] at hq
  exact ans_bad hq
theorem bigT_good {v n e m : Nat} {r : List UInt16} {t : Tok} (h : v < big8) (h2 : (isAt 0 isLet r || isAt 0 isDigit r) = false) (hq : bigT v n r = (e, t, m)) : 0 = e ∧ { noTok with kind := 3, mag := limbs v } = t ∧ n + 1 = m := by
  unfold bigT at hq
  rw [if_neg (Nat.not_le.2 h), if_neg (by rw [h2]; simp)] at hq
  exact ans_of hq

set_option maxHeartbeats 8000000 in
set_option maxRecDepth 100000 in
theorem lbigint_any {A : Option Addr} {c g B k n : Nat} {u : List UInt16} {w : World} {s : ByteArray} {d : List UInt16} (hsd : s.data.toList = asc d) (hd : ∀ x ∈ d, isDigit x = true) (h0 : 0 < d.length) (hz : d[0] ≠ 48 ∨ d = [48]) (hdl : d.length ≤ 4096)
    (hr : Rd w g A n c k) (hn : u.length = n) (ha : Reads w B 1 A n (u16s u)) (hB : B ≤ g) (hk : k ≤ n) (hl : n ≤ 4096) {m e : Nat} {t : Tok} (hq : bigT (decVal d) d.length (u.drop k) = (e, t, m)) :
    Calls Try.prog 43 #[.pointer (some ⟨g, 0, none⟩), .string s] w fun ev w' => ∃ v, ev = .returned (.tuple #[v, .int .i64 (e : Int)]) ∧ (e ≠ 0 → v = noV) ∧ (e = 0 → TokV w' w.heap.size t v ∧ Mv w w' g A n c k ∧ m = d.length + 1) ∧ w.grownBy w' (some g) := by
  have hg := hr.lt
  have HP := hide (bparse_any hsd hd h0 hz hdl (w.alloc (.cells zero9.toArray 40)))
  have HQ := hide hq
  have HA := hide ha
  have HR := hide hr
  obtain ⟨b1, hb1⟩ : ∃ b, isAt 0 isLet (u.drop k) = b := ⟨_, rfl⟩
  obtain ⟨b2, hb2⟩ : ∃ b, isAt 0 isDigit (u.drop k) = b := ⟨_, rfl⟩
  have HB1 := hide hb1
  have HB2 := hide hb2
  have HN := hide hn
  clear hq ha hr hsd hd h0 hz hdl hb1 hb2 hn
  go_enter Try.func43, Try.ntmps43
  go_wp2_with fail
  refine HP.out.mono ?_
  rintro e1 w1 ⟨X, mx, cx, er, rfl, hbl, hcase⟩
  have hsz : w.heap.size + 1 ≤ w1.heap.size := by have := hbl.size; simpa using this
  have hS := hide (show BgS w (w1.alloc (.cells #[.bool false, .slice X mx cx] 38)) g A n c k w1.heap.size X mx cx from by
    have hb2 : Below w.heap.size w w1 := ((Below.refl _ w).alloc (Nat.le_refl _) _).trans (hbl.mono (by simp))
    refine ⟨⟨(HR.out.below hb2 hg).alloc _, grown_trans (grown_of_below _ hb2) (grown_alloc _ _ _)⟩, ?_, Blk.new w1 [.bool false, .slice X mx cx] _⟩
    exact ((Blk.new w zero9 40).below hbl (by simp)).grownR (grown_alloc w1 _ none) (by simp))
  have hC := hide hcase
  clear hbl hcase
  by_cases her : er = 0
  · have hv8 : decVal d < big8 := by
      rcases hC.out with ⟨_, h, _⟩ | ⟨h, _⟩
      · exact h
      · omega
    have hown := hide (show w1.ownsRow (w.alloc (.cells zero9.toArray 40)).heap.size 98 1 (.slice X mx cx) (limbs (decVal d)).length (u32s (limbs (decVal d))) by
      rcases hC.out with ⟨_, _, h⟩ | ⟨h, _⟩
      · exact h
      · omega)
    have e1 : ((er : Int) != 0) = false := by rw [her]; rfl
    have HV8 := hide hv8
    clear her hC hv8
    go_wp2_with fail
    refine (lis_letter (j := 0) hS.out.mv.rd HN.out (HA.out.grown hS.out.mv.grown hB (Nat.le_of_lt hg)) hk hl (by omega) HB1.out).mono ?_
    rintro e3 w3 ⟨rfl, m3, hw3⟩
    have hS3 := hide (show BgS w w3 g A n c k w1.heap.size X mx cx by rw [hw3]; exact hS.out.drewN hg (by omega) m3)
    have hO3 := hide (show w3.ownsRow (w.heap.size + 1) 98 1 (.slice X mx cx) (limbs (decVal d)).length (u32s (limbs (decVal d))) by
      rw [hw3]
      exact own_drewN (own_base (hown.out.alloc _) (by simp)) m3)
    clear hw3 m3 hS hown
    cases b1 with
    | true =>
      obtain ⟨b0, fb0⟩ := hS3.out.zero.2 0 (by decide)
      obtain ⟨b1, fb1⟩ := hS3.out.zero.2 1 (by decide)
      obtain ⟨b2, fb2⟩ := hS3.out.zero.2 2 (by decide)
      obtain ⟨b3, fb3⟩ := hS3.out.zero.2 3 (by decide)
      obtain ⟨b4, fb4⟩ := hS3.out.zero.2 4 (by decide)
      obtain ⟨b5, fb5⟩ := hS3.out.zero.2 5 (by decide)
      obtain ⟨b6, fb6⟩ := hS3.out.zero.2 6 (by decide)
      obtain ⟨b7, fb7⟩ := hS3.out.zero.2 7 (by decide)
      obtain ⟨b8, fb8⟩ := hS3.out.zero.2 8 (by decide)
      go_wp2_with fail
      obtain ⟨q0, q1, q2, q3, q4, q5, q6, q7, q8⟩ := set9_cells (v0 := .int .i64 0) (v1 := .string ⟨#[]⟩) (v2 := .slice none 0 0) (v3 := .int .i64 0) (v4 := .int .i64 0) (v5 := .bool false) (v6 := .slice none 0 0) (v7 := .int .i64 0) (v8 := .bool false) hS3.out.zero rfl
      refine bodyPost_ret (v := .tuple #[.agg #[.int .i64 0, .string ⟨#[]⟩, .slice none 0 0, .int .i64 0, .int .i64 0, .bool false, .slice none 0 0, .int .i64 0, .bool false], .int .i64 5]) (by simp [results, Try.results43, go_sem, q0, q1, q2, q3, q4, q5, q6, q7, q8]) rfl ?_
      obtain ⟨z1, z2, z3⟩ := bigT_odd HV8.out (by rw [HB1.out]; rfl) HQ.out
      subst z1
      exact ⟨_, rfl, fun _ => rfl, fun h => absurd h (by decide), (set9_mv hS3.out.mv (Nat.le_refl _) hg).grown⟩
    | false =>
      go_wp2_with fail
      refine (lis_digit (j := 0) hS3.out.mv.rd HN.out (HA.out.grown hS3.out.mv.grown hB (Nat.le_of_lt hg)) hk hl (by omega) HB2.out).mono ?_
      rintro e4 w4 ⟨rfl, m4, hw4⟩
      have hS4 := hide (show BgS w w4 g A n c k w1.heap.size X mx cx by rw [hw4]; exact hS3.out.drewN hg (by omega) m4)
      have hO4 := hide (show w4.ownsRow (w.heap.size + 1) 98 1 (.slice X mx cx) (limbs (decVal d)).length (u32s (limbs (decVal d))) by
        rw [hw4]
        exact own_drewN hO3.out m4)
      clear hw4 m4 hS3 hO3
      obtain ⟨b0, fb0⟩ := hS4.out.zero.2 0 (by decide)
      obtain ⟨b1, fb1⟩ := hS4.out.zero.2 1 (by decide)
      obtain ⟨b2', fb2⟩ := hS4.out.zero.2 2 (by decide)
      obtain ⟨b3, fb3⟩ := hS4.out.zero.2 3 (by decide)
      obtain ⟨b4, fb4⟩ := hS4.out.zero.2 4 (by decide)
      obtain ⟨b5, fb5⟩ := hS4.out.zero.2 5 (by decide)
      obtain ⟨b6, fb6⟩ := hS4.out.zero.2 6 (by decide)
      obtain ⟨b7, fb7⟩ := hS4.out.zero.2 7 (by decide)
      obtain ⟨b8, fb8⟩ := hS4.out.zero.2 8 (by decide)
      obtain ⟨x0, fx0⟩ := hS4.out.box.2 0 (by simp)
      obtain ⟨x1, fx1⟩ := hS4.out.box.2 1 (by simp)
      cases b2 with
      | true =>
        go_wp2_with fail
        obtain ⟨q0, q1, q2, q3, q4, q5, q6, q7, q8⟩ := set9_cells (v0 := .int .i64 0) (v1 := .string ⟨#[]⟩) (v2 := .slice none 0 0) (v3 := .int .i64 0) (v4 := .int .i64 0) (v5 := .bool false) (v6 := .slice none 0 0) (v7 := .int .i64 0) (v8 := .bool false) hS4.out.zero rfl
        refine bodyPost_ret (v := .tuple #[.agg #[.int .i64 0, .string ⟨#[]⟩, .slice none 0 0, .int .i64 0, .int .i64 0, .bool false, .slice none 0 0, .int .i64 0, .bool false], .int .i64 5]) (by simp [results, Try.results43, go_sem, q0, q1, q2, q3, q4, q5, q6, q7, q8]) rfl ?_
        obtain ⟨z1, z2, z3⟩ := bigT_odd HV8.out (by rw [HB1.out, HB2.out]; rfl) HQ.out
        subst z1
        exact ⟨_, rfl, fun _ => rfl, fun h => absurd h (by decide), (set9_mv hS4.out.mv (Nat.le_refl _) hg).grown⟩
      | false =>
        go_wp2_with fail
        obtain ⟨q0, q1, q2, q3, q4, q5, q6, q7, q8⟩ := set9_cells (v0 := .int .i64 3) (v1 := .string ⟨#[]⟩) (v2 := .slice none 0 0) (v3 := .int .i64 0) (v4 := .int .i64 0) (v5 := .bool false) (v6 := .slice X mx cx) (v7 := .int .i64 0) (v8 := .bool false) hS4.out.zero rfl
        refine bodyPost_ret (v := .tuple #[.agg #[.int .i64 3, .string ⟨#[]⟩, .slice none 0 0, .int .i64 0, .int .i64 0, .bool false, .slice X mx cx, .int .i64 0, .bool false], .int .i64 0]) (by simp [results, Try.results43, go_sem, q0, q1, q2, q3, q4, q5, q6, q7, q8]) rfl ?_
        obtain ⟨z1, z2, z3⟩ := bigT_good HV8.out (by rw [HB1.out, HB2.out]; rfl) HQ.out
        subst z1 z2 z3
        exact ⟨_, rfl, fun h => absurd rfl h, fun _ => ⟨⟨_, _, rfl, World.ownsRow_nil _ _ _ _, own_base (set9_own hO4.out (by omega)) (by omega)⟩, set9_mv hS4.out.mv (Nat.le_refl _) hg, rfl⟩, (set9_mv hS4.out.mv (Nat.le_refl _) hg).grown⟩
  · have hv8 : big8 ≤ decVal d := by
      rcases hC.out with ⟨h, _, _⟩ | ⟨_, h⟩
      · omega
      · exact h
    have e1 : ((er : Int) != 0) = true := by rw [bne_iff_ne]; omega
    have HV8 := hide hv8
    clear her hC hv8
    obtain ⟨b0, fb0⟩ := hS.out.zero.2 0 (by decide)
    obtain ⟨b1', fb1⟩ := hS.out.zero.2 1 (by decide)
    obtain ⟨b2', fb2⟩ := hS.out.zero.2 2 (by decide)
    obtain ⟨b3, fb3⟩ := hS.out.zero.2 3 (by decide)
    obtain ⟨b4, fb4⟩ := hS.out.zero.2 4 (by decide)
    obtain ⟨b5, fb5⟩ := hS.out.zero.2 5 (by decide)
    obtain ⟨b6, fb6⟩ := hS.out.zero.2 6 (by decide)
    obtain ⟨b7, fb7⟩ := hS.out.zero.2 7 (by decide)
    obtain ⟨b8, fb8⟩ := hS.out.zero.2 8 (by decide)
    go_wp2_with fail
    obtain ⟨q0, q1, q2, q3, q4, q5, q6, q7, q8⟩ := set9_cells (v0 := .int .i64 0) (v1 := .string ⟨#[]⟩) (v2 := .slice none 0 0) (v3 := .int .i64 0) (v4 := .int .i64 0) (v5 := .bool false) (v6 := .slice none 0 0) (v7 := .int .i64 0) (v8 := .bool false) hS.out.zero rfl
    refine bodyPost_ret (v := .tuple #[.agg #[.int .i64 0, .string ⟨#[]⟩, .slice none 0 0, .int .i64 0, .int .i64 0, .bool false, .slice none 0 0, .int .i64 0, .bool false], .int .i64 6]) (by simp [results, Try.results43, go_sem, q0, q1, q2, q3, q4, q5, q6, q7, q8]) rfl ?_
    obtain ⟨z1, z2, z3⟩ := bigT_over HV8.out HQ.out
    subst z1
    exact ⟨_, rfl, fun _ => rfl, fun h => absurd h (by decide), (set9_mv hS.out.mv (Nat.le_refl _) hg).grown⟩
end Go.Proofs.Ytbljbmeifmpfoaa

namespace Go.Proofs.Ytbljbmeifmpfoaa
open Go.RowKit

theorem plain_str {A : Option Addr} {c B n : Nat} {xs : List UInt16} {w : World} (hB : B ≤ w.heap.size) (hn : xs.length = n) (ha : Reads w B 1 A n (u16s xs)) (hl : n ≤ 4096) {s : ByteArray} {b : Bool} (h1 : plainF xs = s) (h2 : plainOk xs = b) :
    Calls Try.prog 47 #[.slice A n c] w fun e w' => e = .returned (.tuple #[.string s, .bool b]) ∧ Below w.heap.size w w' := by
  subst hn h1 h2
  exact plain_any hB ha (by omega)
theorem signN_min {l : List UInt16} {n : Nat} (h : l.length ≤ n) (hn : n ≤ 4) : signN l 4 = signN l (min 4 l.length) := by
  have hz : ∀ k, l.length < k → signAt l k = 0 := by
    intro k hk
    unfold signAt
    rw [if_neg]
    rw [decide_eq_false (by omega : ¬ k ≤ l.length)]
    simp
  have h1 : ∀ k, l.length ≤ k → signN l k = signN l l.length := by
    intro k
    induction k with
    | zero => intro hk; have : l.length = 0 := by omega
              rw [this]
    | succ k ih =>
      intro hk
      by_cases e : l.length = k + 1
      · rw [e]
      · rw [signN, if_neg (by rw [hz (k + 1) (by omega)]; simp)]
        exact ih (by omega)
  rw [h1 4 (by omega), Nat.min_eq_right (by omega)]
theorem signN_start (l : List UInt16) : signN l 4 = signN l (min 4 l.length) := by
  by_cases h : l.length ≤ 4
  · exact signN_min h (Nat.le_refl _)
  · rw [Nat.min_eq_left (by omega)]
theorem signN_skip {l : List UInt16} {n : Nat} (h : signAt l (n + 1) = 0) : signN l (n + 1) = signN l n := by
  rw [signN, if_neg (by rw [h]; simp)]
theorem signN_hit {l : List UInt16} {n : Nat} (h : signAt l (n + 1) ≠ 0) : signN l (n + 1) = some (n + 1) := by
  rw [signN, if_pos h]
theorem signAt_of {l : List UInt16} {n : Nat} (hn : n ≤ l.length) : signAt l n = if (plainOk (l.take n) && !(decide (asc (l.take n) = [63, 46]) && isAt 2 isDigit l)) = true then signF (asc (l.take n)) else 0 := by
  unfold signAt plainOk
  rw [decide_eq_true hn, Bool.true_and]
theorem plainF_of {l : List UInt16} (h : plainOk l = true) : plainF l = ⟨(asc l).toArray⟩ := by
  unfold plainF
  rw [if_pos h]; rfl
end Go.Proofs.Ytbljbmeifmpfoaa

namespace Go.Proofs.Ytbljbmeifmpfoaa
open Go.RowKit

theorem lsign_is {s : ByteArray} {l : List UInt8} (hs : s = ⟨l.toArray⟩) {n : Nat} (h : signF l = n) (w : World) : Calls Try.prog 48 #[.string s] w fun e w' => e = .returned (.int .i64 (n : Int)) ∧ w = w' := by
  subst hs h
  exact lsign_any ⟨l.toArray⟩ w
theorem signF_3 (l : List UInt8) : signF l = 0 ∨ signF l = 1 ∨ signF l = 2 := by
  unfold signF
  split
  · simp
  · split <;> simp
theorem sign_out {l : List UInt16} {z : Bool} {j e m : Nat} {t : Tok} (h1 : signN l 4 = signN l (j + 1)) (h2 : signAt l (j + 1) = 2) (hq : signT z l = (e, t, m)) : 6 = e ∧ noTok = t ∧ 0 = m := by
  unfold signT at hq
  rw [h1, signN_hit (by rw [h2]; decide)] at hq
  simp only at hq
  rw [if_pos h2] at hq
  exact ans_bad hq
theorem sign_in {l : List UInt16} {z : Bool} {j e m : Nat} {t : Tok} (h1 : signN l 4 = signN l (j + 1)) (h2 : signAt l (j + 1) = 1) (hq : signT z l = (e, t, m)) : 0 = e ∧ { noTok with kind := 5, text := asc (l.take (j + 1)) } = t ∧ j + 1 = m := by
  unfold signT at hq
  rw [h1, signN_hit (by rw [h2]; decide)] at hq
  simp only at hq
  rw [if_neg (by rw [h2]; decide)] at hq
  exact ans_of hq
theorem sign_none {l : List UInt16} {z : Bool} {e m : Nat} {t : Tok} (h1 : signN l 4 = none) (hq : signT z l = (e, t, m)) : (if (isAt 0 (fun x => decide (128 ≤ x.toNat) || x.toNat == 96 || x.toNat == 92) l || (z && starts [35, 33] l)) = true then 6 else 5) = e := by
  unfold signT at hq
  rw [h1] at hq
  simp only at hq
  split at hq
  · rename_i h; rw [if_pos h]; exact (ans_bad hq).1
  · rename_i h; rw [if_neg h]; exact (ans_bad hq).1
/-- the loop's memory -/
structure SgS (w wr : World) (g : Nat) (A : Option Addr) (n c k : Nat) : Prop where
  mv : Mv w wr g A n c k
  zero : Blk wr w.heap.size zero9
theorem SgS.below {w wr w' : World} {g n c k : Nat} {A : Option Addr} (h : SgS w wr g A n c k) (_hg : g < w.heap.size) (hb : Below wr.heap.size wr w') : SgS w w' g A n c k :=
  ⟨h.mv.below hb, h.zero.below hb h.zero.1⟩
theorem SgS.drewN {w wr : World} {g n c k : Nat} {A : Option Addr} (h : SgS w wr g A n c k) (hg : g < w.heap.size) (m : Nat) : SgS w (wr.drewN m) g A n c k :=
  ⟨h.mv.drewN m, h.zero.grown (grown_drewN wr (some g) m) (by omega)⟩
theorem SgS.drew {w wr : World} {g n c k : Nat} {A : Option Addr} (h : SgS w wr g A n c k) (hg : g < w.heap.size) : SgS w wr.drew g A n c k :=
  ⟨h.mv.drew, h.zero.grown (grown_drew wr (some g)) (by omega)⟩

set_option maxHeartbeats 8000000 in
set_option maxRecDepth 100000 in
theorem lsignT_any {A : Option Addr} {c g B k n : Nat} {u : List UInt16} {w : World} (hr : Rd w g A n c k) (hn : u.length = n) (ha : Reads w B 1 A n (u16s u)) (hB : B ≤ g) (hk : k < u.length) (hl : n ≤ 4096) (hc : n ≤ c) {m e : Nat} {t : Tok} (hq : signT (k == 0) (u.drop k) = (e, t, m)) :
    Calls Try.prog 28 #[.pointer (some ⟨g, 0, none⟩)] w fun ev w' => ∃ v, ev = .returned (.tuple #[v, .int .i64 (e : Int)]) ∧ (e ≠ 0 → v = noV) ∧ (e = 0 → TokV w' w.heap.size t v ∧ Mv w w' g A n c (k + m)) ∧ w.grownBy w' (some g) := by
  subst hn
  have hg := hr.lt
  have HA := hide ha
  have HQ := hide hq
  have HS0 := hide (show SgS w (w.alloc (.cells zero9.toArray 40)) g A u.length c k from ⟨⟨hr.alloc _, grown_alloc w _ _⟩, Blk.new w zero9 40⟩)
  have hc0 := hr.c0
  have hc1 := hr.c1
  clear hq ha hr
  go_enter Try.func28, Try.ntmps28
  go_upto_region 1 with (fail)
  go_cut [4] (fun v wx => v = .int .i64 ((min 4 (u.length - k) : Nat) : Int) ∧ Hid (SgS w wx g A u.length c k))
  case first =>
    go_region
    all_goals go_wp2_with fail
    all_goals go_meet
    all_goals first | exact ⟨congrArg (Value.int .i64) (by omega), HS0.out.drew hg⟩ | exact ⟨congrArg (Value.int .i64) (by omega), HS0.out⟩
  case rest =>
    obtain ⟨hv, hS⟩ := hcut
    subst hv
    clear hc0 hc1 HS0
    go_wp2
    go_loopg [4] (min 4 (u.length - k)) (fun r v wr => v = .int .i64 (r : Int) ∧ r ≤ 4 ∧ k + r ≤ u.length ∧ Hid (SgS w wr g A u.length c k) ∧ Hid (signN (u.drop k) 4 = signN (u.drop k) r))
    case atStart => exact ⟨rfl, by omega, by omega, hS, by have := signN_start (u.drop k); rw [List.length_drop] at this; exact this⟩
    case round =>
      obtain ⟨rfl, h4, hkr, hS, hsg⟩ := hrel
      have hc0 := hS.out.mv.rd.c0
      have hc1 := hS.out.mv.rd.c1
      have hf1 := hS.out.mv.rd.f1
      have har := hide (HA.out.grown hS.out.mv.grown hB (Nat.le_of_lt hg))
      by_cases hr0 : 0 < gk
      · obtain ⟨j, rfl⟩ : ∃ j, gk = j + 1 := ⟨gk - 1, by omega⟩
        obtain ⟨blk, off, hA, _, hcell⟩ := har.out.spotL (by omega)
        subst hA
        clear hcell
        have hsl := har.out.cut16 (k := k) (by omega) hc
        rw [if_neg (by omega)] at hsl
        have hsl := hsl.take16 (k := j + 1) (by rw [List.length_drop]; omega)
        obtain ⟨xs, hxs⟩ : ∃ xs, (u.drop k).take (j + 1) = xs := ⟨_, rfl⟩
        have hxl : xs.length = j + 1 := by rw [← hxs, List.length_take, List.length_drop]; omega
        rw [hxs, hxl] at hsl
        have hsl : Reads wr B 1 (some ⟨blk, off + k, none⟩) (j + 1) (u16s xs) := by
          have e : Option.map (fun x : Addr => x.add k) (some ⟨blk, off, none⟩) = some ⟨blk, off + k, none⟩ := congrArg some (Addr.add_lit _ _ _)
          rw [← e]; exact hsl
        obtain ⟨sv, hsv⟩ : ∃ sv, plainF xs = sv := ⟨_, rfl⟩
        obtain ⟨ok, hok⟩ : ∃ ok, plainOk xs = ok := ⟨_, rfl⟩
        obtain ⟨d, hd⟩ : ∃ d, isAt 2 isDigit (u.drop k) = d := ⟨_, rfl⟩
        have hat : signAt (u.drop k) (j + 1) = if (ok && !(decide (asc xs = [63, 46]) && d)) = true then signF (asc xs) else 0 := by
          rw [signAt_of (by rw [List.length_drop]; omega), hxs, hok, hd]
        have htx : ok = true → sv = ⟨(asc xs).toArray⟩ := fun h => by rw [← hsv]; exact plainF_of (by rw [hok, h])
        have HSL := hide hsl
        have HXL := hide hxl
        have HXS := hide hxs
        have HP := hide (And.intro hsv hok)
        have HD := hide hd
        have HAT := hide hat
        have HTX := hide htx
        have hB2 : B ≤ wr.heap.size := by have := hS.out.mv.grown.size; omega
        obtain ⟨h, hh⟩ : ∃ h, k + (j + 1) = h := ⟨_, rfl⟩
        have hwr : IntKind.i64.wrap ((k : Int) + ((j : Int) + 1)) = (h : Int) := by rw [IntKind.wrap_i64]; omega
        have g1 : 0 ≤ (h : Int) := by omega
        have g2 : (h : Int) ≤ (c : Int) := by omega
        have g3 : k ≤ h := by omega
        have g4 : ¬ c = k := by omega
        have g5 : h - k = j + 1 := by omega
        have HH := hide hh
        clear hh
        clear hsl hxl hxs hsv hok hd hat htx
        go_upto_region 4 with (fail)
        go_cut [5, 6] (fun v5 v6 wx => v5 = .string sv ∧ v6 = .bool ok ∧ Hid (SgS w wx g (some ⟨blk, off, none⟩) u.length c k))
        case first =>
          have hrdD := hide (hS.out.mv.rd.drew)
          have hgW : g < wr.drew.heap.size := hS.out.mv.rd.lt
          go_region_held3 (fun w' => w'.cell? ⟨g, 0, none⟩ = some (.slice (some ⟨blk, off, none⟩) u.length c) ∧ w'.cell? ⟨g, 1, none⟩ = some (.int .i64 (k : Int)))
            (first | (exact ⟨hc0, hc1⟩) | (exact ⟨(hrdD.out.below hb4 hgW).c0, (hrdD.out.below hb4 hgW).c1⟩) | go_keep)
            (first | (go_at_call 47; go_split_ands; refine (plain_str (w := wr.drew) hB2 HXL.out (by exact HSL.out) (by omega) HP.out.1 HP.out.2).mono ?_; rintro e4 w4 ⟨rfl, hb4⟩))
          all_goals go_wp2_with fail
          all_goals go_meet
          all_goals exact ⟨rfl, rfl, (hS.out.drew hg).below hg hb4⟩
        case rest =>
          obtain ⟨h5, h6, hS4⟩ := hcut
          subst h5 h6
          clear hc0 hc1 hf1 hwr hS har
          have hc0 := hS4.out.mv.rd.c0
          have hc1 := hS4.out.mv.rd.c1
          have hf1 := hS4.out.mv.rd.f1
          have har := hide (HA.out.grown hS4.out.mv.grown hB (Nat.le_of_lt hg))
          cases ok with
          | false =>
            have hz := hide (show signAt (u.drop k) (j + 1) = 0 by rw [HAT.out]; simp)
            go_wp2_with fail
            go_roundg j
            case measure => omega
            case rel => exact ⟨congrArg (Value.int .i64) (by omega), by omega, by omega, hS4.out, hsg.out.trans (signN_skip hz.out)⟩
          | true =>
            have HSV := hide (HTX.out rfl)
            obtain ⟨sf, hsf⟩ : ∃ sf, signF (asc xs) = sf := ⟨_, rfl⟩
            have hs3 : sf = 0 ∨ sf = 1 ∨ sf = 2 := by rw [← hsf]; exact signF_3 _
            have HSF := hide hsf
            clear hsf
            by_cases h0 : sf = 0
            · subst h0
              have hz := hide (show signAt (u.drop k) (j + 1) = 0 by rw [HAT.out, HSF.out]; simp)
              clear hs3
              go_wp2_with (go_at_call 48; refine (lsign_is HSV.out HSF.out _).mono ?_; rintro e3 w3 ⟨rfl, rfl⟩)
              go_roundg j
              case measure => omega
              case rel => exact ⟨congrArg (Value.int .i64) (by omega), by omega, by omega, hS4.out, hsg.out.trans (signN_skip hz.out)⟩
            · have h0b : ((sf : Int) == 0) = false := beq_eq_false_iff_ne.2 (by omega)
              by_cases hq2 : asc xs = [63, 46]
              · have h2 : sf = 2 := by rw [← HSF.out, hq2]; decide
                subst h2
                have hat2 := hide (show signAt (u.drop k) (j + 1) = if d = true then 0 else 2 by rw [HAT.out, HSF.out, hq2]; cases d <;> rfl)
                obtain rfl : sv = ⟨#[63, 46]⟩ := by rw [HSV.out, hq2]
                have HQ2 := hide hq2
                clear hq2 h0b h0 hs3
                have HSX := hide (show signF [63, 46] = 2 by decide)
                cases d with
                | true =>
                  have hz := hide (show signAt (u.drop k) (j + 1) = 0 by rw [hat2.out]; rfl)
                  go_wp2_with (go_at_call 48; refine (lsign_is (l := [63, 46]) rfl HSX.out _).mono ?_; rintro e3 w3 ⟨rfl, rfl⟩)
                  refine (lis_digit (j := 2) hS4.out.mv.rd rfl har.out (by omega) hl (by omega) HD.out).mono ?_
                  rintro e4 w4 ⟨rfl, m4, hw4⟩
                  subst hw4
                  go_wp2_with fail
                  go_roundg j
                  case measure => omega
                  case rel => exact ⟨congrArg (Value.int .i64) (by omega), by omega, by omega, hS4.out.drewN hg m4, hsg.out.trans (signN_skip hz.out)⟩
                | false =>
                  have hz := hide (show signAt (u.drop k) (j + 1) = 2 by rw [hat2.out]; rfl)
                  go_wp2_with (go_at_call 48; refine (lsign_is (l := [63, 46]) rfl HSX.out _).mono ?_; rintro e3 w3 ⟨rfl, rfl⟩)
                  refine (lis_digit (j := 2) hS4.out.mv.rd rfl har.out (by omega) hl (by omega) HD.out).mono ?_
                  rintro e4 w4 ⟨rfl, m4, hw4⟩
                  subst hw4
                  have hzr := hide (hS4.out.drewN hg m4).zero
                  obtain ⟨b0, fb0⟩ := hzr.out.2 0 (by decide)
                  obtain ⟨b1, fb1⟩ := hzr.out.2 1 (by decide)
                  obtain ⟨b2, fb2⟩ := hzr.out.2 2 (by decide)
                  obtain ⟨b3, fb3⟩ := hzr.out.2 3 (by decide)
                  obtain ⟨b4, fb4⟩ := hzr.out.2 4 (by decide)
                  obtain ⟨b5, fb5⟩ := hzr.out.2 5 (by decide)
                  obtain ⟨b6, fb6⟩ := hzr.out.2 6 (by decide)
                  obtain ⟨b7, fb7⟩ := hzr.out.2 7 (by decide)
                  obtain ⟨b8, fb8⟩ := hzr.out.2 8 (by decide)
                  go_wp2_with (go_at_call 48; refine (lsign_is (l := [63, 46]) rfl HSX.out _).mono ?_; rintro e3 w3 ⟨rfl, rfl⟩)
                  obtain ⟨q0, q1, q2, q3, q4, q5, q6, q7, q8⟩ := set9_cells (v0 := .int .i64 0) (v1 := .string ⟨#[]⟩) (v2 := .slice none 0 0) (v3 := .int .i64 0) (v4 := .int .i64 0) (v5 := .bool false) (v6 := .slice none 0 0) (v7 := .int .i64 0) (v8 := .bool false) hzr.out rfl
                  refine bodyPost_ret (v := .tuple #[.agg #[.int .i64 0, .string ⟨#[]⟩, .slice none 0 0, .int .i64 0, .int .i64 0, .bool false, .slice none 0 0, .int .i64 0, .bool false], .int .i64 6]) (by simp [results, Try.results28, go_sem, q0, q1, q2, q3, q4, q5, q6, q7, q8]) rfl ?_
                  obtain ⟨z1, z2, z3⟩ := sign_out hsg.out hz.out HQ.out
                  subst z1
                  exact ⟨_, rfl, fun _ => rfl, fun h => absurd h (by decide), (set9_mv (hS4.out.drewN hg m4).mv (Nat.le_refl _) hg).grown⟩
              · have hat2 := hide (show signAt (u.drop k) (j + 1) = sf by rw [HAT.out, HSF.out, decide_eq_false hq2]; rfl)
                have hne : (sv.toList == [63, 46]) = false := by rw [txt_eq, HSV.out]; exact decide_eq_false hq2
                clear hq2
                have hzr := hide hS4.out.zero
                obtain ⟨b0, fb0⟩ := hzr.out.2 0 (by decide)
                obtain ⟨b1, fb1⟩ := hzr.out.2 1 (by decide)
                obtain ⟨b2, fb2⟩ := hzr.out.2 2 (by decide)
                obtain ⟨b3, fb3⟩ := hzr.out.2 3 (by decide)
                obtain ⟨b4, fb4⟩ := hzr.out.2 4 (by decide)
                obtain ⟨b5, fb5⟩ := hzr.out.2 5 (by decide)
                obtain ⟨b6, fb6⟩ := hzr.out.2 6 (by decide)
                obtain ⟨b7, fb7⟩ := hzr.out.2 7 (by decide)
                obtain ⟨b8, fb8⟩ := hzr.out.2 8 (by decide)
                by_cases h2 : sf = 2
                · subst h2
                  clear hs3 h0
                  go_wp2_with (go_at_call 48; refine (lsign_is HSV.out HSF.out _).mono ?_; rintro e3 w3 ⟨rfl, rfl⟩)
                  obtain ⟨q0, q1, q2, q3, q4, q5, q6, q7, q8⟩ := set9_cells (v0 := .int .i64 0) (v1 := .string ⟨#[]⟩) (v2 := .slice none 0 0) (v3 := .int .i64 0) (v4 := .int .i64 0) (v5 := .bool false) (v6 := .slice none 0 0) (v7 := .int .i64 0) (v8 := .bool false) hzr.out rfl
                  refine bodyPost_ret (v := .tuple #[.agg #[.int .i64 0, .string ⟨#[]⟩, .slice none 0 0, .int .i64 0, .int .i64 0, .bool false, .slice none 0 0, .int .i64 0, .bool false], .int .i64 6]) (by simp [results, Try.results28, go_sem, q0, q1, q2, q3, q4, q5, q6, q7, q8]) rfl ?_
                  obtain ⟨z1, z2, z3⟩ := sign_out hsg.out hat2.out HQ.out
                  subst z1
                  exact ⟨_, rfl, fun _ => rfl, fun h => absurd h (by decide), (set9_mv hS4.out.mv (Nat.le_refl _) hg).grown⟩
                · obtain rfl : sf = 1 := by omega
                  clear hs3 h0 h2
                  have hM5 := hide (Mv.step hS4.out.mv (k' := k + (j + 1)) (z := (k : Int) + ((j : Int) + 1)) (by omega))
                  go_wp2_with (go_at_call 48; refine (lsign_is HSV.out HSF.out _).mono ?_; rintro e3 w3 ⟨rfl, rfl⟩)
                  have hzr2 := hide (hzr.out.setOther (S := g) (i := 1) (by omega) (.int .i64 ((k : Int) + ((j : Int) + 1))))
                  obtain ⟨q0, q1, q2, q3, q4, q5, q6, q7, q8⟩ := set9_cells (v0 := .int .i64 5) (v1 := .string sv) (v2 := .slice none 0 0) (v3 := .int .i64 0) (v4 := .int .i64 0) (v5 := .bool false) (v6 := .slice none 0 0) (v7 := .int .i64 0) (v8 := .bool false) hzr2.out rfl
                  refine bodyPost_ret (v := .tuple #[.agg #[.int .i64 5, .string sv, .slice none 0 0, .int .i64 0, .int .i64 0, .bool false, .slice none 0 0, .int .i64 0, .bool false], .int .i64 0]) (by simp [results, Try.results28, go_sem, q0, q1, q2, q3, q4, q5, q6, q7, q8]) rfl ?_
                  obtain ⟨z1, z2, z3⟩ := sign_in hsg.out hat2.out HQ.out
                  subst z1 z2 z3
                  exact ⟨_, rfl, fun h => absurd rfl h, fun _ => ⟨⟨_, _, by rw [HSV.out, HXS.out]; rfl, World.ownsRow_nil _ _ _ _, World.ownsRow_nil _ _ _ _⟩, set9_mv hM5.out (Nat.le_refl _) hg⟩, (set9_mv hM5.out (Nat.le_refl _) hg).grown⟩
      · have hnn := hide (show signN (u.drop k) 4 = none by rw [hsg.out, show gk = 0 by omega]; rfl)
        obtain ⟨blk, off, rfl, _, hcell⟩ := har.out.spotL (by omega)
        have hca := hcell k hk
        have HX := hide (fun p => isAt0 (q := p) hk)
        obtain ⟨x, hx⟩ : ∃ x, u[k] = x := ⟨_, rfl⟩
        rw [hx] at hca HX
        have HE := hide (sign_none hnn.out HQ.out)
        rw [HX.out] at HE
        clear hcell hx
        have hx16 := x.toNat_lt
        by_cases h128 : 128 ≤ x.toNat
        · have e0 : ((x.toNat : Int) ≥ 128) := by omega
          have hz := hide (show 6 = e by rw [← HE.out]; simp [h128])
          go_wp2_with fail
          go_quiet (fail)
          have hzr := hide (hS.out.drewN hg nq).zero
          obtain ⟨b0, fb0⟩ := hzr.out.2 0 (by decide)
          obtain ⟨b1, fb1⟩ := hzr.out.2 1 (by decide)
          obtain ⟨b2, fb2⟩ := hzr.out.2 2 (by decide)
          obtain ⟨b3, fb3⟩ := hzr.out.2 3 (by decide)
          obtain ⟨b4, fb4⟩ := hzr.out.2 4 (by decide)
          obtain ⟨b5, fb5⟩ := hzr.out.2 5 (by decide)
          obtain ⟨b6, fb6⟩ := hzr.out.2 6 (by decide)
          obtain ⟨b7, fb7⟩ := hzr.out.2 7 (by decide)
          obtain ⟨b8, fb8⟩ := hzr.out.2 8 (by decide)
          go_wp2
          obtain ⟨q0, q1, q2, q3, q4, q5, q6, q7, q8⟩ := set9_cells (v0 := .int .i64 0) (v1 := .string ⟨#[]⟩) (v2 := .slice none 0 0) (v3 := .int .i64 0) (v4 := .int .i64 0) (v5 := .bool false) (v6 := .slice none 0 0) (v7 := .int .i64 0) (v8 := .bool false) hzr.out rfl
          refine bodyPost_ret (v := .tuple #[.agg #[.int .i64 0, .string ⟨#[]⟩, .slice none 0 0, .int .i64 0, .int .i64 0, .bool false, .slice none 0 0, .int .i64 0, .bool false], .int .i64 6]) (by simp [results, Try.results28, go_sem, q0, q1, q2, q3, q4, q5, q6, q7, q8]) rfl ?_
          obtain rfl := hz.out
          exact ⟨_, rfl, fun _ => rfl, fun h => absurd h (by decide), (set9_mv (hS.out.drewN hg nq).mv (Nat.le_refl _) hg).grown⟩
        · by_cases h96 : x.toNat = 96
          · have e1 : ((x.toNat : Int) == 96) = true := by rw [h96]; rfl
            have H96 := hide h96
            clear h96
            have hz := hide (show 6 = e by rw [← HE.out]; simp [H96.out])
            go_wp2_with fail
            go_quiet (fail)
            have hzr := hide (hS.out.drewN hg nq).zero
            obtain ⟨b0, fb0⟩ := hzr.out.2 0 (by decide)
            obtain ⟨b1, fb1⟩ := hzr.out.2 1 (by decide)
            obtain ⟨b2, fb2⟩ := hzr.out.2 2 (by decide)
            obtain ⟨b3, fb3⟩ := hzr.out.2 3 (by decide)
            obtain ⟨b4, fb4⟩ := hzr.out.2 4 (by decide)
            obtain ⟨b5, fb5⟩ := hzr.out.2 5 (by decide)
            obtain ⟨b6, fb6⟩ := hzr.out.2 6 (by decide)
            obtain ⟨b7, fb7⟩ := hzr.out.2 7 (by decide)
            obtain ⟨b8, fb8⟩ := hzr.out.2 8 (by decide)
            go_wp2
            obtain ⟨q0, q1, q2, q3, q4, q5, q6, q7, q8⟩ := set9_cells (v0 := .int .i64 0) (v1 := .string ⟨#[]⟩) (v2 := .slice none 0 0) (v3 := .int .i64 0) (v4 := .int .i64 0) (v5 := .bool false) (v6 := .slice none 0 0) (v7 := .int .i64 0) (v8 := .bool false) hzr.out rfl
            refine bodyPost_ret (v := .tuple #[.agg #[.int .i64 0, .string ⟨#[]⟩, .slice none 0 0, .int .i64 0, .int .i64 0, .bool false, .slice none 0 0, .int .i64 0, .bool false], .int .i64 6]) (by simp [results, Try.results28, go_sem, q0, q1, q2, q3, q4, q5, q6, q7, q8]) rfl ?_
            obtain rfl := hz.out
            exact ⟨_, rfl, fun _ => rfl, fun h => absurd h (by decide), (set9_mv (hS.out.drewN hg nq).mv (Nat.le_refl _) hg).grown⟩
          · have e1 : ((x.toNat : Int) == 96) = false := beq_eq_false_iff_ne.2 (by omega)
            by_cases h92 : x.toNat = 92
            · have e2 : ((x.toNat : Int) == 92) = true := by rw [h92]; rfl
              have H92 := hide h92
              clear h92 h96
              have hz := hide (show 6 = e by rw [← HE.out]; simp [H92.out])
              go_wp2_with fail
              go_quiet (fail)
              have hzr := hide (hS.out.drewN hg nq).zero
              obtain ⟨b0, fb0⟩ := hzr.out.2 0 (by decide)
              obtain ⟨b1, fb1⟩ := hzr.out.2 1 (by decide)
              obtain ⟨b2, fb2⟩ := hzr.out.2 2 (by decide)
              obtain ⟨b3, fb3⟩ := hzr.out.2 3 (by decide)
              obtain ⟨b4, fb4⟩ := hzr.out.2 4 (by decide)
              obtain ⟨b5, fb5⟩ := hzr.out.2 5 (by decide)
              obtain ⟨b6, fb6⟩ := hzr.out.2 6 (by decide)
              obtain ⟨b7, fb7⟩ := hzr.out.2 7 (by decide)
              obtain ⟨b8, fb8⟩ := hzr.out.2 8 (by decide)
              go_wp2
              obtain ⟨q0, q1, q2, q3, q4, q5, q6, q7, q8⟩ := set9_cells (v0 := .int .i64 0) (v1 := .string ⟨#[]⟩) (v2 := .slice none 0 0) (v3 := .int .i64 0) (v4 := .int .i64 0) (v5 := .bool false) (v6 := .slice none 0 0) (v7 := .int .i64 0) (v8 := .bool false) hzr.out rfl
              refine bodyPost_ret (v := .tuple #[.agg #[.int .i64 0, .string ⟨#[]⟩, .slice none 0 0, .int .i64 0, .int .i64 0, .bool false, .slice none 0 0, .int .i64 0, .bool false], .int .i64 6]) (by simp [results, Try.results28, go_sem, q0, q1, q2, q3, q4, q5, q6, q7, q8]) rfl ?_
              obtain rfl := hz.out
              exact ⟨_, rfl, fun _ => rfl, fun h => absurd h (by decide), (set9_mv (hS.out.drewN hg nq).mv (Nat.le_refl _) hg).grown⟩
            · have e2 : ((x.toNat : Int) == 92) = false := beq_eq_false_iff_ne.2 (by omega)
              have HNO := hide (And.intro h128 (And.intro h96 h92))
              clear h96 h92
              by_cases hk0 : k = 0
              · have e3 : ((k : Int) == 0) = true := by rw [hk0]; rfl
                have HK := hide (show (k == 0) = true by rw [hk0]; rfl)
                clear hk0
                obtain ⟨b, hb⟩ : ∃ b, starts [35, 33] (u.drop k) = b := ⟨_, rfl⟩
                have HB := hide hb
                clear hb
                cases b with
                | true =>
                  have hz := hide (show 6 = e by rw [← HE.out]; rw [HB.out, HK.out]; simp)
                  go_wp2_with fail
                  go_quiet (fail)
                  go_wp2_with fail
                  refine (lhas_any ⟨#[35, 33]⟩ (hS.out.drewN hg nq).mv.rd rfl (har.out.drewN _) (Nat.le_of_lt hk) hl (by decide) HB.out).mono ?_
                  rintro e4 w4 ⟨rfl, m4, hw4⟩
                  have hS6 := hide (show SgS w w4 g (some ⟨blk, off, none⟩) u.length c k by rw [hw4]; exact (hS.out.drewN hg nq).drewN hg m4)
                  clear hw4 m4
                  have hzr := hide hS6.out.zero
                  obtain ⟨b0, fb0⟩ := hzr.out.2 0 (by decide)
                  obtain ⟨b1, fb1⟩ := hzr.out.2 1 (by decide)
                  obtain ⟨b2, fb2⟩ := hzr.out.2 2 (by decide)
                  obtain ⟨b3, fb3⟩ := hzr.out.2 3 (by decide)
                  obtain ⟨b4, fb4⟩ := hzr.out.2 4 (by decide)
                  obtain ⟨b5, fb5⟩ := hzr.out.2 5 (by decide)
                  obtain ⟨b6, fb6⟩ := hzr.out.2 6 (by decide)
                  obtain ⟨b7, fb7⟩ := hzr.out.2 7 (by decide)
                  obtain ⟨b8, fb8⟩ := hzr.out.2 8 (by decide)
                  go_wp2
                  obtain ⟨q0, q1, q2, q3, q4, q5, q6, q7, q8⟩ := set9_cells (v0 := .int .i64 0) (v1 := .string ⟨#[]⟩) (v2 := .slice none 0 0) (v3 := .int .i64 0) (v4 := .int .i64 0) (v5 := .bool false) (v6 := .slice none 0 0) (v7 := .int .i64 0) (v8 := .bool false) hzr.out rfl
                  refine bodyPost_ret (v := .tuple #[.agg #[.int .i64 0, .string ⟨#[]⟩, .slice none 0 0, .int .i64 0, .int .i64 0, .bool false, .slice none 0 0, .int .i64 0, .bool false], .int .i64 6]) (by simp [results, Try.results28, go_sem, q0, q1, q2, q3, q4, q5, q6, q7, q8]) rfl ?_
                  obtain rfl := hz.out
                  exact ⟨_, rfl, fun _ => rfl, fun h => absurd h (by decide), (set9_mv hS6.out.mv (Nat.le_refl _) hg).grown⟩
                | false =>
                  have hz := hide (show 5 = e by rw [← HE.out]; have := HNO.out; rw [HB.out, HK.out]; simp [this])
                  go_wp2_with fail
                  go_quiet (fail)
                  go_wp2_with fail
                  refine (lhas_any ⟨#[35, 33]⟩ (hS.out.drewN hg nq).mv.rd rfl (har.out.drewN _) (Nat.le_of_lt hk) hl (by decide) HB.out).mono ?_
                  rintro e4 w4 ⟨rfl, m4, hw4⟩
                  have hS6 := hide (show SgS w w4 g (some ⟨blk, off, none⟩) u.length c k by rw [hw4]; exact (hS.out.drewN hg nq).drewN hg m4)
                  clear hw4 m4
                  have hzr := hide hS6.out.zero
                  obtain ⟨b0, fb0⟩ := hzr.out.2 0 (by decide)
                  obtain ⟨b1, fb1⟩ := hzr.out.2 1 (by decide)
                  obtain ⟨b2, fb2⟩ := hzr.out.2 2 (by decide)
                  obtain ⟨b3, fb3⟩ := hzr.out.2 3 (by decide)
                  obtain ⟨b4, fb4⟩ := hzr.out.2 4 (by decide)
                  obtain ⟨b5, fb5⟩ := hzr.out.2 5 (by decide)
                  obtain ⟨b6, fb6⟩ := hzr.out.2 6 (by decide)
                  obtain ⟨b7, fb7⟩ := hzr.out.2 7 (by decide)
                  obtain ⟨b8, fb8⟩ := hzr.out.2 8 (by decide)
                  go_wp2
                  obtain ⟨q0, q1, q2, q3, q4, q5, q6, q7, q8⟩ := set9_cells (v0 := .int .i64 0) (v1 := .string ⟨#[]⟩) (v2 := .slice none 0 0) (v3 := .int .i64 0) (v4 := .int .i64 0) (v5 := .bool false) (v6 := .slice none 0 0) (v7 := .int .i64 0) (v8 := .bool false) hzr.out rfl
                  refine bodyPost_ret (v := .tuple #[.agg #[.int .i64 0, .string ⟨#[]⟩, .slice none 0 0, .int .i64 0, .int .i64 0, .bool false, .slice none 0 0, .int .i64 0, .bool false], .int .i64 5]) (by simp [results, Try.results28, go_sem, q0, q1, q2, q3, q4, q5, q6, q7, q8]) rfl ?_
                  obtain rfl := hz.out
                  exact ⟨_, rfl, fun _ => rfl, fun h => absurd h (by decide), (set9_mv hS6.out.mv (Nat.le_refl _) hg).grown⟩
              · have e3 : ((k : Int) == 0) = false := beq_eq_false_iff_ne.2 (by omega)
                have HK := hide (show (k == 0) = false from beq_eq_false_iff_ne.2 hk0)
                clear hk0
                have hz := hide (show 5 = e by rw [← HE.out]; have := HNO.out; simp [HK.out, this])
                go_wp2_with fail
                go_quiet (fail)
                have hzr := hide (hS.out.drewN hg nq).zero
                obtain ⟨b0, fb0⟩ := hzr.out.2 0 (by decide)
                obtain ⟨b1, fb1⟩ := hzr.out.2 1 (by decide)
                obtain ⟨b2, fb2⟩ := hzr.out.2 2 (by decide)
                obtain ⟨b3, fb3⟩ := hzr.out.2 3 (by decide)
                obtain ⟨b4, fb4⟩ := hzr.out.2 4 (by decide)
                obtain ⟨b5, fb5⟩ := hzr.out.2 5 (by decide)
                obtain ⟨b6, fb6⟩ := hzr.out.2 6 (by decide)
                obtain ⟨b7, fb7⟩ := hzr.out.2 7 (by decide)
                obtain ⟨b8, fb8⟩ := hzr.out.2 8 (by decide)
                go_wp2
                obtain ⟨q0, q1, q2, q3, q4, q5, q6, q7, q8⟩ := set9_cells (v0 := .int .i64 0) (v1 := .string ⟨#[]⟩) (v2 := .slice none 0 0) (v3 := .int .i64 0) (v4 := .int .i64 0) (v5 := .bool false) (v6 := .slice none 0 0) (v7 := .int .i64 0) (v8 := .bool false) hzr.out rfl
                refine bodyPost_ret (v := .tuple #[.agg #[.int .i64 0, .string ⟨#[]⟩, .slice none 0 0, .int .i64 0, .int .i64 0, .bool false, .slice none 0 0, .int .i64 0, .bool false], .int .i64 5]) (by simp [results, Try.results28, go_sem, q0, q1, q2, q3, q4, q5, q6, q7, q8]) rfl ?_
                obtain rfl := hz.out
                exact ⟨_, rfl, fun _ => rfl, fun h => absurd h (by decide), (set9_mv (hS.out.drewN hg nq).mv (Nat.le_refl _) hg).grown⟩
end Go.Proofs.Ytbljbmeifmpfoaa

namespace Go.Proofs.Ytbljbmeifmpfoaa
open Go.RowKit

set_option maxHeartbeats 2000000 in
set_option maxRecDepth 100000 in
theorem lstrange1_any (x : UInt16) (Z : Nat) (zero : Bool) (w : World) (hz : w.cell? ⟨Z, 0, none⟩ = some (.bool zero)) : Calls Try.prog 59 #[.int .u16 (x.toNat : Int), .pointer (some ⟨Z, 0, none⟩)] w fun e w' => e = .returned (.bool (oddAfter zero x)) ∧ w = w' := by
  by_cases h0 : x.toNat = 46
  · have e0 : ((x.toNat : Int) == 46) = true := by rw [h0]; rfl
    have HR := hide (show oddAfter zero x = true by unfold oddAfter; rw [h0]; cases zero <;> rfl)
    clear h0
    go_enter Try.func59, Try.ntmps59
    go_wp2
    go_ret
    exact ⟨ret_bool HR.out.symm, rfl⟩
  have e0 : ((x.toNat : Int) == 46) = false := beq_eq_false_iff_ne.2 (by omega)
  by_cases h1 : x.toNat = 101
  · have e1 : ((x.toNat : Int) == 101) = true := by rw [h1]; rfl
    have HR := hide (show oddAfter zero x = true by unfold oddAfter; rw [h1]; cases zero <;> rfl)
    clear h1
    go_enter Try.func59, Try.ntmps59
    go_wp2
    go_ret
    exact ⟨ret_bool HR.out.symm, rfl⟩
  have e1 : ((x.toNat : Int) == 101) = false := beq_eq_false_iff_ne.2 (by omega)
  by_cases h2 : x.toNat = 69
  · have e2 : ((x.toNat : Int) == 69) = true := by rw [h2]; rfl
    have HR := hide (show oddAfter zero x = true by unfold oddAfter; rw [h2]; cases zero <;> rfl)
    clear h2
    go_enter Try.func59, Try.ntmps59
    go_wp2
    go_ret
    exact ⟨ret_bool HR.out.symm, rfl⟩
  have e2 : ((x.toNat : Int) == 69) = false := beq_eq_false_iff_ne.2 (by omega)
  by_cases h3 : x.toNat = 95
  · have e3 : ((x.toNat : Int) == 95) = true := by rw [h3]; rfl
    have HR := hide (show oddAfter zero x = true by unfold oddAfter; rw [h3]; cases zero <;> rfl)
    clear h3
    go_enter Try.func59, Try.ntmps59
    go_wp2
    go_ret
    exact ⟨ret_bool HR.out.symm, rfl⟩
  have e3 : ((x.toNat : Int) == 95) = false := beq_eq_false_iff_ne.2 (by omega)
  by_cases h4 : x.toNat = 120
  · have e4 : ((x.toNat : Int) == 120) = true := by rw [h4]; rfl
    have HR := hide (show oddAfter zero x = zero by unfold oddAfter; rw [h4]; cases zero <;> rfl)
    clear h4
    go_enter Try.func59, Try.ntmps59
    go_wp2
    go_ret
    exact ⟨ret_bool HR.out.symm, rfl⟩
  have e4 : ((x.toNat : Int) == 120) = false := beq_eq_false_iff_ne.2 (by omega)
  by_cases h5 : x.toNat = 88
  · have e5 : ((x.toNat : Int) == 88) = true := by rw [h5]; rfl
    have HR := hide (show oddAfter zero x = zero by unfold oddAfter; rw [h5]; cases zero <;> rfl)
    clear h5
    go_enter Try.func59, Try.ntmps59
    go_wp2
    go_ret
    exact ⟨ret_bool HR.out.symm, rfl⟩
  have e5 : ((x.toNat : Int) == 88) = false := beq_eq_false_iff_ne.2 (by omega)
  by_cases h6 : x.toNat = 111
  · have e6 : ((x.toNat : Int) == 111) = true := by rw [h6]; rfl
    have HR := hide (show oddAfter zero x = zero by unfold oddAfter; rw [h6]; cases zero <;> rfl)
    clear h6
    go_enter Try.func59, Try.ntmps59
    go_wp2
    go_ret
    exact ⟨ret_bool HR.out.symm, rfl⟩
  have e6 : ((x.toNat : Int) == 111) = false := beq_eq_false_iff_ne.2 (by omega)
  by_cases h7 : x.toNat = 79
  · have e7 : ((x.toNat : Int) == 79) = true := by rw [h7]; rfl
    have HR := hide (show oddAfter zero x = zero by unfold oddAfter; rw [h7]; cases zero <;> rfl)
    clear h7
    go_enter Try.func59, Try.ntmps59
    go_wp2
    go_ret
    exact ⟨ret_bool HR.out.symm, rfl⟩
  have e7 : ((x.toNat : Int) == 79) = false := beq_eq_false_iff_ne.2 (by omega)
  by_cases h8 : x.toNat = 98
  · have e8 : ((x.toNat : Int) == 98) = true := by rw [h8]; rfl
    have HR := hide (show oddAfter zero x = zero by unfold oddAfter; rw [h8]; cases zero <;> rfl)
    clear h8
    go_enter Try.func59, Try.ntmps59
    go_wp2
    go_ret
    exact ⟨ret_bool HR.out.symm, rfl⟩
  have e8 : ((x.toNat : Int) == 98) = false := beq_eq_false_iff_ne.2 (by omega)
  by_cases h9 : x.toNat = 66
  · have e9 : ((x.toNat : Int) == 66) = true := by rw [h9]; rfl
    have HR := hide (show oddAfter zero x = zero by unfold oddAfter; rw [h9]; cases zero <;> rfl)
    clear h9
    go_enter Try.func59, Try.ntmps59
    go_wp2
    go_ret
    exact ⟨ret_bool HR.out.symm, rfl⟩
  have e9 : ((x.toNat : Int) == 66) = false := beq_eq_false_iff_ne.2 (by omega)
  have HR := hide (show oddAfter zero x = false by
    unfold oddAfter
    rw [show (x.toNat == 46) = false from beq_eq_false_iff_ne.2 h0, show (x.toNat == 101) = false from beq_eq_false_iff_ne.2 h1, show (x.toNat == 69) = false from beq_eq_false_iff_ne.2 h2, show (x.toNat == 95) = false from beq_eq_false_iff_ne.2 h3, show (x.toNat == 120) = false from beq_eq_false_iff_ne.2 h4, show (x.toNat == 88) = false from beq_eq_false_iff_ne.2 h5, show (x.toNat == 111) = false from beq_eq_false_iff_ne.2 h6, show (x.toNat == 79) = false from beq_eq_false_iff_ne.2 h7, show (x.toNat == 98) = false from beq_eq_false_iff_ne.2 h8, show (x.toNat == 66) = false from beq_eq_false_iff_ne.2 h9]
    cases zero <;> rfl)
  clear h0 h1 h2 h3 h4 h5 h6 h7 h8 h9
  go_enter Try.func59, Try.ntmps59
  go_wp2
  go_ret
  exact ⟨ret_bool HR.out.symm, rfl⟩
set_option maxHeartbeats 2000000 in
set_option maxRecDepth 100000 in
theorem lis_strange {A : Option Addr} {c g B k j n Z : Nat} {zero : Bool} {u : List UInt16} {w : World} (hz : w.cell? ⟨Z, 0, none⟩ = some (.bool zero)) (hr : Rd w g A n c k) (hn : u.length = n) (ha : Reads w B 1 A n (u16s u)) (hk : k ≤ n) (hl : n ≤ 4096) (hj : j ≤ 4096) {q : Bool} (hq : isAt j (oddAfter zero) (u.drop k) = q) :
    Calls Try.prog 27 #[.pointer (some ⟨g, 0, none⟩), .int .i64 (j : Int), .func (.func 59) #[] #[.pointer (some ⟨Z, 0, none⟩)]] w fun e w' => e = .returned (.bool q) ∧ ∃ m, w' = w.drewN m := by
  subst hn
  have hc0 := hr.c0
  have hc1 := hr.c1
  by_cases hin : k + j < u.length
  · have hin2 : (k : Int) + (j : Int) < (u.length : Int) := by omega
    have HQ := hide (show oddAfter zero u[k + j] = q by rw [← hq, isAt_in hin])
    obtain ⟨b, off, rfl, _, hcell⟩ := ha.spotL (by omega)
    have hca := hcell (k + j) hin
    obtain ⟨x, hx⟩ : ∃ x, u[k + j] = x := ⟨_, rfl⟩
    rw [hx] at hca HQ
    have HZ := hide hz
    clear hcell hq hx hr hz
    go_enter Try.func27, Try.ntmps27
    go_wp2_with fail
    go_quiet (first | (go_at_call 59; refine Calls.quiet_of_same ((lstrange1_any _ _ _ _ (by exact HZ.out)).mono fun _ _ h => same_of h)))
    go_wp2
    go_ret
    exact ⟨ret_bool HQ.out, _, rfl⟩
  · have hin2 : ¬ (k : Int) + (j : Int) < (u.length : Int) := by omega
    have hin3 : decide ((k : Int) + (j : Int) < (u.length : Int)) = false := decide_eq_false hin2
    have HQ := hide (show false = q by rw [← hq, isAt_out hin])
    clear hin hq hr
    go_enter Try.func27, Try.ntmps27
    go_wp2_with fail
    go_quiet (fail)
    go_wp2
    go_ret
    exact ⟨ret_bool HQ.out, _, rfl⟩
set_option maxHeartbeats 2000000 in
set_option maxRecDepth 100000 in
theorem lstrange_any {A : Option Addr} {c g B k n : Nat} {zero : Bool} {u : List UInt16} {w : World} (hr : Rd w g A n c k) (hn : u.length = n) (ha : Reads w B 1 A n (u16s u)) (hB : B ≤ g) (hk : k ≤ n) (hl : n ≤ 4096) {q : Bool} (hq : isAt 0 (oddAfter zero) (u.drop k) = q) :
    Calls Try.prog 44 #[.pointer (some ⟨g, 0, none⟩), .bool zero] w fun e w' => e = .returned (.bool q) ∧ Below w.heap.size w w' := by
  have HR := hide (hr.alloc (.cells #[.bool zero] 4))
  have hg := hr.lt
  have HA := hide (ha.alloc (Nat.le_trans hB (Nat.le_of_lt hg)) (.cells #[.bool zero] 4))
  have HZ := hide (show (w.alloc (.cells #[.bool zero] 4)).cell? ⟨w.heap.size, 0, none⟩ = some (.bool zero) by go_simp)
  have HQ := hide hq
  clear hr ha hq
  go_enter Try.func44, Try.ntmps44
  go_wp2_with fail
  refine (lis_strange (j := 0) HZ.out HR.out hn HA.out hk hl (by omega) HQ.out).mono ?_
  rintro e1 w1 ⟨rfl, m, hw⟩
  have hb : Below w.heap.size w w1 := by rw [hw]; exact below_drewN ((Below.refl _ w).alloc (Nat.le_refl _) _) m
  clear hw
  go_wp2
  go_ret
  exact ⟨rfl, hb⟩
end Go.Proofs.Ytbljbmeifmpfoaa

namespace Go.Proofs.Ytbljbmeifmpfoaa
open Go.RowKit

set_option maxHeartbeats 400000 in
theorem runits_any {A A' : Option Addr} {c d B : Nat} {xs ys : List UInt16} {w : World} (hB : B ≤ w.heap.size) (ha : Reads w B 1 A xs.length (u16s xs)) (hb : Reads w B 1 A' ys.length (u16s ys)) (hl : xs.length ≤ 70368744177664) (hl2 : ys.length ≤ 70368744177664) :
    Calls Try.prog 9 #[.slice A xs.length c, .slice A' ys.length d] w fun e w' => e = .returned (.bool (decide (xs = ys))) ∧ Below w.heap.size w w' := by
  by_cases hne : xs.length = ys.length
  · have H := hide hne
    clear hne
    have e1 : ((xs.length : Int) == (ys.length : Int)) = true := by rw [H.out]; simp
    have e2 : ((xs.length : Int) != (ys.length : Int)) = false := by rw [H.out]; simp
    go_enter Try.func9, Try.ntmps9
    go_wp2
    go_loopw [5] (fun i wr => ∃ k : Nat, k ≤ xs.length ∧ i = .int .i64 k ∧ xs.take k = ys.take k ∧ Below w.heap.size w wr) (fun i _ => xs.length - (intOf i).toNat)
    case atStart => exact ⟨0, Nat.zero_le _, rfl, by simp, Below.refl _ _⟩
    case round =>
      obtain ⟨k, hk, rfl, htk, hnx⟩ := hrel
      have HT := hide htk
      clear htk
      by_cases hlt : k < xs.length
      · have hlt2 : k < ys.length := by have := H.out; omega
        obtain ⟨ad, rfl, _, hca⟩ := (ha.below (hnx.mono hB)).u16 hlt
        obtain ⟨ad', rfl, _, hcb⟩ := (hb.below (hnx.mono hB)).u16 hlt2
        have h3 : (k : Int) < (xs.length : Int) := by omega
        have h4 : (k : Int) < (ys.length : Int) := by omega
        go_wp2
        go_quiet (fail)
        go_wp2
        · go_ret
          refine ⟨ret_bool ?_, below_drewN hnx _⟩
          have hne : (xs[k].toNat : Int) ≠ ys[k].toNat := by have h : ((xs[k].toNat : Int) != ys[k].toNat) = true := by assumption
                                                             simpa using h
          refine (decide_eq_false ?_).symm
          rintro rfl
          exact hne rfl
        · go_roundw
          case rel =>
            have h : ((xs[k].toNat : Int) != ys[k].toNat) = false := by assumption
            have h' : xs[k] = ys[k] := by
              apply UInt16.toNat_inj.1
              simp at h
              omega
            exact ⟨k + 1, by omega, by go_num, by rw [List.take_succ_eq_append_getElem hlt, List.take_succ_eq_append_getElem hlt2, HT.out, h'], below_drewN hnx _⟩
          case measure => simp [intOf]; omega
      · go_wp2
        go_ret
        refine ⟨ret_bool ?_, hnx⟩
        have hkk : k = xs.length := by omega
        refine (decide_eq_true ?_).symm
        have h1 := HT.out
        rw [List.take_of_length_le (by omega), List.take_of_length_le (by rw [← H.out]; omega)] at h1
        exact h1
  · have e1 : ((xs.length : Int) != (ys.length : Int)) = true := by simp; omega
    go_enter Try.func9, Try.ntmps9
    go_wp2
    go_ret
    refine ⟨ret_bool (decide_eq_false ?_).symm, Below.refl _ _⟩
    rintro rfl
    exact hne rfl
end Go.Proofs.Ytbljbmeifmpfoaa

namespace Go.Proofs.Ytbljbmeifmpfoaa
open Go.RowKit

set_option maxHeartbeats 400000 in
theorem sequal_any {A A' : Option Addr} {c d B : Nat} {xs ys : List UInt16} {w : World} (hB : B ≤ w.heap.size) (ha : Reads w B 1 A xs.length (u16s xs)) (hb : Reads w B 1 A' ys.length (u16s ys)) (hl : xs.length ≤ 70368744177664) (hl2 : ys.length ≤ 70368744177664) :
    Calls Try.prog 83 #[.slice A xs.length c, .slice A' ys.length d] w fun e w' => e = .returned (.bool (decide (xs = ys))) ∧ Below w.heap.size w w' := by
  by_cases hne : xs.length = ys.length
  · have H := hide hne
    clear hne
    have e1 : ((xs.length : Int) == (ys.length : Int)) = true := by rw [H.out]; simp
    have e2 : ((xs.length : Int) != (ys.length : Int)) = false := by rw [H.out]; simp
    go_enter Try.func83, Try.ntmps83
    go_wp2
    go_loopw [13] (fun i wr => ∃ k : Nat, k ≤ xs.length ∧ i = .int .i64 k ∧ xs.take k = ys.take k ∧ Below w.heap.size w wr) (fun i _ => xs.length - (intOf i).toNat)
    case atStart => exact ⟨0, Nat.zero_le _, rfl, by simp, Below.refl _ _⟩
    case round =>
      obtain ⟨k, hk, rfl, htk, hnx⟩ := hrel
      have HT := hide htk
      clear htk
      by_cases hlt : k < xs.length
      · have hlt2 : k < ys.length := by have := H.out; omega
        obtain ⟨ad, rfl, _, hca⟩ := (ha.below (hnx.mono hB)).u16 hlt
        obtain ⟨ad', rfl, _, hcb⟩ := (hb.below (hnx.mono hB)).u16 hlt2
        have h3 : (k : Int) < (xs.length : Int) := by omega
        have h4 : (k : Int) < (ys.length : Int) := by omega
        go_wp2
        go_quiet (fail)
        go_wp2
        · go_ret
          refine ⟨ret_bool ?_, below_drewN hnx _⟩
          have hne : (xs[k].toNat : Int) ≠ ys[k].toNat := by
            have h : ((xs[k].toNat : Int) != ys[k].toNat) = true := by assumption
            simpa using h
          refine (decide_eq_false ?_).symm
          rintro rfl
          exact hne rfl
        · go_roundw
          case rel =>
            have h : ((xs[k].toNat : Int) != ys[k].toNat) = false := by assumption
            have h' : xs[k] = ys[k] := by
              apply UInt16.toNat_inj.1
              simp at h
              omega
            exact ⟨k + 1, by omega, by go_num, by rw [List.take_succ_eq_append_getElem hlt, List.take_succ_eq_append_getElem hlt2, HT.out, h'], below_drewN hnx _⟩
          case measure => simp [intOf]; omega
      · go_wp2
        go_ret
        refine ⟨ret_bool ?_, hnx⟩
        have hkk : k = xs.length := by omega
        refine (decide_eq_true ?_).symm
        have h1 := HT.out
        rw [List.take_of_length_le (by omega), List.take_of_length_le (by rw [← H.out]; omega)] at h1
        exact h1
  · have e1 : ((xs.length : Int) != (ys.length : Int)) = true := by simp; omega
    go_enter Try.func83, Try.ntmps83
    go_wp2
    go_ret
    refine ⟨ret_bool (decide_eq_false ?_).symm, Below.refl _ _⟩
    rintro rfl
    exact hne rfl

theorem same_any {A A' : Option Addr} {c d B : Nat} {xs ys : List UInt16} {w : World} (hB : B ≤ w.heap.size) (ha : Reads w B 1 A xs.length (u16s xs)) (hb : Reads w B 1 A' ys.length (u16s ys)) (hl : xs.length ≤ 70368744177664) (hl2 : ys.length ≤ 70368744177664) :
    Calls Try.prog 62 #[.slice A xs.length c, .slice A' ys.length d] w fun e w' => e = .returned (.bool (decide (xs = ys))) ∧ Below w.heap.size w w' := by
  go_enter Try.func62, Try.ntmps62
  go_wp2_with (go_at_call 83; refine (sequal_any hB ha hb hl hl2).mono ?_; rintro e w' ⟨rfl, hb'⟩)
  go_ret
  exact ⟨rfl, hb'⟩

/-- there is one, just if the place that is told is not below 0 -/
def Found (p : Prop) (w : World) (e : Ending) (w' : World) : Prop := ∃ k : Int, e = .returned (.int .i64 k) ∧ (p ↔ 0 ≤ k) ∧ w = w'

set_option maxHeartbeats 400000 in
theorem sindex_any {A : Option Addr} {c B : Nat} {xs : List UInt16} (x : UInt16) {w : World} (ha : Reads w B 1 A xs.length (u16s xs)) (hl : xs.length ≤ 70368744177664) :
    Calls Try.prog 97 #[.slice A xs.length c, .int .u16 (x.toNat : Int)] w (Found (x ∈ xs) w) := by
  go_enter Try.func97, Try.ntmps97
  go_wp2
  go_loop [8] (fun i => ∃ k : Nat, k ≤ xs.length ∧ i = .int .i64 k ∧ x ∉ xs.take k) (fun i => xs.length - (intOf i).toNat)
  case atStart => exact ⟨0, Nat.zero_le _, rfl, by simp⟩
  case round =>
    obtain ⟨k, hk, rfl, hno⟩ := hrel
    have HN := hide hno
    clear hno
    by_cases hlt : k < xs.length
    · obtain ⟨ad, rfl, _, hca⟩ := ha.u16 hlt
      have h3 : (k : Int) < (xs.length : Int) := by omega
      by_cases hx : x = xs[k]
      · have hmem : x ∈ xs := by rw [hx]; exact List.getElem_mem _
        have e1 : ((x.toNat : Int) == (xs[k].toNat : Int)) = true := by rw [← hx]; simp
        have HX := hide hmem
        clear hx hmem
        go_wp2
        go_ret
        exact ⟨k, rfl, ⟨fun _ => by omega, fun _ => HX.out⟩, rfl⟩
      · have e1 : ((x.toNat : Int) == (xs[k].toNat : Int)) = false := by
          rw [beq_eq_false_iff_ne]
          intro h
          exact hx (UInt16.toNat_inj.1 (by omega))
        go_wp2
        go_round
        case rel => exact ⟨k + 1, by omega, by go_num, by rw [List.take_succ_eq_append_getElem hlt, List.mem_append]; exact fun h => h.elim HN.out (fun h => hx (by simpa using h))⟩
        case measure => simp [intOf]; omega
    · go_wp2
      go_ret
      refine ⟨-1, rfl, ⟨fun h => absurd h ?_, fun h => by omega⟩, rfl⟩
      have h1 := HN.out
      rwa [List.take_of_length_le (by omega)] at h1

theorem scontains_any {A : Option Addr} {c B : Nat} {xs : List UInt16} (x : UInt16) {w : World} (ha : Reads w B 1 A xs.length (u16s xs)) (hl : xs.length ≤ 70368744177664) :
    Calls Try.prog 82 #[.slice A xs.length c, .int .u16 (x.toNat : Int)] w fun e w' => e = .returned (.bool (decide (x ∈ xs))) ∧ w = w' := by
  go_enter Try.func82, Try.ntmps82
  go_wp2_with fail
  refine (sindex_any x ha hl).mono ?_
  rintro e w' ⟨k, rfl, hk, rfl⟩
  have HK := hide hk
  clear hk
  go_wp2
  go_ret
  exact ⟨ret_bool (decide_eq_decide.2 HK.out.symm), rfl⟩

end Go.Proofs.Ytbljbmeifmpfoaa

namespace Go.Proofs.Ytbljbmeifmpfoaa
open Go.RowKit

def ascii (l : List UInt8) : List UInt16 := l.map (·.toUInt16)
theorem ascii_snoc (s : ByteArray) (k : Nat) (h : k < s.size) : u16s (ascii (s.data.toList.take (k + 1))) = u16s (ascii (s.data.toList.take k)) ++ [.int .u16 (s[k].toNat : Int)] := by
  rw [List.take_succ_eq_append_getElem (by simpa using h)]
  simp [ascii, u16s, u16v]
  rfl

set_option maxHeartbeats 400000 in
theorem ascii_any (s : ByteArray) (w : World) (hs : s.size ≤ 70368744177664) :
    Calls Try.prog 10 #[.string s] w fun e w' => ∃ v, e = .returned v ∧ Made w w' 41 v (u16s (ascii s.data.toList)) := by
  obtain ⟨i0, hi0, hz0, hz1, hz2⟩ := info_parts Try.info_u16
  go_enter Try.func10, Try.ntmps10
  go_wp2
  go_loopw [3, 7] (fun v i wr => ∃ k : Nat, k ≤ s.size ∧ i = .int .i64 k ∧ Made w wr 41 v (u16s (ascii (s.data.toList.take k)))) (fun _ i _ => s.size - (intOf i).toNat)
  case atStart => exact ⟨0, Nat.zero_le _, rfl, Made.nil _ _⟩
  case round =>
    obtain ⟨k, hk, rfl, hm⟩ := hrel
    by_cases hlt : k < s.size
    · have hb := s[k].toNat_lt
      have hle : (u16s (ascii (s.data.toList.take k))).length ≤ k := by simp [u16s, ascii]; omega
      go_wp2_with (at_builtin; refine wpList_lit rfl _ _ 22 rfl 41 i0 _ 2 Try.underlying22 hi0 hz0 hz1 hz2 rfl _ _ rfl hm _ 1 1 rfl rfl rfl (by omega) (by omega) ?_; intro v' w' hm')
      go_roundw
      case rel => exact ⟨k + 1, by omega, by go_num, by rw [ascii_snoc s k hlt]; exact hm'⟩
      case measure => simp [intOf]; omega
    · go_wp2
      go_ret
      have hkk : k = s.size := by omega
      subst hkk
      exact ⟨_, rfl, hm.cells (by rw [List.take_of_length_le (by simp)])⟩
end Go.Proofs.Ytbljbmeifmpfoaa

namespace Go.Proofs.Ytbljbmeifmpfoaa
open Go.RowKit


/-- value: the number, where it is not too great. -/
def Valued (d : List UInt16) (w : World) (e : Ending) (w' : World) : Prop := ∃ n : Int, e = .returned (.tuple #[.int .i64 n, .bool (decide (decVal d ≤ 9007199254740991))]) ∧ (decVal d ≤ 9007199254740991 → n = decVal d) ∧ w = w'

set_option maxHeartbeats 400000 in
theorem value_any {A : Option Addr} {c B : Nat} {xs : List UInt16} {w : World} (ha : Reads w B 1 A xs.length (u16s xs)) (hl : xs.length ≤ 70368744177664) (hd : ∀ x ∈ xs, isDigit x = true) :
    Calls Try.prog 66 #[.slice A xs.length c] w (Valued xs w) := by
  have HD := hide hd
  clear hd
  go_enter Try.func66, Try.ntmps66
  go_wp2
  go_loop [4, 9] (fun n i => ∃ k : Nat, k ≤ xs.length ∧ i = .int .i64 k ∧ n = .int .i64 (decVal (xs.take k)) ∧ decVal (xs.take k) < 9007199254750991) (fun _ i => xs.length - (intOf i).toNat)
  case atStart => exact ⟨0, Nat.zero_le _, rfl, rfl, Nat.zero_lt_succ _⟩
  case round =>
    obtain ⟨k, hk, rfl, rfl, hn⟩ := hrel
    by_cases hlt : k < xs.length
    · obtain ⟨ad, rfl, _, hca⟩ := ha.u16 hlt
      have h3 : (k : Int) < (xs.length : Int) := by omega
      obtain ⟨hx1, hx2⟩ := isDigit_iff.1 (HD.out xs[k] (List.getElem_mem _))
      have h10 := decVal_take_lt xs k hlt
      have hsu := decVal_take_succ xs k hlt
      have HS := hide hsu
      clear hsu
      obtain ⟨m, hm⟩ : ∃ m, decVal (xs.take k) = m := ⟨_, rfl⟩
      rw [hm] at hn h10 ⊢
      have HM := hide hm
      clear hm
      by_cases hbig : 900719925474099 < m
      · go_wp2
        go_ret2
        exact ⟨0, ret_ib rfl (decide_eq_false (by omega)).symm, fun h => by omega, rfl⟩
      · go_wp2
        go_round
        case rel => exact ⟨k + 1, by omega, by go_num, by rw [HS.out, HM.out]; go_num, by rw [HS.out, HM.out]; omega⟩
        case measure => simp [intOf]; omega
    · go_wp2
      go_ret2
      have hkk : xs.take k = xs := List.take_of_length_le (by omega)
      rw [hkk]
      refine ⟨decVal xs, ret_ib rfl ?_, fun _ => rfl, rfl⟩
      exact decide_eq_decide.2 (by omega)


end Go.Proofs.Ytbljbmeifmpfoaa
