/- The reader's sign: its walk. -/
import Derived.Test.YtngcikgjdeomdaaLexSign
import Derived.Test.YtngcikgjdeomdaaLexQuoW
import Derived.Deep.LoopGhost
import Derived.Deep.RegionHeld3
namespace Go.Proofs.Ytngcikgjdeomdaa
open Go.RowKit

theorem lsign_is {s : ByteArray} {l : List UInt8} (hs : s = ⟨l.toArray⟩) {n : Nat} (h : signF l = n) (w : World) : Calls Try.prog 23 #[.string s] w fun e w' => e = .returned (.int .i64 (n : Int)) ∧ w = w' := by
  subst hs h
  exact lsign_any ⟨l.toArray⟩ w
theorem signF_3 (l : List UInt8) : signF l = 0 ∨ signF l = 1 ∨ signF l = 2 := by
  unfold signF
  split
  · simp
  · split <;> simp
theorem sign_out {l : List UInt16} {z : Bool} {j e m : Nat} {t : Tok} (h1 : signN l 4 = signN l (j + 1)) (h2 : signAt l (j + 1) = 2) (hq : signT z l = (e, t, m)) : 6 = e ∧ noTok = t ∧ 0 = m := by
  unfold signT at hq
  rw [h1, signN_hit (by rw [h2]; decide)] at hq
  simp only at hq
  rw [if_pos h2] at hq
  exact ans_bad hq
theorem sign_in {l : List UInt16} {z : Bool} {j e m : Nat} {t : Tok} (h1 : signN l 4 = signN l (j + 1)) (h2 : signAt l (j + 1) = 1) (hq : signT z l = (e, t, m)) : 0 = e ∧ { noTok with kind := 5, text := asc (l.take (j + 1)) } = t ∧ j + 1 = m := by
  unfold signT at hq
  rw [h1, signN_hit (by rw [h2]; decide)] at hq
  simp only at hq
  rw [if_neg (by rw [h2]; decide)] at hq
  exact ans_of hq
theorem sign_none {l : List UInt16} {z : Bool} {e m : Nat} {t : Tok} (h1 : signN l 4 = none) (hq : signT z l = (e, t, m)) : (if (isAt 0 (fun x => decide (128 ≤ x.toNat) || x.toNat == 96 || x.toNat == 92) l || (z && starts [35, 33] l)) = true then 6 else 5) = e := by
  unfold signT at hq
  rw [h1] at hq
  simp only at hq
  split at hq
  · rename_i h; rw [if_pos h]; exact (ans_bad hq).1
  · rename_i h; rw [if_neg h]; exact (ans_bad hq).1
/-- the loop's memory -/
structure SgS (w wr : World) (g : Nat) (A : Option Addr) (n c k : Nat) : Prop where
  mv : Mv w wr g A n c k
  zero : Blk wr w.heap.size zero9
theorem SgS.below {w wr w' : World} {g n c k : Nat} {A : Option Addr} (h : SgS w wr g A n c k) (_hg : g < w.heap.size) (hb : Below wr.heap.size wr w') : SgS w w' g A n c k :=
  ⟨h.mv.below hb, h.zero.below hb h.zero.1⟩
theorem SgS.drewN {w wr : World} {g n c k : Nat} {A : Option Addr} (h : SgS w wr g A n c k) (hg : g < w.heap.size) (m : Nat) : SgS w (wr.drewN m) g A n c k :=
  ⟨h.mv.drewN m, h.zero.grown (grown_drewN wr (some g) m) (by omega)⟩
theorem SgS.drew {w wr : World} {g n c k : Nat} {A : Option Addr} (h : SgS w wr g A n c k) (hg : g < w.heap.size) : SgS w wr.drew g A n c k :=
  ⟨h.mv.drew, h.zero.grown (grown_drew wr (some g)) (by omega)⟩

set_option maxHeartbeats 8000000 in
set_option maxRecDepth 100000 in
theorem lsignT_any {A : Option Addr} {c g B k n : Nat} {u : List UInt16} {w : World} (hr : Rd w g A n c k) (hn : u.length = n) (ha : Reads w B 1 A n (u16s u)) (hB : B ≤ g) (hk : k < u.length) (hl : n ≤ 4096) (hc : n ≤ c) {m e : Nat} {t : Tok} (hq : signT (k == 0) (u.drop k) = (e, t, m)) :
    Calls Try.prog 49 #[.pointer (some ⟨g, 0, none⟩)] w fun ev w' => ∃ v, ev = .returned (.tuple #[v, .int .i64 (e : Int)]) ∧ (e ≠ 0 → v = noV) ∧ (e = 0 → TokV w' w.heap.size t v ∧ Mv w w' g A n c (k + m)) ∧ w.grownBy w' (some g) := by
  subst hn
  have hg := hr.lt
  have HA := hide ha
  have HQ := hide hq
  have HS0 := hide (show SgS w (w.alloc (.cells zero9.toArray 39)) g A u.length c k from ⟨⟨hr.alloc _, grown_alloc w _ _⟩, Blk.new w zero9 39⟩)
  have hc0 := hr.c0
  have hc1 := hr.c1
  clear hq ha hr
  go_enter Try.func49, Try.ntmps49
  go_upto_region 1 with (fail)
  go_cut [4] (fun v wx => v = .int .i64 ((min 4 (u.length - k) : Nat) : Int) ∧ Hid (SgS w wx g A u.length c k))
  case first =>
    go_region
    all_goals go_wp2_with fail
    all_goals go_meet
    all_goals first | exact ⟨congrArg (Value.int .i64) (by omega), HS0.out.drew hg⟩ | exact ⟨congrArg (Value.int .i64) (by omega), HS0.out⟩
  case rest =>
    obtain ⟨hv, hS⟩ := hcut
    subst hv
    clear hc0 hc1 HS0
    go_wp2
    go_loopg [4] (min 4 (u.length - k)) (fun r v wr => v = .int .i64 (r : Int) ∧ r ≤ 4 ∧ k + r ≤ u.length ∧ Hid (SgS w wr g A u.length c k) ∧ Hid (signN (u.drop k) 4 = signN (u.drop k) r))
    case atStart => exact ⟨rfl, by omega, by omega, hS, by have := signN_start (u.drop k); rw [List.length_drop] at this; exact this⟩
    case round =>
      obtain ⟨rfl, h4, hkr, hS, hsg⟩ := hrel
      have hc0 := hS.out.mv.rd.c0
      have hc1 := hS.out.mv.rd.c1
      have hf1 := hS.out.mv.rd.f1
      have har := hide (HA.out.grown hS.out.mv.grown hB (Nat.le_of_lt hg))
      by_cases hr0 : 0 < gk
      · obtain ⟨j, rfl⟩ : ∃ j, gk = j + 1 := ⟨gk - 1, by omega⟩
        obtain ⟨blk, off, hA, _, hcell⟩ := har.out.spotL (by omega)
        subst hA
        clear hcell
        have hsl := har.out.cut16 (k := k) (by omega) hc
        rw [if_neg (by omega)] at hsl
        have hsl := hsl.take16 (k := j + 1) (by rw [List.length_drop]; omega)
        obtain ⟨xs, hxs⟩ : ∃ xs, (u.drop k).take (j + 1) = xs := ⟨_, rfl⟩
        have hxl : xs.length = j + 1 := by rw [← hxs, List.length_take, List.length_drop]; omega
        rw [hxs, hxl] at hsl
        have hsl : Reads wr B 1 (some ⟨blk, off + k, none⟩) (j + 1) (u16s xs) := by
          have e : Option.map (fun x : Addr => x.add k) (some ⟨blk, off, none⟩) = some ⟨blk, off + k, none⟩ := congrArg some (Addr.add_lit _ _ _)
          rw [← e]; exact hsl
        obtain ⟨sv, hsv⟩ : ∃ sv, plainF xs = sv := ⟨_, rfl⟩
        obtain ⟨ok, hok⟩ : ∃ ok, plainOk xs = ok := ⟨_, rfl⟩
        obtain ⟨d, hd⟩ : ∃ d, isAt 2 isDigit (u.drop k) = d := ⟨_, rfl⟩
        have hat : signAt (u.drop k) (j + 1) = if (ok && !(decide (asc xs = [63, 46]) && d)) = true then signF (asc xs) else 0 := by
          rw [signAt_of (by rw [List.length_drop]; omega), hxs, hok, hd]
        have htx : ok = true → sv = ⟨(asc xs).toArray⟩ := fun h => by rw [← hsv]; exact plainF_of (by rw [hok, h])
        have HSL := hide hsl
        have HXL := hide hxl
        have HXS := hide hxs
        have HP := hide (And.intro hsv hok)
        have HD := hide hd
        have HAT := hide hat
        have HTX := hide htx
        have hB2 : B ≤ wr.heap.size := by have := hS.out.mv.grown.size; omega
        obtain ⟨h, hh⟩ : ∃ h, k + (j + 1) = h := ⟨_, rfl⟩
        have hwr : IntKind.i64.wrap ((k : Int) + ((j : Int) + 1)) = (h : Int) := by rw [IntKind.wrap_i64]; omega
        have g1 : 0 ≤ (h : Int) := by omega
        have g2 : (h : Int) ≤ (c : Int) := by omega
        have g3 : k ≤ h := by omega
        have g4 : ¬ c = k := by omega
        have g5 : h - k = j + 1 := by omega
        have HH := hide hh
        clear hh
        clear hsl hxl hxs hsv hok hd hat htx
        go_upto_region 4 with (fail)
        go_cut [5, 6] (fun v5 v6 wx => v5 = .string sv ∧ v6 = .bool ok ∧ Hid (SgS w wx g (some ⟨blk, off, none⟩) u.length c k))
        case first =>
          have hrdD := hide (hS.out.mv.rd.drew)
          have hgW : g < wr.drew.heap.size := hS.out.mv.rd.lt
          go_region_held3 (fun w' => w'.cell? ⟨g, 0, none⟩ = some (.slice (some ⟨blk, off, none⟩) u.length c) ∧ w'.cell? ⟨g, 1, none⟩ = some (.int .i64 (k : Int)))
            (first | (exact ⟨hc0, hc1⟩) | (exact ⟨(hrdD.out.below hb4 hgW).c0, (hrdD.out.below hb4 hgW).c1⟩) | go_keep)
            (first | (go_at_call 66; go_split_ands; refine (plain_str (w := wr.drew) hB2 HXL.out (by exact HSL.out) (by omega) HP.out.1 HP.out.2).mono ?_; rintro e4 w4 ⟨rfl, hb4⟩))
          all_goals go_wp2_with fail
          all_goals go_meet
          all_goals exact ⟨rfl, rfl, (hS.out.drew hg).below hg hb4⟩
        case rest =>
          obtain ⟨h5, h6, hS4⟩ := hcut
          subst h5 h6
          clear hc0 hc1 hf1 hwr hS har
          have hc0 := hS4.out.mv.rd.c0
          have hc1 := hS4.out.mv.rd.c1
          have hf1 := hS4.out.mv.rd.f1
          have har := hide (HA.out.grown hS4.out.mv.grown hB (Nat.le_of_lt hg))
          cases ok with
          | false =>
            have hz := hide (show signAt (u.drop k) (j + 1) = 0 by rw [HAT.out]; simp)
            go_wp2_with fail
            go_roundg j
            case measure => omega
            case rel => exact ⟨congrArg (Value.int .i64) (by omega), by omega, by omega, hS4.out, hsg.out.trans (signN_skip hz.out)⟩
          | true =>
            have HSV := hide (HTX.out rfl)
            obtain ⟨sf, hsf⟩ : ∃ sf, signF (asc xs) = sf := ⟨_, rfl⟩
            have hs3 : sf = 0 ∨ sf = 1 ∨ sf = 2 := by rw [← hsf]; exact signF_3 _
            have HSF := hide hsf
            clear hsf
            by_cases h0 : sf = 0
            · subst h0
              have hz := hide (show signAt (u.drop k) (j + 1) = 0 by rw [HAT.out, HSF.out]; simp)
              clear hs3
              go_wp2_with (go_at_call 23; refine (lsign_is HSV.out HSF.out _).mono ?_; rintro e3 w3 ⟨rfl, rfl⟩)
              go_roundg j
              case measure => omega
              case rel => exact ⟨congrArg (Value.int .i64) (by omega), by omega, by omega, hS4.out, hsg.out.trans (signN_skip hz.out)⟩
            · have h0b : ((sf : Int) == 0) = false := beq_eq_false_iff_ne.2 (by omega)
              by_cases hq2 : asc xs = [63, 46]
              · have h2 : sf = 2 := by rw [← HSF.out, hq2]; decide
                subst h2
                have hat2 := hide (show signAt (u.drop k) (j + 1) = if d = true then 0 else 2 by rw [HAT.out, HSF.out, hq2]; cases d <;> rfl)
                obtain rfl : sv = ⟨#[63, 46]⟩ := by rw [HSV.out, hq2]
                have HQ2 := hide hq2
                clear hq2 h0b h0 hs3
                have HSX := hide (show signF [63, 46] = 2 by decide)
                cases d with
                | true =>
                  have hz := hide (show signAt (u.drop k) (j + 1) = 0 by rw [hat2.out]; rfl)
                  go_wp2_with (go_at_call 23; refine (lsign_is (l := [63, 46]) rfl HSX.out _).mono ?_; rintro e3 w3 ⟨rfl, rfl⟩)
                  refine (lis_digit (j := 2) hS4.out.mv.rd rfl har.out (by omega) hl (by omega) HD.out).mono ?_
                  rintro e4 w4 ⟨rfl, m4, hw4⟩
                  subst hw4
                  go_wp2_with fail
                  go_roundg j
                  case measure => omega
                  case rel => exact ⟨congrArg (Value.int .i64) (by omega), by omega, by omega, hS4.out.drewN hg m4, hsg.out.trans (signN_skip hz.out)⟩
                | false =>
                  have hz := hide (show signAt (u.drop k) (j + 1) = 2 by rw [hat2.out]; rfl)
                  go_wp2_with (go_at_call 23; refine (lsign_is (l := [63, 46]) rfl HSX.out _).mono ?_; rintro e3 w3 ⟨rfl, rfl⟩)
                  refine (lis_digit (j := 2) hS4.out.mv.rd rfl har.out (by omega) hl (by omega) HD.out).mono ?_
                  rintro e4 w4 ⟨rfl, m4, hw4⟩
                  subst hw4
                  have hzr := hide (hS4.out.drewN hg m4).zero
                  obtain ⟨b0, fb0⟩ := hzr.out.2 0 (by decide)
                  obtain ⟨b1, fb1⟩ := hzr.out.2 1 (by decide)
                  obtain ⟨b2, fb2⟩ := hzr.out.2 2 (by decide)
                  obtain ⟨b3, fb3⟩ := hzr.out.2 3 (by decide)
                  obtain ⟨b4, fb4⟩ := hzr.out.2 4 (by decide)
                  obtain ⟨b5, fb5⟩ := hzr.out.2 5 (by decide)
                  obtain ⟨b6, fb6⟩ := hzr.out.2 6 (by decide)
                  obtain ⟨b7, fb7⟩ := hzr.out.2 7 (by decide)
                  obtain ⟨b8, fb8⟩ := hzr.out.2 8 (by decide)
                  go_wp2_with (go_at_call 23; refine (lsign_is (l := [63, 46]) rfl HSX.out _).mono ?_; rintro e3 w3 ⟨rfl, rfl⟩)
                  obtain ⟨q0, q1, q2, q3, q4, q5, q6, q7, q8⟩ := set9_cells (v0 := .int .i64 0) (v1 := .string ⟨#[]⟩) (v2 := .slice none 0 0) (v3 := .int .i64 0) (v4 := .int .i64 0) (v5 := .bool false) (v6 := .slice none 0 0) (v7 := .int .i64 0) (v8 := .bool false) hzr.out rfl
                  refine bodyPost_ret (v := .tuple #[.agg #[.int .i64 0, .string ⟨#[]⟩, .slice none 0 0, .int .i64 0, .int .i64 0, .bool false, .slice none 0 0, .int .i64 0, .bool false], .int .i64 6]) (by simp [results, Try.results49, go_sem, q0, q1, q2, q3, q4, q5, q6, q7, q8]) rfl ?_
                  obtain ⟨z1, z2, z3⟩ := sign_out hsg.out hz.out HQ.out
                  subst z1
                  exact ⟨_, rfl, fun _ => rfl, fun h => absurd h (by decide), (set9_mv (hS4.out.drewN hg m4).mv (Nat.le_refl _) hg).grown⟩
              · have hat2 := hide (show signAt (u.drop k) (j + 1) = sf by rw [HAT.out, HSF.out, decide_eq_false hq2]; rfl)
                have hne : (sv.toList == [63, 46]) = false := by rw [txt_eq, HSV.out]; exact decide_eq_false hq2
                clear hq2
                have hzr := hide hS4.out.zero
                obtain ⟨b0, fb0⟩ := hzr.out.2 0 (by decide)
                obtain ⟨b1, fb1⟩ := hzr.out.2 1 (by decide)
                obtain ⟨b2, fb2⟩ := hzr.out.2 2 (by decide)
                obtain ⟨b3, fb3⟩ := hzr.out.2 3 (by decide)
                obtain ⟨b4, fb4⟩ := hzr.out.2 4 (by decide)
                obtain ⟨b5, fb5⟩ := hzr.out.2 5 (by decide)
                obtain ⟨b6, fb6⟩ := hzr.out.2 6 (by decide)
                obtain ⟨b7, fb7⟩ := hzr.out.2 7 (by decide)
                obtain ⟨b8, fb8⟩ := hzr.out.2 8 (by decide)
                by_cases h2 : sf = 2
                · subst h2
                  clear hs3 h0
                  go_wp2_with (go_at_call 23; refine (lsign_is HSV.out HSF.out _).mono ?_; rintro e3 w3 ⟨rfl, rfl⟩)
                  obtain ⟨q0, q1, q2, q3, q4, q5, q6, q7, q8⟩ := set9_cells (v0 := .int .i64 0) (v1 := .string ⟨#[]⟩) (v2 := .slice none 0 0) (v3 := .int .i64 0) (v4 := .int .i64 0) (v5 := .bool false) (v6 := .slice none 0 0) (v7 := .int .i64 0) (v8 := .bool false) hzr.out rfl
                  refine bodyPost_ret (v := .tuple #[.agg #[.int .i64 0, .string ⟨#[]⟩, .slice none 0 0, .int .i64 0, .int .i64 0, .bool false, .slice none 0 0, .int .i64 0, .bool false], .int .i64 6]) (by simp [results, Try.results49, go_sem, q0, q1, q2, q3, q4, q5, q6, q7, q8]) rfl ?_
                  obtain ⟨z1, z2, z3⟩ := sign_out hsg.out hat2.out HQ.out
                  subst z1
                  exact ⟨_, rfl, fun _ => rfl, fun h => absurd h (by decide), (set9_mv hS4.out.mv (Nat.le_refl _) hg).grown⟩
                · obtain rfl : sf = 1 := by omega
                  clear hs3 h0 h2
                  have hM5 := hide (Mv.step hS4.out.mv (k' := k + (j + 1)) (z := (k : Int) + ((j : Int) + 1)) (by omega))
                  go_wp2_with (go_at_call 23; refine (lsign_is HSV.out HSF.out _).mono ?_; rintro e3 w3 ⟨rfl, rfl⟩)
                  have hzr2 := hide (hzr.out.setOther (S := g) (i := 1) (by omega) (.int .i64 ((k : Int) + ((j : Int) + 1))))
                  obtain ⟨q0, q1, q2, q3, q4, q5, q6, q7, q8⟩ := set9_cells (v0 := .int .i64 5) (v1 := .string sv) (v2 := .slice none 0 0) (v3 := .int .i64 0) (v4 := .int .i64 0) (v5 := .bool false) (v6 := .slice none 0 0) (v7 := .int .i64 0) (v8 := .bool false) hzr2.out rfl
                  refine bodyPost_ret (v := .tuple #[.agg #[.int .i64 5, .string sv, .slice none 0 0, .int .i64 0, .int .i64 0, .bool false, .slice none 0 0, .int .i64 0, .bool false], .int .i64 0]) (by simp [results, Try.results49, go_sem, q0, q1, q2, q3, q4, q5, q6, q7, q8]) rfl ?_
                  obtain ⟨z1, z2, z3⟩ := sign_in hsg.out hat2.out HQ.out
                  subst z1 z2 z3
                  exact ⟨_, rfl, fun h => absurd rfl h, fun _ => ⟨⟨_, _, by rw [HSV.out, HXS.out]; rfl, World.ownsRow_nil _ _ _ _, World.ownsRow_nil _ _ _ _⟩, set9_mv hM5.out (Nat.le_refl _) hg⟩, (set9_mv hM5.out (Nat.le_refl _) hg).grown⟩
      · have hnn := hide (show signN (u.drop k) 4 = none by rw [hsg.out, show gk = 0 by omega]; rfl)
        obtain ⟨blk, off, rfl, _, hcell⟩ := har.out.spotL (by omega)
        have hca := hcell k hk
        have HX := hide (fun p => isAt0 (q := p) hk)
        obtain ⟨x, hx⟩ : ∃ x, u[k] = x := ⟨_, rfl⟩
        rw [hx] at hca HX
        have HE := hide (sign_none hnn.out HQ.out)
        rw [HX.out] at HE
        clear hcell hx
        have hx16 := x.toNat_lt
        by_cases h128 : 128 ≤ x.toNat
        · have e0 : ((x.toNat : Int) ≥ 128) := by omega
          have hz := hide (show 6 = e by rw [← HE.out]; simp [h128])
          go_wp2_with fail
          go_quiet (fail)
          have hzr := hide (hS.out.drewN hg nq).zero
          obtain ⟨b0, fb0⟩ := hzr.out.2 0 (by decide)
          obtain ⟨b1, fb1⟩ := hzr.out.2 1 (by decide)
          obtain ⟨b2, fb2⟩ := hzr.out.2 2 (by decide)
          obtain ⟨b3, fb3⟩ := hzr.out.2 3 (by decide)
          obtain ⟨b4, fb4⟩ := hzr.out.2 4 (by decide)
          obtain ⟨b5, fb5⟩ := hzr.out.2 5 (by decide)
          obtain ⟨b6, fb6⟩ := hzr.out.2 6 (by decide)
          obtain ⟨b7, fb7⟩ := hzr.out.2 7 (by decide)
          obtain ⟨b8, fb8⟩ := hzr.out.2 8 (by decide)
          go_wp2
          obtain ⟨q0, q1, q2, q3, q4, q5, q6, q7, q8⟩ := set9_cells (v0 := .int .i64 0) (v1 := .string ⟨#[]⟩) (v2 := .slice none 0 0) (v3 := .int .i64 0) (v4 := .int .i64 0) (v5 := .bool false) (v6 := .slice none 0 0) (v7 := .int .i64 0) (v8 := .bool false) hzr.out rfl
          refine bodyPost_ret (v := .tuple #[.agg #[.int .i64 0, .string ⟨#[]⟩, .slice none 0 0, .int .i64 0, .int .i64 0, .bool false, .slice none 0 0, .int .i64 0, .bool false], .int .i64 6]) (by simp [results, Try.results49, go_sem, q0, q1, q2, q3, q4, q5, q6, q7, q8]) rfl ?_
          obtain rfl := hz.out
          exact ⟨_, rfl, fun _ => rfl, fun h => absurd h (by decide), (set9_mv (hS.out.drewN hg nq).mv (Nat.le_refl _) hg).grown⟩
        · by_cases h96 : x.toNat = 96
          · have e1 : ((x.toNat : Int) == 96) = true := by rw [h96]; rfl
            have H96 := hide h96
            clear h96
            have hz := hide (show 6 = e by rw [← HE.out]; simp [H96.out])
            go_wp2_with fail
            go_quiet (fail)
            have hzr := hide (hS.out.drewN hg nq).zero
            obtain ⟨b0, fb0⟩ := hzr.out.2 0 (by decide)
            obtain ⟨b1, fb1⟩ := hzr.out.2 1 (by decide)
            obtain ⟨b2, fb2⟩ := hzr.out.2 2 (by decide)
            obtain ⟨b3, fb3⟩ := hzr.out.2 3 (by decide)
            obtain ⟨b4, fb4⟩ := hzr.out.2 4 (by decide)
            obtain ⟨b5, fb5⟩ := hzr.out.2 5 (by decide)
            obtain ⟨b6, fb6⟩ := hzr.out.2 6 (by decide)
            obtain ⟨b7, fb7⟩ := hzr.out.2 7 (by decide)
            obtain ⟨b8, fb8⟩ := hzr.out.2 8 (by decide)
            go_wp2
            obtain ⟨q0, q1, q2, q3, q4, q5, q6, q7, q8⟩ := set9_cells (v0 := .int .i64 0) (v1 := .string ⟨#[]⟩) (v2 := .slice none 0 0) (v3 := .int .i64 0) (v4 := .int .i64 0) (v5 := .bool false) (v6 := .slice none 0 0) (v7 := .int .i64 0) (v8 := .bool false) hzr.out rfl
            refine bodyPost_ret (v := .tuple #[.agg #[.int .i64 0, .string ⟨#[]⟩, .slice none 0 0, .int .i64 0, .int .i64 0, .bool false, .slice none 0 0, .int .i64 0, .bool false], .int .i64 6]) (by simp [results, Try.results49, go_sem, q0, q1, q2, q3, q4, q5, q6, q7, q8]) rfl ?_
            obtain rfl := hz.out
            exact ⟨_, rfl, fun _ => rfl, fun h => absurd h (by decide), (set9_mv (hS.out.drewN hg nq).mv (Nat.le_refl _) hg).grown⟩
          · have e1 : ((x.toNat : Int) == 96) = false := beq_eq_false_iff_ne.2 (by omega)
            by_cases h92 : x.toNat = 92
            · have e2 : ((x.toNat : Int) == 92) = true := by rw [h92]; rfl
              have H92 := hide h92
              clear h92 h96
              have hz := hide (show 6 = e by rw [← HE.out]; simp [H92.out])
              go_wp2_with fail
              go_quiet (fail)
              have hzr := hide (hS.out.drewN hg nq).zero
              obtain ⟨b0, fb0⟩ := hzr.out.2 0 (by decide)
              obtain ⟨b1, fb1⟩ := hzr.out.2 1 (by decide)
              obtain ⟨b2, fb2⟩ := hzr.out.2 2 (by decide)
              obtain ⟨b3, fb3⟩ := hzr.out.2 3 (by decide)
              obtain ⟨b4, fb4⟩ := hzr.out.2 4 (by decide)
              obtain ⟨b5, fb5⟩ := hzr.out.2 5 (by decide)
              obtain ⟨b6, fb6⟩ := hzr.out.2 6 (by decide)
              obtain ⟨b7, fb7⟩ := hzr.out.2 7 (by decide)
              obtain ⟨b8, fb8⟩ := hzr.out.2 8 (by decide)
              go_wp2
              obtain ⟨q0, q1, q2, q3, q4, q5, q6, q7, q8⟩ := set9_cells (v0 := .int .i64 0) (v1 := .string ⟨#[]⟩) (v2 := .slice none 0 0) (v3 := .int .i64 0) (v4 := .int .i64 0) (v5 := .bool false) (v6 := .slice none 0 0) (v7 := .int .i64 0) (v8 := .bool false) hzr.out rfl
              refine bodyPost_ret (v := .tuple #[.agg #[.int .i64 0, .string ⟨#[]⟩, .slice none 0 0, .int .i64 0, .int .i64 0, .bool false, .slice none 0 0, .int .i64 0, .bool false], .int .i64 6]) (by simp [results, Try.results49, go_sem, q0, q1, q2, q3, q4, q5, q6, q7, q8]) rfl ?_
              obtain rfl := hz.out
              exact ⟨_, rfl, fun _ => rfl, fun h => absurd h (by decide), (set9_mv (hS.out.drewN hg nq).mv (Nat.le_refl _) hg).grown⟩
            · have e2 : ((x.toNat : Int) == 92) = false := beq_eq_false_iff_ne.2 (by omega)
              have HNO := hide (And.intro h128 (And.intro h96 h92))
              clear h96 h92
              by_cases hk0 : k = 0
              · have e3 : ((k : Int) == 0) = true := by rw [hk0]; rfl
                have HK := hide (show (k == 0) = true by rw [hk0]; rfl)
                clear hk0
                obtain ⟨b, hb⟩ : ∃ b, starts [35, 33] (u.drop k) = b := ⟨_, rfl⟩
                have HB := hide hb
                clear hb
                cases b with
                | true =>
                  have hz := hide (show 6 = e by rw [← HE.out]; rw [HB.out, HK.out]; simp)
                  go_wp2_with fail
                  go_quiet (fail)
                  go_wp2_with fail
                  refine (lhas_any ⟨#[35, 33]⟩ (hS.out.drewN hg nq).mv.rd rfl (har.out.drewN _) (Nat.le_of_lt hk) hl (by decide) HB.out).mono ?_
                  rintro e4 w4 ⟨rfl, m4, hw4⟩
                  have hS6 := hide (show SgS w w4 g (some ⟨blk, off, none⟩) u.length c k by rw [hw4]; exact (hS.out.drewN hg nq).drewN hg m4)
                  clear hw4 m4
                  have hzr := hide hS6.out.zero
                  obtain ⟨b0, fb0⟩ := hzr.out.2 0 (by decide)
                  obtain ⟨b1, fb1⟩ := hzr.out.2 1 (by decide)
                  obtain ⟨b2, fb2⟩ := hzr.out.2 2 (by decide)
                  obtain ⟨b3, fb3⟩ := hzr.out.2 3 (by decide)
                  obtain ⟨b4, fb4⟩ := hzr.out.2 4 (by decide)
                  obtain ⟨b5, fb5⟩ := hzr.out.2 5 (by decide)
                  obtain ⟨b6, fb6⟩ := hzr.out.2 6 (by decide)
                  obtain ⟨b7, fb7⟩ := hzr.out.2 7 (by decide)
                  obtain ⟨b8, fb8⟩ := hzr.out.2 8 (by decide)
                  go_wp2
                  obtain ⟨q0, q1, q2, q3, q4, q5, q6, q7, q8⟩ := set9_cells (v0 := .int .i64 0) (v1 := .string ⟨#[]⟩) (v2 := .slice none 0 0) (v3 := .int .i64 0) (v4 := .int .i64 0) (v5 := .bool false) (v6 := .slice none 0 0) (v7 := .int .i64 0) (v8 := .bool false) hzr.out rfl
                  refine bodyPost_ret (v := .tuple #[.agg #[.int .i64 0, .string ⟨#[]⟩, .slice none 0 0, .int .i64 0, .int .i64 0, .bool false, .slice none 0 0, .int .i64 0, .bool false], .int .i64 6]) (by simp [results, Try.results49, go_sem, q0, q1, q2, q3, q4, q5, q6, q7, q8]) rfl ?_
                  obtain rfl := hz.out
                  exact ⟨_, rfl, fun _ => rfl, fun h => absurd h (by decide), (set9_mv hS6.out.mv (Nat.le_refl _) hg).grown⟩
                | false =>
                  have hz := hide (show 5 = e by rw [← HE.out]; have := HNO.out; rw [HB.out, HK.out]; simp [this])
                  go_wp2_with fail
                  go_quiet (fail)
                  go_wp2_with fail
                  refine (lhas_any ⟨#[35, 33]⟩ (hS.out.drewN hg nq).mv.rd rfl (har.out.drewN _) (Nat.le_of_lt hk) hl (by decide) HB.out).mono ?_
                  rintro e4 w4 ⟨rfl, m4, hw4⟩
                  have hS6 := hide (show SgS w w4 g (some ⟨blk, off, none⟩) u.length c k by rw [hw4]; exact (hS.out.drewN hg nq).drewN hg m4)
                  clear hw4 m4
                  have hzr := hide hS6.out.zero
                  obtain ⟨b0, fb0⟩ := hzr.out.2 0 (by decide)
                  obtain ⟨b1, fb1⟩ := hzr.out.2 1 (by decide)
                  obtain ⟨b2, fb2⟩ := hzr.out.2 2 (by decide)
                  obtain ⟨b3, fb3⟩ := hzr.out.2 3 (by decide)
                  obtain ⟨b4, fb4⟩ := hzr.out.2 4 (by decide)
                  obtain ⟨b5, fb5⟩ := hzr.out.2 5 (by decide)
                  obtain ⟨b6, fb6⟩ := hzr.out.2 6 (by decide)
                  obtain ⟨b7, fb7⟩ := hzr.out.2 7 (by decide)
                  obtain ⟨b8, fb8⟩ := hzr.out.2 8 (by decide)
                  go_wp2
                  obtain ⟨q0, q1, q2, q3, q4, q5, q6, q7, q8⟩ := set9_cells (v0 := .int .i64 0) (v1 := .string ⟨#[]⟩) (v2 := .slice none 0 0) (v3 := .int .i64 0) (v4 := .int .i64 0) (v5 := .bool false) (v6 := .slice none 0 0) (v7 := .int .i64 0) (v8 := .bool false) hzr.out rfl
                  refine bodyPost_ret (v := .tuple #[.agg #[.int .i64 0, .string ⟨#[]⟩, .slice none 0 0, .int .i64 0, .int .i64 0, .bool false, .slice none 0 0, .int .i64 0, .bool false], .int .i64 5]) (by simp [results, Try.results49, go_sem, q0, q1, q2, q3, q4, q5, q6, q7, q8]) rfl ?_
                  obtain rfl := hz.out
                  exact ⟨_, rfl, fun _ => rfl, fun h => absurd h (by decide), (set9_mv hS6.out.mv (Nat.le_refl _) hg).grown⟩
              · have e3 : ((k : Int) == 0) = false := beq_eq_false_iff_ne.2 (by omega)
                have HK := hide (show (k == 0) = false from beq_eq_false_iff_ne.2 hk0)
                clear hk0
                have hz := hide (show 5 = e by rw [← HE.out]; have := HNO.out; simp [HK.out, this])
                go_wp2_with fail
                go_quiet (fail)
                have hzr := hide (hS.out.drewN hg nq).zero
                obtain ⟨b0, fb0⟩ := hzr.out.2 0 (by decide)
                obtain ⟨b1, fb1⟩ := hzr.out.2 1 (by decide)
                obtain ⟨b2, fb2⟩ := hzr.out.2 2 (by decide)
                obtain ⟨b3, fb3⟩ := hzr.out.2 3 (by decide)
                obtain ⟨b4, fb4⟩ := hzr.out.2 4 (by decide)
                obtain ⟨b5, fb5⟩ := hzr.out.2 5 (by decide)
                obtain ⟨b6, fb6⟩ := hzr.out.2 6 (by decide)
                obtain ⟨b7, fb7⟩ := hzr.out.2 7 (by decide)
                obtain ⟨b8, fb8⟩ := hzr.out.2 8 (by decide)
                go_wp2
                obtain ⟨q0, q1, q2, q3, q4, q5, q6, q7, q8⟩ := set9_cells (v0 := .int .i64 0) (v1 := .string ⟨#[]⟩) (v2 := .slice none 0 0) (v3 := .int .i64 0) (v4 := .int .i64 0) (v5 := .bool false) (v6 := .slice none 0 0) (v7 := .int .i64 0) (v8 := .bool false) hzr.out rfl
                refine bodyPost_ret (v := .tuple #[.agg #[.int .i64 0, .string ⟨#[]⟩, .slice none 0 0, .int .i64 0, .int .i64 0, .bool false, .slice none 0 0, .int .i64 0, .bool false], .int .i64 5]) (by simp [results, Try.results49, go_sem, q0, q1, q2, q3, q4, q5, q6, q7, q8]) rfl ?_
                obtain rfl := hz.out
                exact ⟨_, rfl, fun _ => rfl, fun h => absurd h (by decide), (set9_mv (hS.out.drewN hg nq).mv (Nat.le_refl _) hg).grown⟩
end Go.Proofs.Ytngcikgjdeomdaa
