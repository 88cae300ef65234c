/- lex.Tokens, walked. -/
import Derived.Test.YtngcikgjdeomdaaLexToks
import Derived.Test.YtngcikgjdeomdaaLexPass
namespace Go.Proofs.Ytngcikgjdeomdaa
open Go.RowKit

def LexPost (q : List Tok × Nat × Nat) (w : World) (ev : Ending) (w' : World) : Prop :=
  ∃ v, ev = .returned (.tuple #[v, .int .i64 (q.2.1 : Int), .int .i64 (q.2.2 : Int)]) ∧ TokL w' w.heap.size q.1 v ∧ Below w.heap.size w w'
theorem LexPost.mk {q : List Tok × Nat × Nat} {w w' : World} {v : Value} {ts : List Tok} {a e : Nat} (hq : q = (ts, a, e)) (h : TokL w' w.heap.size ts v) (hb : Below w.heap.size w w') : LexPost q w (.returned (.tuple #[v, .int .i64 (a : Int), .int .i64 (e : Int)])) w' := by
  subst hq
  exact ⟨v, rfl, h, hb⟩
set_option maxHeartbeats 8000000 in
set_option maxRecDepth 100000 in
theorem ltokens_any {A : Option Addr} {c B n : Nat} {u : List UInt16} {w : World} (hB : B ≤ w.heap.size) (hn : u.length = n) (ha : Reads w B 1 A n (u16s u)) (hc : n ≤ c) (_hc2 : c ≤ maxLen) :
    Calls Try.prog 14 #[.slice A n c] w (LexPost (lexF u) w) := by
  subst hn
  by_cases hlong : 4096 < u.length
  · have HQ := hide (show lexF u = ([], 0, 3) by unfold lexF; rw [if_pos hlong])
    have hlong2 : (4096 : Int) < (u.length : Int) := by omega
    go_enter Try.func14, Try.ntmps14
    go_wp2_with fail
    go_ret3
    exact LexPost.mk HQ.out (TokL.nil _ _) (Below.refl _ _)
  · obtain ⟨i0, hi0, hz0, hz1, hz2⟩ := info_parts Try.info_tok
    have hl : u.length ≤ 4096 := by omega
    have HF := hide (lexF_short hlong)
    have HA := hide ha
    have HS0 := hide (show LxS w (w.alloc (.cells #[.slice A u.length c, .int .i64 0] 51)) A u.length c 0 (.slice none 0 0) [] from
      ⟨⟨by go_simp, by go_simp, by go_simp⟩, (Below.refl _ _).alloc (Nat.le_refl _) _, TokL.nil _ _⟩)
    clear ha hlong
    go_enter Try.func14, Try.ntmps14
    go_wp2_with fail
    go_loopg [6] (u.length + 1) (fun r v wr => ∃ (p : Nat) (acc : List Tok), p + r = u.length + 1 ∧ Hid (LxS w wr A u.length c p v acc) ∧ Hid (AtLex u p acc))
    case atStart => exact ⟨0, [], by omega, HS0.out, AtLex.start u⟩
    case round =>
      obtain ⟨p, acc, hpr, hS, hat⟩ := hrel
      have hpl := hat.out.2.1
      have hacl := hat.out.1
      obtain ⟨⟨m, nl, e⟩, hpq⟩ : ∃ q, passF (u.drop p) = q := ⟨_, rfl⟩
      have hple := pass_le (u.drop p)
      rw [hpq, List.length_drop] at hple
      simp only at hple
      have HPQ := hide hpq
      clear hpq
      have har := hide (HA.out.below (hS.out.below.mono hB))
      go_wp2_with fail
      refine (lpass_any hS.out.rd rfl har.out hB hpl hl HPQ.out).mono ?_
      rintro e1 w1 ⟨rfl, hM1, hG1⟩
      have HM1 := hide hM1
      have hb1 := hide (below_grown hS.out.below hG1)
      clear hM1 hG1
      by_cases he : e = 0
      · subst he
        have hS1 := hide (hS.out.mov (HM1.out rfl))
        clear hS HM1 har hb1
        have hc1 := hS1.out.rd.c1
        rw [if_pos rfl]
        obtain ⟨k, hk⟩ : ∃ k, p + m = k := ⟨_, rfl⟩
        rw [hk] at hS1 hc1
        have HK := hide hk
        have hkl : k ≤ u.length := by omega
        have hpk : p ≤ k := by omega
        obtain ⟨cs, ho, htc⟩ := hS1.out.toks
        obtain ⟨Av, cv, hv, _, _⟩ := own_shape ho
        subst hv
        have HO := hide ho
        have HTC := hide htc
        have hbase : w.heap.size + 1 ≤ w1.heap.size := hS1.out.rd.lt
        clear ho htc
        by_cases hend : k = u.length
        · have e1 : ((k : Int) == (u.length : Int)) = true := by rw [hend]; simp
          have hlast := hide (hat.out.last HPQ.out (by rw [HK.out]; exact hend))
          have HEND := hide hend
          clear hend hk
          go_wp2_with (at_builtin; refine wpList_litH rfl _ _ 25 rfl 39 i0 _ 9 112 Try.underlying25 hi0 hz0 hz1 hz2 rfl (by decide) (w.heap.size + 1) hbase (.slice Av acc.length cv) cs acc.length rfl HO.out (tokV9 (setAt noTok k nl) (.slice none 0 0) (.slice none 0 0)) 1 1 w1.heap.size rfl rfl rfl rfl (by omega) (by omega) ?_; intro v' w' ho' hgr)
          go_ret3
          have htl := TokL.snoc HO.out HTC.out (World.ownsRow_nil _ _ _ _) (World.ownsRow_nil _ _ _ _) ho' hgr
          have hS2 := hS1.out.app hgr htl
          rw [HEND.out] at hS2
          exact LexPost.mk (HF.out.trans hlast.out) (hS2.toks.base (by omega)) hS2.below
        · have e1 : ((k : Int) == (u.length : Int)) = false := beq_eq_false_iff_ne.2 (by omega)
          have hkl2 : k < u.length := by omega
          clear hend hk
          obtain ⟨⟨e2, t, tk⟩, htq⟩ : ∃ q, tokenT (k == 0) (u.drop k) = q := ⟨_, rfl⟩
          have HTQ := hide htq
          clear htq
          have har := hide (HA.out.below (hS1.out.below.mono hB))
          go_wp2_with fail
          refine (ltoken_any (m := tk) (e := e2) (t := t) hS1.out.rd rfl har.out hB hkl2 hl hc HTQ.out).mono ?_
          rintro e3 w3 ⟨v, rfl, hbad, hgood, hG3⟩
          have HBAD := hide hbad
          have HGOOD := hide hgood
          have HG3 := hide hG3
          clear hbad hgood hG3
          by_cases he2 : e2 = 0
          · subst he2
            obtain ⟨⟨vs, vm, hv, ho1, ho2⟩, hM4⟩ := HGOOD.out rfl
            subst hv
            obtain ⟨As, c1, rfl, _, _⟩ := own_shape ho1
            obtain ⟨Am, cm, rfl, _, _⟩ := own_shape ho2
            have hmore := hide (hat.out.more HPQ.out (by rw [HK.out]; exact hkl2) (by rw [HK.out]; exact HTQ.out))
            rw [HK.out] at hmore
            have hS3 := hide (hS1.out.mov hM4)
            obtain ⟨cs3, ho3, htc3⟩ := hS3.out.toks
            have HO3 := hide ho3
            have HTC3 := hide htc3
            have HO1 := hide (own_base ho1 hbase)
            have HO2 := hide (own_base ho2 hbase)
            have hbase3 : w.heap.size + 1 ≤ w3.heap.size := hS3.out.rd.lt
            clear ho1 ho2 ho3 htc3 hM4 HGOOD HBAD HO HTC
            go_wp2_with (at_builtin; refine wpList_litH rfl _ _ 25 rfl 39 i0 _ 9 112 Try.underlying25 hi0 hz0 hz1 hz2 rfl (by decide) (w.heap.size + 1) (by simp; omega) (.slice Av acc.length cv) cs3 acc.length rfl (HO3.out.alloc _) (tokV9 (setAt t k nl) (.slice As t.str.length c1) (.slice Am t.mag.length cm)) 1 1 (w3.heap.size + 1) (by simp) rfl rfl rfl (by omega) (by omega) ?_; intro v' w' ho' hgr)
            have h1k := hmore.out.2
            go_roundg (u.length + 1 - (k + tk))
            case measure => omega
            case rel =>
              refine ⟨k + tk, acc ++ [setAt t k nl], ?_, (hS3.out.new (grown_alloc w3 _ none)).app hgr (TokL.snoc (HO3.out.alloc _) (HTC3.out.map fun _ _ _ _ _ h => h.alloc _) (HO1.out.alloc _) (HO2.out.alloc _) ho' hgr), hmore.out.1⟩
              have := hmore.out.1.2.1
              omega
          · obtain rfl := HBAD.out he2
            have e2' : ((e2 : Int) != 0) = true := by rw [bne_iff_ne]; omega
            have hbq := hide (hat.out.bad HPQ.out (by rw [HK.out]; exact hkl2) (by rw [HK.out]; exact HTQ.out) he2)
            clear he2
            unfold noV
            go_wp2_with fail
            go_ret3
            rw [HK.out] at hbq
            exact LexPost.mk (HF.out.trans hbq.out) (TokL.nil _ _) ((below_grown hS1.out.below HG3.out).alloc (Nat.le_trans hS1.out.below.size HG3.out.size) _)
      · have hpp := hide (hat.out.pass HPQ.out he)
        have e1 : ((e : Int) != 0) = true := by rw [bne_iff_ne]; omega
        rw [if_neg he]
        clear he
        go_wp2_with fail
        go_ret3
        exact LexPost.mk (HF.out.trans hpp.out) (TokL.nil _ _) hb1.out
end Go.Proofs.Ytngcikgjdeomdaa
