/- The law renlaw5.LexTokens: for every input that can be read the call returns true, and each argument reads behind it as before. Condition: none beside the row's own. -/
import Derived.Test.YtbljbmeifmpfoaaK19
import Derived.Test.YtbljbmeifmpfoaaK20
namespace Go.Proofs.Ytbljbmeifmpfoaa
open Go.RowKit

theorem small_any (u : List UInt16) : (lexF u).1.length ≤ 8192 ∧ ∀ t ∈ (lexF u).1, t.str.length ≤ 70368744177664 ∧ t.mag.length ≤ 70368744177664 := by
  by_cases h : 4096 < u.length
  · have : lexF u = ([], 0, 3) := by unfold lexF; rw [if_pos h]
    rw [this]
    exact ⟨Nat.zero_le _, fun t ht => by cases ht⟩
  · refine ⟨?_, fun t ht => ?_⟩
    · have := lexF_many (u := u) (by omega)
      omega
    · have := lex_small (u := u) (by omega) t ht
      exact ⟨this.1, this.2.1⟩
theorem rtok_is {A : Option Addr} {c B n N a e : Nat} {u : List UInt16} {ts : List Tok} {w : World} (hB : B ≤ w.heap.size) (hn : u.length = n) (ha : Reads w B 1 A n (u16s u)) (hc : n ≤ c) (hq : lexF u = (ts, a, e)) (hN : ts.length = N) :
    Calls Try.prog 7 #[.slice A n c] w fun ev w' => ∃ A' c', ev = .returned (.tuple #[.slice A' N c', .int .i64 (a : Int), .int .i64 (e : Int)]) ∧ TokL w' w.heap.size ts (.slice A' N c') ∧ Below w.heap.size w w' := by
  subst hN
  refine (rtokens5_any hB hn ha hc).mono ?_
  rintro ev w' ⟨v, rfl, ht, hb⟩
  rw [hq] at ht ⊢
  obtain ⟨A', c', rfl, h1, h2⟩ := ht.shape
  exact ⟨A', c', rfl, ht, hb⟩
theorem TokL.rdAll {w : World} {base n c : Nat} {A : Option Addr} {ts : List Tok} (h : TokL w base ts (.slice A n c)) (hs : ∀ t ∈ ts, t.str.length ≤ 70368744177664 ∧ t.mag.length ≤ 70368744177664) : TokRd w w.heap.size A ts :=
  TokL.rd (rest := []) (by rw [List.append_nil]; exact h) hs
set_option maxHeartbeats 8000000 in
set_option maxRecDepth 100000 in
theorem lexTokens_law (A : Option Addr) (c : Nat) (u : List UInt16) (hc : u.length ≤ c) (_hm : c ≤ maxLen) (w : World) (hr : Reads w w.heap.size 1 A u.length (u16s u)) :
    Calls Try.prog 3 #[.slice A u.length c] w fun e w' => e = .returned (.bool true) ∧ Below w.heap.size w w' := by
  by_cases hlong : 5000 < u.length
  · have h2 : (5000 : Int) < (u.length : Int) := by omega
    go_enter Try.func3, Try.ntmps3
    go_wp2_with fail
    refine (lfirst_any w).mono ?_
    rintro e w1 ⟨rfl, hb1⟩
    go_wp2_with fail
    refine (lfirst_any w1).mono ?_
    rintro e w2 ⟨rfl, hb2⟩
    go_wp2_with fail
    go_ret
    exact ⟨rfl, bstep hb1 hb2⟩
  · have hl : u.length ≤ 5000 := by omega
    have hl2 : ¬ (5000 : Int) < (u.length : Int) := by omega
    obtain ⟨⟨ts, a, e⟩, hq⟩ : ∃ q, lexF u = q := ⟨_, rfl⟩
    obtain ⟨hm, hsm⟩ := small_any u
    rw [hq] at hm hsm
    simp only at hm hsm
    obtain ⟨M, hM⟩ : ∃ M, ts.length = M := ⟨_, rfl⟩
    rw [hM] at hm
    have HQ := hide hq
    have HM := hide hM
    have HSM := hide hsm
    have HR := hide hr
    have CC := hide (fun (w0 : World) (hb : Below w.heap.size w w0) => copyUnits_any (c := c) (w := w0) hb.size (HR.out.below hb) (by omega))
    have HC := hide (fun (w0 : World) (hb : Below w.heap.size w w0) => rtok_is (c := c) (w := w0) hb.size rfl (HR.out.below hb) hc HQ.out HM.out)
    obtain ⟨N, hN⟩ : ∃ N, u.length = N := ⟨_, rfl⟩
    have HN := hide hN
    have HRN := hide (show Reads w w.heap.size 1 A N (u16s u) by rw [← hN]; exact HR.out)
    rw [hN] at CC HC hl2 hl hc ⊢
    have haa : ((a : Int) == (a : Int)) = true := by simp
    have hee : ((e : Int) == (e : Int)) = true := by simp
    clear hlong hq hM hsm hr hN
    go_enter Try.func3, Try.ntmps3
    go_wp2_with fail
    refine (lfirst_any w).mono ?_
    rintro e0 w1 ⟨rfl, hb1⟩
    have HB1 := hide hb1
    clear hb1
    go_wp2_with fail
    refine (CC.out w1 HB1.out).mono ?_
    rintro e1 w2 ⟨v, rfl, hm2⟩
    obtain ⟨A2, c2, rfl, hc2, hc2m, hr2⟩ := hm2.u16
    have HB2 := hide (HB1.out.trans (hm2.below.mono HB1.out.size))
    rw [HN.out] at hc2 hr2 ⊢
    have HR2 := hide hr2
    clear hm2 hr2
    go_wp2_with fail
    refine (ltok_is (Nat.le_refl _) HN.out HR2.out hc2 hc2m HQ.out HM.out).mono ?_
    rintro e3 w3 ⟨A3, c3, rfl, ht3, _, _, hb3⟩
    have HB3 := hide (HB2.out.trans (hb3.mono HB2.out.size))
    have HT3 := hide ht3
    have HR3 := hide (HR2.out.below hb3)
    have hs23 : w2.heap.size ≤ w3.heap.size := hb3.size
    clear ht3 hb3
    go_wp2_with fail
    refine (HC.out w3 HB3.out).mono ?_
    rintro e4 w4 ⟨A4, c4, rfl, ht4, hb4⟩
    have HB4 := hide (HB3.out.trans (hb4.mono HB3.out.size))
    have HT3' := hide (HT3.out.below hb4)
    have HT4 := hide ht4
    have HR4 := hide (HR3.out.below (hb4.mono hs23))
    have hs34 : w3.heap.size ≤ w4.heap.size := hb4.size
    clear ht4 hb4 HT3 HR3
    go_wp2_with fail
    refine (lfirst_any w4).mono ?_
    rintro e5 w5 ⟨rfl, hb5⟩
    have HB5 := hide (HB4.out.trans (hb5.mono HB4.out.size))
    have hs45 : w4.heap.size ≤ w5.heap.size := hb5.size
    have HD3 := hide ((HT3'.out.rdAll HSM.out).below hb5)
    have HD4 := hide ((HT4.out.rdAll HSM.out).below hb5)
    have HR5 := hide (HR4.out.below (hb5.mono (by omega)))
    clear hb5 HT3' HT4 HR4
    have CS := hide (rtokens_same (c1 := c3) (c2 := c4) hs45 HM.out HD3.out HD4.out hm)
    have CU := hide (fun (w0 : World) (hb : Below w5.heap.size w5 w0) => lunits_eq (c := c2) (d := c) (w := w0) (B := w5.heap.size) hb.size HN.out HN.out ((HR5.out.more (by omega)).below hb) (((HRN.out.below HB5.out).more HB5.out.size).below hb) (by omega) (by omega) (decide_eq_true rfl))
    go_wp2_with fail
    refine CS.out.mono ?_
    rintro e6 w6 ⟨rfl, hb6⟩
    have HB6 := hide hb6
    clear hb6
    go_wp2_with fail
    refine (CU.out w6 HB6.out).mono ?_
    rintro e7 w7 ⟨rfl, hb7⟩
    have HB7 := hide (HB5.out.trans ((HB6.out.trans (hb7.mono HB6.out.size)).mono HB5.out.size))
    clear hb7
    go_wp2_with fail
    go_ret
    exact ⟨rfl, HB7.out⟩
end Go.Proofs.Ytbljbmeifmpfoaa

namespace Go.Proofs.Ytbljbmeifmpfoaa.lawLexTokens
open Go.ChangeShapes Go.WideShapes Go.ChangeAt Go.RowKit

set_option maxRecDepth 1000000 in
theorem contract (H : Type) (enc : TypeId × Value → H) (W : World) (base : Nat) (args : Array Value) (ds gs : List (DataW H)) (before : List MemPlace)
    (hval : ∀ (j : Nat) t v, Try.f3.params[j]? = some t → args[j]? = some v → Value.okWide Try.prog W .any base t v)
    (hW : DataW.Whole enc Try.prog Try.f3.params.toList Rows.lexTokensSpec.vars false W args.toList ds gs before) (_hL : laidMetH Try.prog Rows.lexTokensRow.laid W) :
    Calls Try.prog 3 args W fun e W' => ∃ v, e = .returned v ∧ Rows.lexTokensSpec.post enc Try.prog Try.f3 false true false false W args v W' := by
  have hW' := hW
  obtain ⟨p, q, hA0, hV, rfl, hfz, hnd⟩ := hW
  have hA : DataW.TrodAll enc Try.prog W 0 (fun _ => true) true Try.f3.params.toList args.toList ds p := hA0
  rw [Try.params3] at hA hval
  have hA1 := hA
  obtain ⟨v0, vs0, d0, ds0, p0, q0, hargs, rfl, rfl, h0, r0⟩ := trodAll_cons hA
  obtain ⟨rfl, rfl, rfl⟩ := trodAll_nil r0
  obtain rfl : args = #[v0] := by cases args; simp_all
  obtain ⟨rfl, rfl⟩ := trodVars_none hV
  obtain ⟨A0, c0, x0, rfl, hc0, hm0, hr0⟩ := param_u16 (hval 0 22 v0 rfl rfl) h0
  clear hA0
  have hlt := hW'.lt
  refine (lexTokens_law A0 c0 x0 hc0 hm0 W hr0).mono fun e W' ⟨he, hb⟩ => ?_
  subst he
  exact ⟨_, rfl, post_of_below (pv := []) hW' (fun _ _ _ => trodAll_cons_mk (shut_bool Try.underlying4 _) trodAll_mk0)
    (fun sp hsp => by
      rw [Try.params3]
      exact trodAll_stays (fun t ht => by
        have : t ∈ [22] := ht
        simp only [List.mem_cons, List.mem_nil_iff, or_false] at this
        rcases this with rfl <;> exact ⟨by kernel_rfl, of_decide_eq_true (by kernel_rfl)⟩) hA1 hb (fun x hx => hlt x (by simpa using hx)) (fun x hx => hsp x (by simpa using hx)))
    (fun _ _ => rfl) rfl hb (ok_one (by kernel_rfl) rfl (okWide_bool_mk Try.underlying4 _))⟩

theorem laid_met (os : Os) : laidMet Try.prog Rows.lexTokensRow.laid ((laidWorld os).forCall (fun _ _ => 0) ⟨#[], #[.slice none 0 0], []⟩).memory :=
  laidMet_of_run' 8 (by kernel_rfl) (by kernel_rfl)
theorem reads (os : Os) {H : Type} (enc : TypeId × Value → H) : ∃ places, DataW.whole enc Try.prog ((laidWorld os).forCall (fun _ _ => 0) ⟨#[], #[.slice none 0 0], []⟩).memory Try.f3.params.toList Rows.lexTokensSpec.vars false (#[.slice none 0 0] : Array Value).toList 8 = some ([.nil], [], places) :=
  ⟨[], by kernel_rfl⟩

set_option maxRecDepth 100000 in
theorem lifted (os : Os) (started : os.Started) (H : Type) (enc : TypeId × Value → H) (F : Stop.Interp) :
    ReturnsInHanded {} Try.checked os 3 .any ((OpenSpec.ofChange Rows.lexTokensSpec).preRow enc Try.prog Try.f3 Rows.lexTokensRow.domain false Rows.lexTokensRow.laid) (((OpenSpec.ofChange Rows.lexTokensSpec).at F).post enc Try.prog Try.f3 false true false false) := by
  obtain ⟨places, hx⟩ := reads os enc
  refine returnsInHanded_of_row (C := Try.checked) (s := OpenSpec.ofChange Rows.lexTokensSpec) own started (by kernel_rfl) Try.func3
    (witness_row_at (enc := enc) (C := Try.checked) false (laidWorld os) #[.slice none 0 0] rfl (by kernel_rfl) (by kernel_rfl) (by kernel_rfl)
      (OpenSpec.preRow_of_cond 8 hx (by kernel_rfl) (fun k hk => by cases hk) (by kernel_rfl) (laid_met os))) ?_
  intro W base args ds gs before hval hW _ _ _ hL _ _
  exact contract H enc W base args ds gs before hval hW hL

theorem said : Rows.LexTokensSaid :=
  OpenClaim.holds_of_cond 3 Try.f3 rfl rfl rfl rfl rfl rfl rfl ⟨rfl, rfl, rfl, rfl, rfl⟩ rfl rfl rfl rfl rfl (by kernel_rfl) Try.func3 (by kernel_rfl)
    (of_decide_eq_true (by kernel_rfl)) (by unfold Func.isWrapper; first | (rw [if_pos (by decide +kernel)]; kernel_rfl) | (rw [if_neg (by decide +kernel)]; exact ⟨rfl, rfl⟩))
    (fun os started H enc _ F => by rw [OpenClaim.pre_eq_preRow]; exact lifted os started H enc F)

end Go.Proofs.Ytbljbmeifmpfoaa.lawLexTokens
