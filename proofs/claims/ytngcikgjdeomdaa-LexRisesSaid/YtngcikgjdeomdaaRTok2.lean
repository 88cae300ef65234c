/- Nine cells under one name; lists of tokens read; renref.Tokens at two lists that are alike. Walked. -/
import Derived.Test.YtngcikgjdeomdaaRTok
import Derived.Deep.RegionHeld3
namespace Go.Proofs.Ytngcikgjdeomdaa
open Go.RowKit

theorem cast_one (n : Nat) : ((n + 1 : Nat) : Int) = (n : Int) + 1 := by omega
theorem below_drew' {W w : World} (h : Below W.drew.heap.size W.drew w) : Below W.heap.size W w := ⟨h.os, h.tape, h.output, h.size, h.block⟩
/-- nine cells -/
def T9 (w : World) (b o : Nat) (v0 v1 v2 v3 v4 v5 v6 v7 v8 : Value) : Prop :=
  w.cell? ⟨b, o, none⟩ = some v0 ∧ w.cell? ⟨b, o + 1, none⟩ = some v1 ∧ w.cell? ⟨b, o + 2, none⟩ = some v2 ∧ w.cell? ⟨b, o + 3, none⟩ = some v3 ∧ w.cell? ⟨b, o + 4, none⟩ = some v4 ∧ w.cell? ⟨b, o + 5, none⟩ = some v5 ∧ w.cell? ⟨b, o + 6, none⟩ = some v6 ∧ w.cell? ⟨b, o + 7, none⟩ = some v7 ∧ w.cell? ⟨b, o + 8, none⟩ = some v8
theorem T9.below {w w' : World} {b o D : Nat} {v0 v1 v2 v3 v4 v5 v6 v7 v8 : Value} (h : T9 w b o v0 v1 v2 v3 v4 v5 v6 v7 v8) (hb : Below D w w') (hd : b < D) : T9 w' b o v0 v1 v2 v3 v4 v5 v6 v7 v8 := by
  have hc : ∀ j, w'.cell? ⟨b, j, none⟩ = w.cell? ⟨b, j, none⟩ := fun j => hb.cell (p := ⟨b, j, none⟩) hd
  unfold T9
  rw [hc, hc, hc, hc, hc, hc, hc, hc, hc]
  exact h
theorem T9.of_blk {w : World} {b : Nat} {v0 v1 v2 v3 v4 v5 v6 v7 v8 : Value} (h : Blk w b [v0, v1, v2, v3, v4, v5, v6, v7, v8]) : T9 w b 0 v0 v1 v2 v3 v4 v5 v6 v7 v8 :=
  ⟨(h.2 0 (by simp)).1, (h.2 1 (by simp)).1, (h.2 2 (by simp)).1, (h.2 3 (by simp)).1, (h.2 4 (by simp)).1, (h.2 5 (by simp)).1, (h.2 6 (by simp)).1, (h.2 7 (by simp)).1, (h.2 8 (by simp)).1⟩
theorem TokAt.t9 {w : World} {base g i cs cm : Nat} {t : Tok} {As Am : Option Addr} {p : Int} {nl : Bool} (h : TokAt w base g i t As Am cs cm) (hp : (t.pos : Int) = p) (hnl : t.nl = nl) : T9 w g (i * 9) (.int .i64 (t.kind : Int)) (.string ⟨t.text.toArray⟩) (.slice As t.str.length cs) (.int .i64 t.nk) (.int .i64 t.nn) (.bool false) (.slice Am t.mag.length cm) (.int .i64 p) (.bool nl) := by
  subst hp hnl
  exact ⟨h.k0, h.k1, h.k2, h.k3, h.k4, h.k5, h.k6, h.k7, h.k8⟩
theorem TokAt.tokR {w w' : World} {base g i B : Nat} {t : Tok} {As Am : Option Addr} {cs cm : Nat} (h : TokAt w base g i t As Am cs cm) (hs : t.str.length ≤ 70368744177664) (hm : t.mag.length ≤ 70368744177664) (hb : Below w.heap.size w w') (hB : w.heap.size ≤ B) : TokR w' B t As Am :=
  ⟨((Reads.of_own h.str).below hb).more hB, ((Reads.of_own h.mag).below hb).more hB, hs, hm⟩
/-- tokens that lie in memory from A on, below block B -/
def TokRd (w : World) (B : Nat) (A : Option Addr) (ts : List Tok) : Prop :=
  0 < ts.length → ∃ g, A = some ⟨g, 0, none⟩ ∧ g < B ∧ ∀ i (hi : i < ts.length), ∃ As Am c1 c2, T9 w g (i * 9) (.int .i64 (ts[i].kind : Int)) (.string ⟨ts[i].text.toArray⟩) (.slice As ts[i].str.length c1) (.int .i64 ts[i].nk) (.int .i64 ts[i].nn) (.bool false) (.slice Am ts[i].mag.length c2) (.int .i64 (ts[i].pos : Int)) (.bool ts[i].nl) ∧ TokR w B ts[i] As Am
theorem TokRd.below {w w' : World} {B : Nat} {A : Option Addr} {ts : List Tok} (h : TokRd w B A ts) (hb : Below B w w') : TokRd w' B A ts := by
  intro h0
  obtain ⟨g, hA, hg, hat⟩ := h h0
  refine ⟨g, hA, hg, fun i hi => ?_⟩
  obtain ⟨As, Am, c1, c2, h1, h2⟩ := hat i hi
  exact ⟨As, Am, c1, c2, h1.below hb hg, h2.below hb⟩
theorem TokL.rd {w : World} {base n c : Nat} {A : Option Addr} {ts rest : List Tok} (h : TokL w base (ts ++ rest) (.slice A n c)) (hs : ∀ t ∈ ts, t.str.length ≤ 70368744177664 ∧ t.mag.length ≤ 70368744177664) : TokRd w w.heap.size A ts := by
  intro h0
  obtain ⟨g, hA, _, hg, hat⟩ := h.at_ (by rw [List.length_append]; omega)
  refine ⟨g, hA, hg, fun i hi => ?_⟩
  obtain ⟨As, Am, c1, c2, h1⟩ := hat i (by rw [List.length_append]; omega)
  rw [List.getElem_append_left hi] at h1
  obtain ⟨s1, s2⟩ := hs ts[i] (List.getElem_mem hi)
  exact ⟨As, Am, c1, c2, h1.t9 rfl rfl, h1.tokR s1 s2 (Below.refl _ _) (Nat.le_refl _)⟩
set_option maxHeartbeats 8000000 in
set_option maxRecDepth 100000 in
theorem rtokens_same {A1 A2 : Option Addr} {c1 c2 n B : Nat} {ts : List Tok} {w : World} (hB : B ≤ w.heap.size) (hn : ts.length = n) (h1 : TokRd w B A1 ts) (h2 : TokRd w B A2 ts) (hl : n ≤ 8192) :
    Calls Try.prog 16 #[.slice A1 n c1, .slice A2 n c2] w fun e w' => e = .returned (.bool true) ∧ Below w.heap.size w w' := by
  have HN := hide hn
  have H1 := hide h1
  have H2 := hide h2
  clear hn h1 h2
  have e1 : ((n : Int) != (n : Int)) = false := by simp
  go_enter Try.func16, Try.ntmps16
  go_wp2
  go_loopw [5] (fun i wr => ∃ k : Nat, k ≤ n ∧ i = .int .i64 k ∧ Below w.heap.size w wr) (fun i _ => n - (intOf i).toNat)
  case atStart => exact ⟨0, Nat.zero_le _, rfl, Below.refl _ _⟩
  case round =>
    obtain ⟨k, hk, rfl, hbr⟩ := hrel
    by_cases hlt : k < n
    · have hx : k < ts.length := by rw [HN.out]; exact hlt
      obtain ⟨g1, rfl, hg1, hat1⟩ := H1.out (by omega)
      obtain ⟨g2, rfl, hg2, hat2⟩ := H2.out (by omega)
      obtain ⟨As1, Am1, cs1, cm1, t1, r1⟩ := hat1 k hx
      obtain ⟨As2, Am2, cs2, cm2, t2, r2⟩ := hat2 k hx
      obtain ⟨t, htt⟩ : ∃ t, ts[k] = t := ⟨_, rfl⟩
      rw [htt] at t1 t2 r1 r2
      have hbw : w.heap.size ≤ wr.heap.size := hbr.size
      have HT1 := hide (t1.below (hbr.mono hB) hg1)
      have HT2 := hide (t2.below (hbr.mono hB) hg2)
      have R1 := hide (r1.below (hbr.mono hB))
      have R2 := hide (r2.below (hbr.mono hB))
      have hd1 : g1 < wr.heap.size := by omega
      have hd2 : g2 < wr.heap.size := by omega
      have HBR := hide hbr
      obtain ⟨nl, hnl⟩ : ∃ b, t.nl = b := ⟨_, rfl⟩
      rw [hnl] at HT1 HT2
      clear hat1 hat2 htt hx t1 t2 r1 r2 hnl
      have hBB : B ≤ wr.drew.heap.size := Nat.le_trans hB hbw
      have C1 := hide (rtoken_c t.kind t.text t.str t.nk t.nn t.mag t.pos (t.pos : Int) nl As1 Am1 As2 Am2 cs1 cm1 cs2 cm2 B wr.drew rfl hBB R1.out.str.drew R1.out.mag.drew R2.out.str.drew R2.out.mag.drew R2.out.strl R2.out.magl)
      clear hbr
      go_wp2
      go_region_held3 (fun w' => (w'.cell? ⟨g1, k * 9, none⟩ = some (.int .i64 (t.kind : Int)) ∧ w'.cell? ⟨g1, k * 9 + 1, none⟩ = some (.string ⟨t.text.toArray⟩) ∧ w'.cell? ⟨g1, k * 9 + 2, none⟩ = some (.slice As1 t.str.length cs1) ∧ w'.cell? ⟨g1, k * 9 + 3, none⟩ = some (.int .i64 t.nk) ∧ w'.cell? ⟨g1, k * 9 + 4, none⟩ = some (.int .i64 t.nn) ∧ w'.cell? ⟨g1, k * 9 + 5, none⟩ = some (.bool false) ∧ w'.cell? ⟨g1, k * 9 + 6, none⟩ = some (.slice Am1 t.mag.length cm1) ∧ w'.cell? ⟨g1, k * 9 + 7, none⟩ = some (.int .i64 (t.pos : Int)) ∧ w'.cell? ⟨g1, k * 9 + 8, none⟩ = some (.bool nl)) ∧ (w'.cell? ⟨g2, k * 9, none⟩ = some (.int .i64 (t.kind : Int)) ∧ w'.cell? ⟨g2, k * 9 + 1, none⟩ = some (.string ⟨t.text.toArray⟩) ∧ w'.cell? ⟨g2, k * 9 + 2, none⟩ = some (.slice As2 t.str.length cs2) ∧ w'.cell? ⟨g2, k * 9 + 3, none⟩ = some (.int .i64 t.nk) ∧ w'.cell? ⟨g2, k * 9 + 4, none⟩ = some (.int .i64 t.nn) ∧ w'.cell? ⟨g2, k * 9 + 5, none⟩ = some (.bool false) ∧ w'.cell? ⟨g2, k * 9 + 6, none⟩ = some (.slice Am2 t.mag.length cm2) ∧ w'.cell? ⟨g2, k * 9 + 7, none⟩ = some (.int .i64 (t.pos : Int)) ∧ w'.cell? ⟨g2, k * 9 + 8, none⟩ = some (.bool nl)))
        (first | (exact ⟨HT1.out, HT2.out⟩) | (exact ⟨HT1.out.below (below_drew' hb8) hd1, HT2.out.below (below_drew' hb8) hd2⟩) | go_keep)
        (first | (go_at_call 18; go_split_ands; (with_reducible refine C1.out.mono ?_); rintro e8 w8 ⟨rfl, hb8⟩))
      all_goals go_wp2
      all_goals go_roundw
      case rel => exact ⟨k + 1, by omega, by go_num, HBR.out.trans ((below_drew' hb8).mono hbw)⟩
      case measure => simp [intOf]; omega
    · go_wp2
      go_ret
      exact ⟨rfl, hbr⟩
end Go.Proofs.Ytngcikgjdeomdaa
