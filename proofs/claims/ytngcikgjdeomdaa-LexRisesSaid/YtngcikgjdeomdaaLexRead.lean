/- Reading lists of tokens; the statements' own texts. -/
import Derived.Test.YtngcikgjdeomdaaLexToksW
namespace Go.Proofs.Ytngcikgjdeomdaa
open Go.RowKit

theorem TokC.get {w : World} {base : Nat} : ∀ {ts : List Tok} {cs : List Value} (_ : TokC w base ts cs) (i : Nat) (hi : i < ts.length), ∃ vs vm, (∀ j, j < 9 → cs[i * 9 + j]? = (tokV9 ts[i] vs vm)[j]?) ∧ w.ownsRow base 32 1 vs ts[i].str.length (u16s ts[i].str) ∧ w.ownsRow base 88 1 vm ts[i].mag.length (u32s ts[i].mag) := by
  intro ts
  induction ts with
  | nil => intro cs h i hi; simp at hi
  | cons t r ih =>
    intro cs h i hi
    obtain ⟨vs, vm, rest, rfl, h1, h2, h3⟩ := h
    cases i with
    | zero =>
      refine ⟨vs, vm, fun j hj => ?_, h1, h2⟩
      rw [Nat.zero_mul, Nat.zero_add, List.getElem?_append_left (by simp [tokV9]; omega)]
      rfl
    | succ i =>
      obtain ⟨vs', vm', g1, g2, g3⟩ := ih h3 i (by simpa using hi)
      refine ⟨vs', vm', fun j hj => ?_, g2, g3⟩
      rw [List.getElem?_append_right (by simp [tokV9]; omega), show (i + 1) * 9 + j - (tokV9 t vs vm).length = i * 9 + j by simp [tokV9]; omega]
      exact g1 j hj
/-- the cells of token i of a list at block g -/
structure TokAt (w : World) (base g i : Nat) (t : Tok) (As Am : Option Addr) (cs cm : Nat) : Prop where
  k0 : w.cell? ⟨g, i * 9, none⟩ = some (.int .i64 (t.kind : Int))
  k1 : w.cell? ⟨g, i * 9 + 1, none⟩ = some (.string ⟨t.text.toArray⟩)
  k2 : w.cell? ⟨g, i * 9 + 2, none⟩ = some (.slice As t.str.length cs)
  k3 : w.cell? ⟨g, i * 9 + 3, none⟩ = some (.int .i64 t.nk)
  k4 : w.cell? ⟨g, i * 9 + 4, none⟩ = some (.int .i64 t.nn)
  k5 : w.cell? ⟨g, i * 9 + 5, none⟩ = some (.bool false)
  k6 : w.cell? ⟨g, i * 9 + 6, none⟩ = some (.slice Am t.mag.length cm)
  k7 : w.cell? ⟨g, i * 9 + 7, none⟩ = some (.int .i64 (t.pos : Int))
  k8 : w.cell? ⟨g, i * 9 + 8, none⟩ = some (.bool t.nl)
  str : w.ownsRow base 32 1 (.slice As t.str.length cs) t.str.length (u16s t.str)
  mag : w.ownsRow base 88 1 (.slice Am t.mag.length cm) t.mag.length (u32s t.mag)
theorem TokL.shape {w : World} {base : Nat} {ts : List Tok} {v : Value} (h : TokL w base ts v) : ∃ A c, v = .slice A ts.length c ∧ ts.length ≤ c ∧ c ≤ maxLen := by
  obtain ⟨cs, ho, _⟩ := h
  exact own_shape ho
theorem TokL.at_ {w : World} {base n c : Nat} {ts : List Tok} {A : Option Addr} (h : TokL w base ts (.slice A n c)) (h0 : 0 < ts.length) : ∃ g, A = some ⟨g, 0, none⟩ ∧ base ≤ g ∧ g < w.heap.size ∧ ∀ i (hi : i < ts.length), ∃ As Am c1 c2, TokAt w base g i ts[i] As Am c1 c2 := by
  obtain ⟨cs, ho, htc⟩ := h
  obtain ⟨g, cap, hv, hgb, hgl⟩ := ho.form h0
  injection hv with hA hn hc
  subst hA hn hc
  refine ⟨g, rfl, hgb, hgl, fun i hi => ?_⟩
  obtain ⟨vs, vm, hc, h1, h2⟩ := htc.get i hi
  obtain ⟨As, c1, rfl, _, _⟩ := own_shape h1
  obtain ⟨Am, c2, rfl, _, _⟩ := own_shape h2
  have hcell : ∀ j (hj : j < 9), w.cell? ⟨g, i * 9 + j, none⟩ = (tokV9 ts[i] (.slice As ts[i].str.length c1) (.slice Am ts[i].mag.length c2))[j]? := by
    intro j hj
    rw [ho.cellAt (i * 9 + j) (by omega), hc j hj]
  exact ⟨As, Am, c1, c2, ⟨hcell 0 (by omega), hcell 1 (by omega), hcell 2 (by omega), hcell 3 (by omega), hcell 4 (by omega), hcell 5 (by omega), hcell 6 (by omega), hcell 7 (by omega), hcell 8 (by omega), h1, h2⟩⟩

/-- the texts one behind the other -/
def textsF : List Tok → List UInt8
  | [] => []
  | t :: r => t.text ++ 32 :: textsF r
theorem textsF_snoc (l : List Tok) (t : Tok) : textsF (l ++ [t]) = textsF l ++ (t.text ++ [32]) := by
  induction l with
  | nil => simp [textsF]
  | cons s r ih => simp [textsF, ih]
theorem textsF_app (l r : List Tok) : textsF (l ++ r) = textsF l ++ textsF r := by
  induction l with
  | nil => rfl
  | cons s l ih => simp [textsF, ih]
theorem textsF_le (l : List Tok) (k : Nat) : (textsF (l.take k)).length ≤ (textsF l).length := by
  conv => rhs; rw [← List.take_append_drop k l, textsF_app, List.length_append]
  omega
theorem str_app (a b c : List UInt8) : Value.string (⟨a.toArray⟩ ++ (⟨b.toArray⟩ ++ ⟨c.toArray⟩)) = .string ⟨(a ++ (b ++ c)).toArray⟩ := by
  congr 1
set_option maxHeartbeats 2000000 in
set_option maxRecDepth 100000 in
theorem texts_any {A : Option Addr} {base n c : Nat} {ts : List Tok} {w : World} (hn : ts.length = n) (h : TokL w base ts (.slice A n c)) (hl : n ≤ 8192) (hl2 : (textsF ts).length ≤ 70368744177664) :
    Calls Try.prog 27 #[.slice A n c] w fun e w' => e = .returned (.string ⟨(textsF ts).toArray⟩) ∧ w = w' := by
  have HN := hide hn
  have H := hide h
  clear hn h
  go_enter Try.func27, Try.ntmps27
  go_wp2_with fail
  go_loop [3, 4] (fun s i => ∃ k : Nat, k ≤ n ∧ i = .int .i64 k ∧ s = .string ⟨(textsF (ts.take k)).toArray⟩) (fun _ i => n - (intOf i).toNat)
  case atStart => exact ⟨0, Nat.zero_le _, rfl, rfl⟩
  case round =>
    obtain ⟨k, hk, rfl, rfl⟩ := hrel
    by_cases hlt : k < n
    · have hlt2 : k < ts.length := by rw [HN.out]; exact hlt
      obtain ⟨g, rfl, _, _, hat⟩ := H.out.at_ (by omega)
      obtain ⟨As, Am, c1, c2, hT⟩ := hat k hlt2
      have hk1 := hT.k1
      have HS := hide (show textsF (ts.take (k + 1)) = textsF (ts.take k) ++ (ts[k].text ++ [32]) by rw [List.take_succ_eq_append_getElem hlt2, textsF_snoc])
      obtain ⟨tx, htx⟩ : ∃ tx, ts[k].text = tx := ⟨_, rfl⟩
      rw [htx] at hk1 HS
      have hb1 := textsF_le ts (k + 1)
      rw [HS.out, List.length_append, List.length_append] at hb1
      have hb2 : tx.length ≤ 70368744177664 := by omega
      have hb3 : (textsF (ts.take k)).length + tx.length ≤ 70368744177664 := by omega
      clear hb1
      clear htx hT hat hlt2
      go_wp2_with fail
      go_round
      case rel => exact ⟨k + 1, by omega, by go_num, by rw [HS.out]; exact str_app _ _ _⟩
      case measure => simp [intOf]; omega
    · have hkk := hide (show ts.take k = ts from List.take_of_length_le (by rw [HN.out]; omega))
      go_wp2_with fail
      go_ret
      rw [hkk.out]
      exact ⟨rfl, rfl⟩
end Go.Proofs.Ytngcikgjdeomdaa
