/- Joined for a claim: TFields3, TKids, TOrder, TOrderW, TMay. -/
import Derived.Test.YtelcjdblnagdgaaDoorM08
import Derived.Test.YtelcjdblnagdgaaDoorM04
import Derived.Test.YtelcjdblnagdgaaDoorM02
import Derived.Deep.RegionHeld3
import Derived.Test.YtelcjdblnagdgaaDoorM01
import Derived.Deep.CutBlock
import Derived.Deep.DeepCutAuto
import Derived.Deep.LoopGhost
namespace Go.Proofs.YtelcjdblnagdgaaDoor
open Go.RowKit

theorem BmP.of {p q : Bool} {w w' : World} {e : Ending} (h : p = q) (hh : BmP p w e w') : BmP q w e w' := h ▸ hh
theorem fields_any {x : Nd} {s : NdSl} {B : Nat} {w : World} (hR : NdR w B x s) (hB : B ≤ w.heap.size) {q : Bool} (hq : fieldsF x = q) :
    Calls Tryd.prog 25 #[.agg #[.int .i64 x.kind, .string ⟨x.name.toArray⟩, .slice s.As x.str.length s.cs, .int .i64 x.nk, .int .i64 x.nn, .bool x.neg, .slice s.Am x.mag.length s.cm, .slice s.Ak x.kids.length s.ck]] w (BmP q w) := by
  have hmagR := hR.mag
  have hlimb := hR.limb
  obtain ⟨kind, name, str, nk, nn, neg, mag, kids⟩ := x
  obtain ⟨As, Am, Ak, cs, cm, ck⟩ := s
  simp only at hmagR hlimb ⊢
  clear hR
  obtain ⟨nb, hnb⟩ : ∃ nb : ByteArray, ⟨name.toArray⟩ = nb := ⟨_, rfl⟩
  have hd : nb.data.toList = name := by rw [← hnb]
  have hz : nb.size = name.length := by rw [← hd]; simp
  rw [hnb]
  subst hq
  have hemp : name = [] → nb = ⟨#[]⟩ := fun e => nb_empty (by rw [hd]; exact e)
  have hsz : ∀ l : List UInt16, l ≠ [] → 0 < l.length := fun l h => List.length_pos_iff.2 h
  have hsm : ∀ l : List Nat, l ≠ [] → 0 < l.length := fun l h => List.length_pos_iff.2 h
  by_cases h1 : 4096 < name.length
  · exact (fields_long kind nb As Am cs cm _ _ nk nn neg _ w (by omega)).mono fun e w' h => h.of (by simp [fieldsF, h1])
  have hs : nb.size ≤ 4096 := by omega
  by_cases k32 : kind = 32
  · subst k32
    by_cases hk : nk = 0
    · subst hk
      by_cases hn : nn = 0
      · subst hn
        cases neg with
        | true => exact (f_neg_32 nb As Am cs cm _ _ _ w hs).mono fun e w' h => h.of (by simp [fieldsF])
        | false =>
          by_cases hm : mag = []
          · subst hm
            by_cases hne : name = []
            · obtain rfl := hemp hne
              by_cases hl : str.length ≤ 4096
              · exact (f_yes_32 As Am cs cm _ _ w hl).mono fun e w' h => h.of (by simp [fieldsF, hne, hl])
              · exact (f_no_32 As Am cs cm _ _ w (by omega)).mono fun e w' h => h.of (by simp [fieldsF, hne, hl])
            · exact (f_name_32 nb As Am cs cm _ _ w hs (by rw [hd]; exact hne)).mono fun e w' h => h.of (by simp [fieldsF, hne])
          · exact (f_mag_32 nb As Am cs cm _ _ _ w hs (hsm _ hm)).mono fun e w' h => h.of (by simp [fieldsF, hm])
      · exact (f_numb_32 nb As Am cs cm _ _ nn neg _ w hs hn).mono fun e w' h => h.of (by simp [fieldsF, hn])
    · exact (f_numa_32 nb As Am cs cm _ _ nk nn neg _ w hs hk).mono fun e w' h => h.of (by simp [fieldsF, hk])
  by_cases k40 : kind = 40
  · subst k40
    by_cases hk : nk = 0
    · subst hk
      by_cases hn : nn = 0
      · subst hn
        cases neg with
        | true => exact (f_neg_40 nb As Am cs cm _ _ _ w hs).mono fun e w' h => h.of (by simp [fieldsF])
        | false =>
          by_cases hm : mag = []
          · subst hm
            by_cases hne : name = []
            · obtain rfl := hemp hne
              by_cases hl : str.length ≤ 4096
              · exact (f_yes_40 As Am cs cm _ _ w hl).mono fun e w' h => h.of (by simp [fieldsF, hne, hl])
              · exact (f_no_40 As Am cs cm _ _ w (by omega)).mono fun e w' h => h.of (by simp [fieldsF, hne, hl])
            · exact (f_name_40 nb As Am cs cm _ _ w hs (by rw [hd]; exact hne)).mono fun e w' h => h.of (by simp [fieldsF, hne])
          · exact (f_mag_40 nb As Am cs cm _ _ _ w hs (hsm _ hm)).mono fun e w' h => h.of (by simp [fieldsF, hm])
      · exact (f_numb_40 nb As Am cs cm _ _ nn neg _ w hs hn).mono fun e w' h => h.of (by simp [fieldsF, hn])
    · exact (f_numa_40 nb As Am cs cm _ _ nk nn neg _ w hs hk).mono fun e w' h => h.of (by simp [fieldsF, hk])
  by_cases k30 : kind = 30
  · subst k30
    by_cases hst : str = []
    · subst hst
      cases neg with
      | true => exact (f_neg_30 nb As Am cs cm _ nk nn _ w hs).mono fun e w' h => h.of (by simp [fieldsF])
      | false =>
        by_cases hm : mag = []
        · subst hm
          by_cases hne : name = []
          · obtain rfl := hemp hne
            by_cases hk : nk = 0
            · subst hk
              cases hmay : numMay 0 nn with
              | false => exact (f_may_30 As Am cs cm _ nn w hmay).mono fun e w' h => h.of (by simp [fieldsF, hmay])
              | true =>
                by_cases h0 : 0 ≤ nn
                · exact (f_yes_30 As Am cs cm _ nn w hmay h0).mono fun e w' h => h.of (by simp [fieldsF, hmay, hne, h0])
                · exact (f_no_30 As Am cs cm _ nn w hmay h0).mono fun e w' h => h.of (by simp [fieldsF, h0])
            · exact (f_kind_30 As Am cs cm _ nk nn w hk).mono fun e w' h => h.of (by simp [fieldsF, hk])
          · exact (f_name_30 nb As Am cs cm _ nk nn w hs (by rw [hd]; exact hne)).mono fun e w' h => h.of (by simp [fieldsF, hne])
        · exact (f_mag_30 nb As Am cs cm _ nk nn _ w hs (hsm _ hm)).mono fun e w' h => h.of (by simp [fieldsF, hm])
    · exact (f_str_30 nb As Am cs cm _ _ nk nn neg _ w hs (hsz _ hst)).mono fun e w' h => h.of (by simp [fieldsF, hst])
  by_cases k31 : kind = 31
  · subst k31
    by_cases hst : str = []
    · subst hst
      by_cases hk : nk = 0
      · subst hk
        by_cases hn : nn = 0
        · subst hn
          by_cases hne : name = []
          · obtain rfl := hemp hne
            have hbm : ∀ q, bigMay neg mag = q → ∀ w1, Below w.heap.size w w1 → Calls Tryd.prog 40 #[.agg #[.bool neg, .slice Am mag.length cm]] w1 (BmP q w1) := fun q hq w1 hb1 => bmay_any neg rfl ((hmagR.below (hb1.mono hB))) (Nat.le_trans hB hb1.size) hlimb hq
            cases neg with
            | false =>
              cases hmay : bigMay false mag with
              | true => exact (f_false_true_31 As Am cs cm _ _ w (hbm _ hmay)).mono fun e w' h => h.of (by simp [fieldsF, hmay, hne])
              | false => exact (f_false_false_31 As Am cs cm _ _ w (hbm _ hmay)).mono fun e w' h => h.of (by simp [fieldsF, hmay])
            | true =>
              cases hmay : bigMay true mag with
              | true => exact (f_true_true_31 As Am cs cm _ _ w (hbm _ hmay)).mono fun e w' h => h.of (by simp [fieldsF])
              | false => exact (f_true_false_31 As Am cs cm _ _ w (hbm _ hmay)).mono fun e w' h => h.of (by simp [fieldsF])
          · exact (f_name_31 nb As Am cs cm _ neg _ w hs (by rw [hd]; exact hne)).mono fun e w' h => h.of (by simp [fieldsF, hne])
        · exact (f_numb_31 nb As Am cs cm _ nn neg _ w hs hn).mono fun e w' h => h.of (by simp [fieldsF, hn])
      · exact (f_numa_31 nb As Am cs cm _ nk nn neg _ w hs hk).mono fun e w' h => h.of (by simp [fieldsF, hk])
    · exact (f_str_31 nb As Am cs cm _ _ nk nn neg _ w hs (hsz _ hst)).mono fun e w' h => h.of (by simp [fieldsF, hst])
  · have hh : ∀ j ∈ ([32, 40, 30, 31] : List Int), kind ≠ j := fun j hj => by simp only [List.mem_cons, List.mem_nil_iff, or_false] at hj; omega
    by_cases hst : str = []
    · subst hst
      by_cases hk : nk = 0
      · subst hk
        by_cases hn : nn = 0
        · subst hn
          cases neg with
          | true => exact (f_neg_o kind nb As Am cs cm _ _ w hh hs).mono fun e w' h => h.of (by simp [fieldsF, k31])
          | false =>
            by_cases hm : mag = []
            · subst hm
              exact (f_good_o kind nb As Am cs cm _ w hh hs rfl).mono fun e w' h => h.of (by simp [fieldsF, k31, k32, k40, k30, h1, hd])
            · exact (f_mag_o kind nb As Am cs cm _ _ w hh hs (hsm _ hm)).mono fun e w' h => h.of (by simp [fieldsF, hm, k31])
        · exact (f_numb_o kind nb As Am cs cm _ nn neg _ w hh hs hn).mono fun e w' h => h.of (by simp [fieldsF, hn, k30])
      · exact (f_numa_o kind nb As Am cs cm _ nk nn neg _ w hh hs hk).mono fun e w' h => h.of (by simp [fieldsF, hk, k30])
    · exact (f_str_o kind nb As Am cs cm _ _ nk nn neg _ w hh hs (hsz _ hst)).mono fun e w' h => h.of (by simp [fieldsF, hst, k32, k40])
end Go.Proofs.YtelcjdblnagdgaaDoor

namespace Go.Proofs.YtelcjdblnagdgaaDoor
open Go.RowKit

theorem below_dr {W w : World} (h : Below W.drew.heap.size W.drew w) : Below W.heap.size W w := ⟨h.os, h.tape, h.output, h.size, h.block⟩
theorem le_of_all {l : List Nat} {n : Nat} (h : l.all (fun s => decide (s ≤ n)) = true) : ∀ s ∈ l, s ≤ n := fun s hs => by simpa using List.all_eq_true.1 h s hs
theorem shape_le (k : Int) (n : Nat) : (∀ s ∈ (shapeF k n).1, s ≤ 13) ∧ (shapeF k n).2 ≤ 13 := by
  have f : ∀ {p : Prop} [Decidable p] {a b : List Nat × Nat}, ((∀ s ∈ a.1, s ≤ 13) ∧ a.2 ≤ 13) → ((∀ s ∈ b.1, s ≤ 13) ∧ b.2 ≤ 13) → ((∀ s ∈ (if p then a else b).1, s ≤ 13) ∧ (if p then a else b).2 ≤ 13) := fun h1 h2 => by split <;> assumption
  have g : ∀ (l : List Nat) (r : Nat), l.all (fun s => decide (s ≤ 13)) = true → r ≤ 13 → ((∀ s ∈ ((l, r) : List Nat × Nat).1, s ≤ 13) ∧ ((l, r) : List Nat × Nat).2 ≤ 13) := fun l r h1 h2 => ⟨le_of_all h1, h2⟩
  have t : ∀ (l : List Nat) (m : Nat), l.all (fun s => decide (s ≤ 13)) = true → ((∀ s ∈ ((l.take m, 0) : List Nat × Nat).1, s ≤ 13) ∧ ((l.take m, 0) : List Nat × Nat).2 ≤ 13) := fun l m h => ⟨fun s hs => le_of_all h s (List.mem_of_mem_take hs), by show 0 ≤ 13; omega⟩
  have p : ∀ m last, last ≤ 13 → ((∀ s ∈ ((paramsF m last, 0) : List Nat × Nat).1, s ≤ 13) ∧ ((paramsF m last, 0) : List Nat × Nat).2 ≤ 13) := fun m last h => ⟨fun s hs => by
    unfold paramsF at hs
    rcases List.mem_append.1 hs with h1 | h1
    · have := List.eq_of_mem_replicate h1; omega
    · have := List.mem_singleton.1 h1; omega, by show 0 ≤ 13; omega⟩
  unfold shapeF
  repeat' refine f ?_ ?_
  all_goals first | exact g _ _ (by decide) (by decide) | exact t _ _ (by decide) | exact p _ _ (by decide)
theorem fitAll_step (ts : List Nd) (ll : List Nat) (r j : Nat) (y : Int) (ks : List Int) : fitAll ts (ll.drop j) r (y :: ks) = (fitsF (ll.getD j r) (atN ts y).kind && fitAll ts (ll.drop (j + 1)) r ks) := by
  by_cases h : j < ll.length
  · rw [List.drop_eq_getElem_cons h, List.getD_eq_getElem?_getD, List.getElem?_eq_getElem h]; rfl
  · rw [List.drop_of_length_le (by omega), List.drop_of_length_le (by omega), List.getD_eq_getElem?_getD, List.getElem?_eq_none (by omega)]; rfl
/-- what kids comes to, its parts -/
theorem kidsF_kind {ts : List Nd} {x : Nd} (h : isKind x.kind = false) : kidsF ts x = false := by unfold kidsF; rw [h]; simp
theorem kidsF_len {ts : List Nd} {x : Nd} (h : ¬ (shapeF x.kind x.kids.length).1.length ≤ x.kids.length) : kidsF ts x = false := by unfold kidsF; rw [decide_eq_false h]; simp
theorem kidsF_fit {ts : List Nd} {x : Nd} (h : fitAll ts (shapeF x.kind x.kids.length).1 (shapeF x.kind x.kids.length).2 x.kids = false) : kidsF ts x = false := by unfold kidsF; rw [h]; simp
theorem kidsF_end {ts : List Nd} {x : Nd} (h1 : isKind x.kind = true) (h2 : (shapeF x.kind x.kids.length).1.length ≤ x.kids.length) (h3 : fitAll ts (shapeF x.kind x.kids.length).1 (shapeF x.kind x.kids.length).2 x.kids = true) :
    kidsF ts x = (if x.kind = 16 then ((atN ts (x.kids.getD 1 0)).kind == 17 || (atN ts (x.kids.getD 2 0)).kind == 4) else if x.kind = 8 ∧ x.kids.length = 3 then !(dangles ts (x.kids.getD 1 0)) else true) := by
  unfold kidsF
  rw [h1, decide_eq_true h2, h3]; rfl
set_option maxHeartbeats 8000000 in
set_option maxRecDepth 100000 in
theorem kids_any {A : Option Addr} {c B n m : Nat} {ts : List Nd} {x : Nd} {w : World} (hN : NdsR w B A n ts) (hB : B ≤ w.heap.size) (hf : Fwd ts) (hkl : ∀ x ∈ ts, x.kids.length ≤ 1000000) (hx : ts[m]? = some x) {q : Bool} (hq : kidsF ts x = q) :
    Calls Tryd.prog 26 #[.agg #[.slice A n c], .int .i64 (m : Int)] w (BmP q w) := by
  have hmn : m < n := by have := (List.getElem?_eq_some_iff.1 hx).1; rw [hN.1] at this; exact this
  obtain ⟨b, o, x', s, rfl, hbB, hx', hC, hR⟩ := hN.get hmn
  obtain rfl : x = x' := Option.some.inj (hx.symm.trans hx')
  obtain ⟨W, hW⟩ : ∃ W, w.alloc (.cells #[.slice (some ⟨b, o, none⟩) n c] 24) = W := ⟨_, rfl⟩
  have hbW : Below w.heap.size w W := by rw [← hW]; exact (Below.refl _ _).alloc (Nat.le_refl _) _
  have hwX : w.heap.size < W.heap.size := by rw [← hW]; simp
  have hcW : W.cell? ⟨w.heap.size, 0, none⟩ = some (.slice (some ⟨b, o, none⟩) n c) := by rw [← hW, World.cell?_alloc_at _ _ _ _ rfl]; rfl
  obtain ⟨kc0, kc1, kc2, kc3, kc4, kc5, kc6, kc7⟩ := hC.below hbW (by omega)
  have hfw := hf m x hx
  rw [hN.1] at hfw
  have HFW := hide hfw
  have hxl := hkl x (List.mem_of_getElem? hx)
  have HF := hide hf
  have HKL := hide hkl
  have HBW := hide hbW
  have HN := hide hN
  have HR := hide hR
  have HQ := hide hq
  have HB := hide hB
  clear hx hx' hC hR hbW hfw hf hkl hN hq
  go_enter Tryd.func26, Tryd.ntmps26
  go_upto_region 2 with (fail)
  have HW := hide hW
  obtain ⟨W1, hW1⟩ : ∃ W1, W.alloc (.cells #[.int .i64 x.kind, .string ⟨x.name.toArray⟩, .slice s.As x.str.length s.cs, .int .i64 x.nk, .int .i64 x.nn, .bool x.neg, .slice s.Am x.mag.length s.cm, .slice s.Ak x.kids.length s.ck] 42) = W1 := ⟨_, rfl⟩
  rw [hW1]
  have hb1 : Below W.heap.size W W1 := by rw [← hW1]; exact (Below.refl _ _).alloc (Nat.le_refl _) _
  have hs1 : W1.heap.size = W.heap.size + 1 := by rw [← hW1]; simp
  have p0 : W1.cell? ⟨W.heap.size, 0, none⟩ = some (.int .i64 x.kind) := by rw [← hW1, World.cell?_alloc_at _ _ _ _ rfl]; rfl
  have p7 : W1.cell? ⟨W.heap.size, 7, none⟩ = some (.slice s.Ak x.kids.length s.ck) := by rw [← hW1, World.cell?_alloc_at _ _ _ _ rfl]; rfl
  have pb : W1.cell? ⟨w.heap.size, 0, none⟩ = some (.slice (some ⟨b, o, none⟩) n c) := (hb1.cell (p := ⟨w.heap.size, 0, none⟩) (show w.heap.size < W.heap.size by omega)).trans hcW
  have HB1 := hide (HBW.out.trans (hb1.mono (by omega)))
  clear hW1 hb1 hW hcW kc0 kc1 kc2 kc3 kc4 kc5 kc6 kc7
  obtain ⟨X, hX⟩ : ∃ X, W.heap.size = X := ⟨_, rfl⟩
  rw [hX] at p0 p7 hs1 hwX
  rw [hX]
  clear hX
  obtain ⟨K, hK⟩ : ∃ K, x.kind = K := ⟨_, rfl⟩
  obtain ⟨L, hL⟩ : ∃ L, x.kids.length = L := ⟨_, rfl⟩
  rw [hK] at p0
  rw [hL] at p7 hxl
  obtain ⟨⟨ll, rr⟩, hsh⟩ : ∃ q, shapeF K L = q := ⟨_, rfl⟩
  have HSH := hide hsh
  have hshp := shape_le K L
  rw [hsh] at hshp
  have HLE := hide hshp
  have HC := hide (show ∀ w1, Calls Tryd.prog 42 #[.int .i64 K, .int .i64 (L : Int)] w1 (ShapeP w1 (ll, rr)) from fun w1 => by have := shape_any K L hxl w1; rw [hsh] at this; exact this)
  have HK := hide hK
  have HL := hide hL
  clear hsh hshp hK hL
  go_upto_region 3 with (go_at_call 42; refine (HC.out _).mono ?_; rintro e2 w2 ⟨Al, cl, rfl, hcl, hrl, hb2⟩)
  have q0 := (hb2.cell (p := ⟨X, 0, none⟩) (show X < W1.heap.size by omega)).trans p0
  have q7 := (hb2.cell (p := ⟨X, 7, none⟩) (show X < W1.heap.size by omega)).trans p7
  have qb := (hb2.cell (p := ⟨w.heap.size, 0, none⟩) (show w.heap.size < W1.heap.size by omega)).trans pb
  have HB2 := hide (HB1.out.trans (hb2.mono (by omega)))
  have HN2 := hide (HN.out.below ((HB2.out).mono HB.out))
  have hx2 : X < w2.heap.size := by have := hb2.size; omega
  have hbs : B ≤ w2.heap.size := by have := HB.out; omega
  obtain ⟨LL, hLL⟩ : ∃ n, ll.length = n := ⟨_, rfl⟩
  have hlc : 0 < LL → ∃ bl ol, Al = some ⟨bl, ol, none⟩ ∧ ∀ (j s : Nat), ll[j]? = some s → w2.cell? ⟨bl, ol + j, none⟩ = some (.int .i64 (s : Int)) := by
    intro h0
    have hr : Reads w2 w2.heap.size 1 Al ll.length (n64s ll) := hrl
    obtain ⟨bl, ol, hA, _, hc⟩ := hr.spotR (by omega)
    exact ⟨bl, ol, hA, fun j s hs => hc j _ (by simp [n64s, hs])⟩
  have HLLC := hide hlc
  have hLL' : ((ll, rr) : List Nat × Nat).1.length = LL := hLL
  have HLLN := hide hLL
  clear p0 p7 pb hb2 hrl hlc hcl
  have HR2 := hide (HR.out.below ((HB2.out).mono HB.out))
  have HKIDX := hide (show ∀ j, j < L → ∃ (y : Int) (p : Nat) (kp : Int), x.kids[j]? = some y ∧ y = (p : Int) ∧ (m < p ∧ p < n) ∧ (atN ts (p : Int)).kind = kp ∧ w2.cell? ⟨b, o + p * 8, none⟩ = some (.int .i64 kp) from fun j hj => by
    have hjk : j < x.kids.length := by rw [HL.out]; exact hj
    have hb := HFW.out x.kids[j] (List.getElem_mem hjk)
    obtain ⟨p, hp⟩ : ∃ p : Nat, x.kids[j] = (p : Int) := ⟨x.kids[j].toNat, by omega⟩
    rw [hp] at hb
    obtain ⟨b', o', xp, sp, hA, _, hxp, hCp, _⟩ := HN2.out.get (i := p) (by omega)
    injection hA with hA
    injection hA with hA1 hA2
    subst hA1 hA2
    exact ⟨_, p, xp.kind, List.getElem?_eq_getElem hjk, hp, ⟨by omega, by omega⟩, by rw [atN_some hxp], hCp.k0⟩)
  have HKID : Hid (∀ j, j < L → ∃ (y : Int) (p : Nat) (kp : Int), x.kids[j]? = some y ∧ y = (p : Int) ∧ (m < p ∧ p < n) ∧ ((atN ts (p : Int)).kind = kp ∧ w2.cell? ⟨b, o + p * 8, none⟩ = some (.int .i64 kp))) := HKIDX
  have hq7 : L = 0 → w2.cell? ⟨X, 7, none⟩ = some (.slice s.Ak 0 s.ck) := fun e => by rw [q7, e]
  obtain ⟨fq, hfq⟩ : ∃ fq, fitAll ts ll rr x.kids = fq := ⟨_, rfl⟩
  have HFD := hide hfq
  have hkn : x.kids.length = L := HL.out
  clear hfq HKIDX
  by_cases hkd : isKind K = true
  · have HKD := hide hkd
    have CK := hide (show ∀ w1, Calls Tryd.prog 43 #[.int .i64 K] w1 fun e w' => e = .returned (.bool true) ∧ w1 = w' from fun w1 => by have := kinds_any K w1; rw [hkd] at this; exact this)
    clear hkd
    by_cases hlen : ll.length ≤ L
    · have hlen2 : ¬ (L : Int) < (LL : Int) := by rw [← HLLN.out]; omega
      have hlen3 : decide ((L : Int) < (LL : Int)) = false := decide_eq_false hlen2
      have hlen4 : ¬ L < LL := by omega
      rw [hLL']
      clear hLL' hLL hkn
      go_upto_if 36 with (go_at_call 43; refine (CK.out _).mono ?_; rintro e3 w3 ⟨rfl, rfl⟩)
      by_cases hL0 : L = 0
      · have hz1 : ¬ (0 : Int) < (L : Int) := by omega
        have hz2 : decide ((0 : Int) < (L : Int)) = false := decide_eq_false hz1
        have hz3 : ¬ 0 < L := by omega
        have h16 : K ≠ 16 := by
          intro e
          have h1 := HSH.out
          rw [e] at h1
          have h2 : ([8, 11, 12], 0) = (ll, rr) := h1
          injection h2 with h3 h4
          rw [← h3] at hlen
          have : ([8, 11, 12] : List Nat).length = 3 := rfl
          omega
        have hxk : x.kids = [] := List.length_eq_zero_iff.1 (by rw [HL.out]; exact hL0)
        have hfq : fitAll ts ll rr x.kids = true := by rw [hxk]; cases ll <;> rfl
        have HV2 := hide (show true = q by
          rw [← HQ.out, kidsF_end (by rw [HK.out]; exact HKD.out) (by rw [HK.out, HL.out, HSH.out]; exact hlen) (by rw [HK.out, HL.out, HSH.out]; exact hfq), if_neg (by rw [HK.out]; exact h16), if_neg (by rw [HL.out]; omega)])
        have e16 : (K == 16) = false := beq_eq_false_iff_ne.2 h16
        have eL3 : ((L : Int) == 3) = false := beq_eq_false_iff_ne.2 (by omega)
        have HL0 := hide hL0
        clear h16 hxk hfq hL0 hq7
        go_wp2_with fail
        go_loop [40] (fun i => i = .int .i64 0) (fun _ => 0)
        case atStart => rfl
        case round =>
          subst hrel
          by_cases h81 : K = 8
          · subst h81
            go_wp2_with fail
            go_ret
            exact ⟨ret_bool HV2.out, HB2.out⟩
          · have e81 : (K == 8) = false := beq_eq_false_iff_ne.2 h81
            clear h81
            go_wp2_with fail
            go_ret
            exact ⟨ret_bool HV2.out, HB2.out⟩
      · obtain ⟨bk, ok, hak, hbk, hck⟩ := HR2.out.kids.spotK (by rw [HL.out]; omega)
        have HCEL := hide (show ∀ (j : Nat) (y : Int), x.kids[j]? = some y → w2.cell? ⟨bk, ok + j, none⟩ = some (.int .i64 y) from fun j y hy => by
          obtain ⟨hl, rfl⟩ := List.getElem?_eq_some_iff.1 hy
          exact hck j hl)
        have hckb : L ≤ s.ck := by have := HR2.out.ck.1; rw [HL.out] at this; exact this
        clear hck hq7
        rw [hak]
        by_cases hLL0 : 0 < LL
        · obtain ⟨bl, ol, rfl, hlcc⟩ := HLLC.out hLL0
          have HLC := hide hlcc
          clear hlcc
          go_wp2_with fail
          go_loop [40] (fun i => ∃ j : Nat, j ≤ L ∧ i = .int .i64 j ∧ Hid (fitAll ts (ll.drop j) rr (x.kids.drop j) = fq)) (fun i => L - (intOf i).toNat)
          case atStart => exact ⟨0, Nat.zero_le _, rfl, HFD.out⟩
          case round =>
            obtain ⟨j, hj, rfl, hfit⟩ := hrel
            by_cases hlt : j < L
            · obtain ⟨y, p, kp, hg0, hyp, hpl, hkp⟩ := HKID.out j hlt
              have hcy := HCEL.out j y hg0
              have hstep := hfit.out
              rw [List.drop_eq_getElem_cons (show j < x.kids.length by rw [HL.out]; exact hlt), (List.getElem?_eq_some_iff.1 hg0).2, fitAll_step, hyp, hkp.1] at hstep
              rw [hyp] at hcy
              have hck := hkp.2
              clear hg0 hyp hkp hfit
              by_cases hjl : j < ll.length
              · obtain ⟨s0, hs0⟩ : ∃ s0, ll[j]? = some s0 := ⟨_, List.getElem?_eq_getElem hjl⟩
                have hcs := HLC.out j s0 hs0
                have hg : ll.getD j rr = s0 := by rw [List.getD_eq_getElem?_getD, hs0]; rfl
                rw [hg] at hstep
                have h13 := HLE.out.1 s0 (List.mem_of_getElem? hs0)
                have hj1 : (j : Int) < (LL : Int) := by rw [← HLLN.out]; omega
                have hj2 : decide ((j : Int) < (LL : Int)) = true := decide_eq_true hj1
                have hj3 : j < LL := by omega
                obtain ⟨fv, hfv⟩ : ∃ fv, fitsF s0 kp = fv := ⟨_, rfl⟩
                rw [hfv] at hstep
                have CF := hide (show ∀ w1, Calls Tryd.prog 44 #[.int .i64 (s0 : Int), .int .i64 kp] w1 fun e w' => e = .returned (.bool fv) ∧ w1 = w' from fun w1 => by have := fits_any s0 kp h13 w1; rw [hfv] at this; exact this)
                have HST := hide hstep
                clear hs0 hg hstep hfv hjl
                cases fv with
                | false =>
                  have HV2 := hide (show false = q by
                    rw [← HQ.out]
                    refine (kidsF_fit ?_).symm
                    rw [HK.out, HL.out, HSH.out, HFD.out]
                    have := HST.out
                    rw [Bool.false_and] at this
                    exact this.symm)
                  go_wp2_with (go_at_call 44; refine (CF.out _).mono ?_; rintro e3 w3 ⟨rfl, rfl⟩)
                  (try rw [Exit.noGoto_ret])
                  go_ret
                  exact ⟨ret_bool HV2.out, HB2.out⟩
                | true =>
                  go_wp2_with (go_at_call 44; refine (CF.out _).mono ?_; rintro e3 w3 ⟨rfl, rfl⟩)
                  go_round
                  case rel => exact ⟨j + 1, by omega, by go_num, by have := HST.out; rw [Bool.true_and] at this; exact this⟩
                  case measure => simp [intOf]; omega
              · have hg : ll.getD j rr = rr := by rw [List.getD_eq_getElem?_getD, List.getElem?_eq_none (by omega)]; rfl
                rw [hg] at hstep
                have h13 := HLE.out.2
                have hj1 : ¬ (j : Int) < (LL : Int) := by rw [← HLLN.out]; omega
                have hj2 : decide ((j : Int) < (LL : Int)) = false := decide_eq_false hj1
                have hj3 : ¬ j < LL := by omega
                obtain ⟨fv, hfv⟩ : ∃ fv, fitsF rr kp = fv := ⟨_, rfl⟩
                rw [hfv] at hstep
                have CF := hide (show ∀ w1, Calls Tryd.prog 44 #[.int .i64 (rr : Int), .int .i64 kp] w1 fun e w' => e = .returned (.bool fv) ∧ w1 = w' from fun w1 => by have := fits_any rr kp h13 w1; rw [hfv] at this; exact this)
                have HST := hide hstep
                clear hg hstep hfv hjl
                cases fv with
                | false =>
                  have HV2 := hide (show false = q by
                    rw [← HQ.out]
                    refine (kidsF_fit ?_).symm
                    rw [HK.out, HL.out, HSH.out, HFD.out]
                    have := HST.out
                    rw [Bool.false_and] at this
                    exact this.symm)
                  go_wp2_with (go_at_call 44; refine (CF.out _).mono ?_; rintro e3 w3 ⟨rfl, rfl⟩)
                  (try rw [Exit.noGoto_ret])
                  go_ret
                  exact ⟨ret_bool HV2.out, HB2.out⟩
                | true =>
                  go_wp2_with (go_at_call 44; refine (CF.out _).mono ?_; rintro e3 w3 ⟨rfl, rfl⟩)
                  go_round
                  case rel => exact ⟨j + 1, by omega, by go_num, by have := HST.out; rw [Bool.true_and] at this; exact this⟩
                  case measure => simp [intOf]; omega
            · obtain rfl : L = j := by omega
              have HFQ := hide (show fq = true by
                rw [← hfit.out, List.drop_of_length_le (show x.kids.length ≤ L by rw [HL.out]; omega)]
                cases ll.drop L <;> rfl)
              clear hfit hlt
              have hfq : fq = true := HFQ.out
              have HE := hide (show q = (if K = 16 then ((atN ts (x.kids.getD 1 0)).kind == 17 || (atN ts (x.kids.getD 2 0)).kind == 4) else if K = 8 ∧ L = 3 then !(dangles ts (x.kids.getD 1 0)) else true) by
                rw [← HQ.out, ← HK.out, ← HL.out]
                refine kidsF_end (by rw [HK.out]; exact HKD.out) (by rw [HK.out, HL.out, HSH.out]; exact hlen) (by rw [HK.out, HL.out, HSH.out, HFD.out]; exact hfq))
              clear hfq
              by_cases h16 : K = 16
              · have hL3 : L = 3 := by
                  have h1 := HSH.out
                  rw [h16] at h1
                  have h2 : ([8, 11, 12], 0) = (ll, rr) := h1
                  injection h2 with h3 h4
                  have h5 : fitAll ts ll rr x.kids = true := HFD.out.trans HFQ.out
                  rw [← h3, ← h4] at h5
                  have h6 := fit_len _ _ h5
                  rw [HL.out] at h6
                  rw [← h3] at hlen
                  have : ([8, 11, 12] : List Nat).length = 3 := rfl
                  omega
                obtain ⟨y1, p1, k1, g1, e1, l1, c1⟩ := HKID.out 1 (by omega)
                obtain ⟨y2, p2, k2, g2, e2, l2, c2⟩ := HKID.out 2 (by omega)
                have hp1 := HCEL.out 1 y1 g1
                have hp2 := HCEL.out 2 y2 g2
                rw [e1] at hp1
                rw [e2] at hp2
                have HV := hide (show q = (k1 == 17 || k2 == 4) by
                  rw [HE.out, if_pos h16, List.getD_eq_getElem?_getD, g1, List.getD_eq_getElem?_getD, g2, Option.getD_some, Option.getD_some, e1, e2, c1.1, c2.1])
                have hk1 := c1.2
                have hk2 := c2.2
                have hi1 : (1 : Int) < (L : Int) := by omega
                have hi2 : (2 : Int) < (L : Int) := by omega
                clear g1 g2 e1 e2 c1 c2
                subst h16
                subst hL3
                by_cases hq1 : k1 = 17
                · have e5 : (k1 == 17) = true := by rw [hq1]; rfl
                  have HV2 := hide (show true = q by rw [HV.out, hq1]; rfl)
                  clear hq1
                  go_wp2_with fail
                  go_quiet (fail)
                  go_wp2_with fail
                  go_ret
                  exact ⟨ret_bool HV2.out, below_drewN HB2.out _⟩
                · have e5 : (k1 == 17) = false := beq_eq_false_iff_ne.2 hq1
                  have HV2 := hide (show (k2 == 4) = q by rw [HV.out, beq_eq_false_iff_ne.2 hq1]; rfl)
                  clear hq1
                  go_wp2_with fail
                  go_quiet (fail)
                  go_wp2_with fail
                  go_ret
                  exact ⟨ret_bool HV2.out, below_drewN HB2.out _⟩
              by_cases h8 : K = 8 ∧ L = 3
              · obtain ⟨h81, h83⟩ := h8
                obtain ⟨y1, p1, k1, g1, e1, l1, c1⟩ := HKID.out 1 (by omega)
                have hp1 := HCEL.out 1 y1 g1
                rw [e1] at hp1
                obtain ⟨dq, hdq⟩ : ∃ dq, dangles ts (p1 : Int) = dq := ⟨_, rfl⟩
                have HV := hide (show (!dq) = q by
                  rw [HE.out, if_neg h16, if_pos ⟨h81, h83⟩, List.getD_eq_getElem?_getD, g1, Option.getD_some, e1, hdq])
                have hi1 : (1 : Int) < (L : Int) := by omega
                have CD := hide (fun (wx : World) (hN : NdsR wx B (some ⟨b, o, none⟩) n ts) (hB : B ≤ wx.heap.size) => dangles_any (c := c) hN hB HF.out HKL.out l1.2 hdq)
                have HL1 := hide l1
                clear g1 e1 c1 hdq l1
                subst h81
                subst h83
                have e16 : ((8 : Int) == 16) = false := rfl
                have hND := hide (HN2.out.below ((Below.refl B w2).drew))
                have hwx : w.heap.size < w2.heap.size := by omega
                rw [hak] at q7
                have CDx := hide (CD.out w2.drew hND.out (show B ≤ w2.drew.heap.size from hbs))
                go_wp2_with fail
                go_region_held3 (fun w' => w'.cell? ⟨w.heap.size, 0, none⟩ = some (.slice (some ⟨b, o, none⟩) n c) ∧ w'.cell? ⟨X, 7, none⟩ = some (.slice (some ⟨bk, ok, none⟩) 3 s.ck) ∧ w'.cell? ⟨bk, ok + 1, none⟩ = some (.int .i64 (p1 : Int)))
                  (first | (exact ⟨qb, q7, hp1⟩) | (exact ⟨((below_dr hb3).cell (p := ⟨w.heap.size, 0, none⟩) hwx).trans qb, ((below_dr hb3).cell (p := ⟨X, 7, none⟩) hx2).trans q7, ((below_dr hb3).cell (p := ⟨bk, ok + 1, none⟩) (show bk < w2.heap.size by omega)).trans hp1⟩) | go_keep)
                  (first | (go_at_call 45; go_split_ands; (with_reducible refine CDx.out.mono ?_); rintro e3 w3 ⟨rfl, hb3⟩))
                all_goals go_wp2_with fail
                all_goals go_ret
                all_goals exact ⟨ret_bool HV.out, HB2.out.trans ((below_dr hb3).mono (by omega))⟩
              · have e16 : (K == 16) = false := beq_eq_false_iff_ne.2 h16
                have HV2 := hide (show true = q by rw [HE.out, if_neg h16, if_neg h8])
                by_cases h81 : K = 8
                · subst h81
                  have hL3 : ((L : Int) == 3) = false := beq_eq_false_iff_ne.2 (fun e => h8 ⟨rfl, by omega⟩)
                  clear h8 h16
                  go_wp2_with fail
                  go_ret
                  exact ⟨ret_bool HV2.out, HB2.out⟩
                · have e81 : (K == 8) = false := beq_eq_false_iff_ne.2 h81
                  clear h8 h16 h81
                  go_wp2_with fail
                  go_ret
                  exact ⟨ret_bool HV2.out, HB2.out⟩
        · have hLLz : LL = 0 := by omega
          have HLLZ := hide hLLz
          clear hLLz
          go_wp2_with fail
          go_loop [40] (fun i => ∃ j : Nat, j ≤ L ∧ i = .int .i64 j ∧ Hid (fitAll ts (ll.drop j) rr (x.kids.drop j) = fq)) (fun i => L - (intOf i).toNat)
          case atStart => exact ⟨0, Nat.zero_le _, rfl, HFD.out⟩
          case round =>
            obtain ⟨j, hj, rfl, hfit⟩ := hrel
            by_cases hlt : j < L
            · obtain ⟨y, p, kp, hg0, hyp, hpl, hkp⟩ := HKID.out j hlt
              have hcy := HCEL.out j y hg0
              have hstep := hfit.out
              rw [List.drop_eq_getElem_cons (show j < x.kids.length by rw [HL.out]; exact hlt), (List.getElem?_eq_some_iff.1 hg0).2, fitAll_step, hyp, hkp.1] at hstep
              rw [hyp] at hcy
              have hck := hkp.2
              clear hg0 hyp hkp hfit
              have hj1 : ¬ (j : Int) < (LL : Int) := by omega
              have hj2 : decide ((j : Int) < (LL : Int)) = false := decide_eq_false hj1
              have hj3 : ¬ j < LL := by omega
              have hg : ll.getD j rr = rr := by rw [List.getD_eq_getElem?_getD, List.getElem?_eq_none (by rw [HLLN.out]; omega)]; rfl
              rw [hg] at hstep
              have h13 := HLE.out.2
              obtain ⟨fv, hfv⟩ : ∃ fv, fitsF rr kp = fv := ⟨_, rfl⟩
              rw [hfv] at hstep
              have CF := hide (show ∀ w1, Calls Tryd.prog 44 #[.int .i64 (rr : Int), .int .i64 kp] w1 fun e w' => e = .returned (.bool fv) ∧ w1 = w' from fun w1 => by have := fits_any rr kp h13 w1; rw [hfv] at this; exact this)
              have HST := hide hstep
              clear hg hstep hfv
              cases fv with
              | false =>
                have HV2 := hide (show false = q by
                  rw [← HQ.out]
                  refine (kidsF_fit ?_).symm
                  rw [HK.out, HL.out, HSH.out, HFD.out]
                  have := HST.out
                  rw [Bool.false_and] at this
                  exact this.symm)
                go_wp2_with (go_at_call 44; refine (CF.out _).mono ?_; rintro e3 w3 ⟨rfl, rfl⟩)
                (try rw [Exit.noGoto_ret])
                go_ret
                exact ⟨ret_bool HV2.out, HB2.out⟩
              | true =>
                go_wp2_with (go_at_call 44; refine (CF.out _).mono ?_; rintro e3 w3 ⟨rfl, rfl⟩)
                go_round
                case rel => exact ⟨j + 1, by omega, by go_num, by have := HST.out; rw [Bool.true_and] at this; exact this⟩
                case measure => simp [intOf]; omega
            · obtain rfl : L = j := by omega
              have HFQ := hide (show fq = true by
                rw [← hfit.out, List.drop_of_length_le (show x.kids.length ≤ L by rw [HL.out]; omega)]
                cases ll.drop L <;> rfl)
              clear hfit hlt
              have hfq : fq = true := HFQ.out
              have HE := hide (show q = (if K = 16 then ((atN ts (x.kids.getD 1 0)).kind == 17 || (atN ts (x.kids.getD 2 0)).kind == 4) else if K = 8 ∧ L = 3 then !(dangles ts (x.kids.getD 1 0)) else true) by
                rw [← HQ.out, ← HK.out, ← HL.out]
                refine kidsF_end (by rw [HK.out]; exact HKD.out) (by rw [HK.out, HL.out, HSH.out]; exact hlen) (by rw [HK.out, HL.out, HSH.out, HFD.out]; exact hfq))
              clear hfq
              by_cases h16 : K = 16
              · have hL3 : L = 3 := by
                  have h1 := HSH.out
                  rw [h16] at h1
                  have h2 : ([8, 11, 12], 0) = (ll, rr) := h1
                  injection h2 with h3 h4
                  have h5 : fitAll ts ll rr x.kids = true := HFD.out.trans HFQ.out
                  rw [← h3, ← h4] at h5
                  have h6 := fit_len _ _ h5
                  rw [HL.out] at h6
                  rw [← h3] at hlen
                  have : ([8, 11, 12] : List Nat).length = 3 := rfl
                  omega
                obtain ⟨y1, p1, k1, g1, e1, l1, c1⟩ := HKID.out 1 (by omega)
                obtain ⟨y2, p2, k2, g2, e2, l2, c2⟩ := HKID.out 2 (by omega)
                have hp1 := HCEL.out 1 y1 g1
                have hp2 := HCEL.out 2 y2 g2
                rw [e1] at hp1
                rw [e2] at hp2
                have HV := hide (show q = (k1 == 17 || k2 == 4) by
                  rw [HE.out, if_pos h16, List.getD_eq_getElem?_getD, g1, List.getD_eq_getElem?_getD, g2, Option.getD_some, Option.getD_some, e1, e2, c1.1, c2.1])
                have hk1 := c1.2
                have hk2 := c2.2
                have hi1 : (1 : Int) < (L : Int) := by omega
                have hi2 : (2 : Int) < (L : Int) := by omega
                clear g1 g2 e1 e2 c1 c2
                subst h16
                subst hL3
                by_cases hq1 : k1 = 17
                · have e5 : (k1 == 17) = true := by rw [hq1]; rfl
                  have HV2 := hide (show true = q by rw [HV.out, hq1]; rfl)
                  clear hq1
                  go_wp2_with fail
                  go_quiet (fail)
                  go_wp2_with fail
                  go_ret
                  exact ⟨ret_bool HV2.out, below_drewN HB2.out _⟩
                · have e5 : (k1 == 17) = false := beq_eq_false_iff_ne.2 hq1
                  have HV2 := hide (show (k2 == 4) = q by rw [HV.out, beq_eq_false_iff_ne.2 hq1]; rfl)
                  clear hq1
                  go_wp2_with fail
                  go_quiet (fail)
                  go_wp2_with fail
                  go_ret
                  exact ⟨ret_bool HV2.out, below_drewN HB2.out _⟩
              by_cases h8 : K = 8 ∧ L = 3
              · obtain ⟨h81, h83⟩ := h8
                obtain ⟨y1, p1, k1, g1, e1, l1, c1⟩ := HKID.out 1 (by omega)
                have hp1 := HCEL.out 1 y1 g1
                rw [e1] at hp1
                obtain ⟨dq, hdq⟩ : ∃ dq, dangles ts (p1 : Int) = dq := ⟨_, rfl⟩
                have HV := hide (show (!dq) = q by
                  rw [HE.out, if_neg h16, if_pos ⟨h81, h83⟩, List.getD_eq_getElem?_getD, g1, Option.getD_some, e1, hdq])
                have hi1 : (1 : Int) < (L : Int) := by omega
                have CD := hide (fun (wx : World) (hN : NdsR wx B (some ⟨b, o, none⟩) n ts) (hB : B ≤ wx.heap.size) => dangles_any (c := c) hN hB HF.out HKL.out l1.2 hdq)
                have HL1 := hide l1
                clear g1 e1 c1 hdq l1
                subst h81
                subst h83
                have e16 : ((8 : Int) == 16) = false := rfl
                have hND := hide (HN2.out.below ((Below.refl B w2).drew))
                have hwx : w.heap.size < w2.heap.size := by omega
                rw [hak] at q7
                have CDx := hide (CD.out w2.drew hND.out (show B ≤ w2.drew.heap.size from hbs))
                go_wp2_with fail
                go_region_held3 (fun w' => w'.cell? ⟨w.heap.size, 0, none⟩ = some (.slice (some ⟨b, o, none⟩) n c) ∧ w'.cell? ⟨X, 7, none⟩ = some (.slice (some ⟨bk, ok, none⟩) 3 s.ck) ∧ w'.cell? ⟨bk, ok + 1, none⟩ = some (.int .i64 (p1 : Int)))
                  (first | (exact ⟨qb, q7, hp1⟩) | (exact ⟨((below_dr hb3).cell (p := ⟨w.heap.size, 0, none⟩) hwx).trans qb, ((below_dr hb3).cell (p := ⟨X, 7, none⟩) hx2).trans q7, ((below_dr hb3).cell (p := ⟨bk, ok + 1, none⟩) (show bk < w2.heap.size by omega)).trans hp1⟩) | go_keep)
                  (first | (go_at_call 45; go_split_ands; (with_reducible refine CDx.out.mono ?_); rintro e3 w3 ⟨rfl, hb3⟩))
                all_goals go_wp2_with fail
                all_goals go_ret
                all_goals exact ⟨ret_bool HV.out, HB2.out.trans ((below_dr hb3).mono (by omega))⟩
              · have e16 : (K == 16) = false := beq_eq_false_iff_ne.2 h16
                have HV2 := hide (show true = q by rw [HE.out, if_neg h16, if_neg h8])
                by_cases h81 : K = 8
                · subst h81
                  have hL3 : ((L : Int) == 3) = false := beq_eq_false_iff_ne.2 (fun e => h8 ⟨rfl, by omega⟩)
                  clear h8 h16
                  go_wp2_with fail
                  go_ret
                  exact ⟨ret_bool HV2.out, HB2.out⟩
                · have e81 : (K == 8) = false := beq_eq_false_iff_ne.2 h81
                  clear h8 h16 h81
                  go_wp2_with fail
                  go_ret
                  exact ⟨ret_bool HV2.out, HB2.out⟩
    · have hl1 : (L : Int) < (LL : Int) := by rw [← HLLN.out]; omega
      have hl2 : decide ((L : Int) < (LL : Int)) = true := decide_eq_true hl1
      have hl3 : L < LL := by omega
      have HV2 := hide (show false = q by
        rw [← HQ.out, kidsF_len (by rw [HK.out, HL.out, HSH.out]; exact hlen)])
      rw [hLL']
      clear hLL' hLL hkn hlen hq7
      go_wp2_with (go_at_call 43; refine (CK.out _).mono ?_; rintro e3 w3 ⟨rfl, rfl⟩)
      go_ret
      exact ⟨ret_bool HV2.out, HB2.out⟩
  · have hkd2 : isKind K = false := by simpa using hkd
    have CK := hide (show ∀ w1, Calls Tryd.prog 43 #[.int .i64 K] w1 fun e w' => e = .returned (.bool false) ∧ w1 = w' from fun w1 => by have := kinds_any K w1; rw [hkd2] at this; exact this)
    have HV2 := hide (show false = q by
      rw [← HQ.out, kidsF_kind (by rw [HK.out]; exact hkd2)])
    clear hkd hkd2 hLL' hLL hkn hq7
    go_wp2_with (go_at_call 43; refine (CK.out _).mono ?_; rintro e3 w3 ⟨rfl, rfl⟩)
    go_ret
    exact ⟨ret_bool HV2.out, HB2.out⟩
end Go.Proofs.YtelcjdblnagdgaaDoor

namespace Go.Proofs.YtelcjdblnagdgaaDoor
open Go.RowKit

theorem tot_at {ts : List Nd} {k : Nat} {x : Nd} (h : ts[k]? = some x) : kidsAll (ts.take (k + 1)) = kidsAll (ts.take k) ++ x.kids := by
  obtain ⟨hk, rfl⟩ := List.getElem?_eq_some_iff.1 h
  rw [List.take_succ_eq_append_getElem hk, kidsAll_app]
  congr 1
  simp [kidsAll]
theorem tot_le (ts : List Nd) (k : Nat) : (kidsAll (ts.take k)).length ≤ (kidsAll ts).length := by
  conv => rhs; rw [← List.take_append_drop k ts, kidsAll_app, List.length_append]
  omega
/-- where the order stands: behind k nodes, with places that are expected -/
def OrdAt (ts : List Nd) (N k : Nat) (st : List Int) : Prop := orderF ts = orderGo N k (ts.drop k) (if k = 0 then [0] else st) ∧ (k = 0 → st = [])
theorem OrdAt.end_ {ts : List Nd} {N : Nat} {st : List Int} (h : OrdAt ts N N st) (hl : ts.length = N) (hN : 0 < N) : orderF ts = st.isEmpty := by
  rw [h.1, if_neg (by omega), List.drop_of_length_le (by omega)]; rfl
theorem OrdAt.none_ {ts : List Nd} {N k : Nat} (h : OrdAt ts N k []) (hk : 0 < k) {x : Nd} (hx : ts[k]? = some x) : orderF ts = false := by
  obtain ⟨hl, rfl⟩ := List.getElem?_eq_some_iff.1 hx
  rw [h.1, if_neg (by omega), List.drop_eq_getElem_cons hl]; rfl
theorem OrdAt.bad {ts : List Nd} {N k : Nat} {s : Int} {st : List Int} (h : OrdAt ts N k (s :: st)) (hs : s ≠ (k : Int)) {x : Nd} (hx : ts[k]? = some x) : orderF ts = false := by
  have hk : k ≠ 0 := fun e => by have := h.2 e; cases this
  obtain ⟨hl, rfl⟩ := List.getElem?_eq_some_iff.1 hx
  rw [h.1, if_neg hk, List.drop_eq_getElem_cons hl, orderGo_cons, beq_eq_false_iff_ne.2 hs]; rfl
/-- a node's kids are laid: those from the j-th on -/
def OrdIn (ts : List Nd) (N k : Nat) (x : Nd) (st : List Int) : Prop := orderF ts = (kidsIn N k x.kids && orderGo N (k + 1) (ts.drop (k + 1)) (x.kids ++ st))
theorem OrdAt.zero {ts : List Nd} {N : Nat} {x : Nd} {st : List Int} (h : OrdAt ts N 0 st) (hx : ts[0]? = some x) : st = [] ∧ OrdIn ts N 0 x [] := by
  obtain ⟨hl, rfl⟩ := List.getElem?_eq_some_iff.1 hx
  refine ⟨h.2 rfl, ?_⟩
  unfold OrdIn
  rw [h.1, if_pos rfl, List.drop_eq_getElem_cons hl, orderGo_cons]
  simp
theorem OrdAt.pop {ts : List Nd} {N k : Nat} {x : Nd} {s : Int} {st : List Int} (h : OrdAt ts N k (s :: st)) (hs : s = (k : Int)) (hx : ts[k]? = some x) : OrdIn ts N k x st := by
  have hk : k ≠ 0 := fun e => by have := h.2 e; cases this
  obtain ⟨hl, rfl⟩ := List.getElem?_eq_some_iff.1 hx
  unfold OrdIn
  rw [h.1, if_neg hk, List.drop_eq_getElem_cons hl, orderGo_cons, hs]
  simp
theorem OrdIn.bad {ts : List Nd} {N k : Nat} {x : Nd} {st : List Int} (h : OrdIn ts N k x st) {j : Nat} (hj : j < x.kids.length) (hb : ¬ ((k : Int) < x.kids[j] ∧ x.kids[j] < (N : Int))) : orderF ts = false := by
  rw [h]
  have : kidsIn N k x.kids = false := by
    unfold kidsIn
    rw [List.all_eq_false]
    exact ⟨x.kids[j], List.getElem_mem hj, by simpa using hb⟩
  rw [this]; rfl
theorem OrdIn.done {ts : List Nd} {N k : Nat} {x : Nd} {st : List Int} (h : OrdIn ts N k x st) (hk : kidsIn N k x.kids = true) : OrdAt ts N (k + 1) (x.kids ++ st) := by
  refine ⟨?_, fun e => by omega⟩
  rw [h, hk, if_neg (by omega)]; rfl
theorem kidsIn_drop {N k : Nat} {ks : List Int} {j : Nat} (h : kidsIn N k (ks.drop (j + 1)) = true) (hj : j < ks.length) (hb : (k : Int) < ks[j] ∧ ks[j] < (N : Int)) : kidsIn N k (ks.drop j) = true := by
  rw [List.drop_eq_getElem_cons hj]
  unfold kidsIn at h ⊢
  rw [List.all_cons, h, Bool.and_true]
  simpa using hb
theorem i64s_app (a b : List Int) : i64s a ++ i64s b = i64s (a ++ b) := by simp [i64s]
/-- the loop's memory: the expected places, the last one first -/
structure OrS (w wr : World) (v : Value) (st : List Int) : Prop where
  own : wr.ownsRow w.heap.size 3 1 v st.length (i64s st.reverse)
  below : Below w.heap.size w wr
end Go.Proofs.YtelcjdblnagdgaaDoor

namespace Go.Proofs.YtelcjdblnagdgaaDoor
open Go.RowKit

set_option maxHeartbeats 8000000 in
set_option maxRecDepth 100000 in
theorem order_any {A : Option Addr} {c B n : Nat} {ts : List Nd} {w : World} (hN : NdsR w B A n ts) (hB : B ≤ w.heap.size) (hc : n ≤ c) (hl : n ≤ 4096) (h0 : 0 < n) (ht : (kidsAll ts).length ≤ 1000000) {q : Bool} (hq : orderF ts = q) :
    Calls Tryd.prog 24 #[.agg #[.slice A n c]] w fun e w' => e = .returned (.bool q) ∧ Below w.heap.size w w' := by
  obtain ⟨W, hW⟩ : ∃ W, w.alloc (.cells #[.slice A n c] 24) = W := ⟨_, rfl⟩
  have hbW : Below w.heap.size w W := by rw [← hW]; exact (Below.refl _ _).alloc (Nat.le_refl _) _
  have hsW : W.heap.size = w.heap.size + 1 := by rw [← hW]; simp
  have hNW := hide ((hN.below (hbW.mono hB)))
  have hcW : W.cell? ⟨w.heap.size, 0, none⟩ = some (.slice A n c) := by rw [← hW, World.cell?_alloc_at _ _ _ _ rfl]; rfl
  have HQ := hide hq
  have HBW := hide hbW
  have HT := hide ht
  have HTS := hide hN.1
  have HTL := hide (tot_le ts)
  obtain ⟨i0, hi, hz0, hz1, hz2⟩ := info_parts Tryd.info_int
  have HI := hide (And.intro hi (And.intro hz0 (And.intro hz1 hz2)))
  have HB := hide hB
  clear hq hbW ht hN hi hz0 hz1 hz2
  go_enter Tryd.func24, Tryd.ntmps24
  go_upto_region 1 with (fail)
  have HW := hide hW
  clear hW
  go_wp2_with fail
  go_loopw [3, 10] (fun v i wr => ∃ (k : Nat) (st : List Int), k ≤ n ∧ i = .int .i64 k ∧ Hid (OrdAt ts n k st) ∧ Hid (st.length ≤ (kidsAll (ts.take k)).length) ∧ Hid (OrS W wr v st)) (fun _ i _ => n - (intOf i).toNat)
  case atStart => exact ⟨0, [], Nat.zero_le _, rfl, ⟨by unfold orderF; rw [HTS.out, if_pos rfl, List.drop_zero], fun _ => rfl⟩, Nat.zero_le _, ⟨World.ownsRow_nil _ _ _ _, Below.refl _ _⟩⟩
  case round =>
    obtain ⟨k, st, hk, rfl, hst, htot, hS⟩ := hrel
    by_cases hlt : k < n
    · have hbr := hS.out.below
      obtain ⟨b, o, x, s, rfl, hbB, hx, hC, hR⟩ := (hNW.out.below (hbr.mono (by omega))).get hlt
      obtain ⟨kc0, kc1, kc2, kc3, kc4, kc5, kc6, kc7⟩ := hC
      have hsr := hbr.size
      have HBR := hide hbr
      have hbx : wr.cell? ⟨w.heap.size, 0, none⟩ = some (.slice (some ⟨b, o, none⟩) n c) := (hbr.cell (p := ⟨w.heap.size, 0, none⟩) (show w.heap.size < W.heap.size by omega)).trans hcW
      have HX' := hide hx
      have HR := hide hR
      have htot2 := htot.out
      have hkl : x.kids.length ≤ 1000000 ∧ (x.kids ++ st).length ≤ (kidsAll (ts.take (k + 1))).length := by
        have h1 := HTL.out (k + 1)
        have h2 := HT.out
        rw [tot_at HX'.out, List.length_append] at h1 ⊢
        rw [List.length_append]
        omega
      have hkl1 := hkl.1
      have HKL := hide hkl.2
      have hst6 : st.length ≤ 1000000 := by have := HTL.out k; have := HT.out; omega
      clear hbr hx hR hkl htot2
      go_upto_region 5 with (fail)
      obtain ⟨W1, hW1⟩ : ∃ W1, wr.alloc (.cells #[.int .i64 x.kind, .string ⟨x.name.toArray⟩, .slice s.As x.str.length s.cs, .int .i64 x.nk, .int .i64 x.nn, .bool x.neg, .slice s.Am x.mag.length s.cm, .slice s.Ak x.kids.length s.ck] 42) = W1 := ⟨_, rfl⟩
      rw [hW1]
      have hbW1 : Below wr.heap.size wr W1 := by rw [← hW1]; exact (Below.refl _ _).alloc (Nat.le_refl _) _
      have hs1 : W1.heap.size = wr.heap.size + 1 := by rw [← hW1]; simp
      have p7 : W1.cell? ⟨wr.heap.size, 7, none⟩ = some (.slice s.Ak x.kids.length s.ck) := by rw [← hW1, World.cell?_alloc_at _ _ _ _ rfl]; rfl
      have hbx1 : W1.cell? ⟨w.heap.size, 0, none⟩ = some (.slice (some ⟨b, o, none⟩) n c) := (hbW1.cell (p := ⟨w.heap.size, 0, none⟩) (show w.heap.size < wr.heap.size by omega)).trans hbx
      have HS1 := hide (show OrS W W1 u3 st from ⟨by rw [← hW1]; exact hS.out.own.alloc _, HBR.out.trans (hbW1.mono hsr)⟩)
      have hne1 : u3.ownBlock ≠ some wr.heap.size := fun e => by have := (hS.out.own.lt _ e).2; omega
      have HRW := hide (HR.out.back (HBR.out.mono (by omega)))
      have HNE := hide hne1
      clear hW1 hbW1 hne1 kc0 kc1 kc2 kc3 kc4 kc5 kc6 kc7 hbx HR hS
      go_upto_if 16 with (fail)
      go_cut [3] (fun v' wx => wx = W1 ∧ ∃ st', Hid (OrdIn ts n k x st') ∧ Hid (OrS W W1 v' st') ∧ v'.ownBlock ≠ some wr.heap.size ∧ Hid ((x.kids ++ st').length ≤ (kidsAll (ts.take (k + 1))).length))
      case first =>
        by_cases hk0 : k = 0
        · have e0 : decide ((0 : Int) < (k : Int)) = false := decide_eq_false (by omega)
          have e1 : decide (0 < k) = false := decide_eq_false (by omega)
          have e2 : ¬ 0 < k := by omega
          have HK0 := hide hk0
          clear hk0
          go_wp2_with fail
          go_meet
          refine ⟨rfl, [], ?_, ?_, HNE.out, ?_⟩
          · have := hst.out; rw [HK0.out] at this ⊢; exact (this.zero (by rw [← HK0.out]; exact HX'.out)).2
          · have := hst.out; rw [HK0.out] at this; obtain rfl := (this.zero (by rw [← HK0.out]; exact HX'.out)).1; exact HS1.out
          · have := HKL.out; show (x.kids ++ []).length ≤ _; rw [List.length_append] at this ⊢; simp only [List.length_nil]; omega
        · have e0 : decide ((0 : Int) < (k : Int)) = true := decide_eq_true (by omega)
          have e1 : decide (0 < k) = true := decide_eq_true (by omega)
          have e2 : 0 < k := by omega
          have HK0 := hide hk0
          clear hk0
          cases st with
          | nil =>
            obtain ⟨Av, cv, rfl, _, _⟩ := own_shape HS1.out.own
            have HF := hide (show false = q from by rw [← HQ.out]; exact (hst.out.none_ e2 HX'.out).symm)
            go_wp2_with fail
            go_ret
            exact ⟨ret_bool HF.out, HBW.out.trans (HS1.out.below.mono (by omega))⟩
          | cons s0 st =>
            obtain ⟨g, cv, hv, hg1, hg2⟩ := HS1.out.own.form (by simp)
            subst hv
            have hce : W1.cell? ⟨g, st.length, none⟩ = some (.int .i64 s0) := by
              rw [HS1.out.own.cellAt _ (by simp)]
              simp [i64s]
            have hcv : st.length ≤ cv := by
              obtain ⟨_, _, e, h, _⟩ := own_shape HS1.out.own
              injection e with _ _ e
              subst e
              simp at h
              omega
            have hln : (s0 :: st).length = st.length + 1 := rfl
            rw [hln]
            have hst7 : st.length ≤ 1000000 := by simp at hst6; omega
            clear hln
            by_cases hs0 : s0 = (k : Int)
            · subst hs0
              go_wp2_with fail
              go_meet
              refine ⟨rfl, st, hst.out.pop rfl HX'.out, ⟨?_, HS1.out.below⟩, HNE.out, ?_⟩
              · have := own_pre HS1.out.own (j := st.length) (by simp)
                have e : (i64s ((↑k : Int) :: st).reverse).take st.length = i64s st.reverse := by simp [i64s]
                rw [e] at this
                exact this
              · have h9 : (x.kids ++ ((k : Int) :: st)).length ≤ (kidsAll (ts.take (k + 1))).length := HKL.out
                rw [List.length_append, List.length_cons] at h9
                show (x.kids ++ st).length ≤ _
                rw [List.length_append]
                omega
            · have e3 : (s0 == (k : Int)) = false := beq_eq_false_iff_ne.2 hs0
              have e4 : (s0 != (k : Int)) = true := bne_iff_ne.2 hs0
              have HF := hide (show false = q from by rw [← HQ.out]; exact (hst.out.bad hs0 HX'.out).symm)
              clear hs0
              go_wp2_with fail
              go_ret
              exact ⟨ret_bool HF.out, HBW.out.trans (HS1.out.below.mono (by omega))⟩
      case rest =>
        obtain ⟨rfl, st', hin, hS, hne, htot3⟩ := hcut
        have hkl2 : (x.kids ++ st').length ≤ 1000000 := by have := htot3.out; have := HTL.out (k + 1); have := HT.out; omega
        have HKL2 := hide hkl2
        obtain ⟨X, hX⟩ : ∃ X, wr.heap.size = X := ⟨_, rfl⟩
        rw [hX] at hne p7 hs1
        rw [hX]
        have HX := hide hX
        have HNE2 := hide hne
        have HP7 := hide p7
        have HBX := hide hbx1
        have hsWX : W.heap.size ≤ X := by omega
        have HIN := hide hin.out
        have htot4 := hide htot3.out
        clear hX hkl2 hne HKL HNE hin htot3
        go_wp2_with fail
        clear p7 hbx1
        go_loopw [3, 6] (fun v i wr => ∃ (j : Nat) (z : Int), j ≤ x.kids.length ∧ i = .int .i64 z ∧ z = (j : Int) - 1 ∧ Hid (OrS W wr v (x.kids.drop j ++ st')) ∧ Hid (v.ownBlock ≠ some X) ∧ Hid (kidsIn n k (x.kids.drop j) = true) ∧ wr.cell? ⟨X, 7, none⟩ = some (.slice s.Ak x.kids.length s.ck) ∧ X < wr.heap.size) (fun _ i _ => (intOf i + 1).toNat)
        case atStart => exact ⟨x.kids.length, _, Nat.le_refl _, rfl, rfl, by rw [List.drop_length]; exact hS.out, HNE2.out, by rw [List.drop_length]; rfl, HP7.out, by omega⟩
        case round =>
          obtain ⟨j, z, hj, rfl, hz, hSi, hni, hki, hp7, hXl⟩ := hrel
          have hbi := hSi.out.below
          have hbxi : wr.cell? ⟨w.heap.size, 0, none⟩ = some (.slice (some ⟨b, o, none⟩) n c) := (hbi.cell (p := ⟨w.heap.size, 0, none⟩) (show w.heap.size < W.heap.size by omega)).trans hcW
          have HBI := hide hbi
          by_cases hj0 : j = 0
          · obtain rfl : z = -1 := by omega
            have hkk := hide (show kidsIn n k x.kids = true by have := hki.out; rw [hj0] at this; exact this)
            have hSk := hide (show OrS W wr u3 (x.kids ++ st') by have := hSi.out; rw [hj0] at this; exact this)
            clear hj0 hbi hSi hki hz
            go_wp2_with fail
            go_roundw
            case rel => exact ⟨k + 1, x.kids ++ st', by omega, by go_num, HIN.out.done hkk.out, htot4.out, hSk.out⟩
            case measure => simp [intOf]; omega
          · obtain ⟨m, rfl⟩ : ∃ m, j = m + 1 := ⟨j - 1, by omega⟩
            obtain rfl : z = (m : Int) := by omega
            obtain ⟨bk, ok, hak, hbk, hck⟩ := (HRW.out.below (hbi.mono (by omega))).kids.spotK (by omega)
            have hcm := hck m (by omega)
            have hck2 := HRW.out.ck.1
            have HDR := hide (List.drop_eq_getElem_cons (show m < x.kids.length by omega))
            have hmk : m < x.kids.length := by omega
            have HBAD : Hid (¬ ((k : Int) < x.kids[m] ∧ x.kids[m] < (n : Int)) → orderF ts = false) := fun hb => HIN.out.bad hmk hb
            have HGD : Hid ((k : Int) < x.kids[m] ∧ x.kids[m] < (n : Int) → kidsIn n k (x.kids.drop m) = true) := fun hb => kidsIn_drop hki.out hmk hb
            rw [hak] at hp7
            have HAK := hide hak
            clear hak
            obtain ⟨y, hy⟩ : ∃ y, x.kids[m] = y := ⟨_, rfl⟩
            rw [hy] at hcm HDR HBAD HGD
            clear hck hy hki hbi hj0 hz
            by_cases hb1 : y ≤ (k : Int)
            · have HF := hide (show false = q from by rw [← HQ.out]; exact (HBAD.out (by omega)).symm)
              go_wp2_with fail
              go_quiet (fail)
              go_wp2_with fail
              go_ret
              exact ⟨ret_bool HF.out, HBW.out.trans ((below_drewN HBI.out _).mono (by omega))⟩
            · have e5 : decide (y ≤ (k : Int)) = false := decide_eq_false hb1
              by_cases hb2 : (n : Int) ≤ y
              · have HF := hide (show false = q from by rw [← HQ.out]; exact (HBAD.out (by omega)).symm)
                have e6 : decide ((n : Int) ≤ y) = true := decide_eq_true hb2
                go_wp2_with fail
                go_quiet (fail)
                go_wp2_with fail
                go_ret
                exact ⟨ret_bool HF.out, HBW.out.trans ((below_drewN HBI.out _).mono (by omega))⟩
              · have e6 : decide ((n : Int) ≤ y) = false := decide_eq_false hb2
                have HGD2 := hide (HGD.out ⟨by omega, by omega⟩)
                go_wp2_with fail
                go_quiet (fail)
                obtain ⟨w1, hw1⟩ : ∃ w1, wr.drewN nq = w1 := ⟨_, rfl⟩
                rw [hw1]
                have hp71 : w1.cell? ⟨X, 7, none⟩ = some (.slice (some ⟨bk, ok, none⟩) x.kids.length s.ck) := by rw [← hw1]; exact hp7
                have hcm1 : w1.cell? ⟨bk, ok + m, none⟩ = some (.int .i64 y) := by rw [← hw1]; exact hcm
                have hX1 : X < w1.heap.size := by rw [← hw1]; exact hXl
                have HS1 := hide (show OrS W w1 u3 (x.kids.drop (m + 1) ++ st') by rw [← hw1]; exact ⟨own_drewN' hSi.out.own _, below_drewN hSi.out.below _⟩)
                have HX1 := hide hX1
                have hln : (x.kids.drop (m + 1) ++ st').length + 1 ≤ 1000000 := by
                  have := HKL2.out
                  rw [List.length_append] at this ⊢
                  rw [List.length_drop]
                  omega
                have HLN := hide hln
                obtain ⟨hi, hz0, hz1, hz2⟩ := HI.out
                clear hw1 hcm hSi HBI hXl hln
                go_wp2_with (at_builtin; refine wpList_litK rfl _ _ 27 rfl W.heap.size 3 i0 (.int .i64 0) 1 8 Tryd.underlying27 hi hz0 hz1 hz2 rfl (by decide) u3 _ _ rfl (by exact HS1.out.own) HS1.out.below.size [.int .i64 y] 1 1 rfl rfl rfl (by have := HLN.out; omega) (by decide) ?_; intro v' w' ho' hk')
                have hkp := hide hk'
                have hp8 := (hk'.cell (p := ⟨X, 7, none⟩) hX1 hni.out).trans hp71
                have hX2 : X < w'.heap.size := Nat.lt_of_lt_of_le hX1 hk'.size
                have HO := hide ho'
                clear hk' ho' hp71 hcm1 hX1 hi hz0 hz1 hz2
                go_wp2_with fail
                go_roundw
                case rel =>
                  refine ⟨m, _, by omega, rfl, rfl, ⟨?_, ?_⟩, hkp.out.apart HX1.out hni.out, HGD2.out, by rw [HAK.out]; exact hp8, hX2⟩
                  · have e : i64s (x.kids.drop (m + 1) ++ st').reverse ++ [.int .i64 y] = i64s (x.kids.drop m ++ st').reverse := by rw [HDR.out]; simp [i64s]
                    have e2 : (x.kids.drop (m + 1) ++ st').length + 1 = (x.kids.drop m ++ st').length := by rw [HDR.out]; simp
                    have := HO.out
                    rw [e, e2] at this
                    exact this
                  · exact HS1.out.below.trans ((hkp.out.below (own_ge HS1.out.own) HS1.out.below.size))
                case measure => simp [intOf]
    · obtain rfl : k = n := by omega
      have HF := hide (show st.isEmpty = q from by rw [← HQ.out]; exact (hst.out.end_ HTS.out h0).symm)
      obtain ⟨Av, cv, rfl, _, _⟩ := own_shape hS.out.own
      go_wp2_with fail
      go_ret
      refine ⟨ret_bool ?_, HBW.out.trans (hS.out.below.mono (by omega))⟩
      rw [← HF.out]
      cases st <;> simp <;> omega
end Go.Proofs.YtelcjdblnagdgaaDoor

namespace Go.Proofs.YtelcjdblnagdgaaDoor
open Go.RowKit

theorem kids_le {ts : List Nd} (h : (kidsAll ts).length ≤ 1000000) : ∀ x ∈ ts, x.kids.length ≤ 1000000 := by
  intro x hx
  obtain ⟨k, hk, rfl⟩ := List.getElem_of_mem hx
  have h1 := tot_at (List.getElem?_eq_getElem hk)
  have h2 := tot_le ts (k + 1)
  rw [h1, List.length_append] at h2
  omega
theorem mayF_nil {ts : List Nd} (h : ts.length = 0) : mayF ts = false := by
  have := List.length_eq_zero_iff.1 h
  subst this; rfl
theorem mayF_of {ts : List Nd} {x : Nd} (h : ts[0]? = some x) : mayF ts = (decide (ts.length ≤ 4096) && x.kind == 1 && orderF ts && eachF ts 0 ts && decide (nestD ts ≤ 48)) := by
  cases ts with
  | nil => cases h
  | cons y r => obtain rfl : y = x := Option.some.inj h; rfl
theorem each_step {ts : List Nd} {k : Nat} {x : Nd} (hx : ts[k]? = some x) : eachF ts k (ts.drop k) = (!(decide (0 < k) && x.kind == 1) && fieldsF x && kidsF ts x && eachF ts (k + 1) (ts.drop (k + 1))) := by
  obtain ⟨hl, rfl⟩ := List.getElem?_eq_some_iff.1 hx
  rw [List.drop_eq_getElem_cons hl]; rfl
set_option maxHeartbeats 8000000 in
set_option maxRecDepth 100000 in
theorem may_any {A : Option Addr} {c B n : Nat} {ts : List Nd} {w : World} (hN : NdsR w B A n ts) (hB : B ≤ w.heap.size) (hc : n ≤ c) (ht : (kidsAll ts).length ≤ 1000000) {q : Bool} (hq : mayF ts = q) :
    Calls Tryd.prog 11 #[.agg #[.slice A n c]] w (BmP q w) := by
  have hln := hN.1
  by_cases h0 : n = 0
  · subst h0
    rw [mayF_nil hln] at hq
    subst hq
    clear hN hln ht
    go_enter Tryd.func11, Tryd.ntmps11
    go_wp2_with fail
    go_ret
    exact ⟨rfl, by go_grown⟩
  by_cases h4 : 4096 < n
  · have HF := hide (show false = q by
      obtain ⟨x, hx⟩ : ∃ x, ts[0]? = some x := ⟨_, List.getElem?_eq_getElem (by omega)⟩
      rw [← hq, mayF_of hx, hln, decide_eq_false (by omega)]; rfl)
    have e1 : ((n : Int) == 0) = false := beq_eq_false_iff_ne.2 (by omega)
    have e2 : (4096 : Int) < (n : Int) := by omega
    have e3 : decide ((4096 : Int) < (n : Int)) = true := decide_eq_true e2
    clear hN hln ht hq
    go_enter Tryd.func11, Tryd.ntmps11
    go_wp2_with fail
    go_ret
    exact ⟨ret_bool HF.out, by go_grown⟩
  have hl : n ≤ 4096 := by omega
  obtain ⟨b, o, x0, s0, rfl, hbB, hx0, hC0, hR0⟩ := hN.get (i := 0) (by omega)
  have hkind : w.cell? ⟨b, o, none⟩ = some (.int .i64 x0.kind) := by have := hC0.k0; rw [Nat.zero_mul, Nat.add_zero] at this; exact this
  have e1 : ((n : Int) == 0) = false := beq_eq_false_iff_ne.2 (by omega)
  have e2 : ¬ (4096 : Int) < (n : Int) := by omega
  have e3 : decide ((4096 : Int) < (n : Int)) = false := decide_eq_false e2
  rw [mayF_of hx0, hln, decide_eq_true hl, Bool.true_and] at hq
  obtain ⟨W, hW⟩ : ∃ W, w.alloc (.cells #[.slice (some ⟨b, o, none⟩) n c] 24) = W := ⟨_, rfl⟩
  have hbW : Below w.heap.size w W := by rw [← hW]; exact (Below.refl _ _).alloc (Nat.le_refl _) _
  have hwX : w.heap.size < W.heap.size := by rw [← hW]; simp
  have hcW : W.cell? ⟨w.heap.size, 0, none⟩ = some (.slice (some ⟨b, o, none⟩) n c) := by rw [← hW, World.cell?_alloc_at _ _ _ _ rfl]; rfl
  have hk0 : W.cell? ⟨b, o, none⟩ = some (.int .i64 x0.kind) := (hbW.cell (p := ⟨b, o, none⟩) (show b < w.heap.size by omega)).trans hkind
  have HBW := hide hbW
  have HN := hide hN
  have HNW := hide (hN.below (hbW.mono hB))
  have HB := hide hB
  have HT := hide ht
  have HLN := hide hln
  have HX0 := hide hx0
  have HQ := hide hq
  clear hx0 hC0 hR0 hkind hbW hN hB ht hln hq
  go_enter Tryd.func11, Tryd.ntmps11
  go_upto_region 1 with (fail)
  have HW := hide hW
  clear hW
  obtain ⟨K, hK⟩ : ∃ K, x0.kind = K := ⟨_, rfl⟩
  rw [hK] at hk0
  have HK := hide hK
  clear hK
  by_cases hk1 : K = 1
  · subst hk1
    have hk2 : ((1 : Int) != 1) = false := rfl
    obtain ⟨oq, hoq⟩ : ∃ oq, orderF ts = oq := ⟨_, rfl⟩
    have CO := hide (order_any HNW.out (by have := HB.out; omega) hc hl (by omega) HT.out hoq)
    have HOQ := hide hoq
    clear hoq
    cases oq with
    | false =>
      have HF := hide (show false = q by rw [← HQ.out, HOQ.out]; simp)
      go_wp2_with (go_at_call 24; refine CO.out.mono ?_; rintro e2 w2 ⟨rfl, hb2⟩)
      go_ret
      exact ⟨ret_bool HF.out, HBW.out.trans (hb2.mono (by omega))⟩
    | true =>
      have HFW := hide (fwd_order HOQ.out)
      have HQ2 := hide (show (eachF ts 0 ts && decide (nestD ts ≤ 48)) = q by rw [← HQ.out, HK.out, HOQ.out]; rfl)
      have HKL := hide (kids_le HT.out)
      go_upto_region 4 with (go_at_call 24; refine CO.out.mono ?_; rintro e2 w2 ⟨rfl, hb2⟩; have hcb := (hb2.cell (p := ⟨w.heap.size, 0, none⟩) hwX).trans hcW)
      have HB2 := hide hb2
      obtain ⟨eq, heq⟩ : ∃ eq, eachF ts 0 ts = eq := ⟨_, rfl⟩
      obtain ⟨nd, hnd⟩ : ∃ nd, nestD ts = nd := ⟨_, rfl⟩
      have HEQ := hide heq
      have HND := hide hnd
      have HQ3 := hide (show (eq && decide (nd ≤ 48)) = q by rw [← HQ2.out, heq, hnd])
      clear hb2 hcb hk0 heq hnd
      go_loopw [30] (fun i wr => ∃ k : Nat, k ≤ n ∧ i = .int .i64 k ∧ Hid (eachF ts k (ts.drop k) = eq) ∧ Hid (Below W.heap.size W wr)) (fun i _ => n - (intOf i).toNat)
      case atStart => exact ⟨0, Nat.zero_le _, rfl, by rw [List.drop_zero]; exact HEQ.out, HB2.out⟩
      case round =>
        obtain ⟨k, hk, rfl, hea, hbr⟩ := hrel
        have hcb := (hbr.out.cell (p := ⟨w.heap.size, 0, none⟩) hwX).trans hcW
        have hsz := hbr.out.size
        by_cases hlt : k < n
        · obtain ⟨b', o', x, s, hA, _, hx, hC, hR⟩ := (HNW.out.below (hbr.out.mono (by have := HB.out; omega))).get hlt
          injection hA with hA
          injection hA with hA1 hA2
          subst hA1 hA2
          obtain ⟨kc0, kc1, kc2, kc3, kc4, kc5, kc6, kc7⟩ := hC
          have hstep := hea.out
          rw [each_step hx] at hstep
          obtain ⟨fv, hfv⟩ : ∃ fv, fieldsF x = fv := ⟨_, rfl⟩
          obtain ⟨kv, hkv⟩ : ∃ kv, kidsF ts x = kv := ⟨_, rfl⟩
          have CF := hide (fields_any hR (by have := HB.out; omega) hfv)
          have CK := hide (fun (w3 : World) (hb3 : Below wr.heap.size wr w3) => kids_any (c := c) ((HNW.out.below (hbr.out.mono (by have := HB.out; omega))).below (hb3.mono (by have := HB.out; omega))) (Nat.le_trans (show B ≤ wr.heap.size by have := HB.out; omega) hb3.size) HFW.out HKL.out hx hkv)
          rw [hfv, hkv] at hstep
          obtain ⟨K2, hK2⟩ : ∃ K2, x.kind = K2 := ⟨_, rfl⟩
          rw [hK2] at kc0 hstep
          have HK2 := hide hK2
          have HSTEP := hide hstep
          have HX := hide hx
          have hwr : w.heap.size < wr.heap.size := by omega
          rw [hK2] at CF
          clear hx hR hfv hkv hstep hK2 hea
          by_cases hbad : 0 < k ∧ K2 = 1
          · have hg0 : (0 : Int) < (k : Int) := by omega
            have hg1 : decide ((0 : Int) < (k : Int)) = true := decide_eq_true hg0
            have hg2 : decide (0 < k) = true := decide_eq_true hbad.1
            have hg3 := hbad.1
            have hg4 : (K2 == 1) = true := by rw [hbad.2]; rfl
            have HF := hide (show false = q by
              rw [← HQ3.out, ← HSTEP.out, decide_eq_true hbad.1, hg4]; rfl)
            clear hbad
            go_wp2_with fail
            go_ret
            exact ⟨ret_bool HF.out, HBW.out.trans (hbr.out.mono (by omega))⟩
          · have hgood : (decide (0 < k) && K2 == 1) = false := by
              cases h1 : decide (0 < k) with
              | false => rfl
              | true => exact beq_eq_false_iff_ne.2 (fun e => hbad ⟨of_decide_eq_true h1, e⟩)
            have HG := hide hgood
            cases fv with
            | false =>
              have HF := hide (show false = q by rw [← HQ3.out, ← HSTEP.out]; simp)
              by_cases hk0 : 0 < k
              · have hg0 : (0 : Int) < (k : Int) := by omega
                have hg1 : decide ((0 : Int) < (k : Int)) = true := decide_eq_true hg0
                have hg2 : decide (0 < k) = true := decide_eq_true hk0
                have hg4 : (K2 == 1) = false := beq_eq_false_iff_ne.2 (fun e => hbad ⟨hk0, e⟩)
                clear hbad hgood
                go_wp2_with (go_at_call 25; refine CF.out.mono ?_; rintro e3 w3 ⟨rfl, hb3⟩)
                go_ret
                exact ⟨ret_bool HF.out, HBW.out.trans ((hbr.out.trans (hb3.mono hsz)).mono (by omega))⟩
              · have hg0 : ¬ (0 : Int) < (k : Int) := by omega
                have hg1 : decide ((0 : Int) < (k : Int)) = false := decide_eq_false hg0
                have hg2 : decide (0 < k) = false := decide_eq_false hk0
                clear hbad hgood
                go_wp2_with (go_at_call 25; refine CF.out.mono ?_; rintro e3 w3 ⟨rfl, hb3⟩)
                go_ret
                exact ⟨ret_bool HF.out, HBW.out.trans ((hbr.out.trans (hb3.mono hsz)).mono (by omega))⟩
            | true =>
              have HS2 := hide (show (kv && eachF ts (k + 1) (ts.drop (k + 1))) = eq by rw [← HSTEP.out, HG.out]; rfl)
              cases kv with
              | false =>
                have HF := hide (show false = q by rw [← HQ3.out, ← HS2.out]; rfl)
                by_cases hk0 : 0 < k
                · have hg0 : (0 : Int) < (k : Int) := by omega
                  have hg1 : decide ((0 : Int) < (k : Int)) = true := decide_eq_true hg0
                  have hg2 : decide (0 < k) = true := decide_eq_true hk0
                  have hg4 : (K2 == 1) = false := beq_eq_false_iff_ne.2 (fun e => hbad ⟨hk0, e⟩)
                  clear hbad hgood
                  go_wp2_with (first | (go_at_call 25; refine CF.out.mono ?_; rintro e3 w3 ⟨rfl, hb3⟩; have hc3 := (hb3.cell (p := ⟨w.heap.size, 0, none⟩) hwr).trans hcb) | (go_at_call 26; refine (CK.out w3 hb3).mono ?_; rintro e4 w4 ⟨rfl, hb4⟩))
                  go_ret
                  exact ⟨ret_bool HF.out, HBW.out.trans ((hbr.out.trans ((hb3.trans (hb4.mono hb3.size)).mono hsz)).mono (by omega))⟩
                · have hg0 : ¬ (0 : Int) < (k : Int) := by omega
                  have hg1 : decide ((0 : Int) < (k : Int)) = false := decide_eq_false hg0
                  have hg2 : decide (0 < k) = false := decide_eq_false hk0
                  clear hbad hgood
                  go_wp2_with (first | (go_at_call 25; refine CF.out.mono ?_; rintro e3 w3 ⟨rfl, hb3⟩; have hc3 := (hb3.cell (p := ⟨w.heap.size, 0, none⟩) hwr).trans hcb) | (go_at_call 26; refine (CK.out w3 hb3).mono ?_; rintro e4 w4 ⟨rfl, hb4⟩))
                  go_ret
                  exact ⟨ret_bool HF.out, HBW.out.trans ((hbr.out.trans ((hb3.trans (hb4.mono hb3.size)).mono hsz)).mono (by omega))⟩
              | true =>
                have HS3 := hide (show eachF ts (k + 1) (ts.drop (k + 1)) = eq from HS2.out)
                by_cases hk0 : 0 < k
                · have hg0 : (0 : Int) < (k : Int) := by omega
                  have hg1 : decide ((0 : Int) < (k : Int)) = true := decide_eq_true hg0
                  have hg2 : decide (0 < k) = true := decide_eq_true hk0
                  have hg4 : (K2 == 1) = false := beq_eq_false_iff_ne.2 (fun e => hbad ⟨hk0, e⟩)
                  clear hbad hgood
                  go_wp2_with (first | (go_at_call 25; refine CF.out.mono ?_; rintro e3 w3 ⟨rfl, hb3⟩; have hc3 := (hb3.cell (p := ⟨w.heap.size, 0, none⟩) hwr).trans hcb) | (go_at_call 26; refine (CK.out w3 hb3).mono ?_; rintro e4 w4 ⟨rfl, hb4⟩))
                  go_roundw
                  case rel => exact ⟨k + 1, by omega, by go_num, HS3.out, hbr.out.trans ((hb3.trans (hb4.mono hb3.size)).mono hsz)⟩
                  case measure => simp [intOf]; omega
                · have hg0 : ¬ (0 : Int) < (k : Int) := by omega
                  have hg1 : decide ((0 : Int) < (k : Int)) = false := decide_eq_false hg0
                  have hg2 : decide (0 < k) = false := decide_eq_false hk0
                  clear hbad hgood
                  go_wp2_with (first | (go_at_call 25; refine CF.out.mono ?_; rintro e3 w3 ⟨rfl, hb3⟩; have hc3 := (hb3.cell (p := ⟨w.heap.size, 0, none⟩) hwr).trans hcb) | (go_at_call 26; refine (CK.out w3 hb3).mono ?_; rintro e4 w4 ⟨rfl, hb4⟩))
                  go_roundw
                  case rel => exact ⟨k + 1, by omega, by go_num, HS3.out, hbr.out.trans ((hb3.trans (hb4.mono hb3.size)).mono hsz)⟩
                  case measure => simp [intOf]; omega
        · obtain rfl : n = k := by omega
          have hea2 := hide (show true = eq by
            rw [← hea.out, List.drop_of_length_le (by rw [HLN.out]; omega)]; rfl)
          obtain ⟨dl, hdl⟩ : ∃ dl, deepF ts = dl := ⟨_, rfl⟩
          have CD := hide (deep_any (c := c) (HNW.out.below (hbr.out.mono (by have := HB.out; omega))) (by have := HB.out; omega) (by omega) hl HFW.out HKL.out hdl)
          have hmx := hide (show maxL dl = nd by rw [← hdl]; exact HND.out)
          have HR2 := hide (show decide (nd ≤ 48) = q by rw [← HQ3.out, ← hea2.out]; rfl)
          clear hdl hea
          go_wp2_with (first | (go_at_call 28; refine CD.out.mono ?_; rintro e3 w3 ⟨A3, c3, rfl, hq3, hc3, hr3, hb3⟩) | (go_at_call 27; refine (max_any hq3 (by omega) (by omega) hr3 hmx.out).mono ?_; rintro e4 w4 ⟨rfl, rfl⟩))
          go_ret
          refine ⟨ret_bool ?_, HBW.out.trans ((hbr.out.trans (hb3.mono hsz)).mono (by omega))⟩
          rw [← HR2.out, Bool.eq_iff_iff]
          simp
          try omega
  · have hk2 : (K != 1) = true := bne_iff_ne.2 hk1
    have HF := hide (show false = q by rw [← HQ.out, HK.out, beq_eq_false_iff_ne.2 hk1]; rfl)
    clear hk1
    go_wp2_with fail
    go_ret
    exact ⟨ret_bool HF.out, HBW.out⟩
end Go.Proofs.YtelcjdblnagdgaaDoor
