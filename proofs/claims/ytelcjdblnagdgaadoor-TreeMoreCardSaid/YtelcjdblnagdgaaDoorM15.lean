/- Joined for a claim: TPrC, PAscii, PAscii2, TPrint, TPrintA, TNest, TKidsW. -/
import Derived.Test.YtelcjdblnagdgaaDoorM14
import Derived.Test.YtelcjdblnagdgaaDoorM09
import Derived.Deep.CutBlock
import Derived.Deep.DeepCutAuto
import Derived.Test.YtelcjdblnagdgaaDoorM02
import Derived.Test.YtelcjdblnagdgaaDoorShelf
import Derived.Test.YtelcjdblnagdgaaDoorM12
namespace Go.Proofs.YtelcjdblnagdgaaDoor
open Go.RowKit

theorem sizes_mem {l : List Tr} {t : Tr} (h : t ∈ l) : t.size ≤ sizes l := by
  induction l with
  | nil => cases h
  | cons a r ih =>
    rw [sizes_cons]
    rcases List.mem_cons.1 h with rfl | h
    · omega
    · have := ih h; omega
theorem len_sizes (l : List Tr) : l.length ≤ sizes l := by
  induction l with
  | nil => simp
  | cons a r ih => rw [sizes_cons, List.length_cons]; have := size_pos a; omega
theorem isKind_cases {k : Int} (h : isKind k = true) : (1 ≤ k ∧ k ≤ 20) ∨ (30 ≤ k ∧ k ≤ 53) := by
  unfold isKind at h
  simp only [Bool.or_eq_true, Bool.and_eq_true, decide_eq_true_eq] at h
  exact h
theorem kidsF_isKind {ts : List Nd} {x : Nd} (h : kidsF ts x = true) : isKind x.kind = true := by
  cases h2 : isKind x.kind with
  | true => rfl
  | false => rw [kidsF_kind h2] at h; cases h
set_option maxHeartbeats 4000000 in
set_option maxRecDepth 100000 in
theorem pnode_step {C : Cx} {m : Nat} (hN : NodeC C m) (he : eachF C.ts 0 C.ts = true) (hm6 : m ≤ 1000000) : NodeC C (m + 1) := by
  intro t k us v w hsz h hp hm
  obtain ⟨x, l⟩ := t
  obtain ⟨b, o, s, hA, hkn, hbB, hC, hR⟩ := hp.node h
  have hks := kidsS_of h hR
  have hlen : ((Tr.mk x l).laid k).kids.length = l.length := places_len (k + 1) l
  have heach := each_at C.ts 0 he k _ h.get
  have hfld : fieldsF x = true := heach.1
  have hkind : (1 ≤ x.kind ∧ x.kind ≤ 20) ∨ (30 ≤ x.kind ∧ x.kind ≤ 53) := isKind_cases (show isKind x.kind = true from kidsF_isKind (ts := C.ts) (x := (Tr.mk x l).laid k) heach.2.1)
  rw [size_mk] at hsz
  have hcnt := At.cnt he h
  have hck := hR.ck.1
  rw [hlen] at hck
  have hst : Reads w C.B 1 s.As x.str.length (u16s x.str) := hR.str
  have hmg : Reads w C.B 1 s.Am x.mag.length (n32s x.mag) := hR.mag
  have hlm : ∀ y ∈ x.mag, y < 4294967296 := hR.limb
  have hNx : Nx C m k x l s w := ⟨hN, h, fun t ht => by have := sizes_mem ht; omega, hcnt, hfld, by have := len_sizes l; omega, hm6, hks, hck, by omega⟩
  obtain ⟨kc0, kc1, kc2, kc3, kc4, kc5, kc6, kc7⟩ := hC
  rw [hlen] at kc7
  have j0 : w.cell? ⟨b, o + k * 8, none⟩ = some (.int .i64 x.kind) := kc0
  have j1 : w.cell? ⟨b, o + k * 8 + 1, none⟩ = some (.string ⟨x.name.toArray⟩) := kc1
  have j2 : w.cell? ⟨b, o + k * 8 + 2, none⟩ = some (.slice s.As x.str.length s.cs) := kc2
  have j3 : w.cell? ⟨b, o + k * 8 + 3, none⟩ = some (.int .i64 x.nk) := kc3
  have j4 : w.cell? ⟨b, o + k * 8 + 4, none⟩ = some (.int .i64 x.nn) := kc4
  have j5 : w.cell? ⟨b, o + k * 8 + 5, none⟩ = some (.bool x.neg) := kc5
  have j6 : w.cell? ⟨b, o + k * 8 + 6, none⟩ = some (.slice s.Am x.mag.length s.cm) := kc6
  have j7 : w.cell? ⟨b, o + k * 8 + 7, none⟩ = some (.slice s.Ak l.length s.ck) := kc7
  have hc0 := hp.pn.c0
  rw [hA] at hc0
  have hlt := hp.pn.lt
  have hBw := hp.blt
  have hbw : b < w.heap.size := by omega
  obtain ⟨g, hg⟩ : ∃ g, C.g = g := ⟨_, rfl⟩
  obtain ⟨n, hn⟩ : ∃ n, C.n = n := ⟨_, rfl⟩
  rw [hg, hn] at hc0
  rw [hg] at hlt
  rw [hn] at hkn
  have hkn2 : (k : Int) < (n : Int) := by omega
  obtain ⟨K, hK⟩ : ∃ K, x.kind = K := ⟨_, rfl⟩
  have e0 : prT (.mk x l) = nodeP x (prs l) := prT_mk x l
  rw [e0] at hm ⊢
  by_cases h30 : K < 30
  · have e1 : nodeP x (prs l) = stmtP x (prs l) := by unfold nodeP; rw [if_pos (by rw [hK]; exact h30)]
    rw [e1] at hm ⊢
    have CS := hide (fun (W : World) (hb : Below w.heap.size w W) => statement_any (hNx.below (hb.mono (Nat.le_of_lt hBw))) (by omega) (hp.below hb) hm)
    have CS2 := hide (show ∀ (W : World), Below w.heap.size w W → Calls Tryd.prog 46 #[.pointer (some ⟨g, 0, none⟩), .int .i64 (k : Int), .agg #[.int .i64 K, .string ⟨x.name.toArray⟩, .slice s.As x.str.length s.cs, .int .i64 x.nk, .int .i64 x.nn, .bool x.neg, .slice s.Am x.mag.length s.cm, .slice s.Ak l.length s.ck]] W (PutQ C us v W (stmtP x (prs l))) from by rw [← hK, ← hg]; exact CS.out)
    rw [hK] at j0
    rw [hg]
    clear CS hm hNx hst hmg hlm hks heach hfld hkind hcnt hR hA hp hN h he hsz hlen kc0 kc1 kc2 kc3 kc4 kc5 kc6 kc7 e0 e1 hK hg hn hck
    go_enter Tryd.func30, Tryd.ntmps30
    go_wp2_with fail
    refine (CS2.out _ ((Below.refl _ _).alloc (Nat.le_refl _) _)).mono ?_
    rintro e1 w1 ⟨rfl, v1, hp1, hk1⟩
    have HP1 := hide hp1
    have HK1 := hide hk1
    clear hp1 hk1
    go_wp2_with fail
    refine bodyPost_ret (v := .tuple #[]) (by simp [results, Tryd.results30, go_sem]) rfl ?_
    exact PutQ.back ((Below.refl _ _).alloc (Nat.le_refl _) _) ⟨rfl, v1, HP1.out, HK1.out⟩
  · have e1 : nodeP x (prs l) = exprP x (prs l) := by unfold nodeP; rw [if_neg (by rw [hK]; exact h30)]
    rw [e1] at hm ⊢
    have CS := hide (fun (W : World) (hb : Below w.heap.size w W) => expression_any (hNx.below (hb.mono (Nat.le_of_lt hBw))) (by omega) (by omega) (hst.below (hb.mono (Nat.le_of_lt hBw))) (hmg.below (hb.mono (Nat.le_of_lt hBw))) hlm (hp.below hb) hm)
    have CS2 := hide (show ∀ (W : World), Below w.heap.size w W → Calls Tryd.prog 47 #[.pointer (some ⟨g, 0, none⟩), .agg #[.int .i64 K, .string ⟨x.name.toArray⟩, .slice s.As x.str.length s.cs, .int .i64 x.nk, .int .i64 x.nn, .bool x.neg, .slice s.Am x.mag.length s.cm, .slice s.Ak l.length s.ck]] W (PutQ C us v W (exprP x (prs l))) from by rw [← hK, ← hg]; exact CS.out)
    rw [hK] at j0
    rw [hg]
    clear CS hm hNx hst hmg hlm hks heach hfld hkind hcnt hR hA hp hN h he hsz hlen kc0 kc1 kc2 kc3 kc4 kc5 kc6 kc7 e0 e1 hK hg hn hck
    go_enter Tryd.func30, Tryd.ntmps30
    go_wp2_with fail
    refine (CS2.out _ ((Below.refl _ _).alloc (Nat.le_refl _) _)).mono ?_
    rintro e1 w1 ⟨rfl, v1, hp1, hk1⟩
    have HP1 := hide hp1
    have HK1 := hide hk1
    clear hp1 hk1
    go_wp2_with fail
    refine bodyPost_ret (v := .tuple #[]) (by simp [results, Tryd.results30, go_sem]) rfl ?_
    exact PutQ.back ((Below.refl _ _).alloc (Nat.le_refl _) _) ⟨rfl, v1, HP1.out, HK1.out⟩
/-- every node that lies in a tree whose nodes are as they should be prints its tokens -/
theorem pnode_all {C : Cx} (he : eachF C.ts 0 C.ts = true) : ∀ m, m ≤ 1000000 → NodeC C m := by
  intro m
  induction m with
  | zero => intro _ t k us v w hsz; have := size_pos t; omega
  | succ m ih => intro hm; exact pnode_step (ih (by omega)) he (by omega)
end Go.Proofs.YtelcjdblnagdgaaDoor

namespace Go.Proofs.YtelcjdblnagdgaaDoor

def inkB (c : UInt8) : Bool := decide (33 ≤ c.toNat) && decide (c.toNat ≤ 126) && !(c.toNat == 34)
def strB (c : UInt8) : Bool := decide (32 ≤ c.toNat) && decide (c.toNat ≤ 126) && !(c.toNat == 34)
def inkS (s : List UInt8) : Bool := !s.isEmpty && s.all inkB
/-- a token as it may be printed: without blanks and quotes, or in quotes -/
def InkT (s : List UInt8) : Prop := inkS s = true ∨ ∃ b, s = 34 :: (b ++ [34]) ∧ b.all strB = true
def scanOk : Bool → List UInt16 → Bool
  | q, [] => !q
  | q, x :: r => decide (32 ≤ x.toNat) && decide (x.toNat ≤ 126) && (q || !(x.toNat == 32) || (!r.isEmpty && !(r.headD 0 == 32))) && scanOk (if x.toNat = 34 then !q else q) r
/-- the rest of what is printed, behind a token -/
def joinR (t : Tks) : List UInt16 := t.flatMap fun s => 32 :: ascii s
theorem to16 (c : UInt8) : c.toUInt16.toNat = c.toNat := rfl
theorem ink_scan : ∀ (s : List UInt8) (r : List UInt16), s.all inkB = true → scanOk false r = true → scanOk false (ascii s ++ r) = true := by
  intro s
  induction s with
  | nil => intro r _ h; exact h
  | cons c s ih =>
    intro r hs hr
    rw [List.all_cons, Bool.and_eq_true] at hs
    have h1 := ih r hs.2 hr
    have hc := hs.1
    unfold inkB at hc
    simp only [Bool.and_eq_true, decide_eq_true_eq, Bool.not_eq_true', beq_eq_false_iff_ne] at hc
    rw [← to16 c] at hc
    show scanOk false (c.toUInt16 :: (ascii s ++ r)) = true
    unfold scanOk
    rw [if_neg hc.2, h1, Bool.and_true]
    simp only [Bool.false_or, Bool.and_eq_true, decide_eq_true_eq, Bool.or_eq_true, Bool.not_eq_true', beq_eq_false_iff_ne]
    exact ⟨⟨by omega, hc.1.2⟩, .inl (by omega)⟩
theorem str_scan : ∀ (b : List UInt8) (r : List UInt16), b.all strB = true → scanOk false r = true → scanOk true (ascii b ++ 34 :: r) = true := by
  intro b
  induction b with
  | nil =>
    intro r _ hr
    show scanOk true (34 :: r) = true
    unfold scanOk
    rw [if_pos (by decide)]
    simpa using hr
  | cons c b ih =>
    intro r hb hr
    rw [List.all_cons, Bool.and_eq_true] at hb
    have h1 := ih r hb.2 hr
    have hc := hb.1
    unfold strB at hc
    simp only [Bool.and_eq_true, decide_eq_true_eq, Bool.not_eq_true', beq_eq_false_iff_ne] at hc
    rw [← to16 c] at hc
    show scanOk true (c.toUInt16 :: (ascii b ++ 34 :: r)) = true
    unfold scanOk
    rw [if_neg hc.2, h1, Bool.and_true]
    simp only [Bool.true_or, Bool.and_true, Bool.and_eq_true, decide_eq_true_eq]
    exact ⟨by omega, hc.1.2⟩
theorem tok_scan {s : List UInt8} (h : InkT s) {r : List UInt16} (hr : scanOk false r = true) : scanOk false (ascii s ++ r) = true := by
  rcases h with h | ⟨b, rfl, h⟩
  · unfold inkS at h
    rw [Bool.and_eq_true] at h
    exact ink_scan s r h.2 hr
  · have h1 := str_scan b r h hr
    have e : ascii (34 :: (b ++ [34])) ++ r = 34 :: (ascii b ++ 34 :: r) := by simp [ascii]
    rw [e]
    unfold scanOk
    rw [if_pos (by decide)]
    simp only [Bool.not_false, h1, Bool.and_true]
    rfl
theorem ink_head {s : List UInt8} (h : InkT s) : ∃ c r, s = c :: r ∧ c.toNat ≠ 32 := by
  rcases h with h | ⟨b, rfl, h⟩
  · cases s with
    | nil => cases h
    | cons c r =>
      refine ⟨c, r, rfl, ?_⟩
      unfold inkS at h
      simp only [List.all_cons, Bool.and_eq_true] at h
      have hc := h.2.1
      unfold inkB at hc
      simp only [Bool.and_eq_true, decide_eq_true_eq] at hc
      omega
  · exact ⟨34, _, rfl, by decide⟩
theorem join_scan : ∀ (t : Tks), (∀ s ∈ t, InkT s) → scanOk false (joinR t) = true := by
  intro t
  induction t with
  | nil => intro _; rfl
  | cons s t ih =>
    intro h
    have h1 := tok_scan (h s (List.mem_cons_self ..)) (ih fun y hy => h y (List.mem_cons_of_mem _ hy))
    obtain ⟨c, r, hs, hc⟩ := ink_head (h s (List.mem_cons_self ..))
    show scanOk false (32 :: (ascii s ++ joinR t)) = true
    unfold scanOk
    rw [if_neg (by decide), h1, hs]
    have e : ((c.toUInt16 == (32 : UInt16)) = false) := by
      rw [beq_eq_false_iff_ne]
      intro e
      apply hc
      have := congrArg UInt16.toNat e
      rw [to16] at this
      exact this
    show (_ && (_ || (!(List.isEmpty (c.toUInt16 :: (ascii r ++ joinR t))) && !((c.toUInt16 :: (ascii r ++ joinR t)).headD 0 == 32))) && true) = true
    rw [List.headD_cons, e]
    rfl
theorem putA_ne : ∀ (t : Tks) (u : List UInt16), u ≠ [] → putA u t = u ++ joinR t := by
  intro t
  induction t with
  | nil => intro u _; simp [putA, joinR]
  | cons s t ih =>
    intro u hu
    have e : putU u s = u ++ (32 :: ascii s) := by unfold putU; rw [if_neg hu]; simp
    rw [putA_cons, e, ih _ (by simp)]
    show _ = u ++ (32 :: ascii s ++ joinR t)
    simp
theorem printed {t : Tks} (h : ∀ s ∈ t, InkT s) : scanOk false (putA [] t) = true ∧ (putA [] t).head? ≠ some 32 := by
  cases t with
  | nil => exact ⟨rfl, by simp [putA]⟩
  | cons s t =>
    obtain ⟨c, r, hs, hc⟩ := ink_head (h s (List.mem_cons_self ..))
    have e : putU [] s = ascii s := by unfold putU; rw [if_pos rfl]; rfl
    rw [putA_cons, e, putA_ne _ _ (by rw [hs]; simp [ascii])]
    refine ⟨tok_scan (h s (List.mem_cons_self ..)) (join_scan t fun y hy => h y (List.mem_cons_of_mem _ hy)), ?_⟩
    rw [hs]
    show some c.toUInt16 ≠ some 32
    intro e
    apply hc
    have := congrArg UInt16.toNat (Option.some.inj e)
    rw [to16] at this
    exact this
theorem run_ink {c : UInt8} (h : isRun c.toUInt16 = true) : inkB c = true := by
  unfold isRun isLet isDigit at h
  unfold inkB
  simp only [Bool.or_eq_true, Bool.and_eq_true, decide_eq_true_eq, beq_iff_eq] at h
  simp only [Bool.and_eq_true, decide_eq_true_eq, Bool.not_eq_true', beq_eq_false_iff_ne]
  rw [to16 c] at h
  omega
theorem runF_ink {s : List UInt8} (h : runF s = true) : inkS s = true := by
  unfold runF at h
  cases s with
  | nil => cases h
  | cons c r =>
    simp only [Bool.and_eq_true] at h
    unfold inkS
    simp only [List.isEmpty_cons, Bool.not_false, Bool.true_and, List.all_cons, Bool.and_eq_true]
    refine ⟨run_ink (by unfold isRun; rw [h.1]; rfl), ?_⟩
    rw [List.all_eq_true]
    intro y hy
    exact run_ink (List.all_eq_true.1 h.2 y hy)
theorem nameF_ink {s : List UInt8} (h : nameF s = true) : inkS s = true := by
  unfold nameF at h
  rw [Bool.and_eq_true] at h
  exact runF_ink h.1
theorem ops_ink : ∀ s ∈ opsU ++ opsP ++ opsB ++ opsL ++ opsA, inkS s = true := by decide +kernel
theorem opsF_ink {k : Int} {s : List UInt8} (h : s ∈ opsF k) : inkS s = true := by
  refine ops_ink s ?_
  unfold opsF at h
  simp only [List.mem_append]
  split at h
  · simp [h]
  · split at h
    · simp [h]
    · split at h
      · simp [h]
      · split at h
        · simp [h]
        · split at h
          · simp [h]
          · cases h
/-- a name that may be is a token, or there is none -/
theorem named_ink {k : Int} {s : List UInt8} (h : namedF k s = true) : s = [] ∨ inkS s = true := by
  unfold namedF at h
  split at h
  · exact .inr (nameF_ink h)
  · split at h
    · simp only [Bool.or_eq_true, decide_eq_true_eq] at h
      rcases h with h | h
      · exact .inl h
      · exact .inr (nameF_ink h)
    · split at h
      · exact .inr (runF_ink h)
      · split at h
        · exact .inr (opsF_ink (by simpa using h))
        · exact .inl (by simpa using h)
/-- kinds that have a name -/
def hasName (k : Int) : Prop := k = 7 ∨ k = 18 ∨ k = 19 ∨ k = 20 ∨ k = 33 ∨ k = 43 ∨ k = 44 ∨ k = 45 ∨ k = 46 ∨ k = 47 ∨ k = 49 ∨ k = 52
theorem named_ne {k : Int} {s : List UInt8} (h : namedF k s = true) (hk : hasName k) : inkS s = true := by
  unfold hasName at hk
  unfold namedF at h
  by_cases h1 : k = 7 ∨ k = 18 ∨ k = 19 ∨ k = 20 ∨ k = 33
  · rw [if_pos h1] at h; exact nameF_ink h
  · rw [if_neg h1, if_neg (by omega)] at h
    by_cases h2 : k = 52
    · rw [if_pos h2] at h; exact runF_ink h
    · rw [if_neg h2] at h
      have h3 : opsF k ≠ [] := by
        have : k = 43 ∨ k = 44 ∨ k = 45 ∨ k = 46 ∨ k = 47 ∨ k = 49 := by omega
        rcases this with rfl | rfl | rfl | rfl | rfl | rfl <;> decide
      rw [if_pos h3] at h
      exact opsF_ink (by simpa using h)
end Go.Proofs.YtelcjdblnagdgaaDoor

namespace Go.Proofs.YtelcjdblnagdgaaDoor

def AllInk (t : Tks) : Prop := ∀ s ∈ t, InkT s
theorem AllInk.nil : AllInk [] := fun _ h => by cases h
theorem AllInk.cons {s : List UInt8} {t : Tks} (h : InkT s) (h2 : AllInk t) : AllInk (s :: t) := fun x hx => by
  rcases List.mem_cons.1 hx with rfl | hx
  · exact h
  · exact h2 x hx
theorem AllInk.app {a b : Tks} (h : AllInk a) (h2 : AllInk b) : AllInk (a ++ b) := fun x hx => by
  rcases List.mem_append.1 hx with hx | hx
  · exact h x hx
  · exact h2 x hx
theorem AllInk.one {s : List UInt8} (h : InkT s) : AllInk [s] := AllInk.cons h AllInk.nil
theorem ink {s : List UInt8} (h : inkS s = true) : InkT s := .inl h
theorem AllInk.inP {t : Tks} (h : AllInk t) : AllInk (inP t) := AllInk.cons (ink (by decide)) (h.app (AllInk.one (ink (by decide))))
theorem AllInk.partP {k : Kd} (h : AllInk k.2) : AllInk (partP k) := by
  unfold Proofs.YtelcjdblnagdgaaDoor.partP
  split
  · exact h
  · exact h.inP
theorem AllInk.clauseP {k : Kd} (h : AllInk k.2) : AllInk (clauseP k) := by
  unfold Proofs.YtelcjdblnagdgaaDoor.clauseP
  split
  · exact fun s hs => h s (List.dropLast_subset _ hs)
  · split
    · exact AllInk.nil
    · exact h.inP
def KdInk (ks : List Kd) : Prop := ∀ k ∈ ks, AllInk k.2
theorem KdInk.kd {ks : List Kd} (h : KdInk ks) (i : Nat) : AllInk (kd ks i).2 := by
  unfold Proofs.YtelcjdblnagdgaaDoor.kd
  rw [List.getD_eq_getElem?_getD]
  cases hi : ks[i]? with
  | none => exact AllInk.nil
  | some k => exact h k (List.mem_of_getElem? hi)
theorem KdInk.com {ks : List Kd} {f : Kd → Tks} (hf : ∀ k, AllInk k.2 → AllInk (f k)) (h : KdInk ks) : AllInk (comP f ks) := by
  have hr : ∀ l : List Kd, KdInk l → AllInk (comR f l) := by
    intro l
    induction l with
    | nil => intro _; exact AllInk.nil
    | cons k l ih => exact fun h => AllInk.cons (ink (by decide)) ((hf k (h k (List.mem_cons_self ..))).app (ih fun x hx => h x (List.mem_cons_of_mem _ hx)))
  cases ks with
  | nil => exact AllInk.nil
  | cons k l => exact (hf k (h k (List.mem_cons_self ..))).app (hr l fun x hx => h x (List.mem_cons_of_mem _ hx))
theorem KdInk.flat {ks : List Kd} (h : KdInk ks) : AllInk (ks.flatMap (·.2)) := fun s hs => by
  obtain ⟨k, hk, hs⟩ := List.mem_flatMap.1 hs
  exact h k hk s hs
theorem KdInk.init {ks : List Kd} (h : KdInk ks) : KdInk ks.dropLast := fun k hk => h k (List.dropLast_subset _ hk)
theorem KdInk.drop {ks : List Kd} (h : KdInk ks) (n : Nat) : KdInk (ks.drop n) := fun k hk => h k (List.mem_of_mem_drop hk)
theorem AllInk.named {s : List UInt8} (h : s = [] ∨ inkS s = true) : AllInk (namedP s) := by
  unfold namedP
  split
  · exact AllInk.nil
  · rcases h with h | h
    · exact absurd h ‹_›
    · exact AllInk.one (ink h)
theorem KdInk.params {ks : List Kd} (h : KdInk ks) : AllInk (paramsP ks) := AllInk.cons (ink (by decide)) ((h.com fun _ hk => hk).app (AllInk.one (ink (by decide))))
theorem chr_ink {n : Nat} (h : n < 10) : inkB (chr (48 + n)) = true := by
  have e : ∀ m : Fin 10, inkB (chr (48 + m.val)) = true := by decide +kernel
  exact e ⟨n, h⟩
theorem decS_all : ∀ (n : Nat), (decS n).all inkB = true := by
  intro n
  induction n using Nat.strongRecOn with
  | _ n ih =>
    rw [decS]
    split
    · rw [List.all_cons, chr_ink ‹_›]; rfl
    · rw [List.all_append, ih (n / 10) (by omega), List.all_cons, chr_ink (Nat.mod_lt _ (by omega))]; rfl
theorem decS_ne (n : Nat) : decS n ≠ [] := by
  rw [decS]
  split <;> simp
theorem decS_ink (n : Nat) : inkS (decS n) = true := by
  unfold inkS
  rw [decS_all]
  have := decS_ne n
  cases h : decS n with
  | nil => exact absurd h this
  | cons => rfl
theorem big_ink (n : Nat) : inkS (decS n ++ [110]) = true := by
  unfold inkS
  rw [List.all_append, decS_all]
  cases h : decS n with
  | nil => exact absurd h (decS_ne n)
  | cons => rfl
theorem hexD_str {n : Nat} (h : n < 16) : strB (hexD n) = true := by
  have e : ∀ m : Fin 16, strB (hexD m.val) = true := by decide +kernel
  exact e ⟨n, h⟩
theorem quo1_str (x : UInt16) : (quo1 x).all strB = true := by
  unfold quo1
  split
  · rename_i h
    have e : x.toUInt8.toNat = x.toNat := by show x.toNat % 256 = x.toNat; omega
    rw [List.all_cons, List.all_nil, Bool.and_true]
    unfold strB
    simp only [Bool.and_eq_true, decide_eq_true_eq, Bool.not_eq_true', beq_eq_false_iff_ne]
    omega
  · have := x.toNat_lt
    simp only [List.all_cons, List.all_nil, Bool.and_true, Bool.and_eq_true]
    exact ⟨by decide, by decide, hexD_str (by omega), hexD_str (by omega), hexD_str (by omega), hexD_str (by omega)⟩
theorem quoP_ink (u : List UInt16) : InkT (quoP u) := by
  refine .inr ⟨u.flatMap quo1, rfl, ?_⟩
  rw [List.all_eq_true]
  intro c hc
  obtain ⟨x, _, hx⟩ := List.mem_flatMap.1 hc
  exact List.all_eq_true.1 (quo1_str x) c hx
theorem ite_ink {p : Prop} [Decidable p] {a b : Tks} (h1 : p → AllInk a) (h2 : ¬ p → AllInk b) : AllInk (if p then a else b) := by
  split
  · exact h1 ‹_›
  · exact h2 ‹_›
/-- what the fields of a node say of its name -/
theorem fields_named {x : Nd} (h : fieldsF x = true) : (hasName x.kind → inkS x.name = true) ∧ (x.name = [] ∨ inkS x.name = true) := by
  have hk : x.kind = 32 ∨ x.kind = 40 ∨ x.kind = 30 ∨ x.kind = 31 ∨ namedF x.kind x.name = true := by
    unfold fieldsF at h
    by_cases h5 : x.kind = 32 ∨ x.kind = 40
    · omega
    by_cases h6 : x.kind = 30
    · omega
    by_cases h7 : x.kind = 31
    · omega
    rw [if_neg h5, if_neg h6, if_neg h7] at h
    split at h
    · cases h
    split at h
    · cases h
    split at h
    · cases h
    split at h
    · cases h
    · exact .inr (.inr (.inr (.inr h)))
  have hn : (x.kind = 32 ∨ x.kind = 40 ∨ x.kind = 30 ∨ x.kind = 31) → x.name = [] := by
    intro h5
    unfold fieldsF at h
    split at h
    · cases h
    split at h
    · cases h
    split at h
    · cases h
    split at h
    · cases h
    split at h
    · simp only [Bool.and_eq_true, decide_eq_true_eq] at h; exact h.1
    split at h
    · simp only [Bool.and_eq_true, decide_eq_true_eq] at h; exact h.1.1.1
    split at h
    · simp only [Bool.and_eq_true, decide_eq_true_eq] at h; exact h.1.1
    · omega
  by_cases h8 : x.kind = 32 ∨ x.kind = 40 ∨ x.kind = 30 ∨ x.kind = 31
  · refine ⟨fun hh => ?_, .inl (hn h8)⟩
    unfold hasName at hh
    omega
  · have h9 : namedF x.kind x.name = true := by
      rcases hk with h | h | h | h | h
      · exact absurd (.inl h) h8
      · exact absurd (.inr (.inl h)) h8
      · exact absurd (.inr (.inr (.inl h))) h8
      · exact absurd (.inr (.inr (.inr h))) h8
      · exact h
    exact ⟨fun hh => named_ne h9 hh, named_ink h9⟩
theorem nodeP_ink {x : Nd} {ks : List Kd} (h : fieldsF x = true) (hk : KdInk ks) : AllInk (nodeP x ks) := by
  obtain ⟨hn, hm⟩ := fields_named h
  have k0 := hk.kd 0
  have k1 := hk.kd 1
  have k2 := hk.kd 2
  have k3 := hk.kd 3
  have kl := hk.kd (ks.length - 1)
  have hfn : AllInk (funcP x ks) := AllInk.cons (ink (by decide)) ((AllInk.named hm).app (hk.init.params.app kl))
  have hcl : AllInk (callP ks) := k0.partP.app (AllInk.cons (ink (by decide)) (((hk.drop 1).com fun _ hk => hk.partP).app (AllInk.one (ink (by decide)))))
  have hc : AllInk (comP (·.2) ks) := hk.com fun _ hk => hk
  unfold nodeP
  refine ite_ink (fun _ => ?_) (fun _ => ?_)
  · unfold stmtP declsP
    refine ite_ink (fun _ => hk.flat) (fun _ => ?_)
    refine ite_ink (fun _ => AllInk.one (ink (by decide))) (fun _ => ?_)
    refine ite_ink (fun _ => k0.inP.app (AllInk.one (ink (by decide)))) (fun _ => ?_)
    refine ite_ink (fun _ => AllInk.cons (ink (by decide)) (hk.flat.app (AllInk.one (ink (by decide))))) (fun _ => ?_)
    refine ite_ink (fun _ => AllInk.app (AllInk.cons (ink (by split <;> decide)) hc) (AllInk.one (ink (by decide)))) (fun _ => ?_)
    refine ite_ink (fun e => AllInk.cons (ink (hn (.inl e))) (ite_ink (fun _ => AllInk.nil) (fun _ => AllInk.cons (ink (by decide)) k0.inP))) (fun _ => ?_)
    refine ite_ink (fun _ => AllInk.cons (ink (by split <;> decide)) ((AllInk.named hm).app (AllInk.one (ink (by decide))))) (fun _ => ?_)
    refine ite_ink (fun _ => AllInk.cons (ink (by decide)) (AllInk.app (ite_ink (fun _ => AllInk.nil) (fun _ => k0.inP)) (AllInk.one (ink (by decide))))) (fun _ => ?_)
    refine ite_ink (fun _ => AllInk.cons (ink (by decide)) (k0.inP.app (AllInk.one (ink (by decide))))) (fun _ => ?_)
    refine ite_ink (fun e => AllInk.cons (ink (hn (by unfold hasName; omega))) (AllInk.cons (ink (by decide)) k0)) (fun _ => ?_)
    refine ite_ink (fun e => AllInk.one (ink (hn (by unfold hasName; omega)))) (fun _ => ?_)
    refine ite_ink (fun _ => AllInk.cons (ink (by decide)) (k0.inP.app (k1.app (ite_ink (fun _ => AllInk.cons (ink (by decide)) k2) (fun _ => AllInk.nil))))) (fun _ => ?_)
    refine ite_ink (fun _ => AllInk.cons (ink (by decide)) (k0.inP.app k1)) (fun _ => ?_)
    refine ite_ink (fun _ => AllInk.cons (ink (by decide)) (AllInk.cons (ink (by decide)) (k0.clauseP.app (AllInk.cons (ink (by decide)) (k1.clauseP.app (AllInk.cons (ink (by decide)) (k2.clauseP.app (AllInk.cons (ink (by decide)) k3)))))))) (fun _ => ?_)
    refine ite_ink (fun _ => AllInk.cons (ink (by decide)) (k0.app (k1.app (ite_ink (fun _ => AllInk.cons (ink (by decide)) k2) (fun _ => AllInk.nil))))) (fun _ => ?_)
    refine ite_ink (fun _ => AllInk.cons (ink (by decide)) (AllInk.app (ite_ink (fun _ => AllInk.nil) (fun e => AllInk.cons (ink (by decide)) (AllInk.cons (ink (by rcases hm with h | h; exact absurd h e; exact h)) (AllInk.one (ink (by decide)))))) k0)) (fun _ => ?_)
    exact ite_ink (fun _ => hfn) (fun _ => AllInk.nil)
  · unfold exprP arrowP
    refine ite_ink (fun _ => AllInk.one (ink (decS_ink _))) (fun _ => ?_)
    refine ite_ink (fun _ => AllInk.one (ink (big_ink _))) (fun _ => ?_)
    refine ite_ink (fun _ => AllInk.one (quoP_ink _)) (fun _ => ?_)
    refine ite_ink (fun e => AllInk.one (ink (hn (by unfold hasName; omega)))) (fun _ => ?_)
    refine ite_ink (fun _ => AllInk.one (ink (by decide))) (fun _ => ?_)
    refine ite_ink (fun _ => AllInk.one (ink (by decide))) (fun _ => ?_)
    refine ite_ink (fun _ => AllInk.one (ink (by decide))) (fun _ => ?_)
    refine ite_ink (fun _ => AllInk.one (ink (by decide))) (fun _ => ?_)
    refine ite_ink (fun _ => AllInk.cons (ink (by decide)) ((hk.com fun _ hk => hk.partP).app (AllInk.one (ink (by decide))))) (fun _ => ?_)
    refine ite_ink (fun _ => AllInk.cons (ink (by decide)) (hc.app (AllInk.one (ink (by decide))))) (fun _ => ?_)
    refine ite_ink (fun _ => AllInk.cons (quoP_ink _) (AllInk.cons (ink (by decide)) k0.partP)) (fun _ => ?_)
    refine ite_ink (fun _ => hfn) (fun _ => ?_)
    refine ite_ink (fun _ => hk.init.params.app (AllInk.cons (ink (by decide)) (ite_ink (fun _ => kl) (fun _ => kl.inP)))) (fun _ => ?_)
    refine ite_ink (fun e => AllInk.cons (ink (hn (by unfold hasName; omega))) k0.partP) (fun _ => ?_)
    refine ite_ink (fun e => AllInk.cons (ink (hn (by unfold hasName; omega))) k0) (fun _ => ?_)
    refine ite_ink (fun e => k0.app (AllInk.one (ink (hn (by unfold hasName; omega))))) (fun _ => ?_)
    refine ite_ink (fun e => k0.partP.app (AllInk.cons (ink (hn (by unfold hasName; omega))) k1.partP)) (fun _ => ?_)
    refine ite_ink (fun _ => k0.partP.app (AllInk.cons (ink (by decide)) (k1.partP.app (AllInk.cons (ink (by decide)) k2.partP)))) (fun _ => ?_)
    refine ite_ink (fun e => k0.app (AllInk.cons (ink (hn (by unfold hasName; omega))) k1.partP)) (fun _ => ?_)
    refine ite_ink (fun _ => hcl) (fun _ => ?_)
    refine ite_ink (fun _ => AllInk.cons (ink (by decide)) hcl) (fun _ => ?_)
    refine ite_ink (fun e => k0.partP.app (AllInk.cons (ink (by decide)) (AllInk.one (ink (hn (by unfold hasName; omega)))))) (fun _ => ?_)
    exact ite_ink (fun _ => k0.partP.app (AllInk.cons (ink (by decide)) (k1.partP.app (AllInk.one (ink (by decide)))))) (fun _ => AllInk.nil)
theorem fields_laid {x : Nd} {ks : List Int} (h : fieldsF { x with kids := ks } = true) : fieldsF x = true := h
mutual
theorem prT_ink (n : Nat) (t : Tr) (h : ∀ x ∈ flatT n t, fieldsF x = true) : AllInk (prT t) := by
  cases t with
  | mk x l =>
    rw [flatT_mk] at h
    rw [prT_mk]
    exact nodeP_ink (fields_laid (h _ (List.mem_cons_self ..))) (prs_ink (n + 1) l fun y hy => h y (List.mem_cons_of_mem _ hy))
theorem prs_ink (n : Nat) (l : List Tr) (h : ∀ x ∈ flatL n l, fieldsF x = true) : KdInk (prs l) := by
  cases l with
  | nil => rw [prs_nil]; intro k hk; cases hk
  | cons t r =>
    rw [flatL_cons] at h
    rw [prs_cons]
    have h1 := prT_ink n t fun y hy => h y (List.mem_append_left _ hy)
    have h2 := prs_ink (n + t.size) r fun y hy => h y (List.mem_append_right _ hy)
    intro k hk
    rcases List.mem_cons.1 hk with rfl | hk
    · exact h1
    · exact h2 k hk
end
theorem ascii_law {ts : List Nd} {t : Tr} (h : May ts t) : scanOk false (printF t) = true ∧ (printF t).head? ≠ some 32 :=
  printed (prT_ink 0 t fun x hx => by rw [← h.flat] at hx; exact (each_mem h.each hx).1)
end Go.Proofs.YtelcjdblnagdgaaDoor

namespace Go.Proofs.YtelcjdblnagdgaaDoor
open Go.RowKit

/-- what Print comes to of a good tree -/
def PrintQ (u : List UInt16) (w : World) (e : Ending) (w' : World) : Prop :=
  Below w.heap.size w w' ∧ (4096 < u.length ∧ e = .returned (.tuple #[.slice none 0 0, .int .i64 3]) ∨ u.length ≤ 4096 ∧ ∃ v, e = .returned (.tuple #[v, .int .i64 0]) ∧ Made w w' 34 v (u16s u))
theorem print_no {A : Option Addr} {c B n : Nat} {ts : List Nd} {w : World} (hN : NdsR w B A n ts) (hB : B ≤ w.heap.size) (hc : n ≤ c) (ht : (kidsAll ts).length ≤ 1000000) (hq : mayF ts = false) :
    Calls Tryd.prog 14 #[.agg #[.slice A n c]] w fun e w' => e = .returned (.tuple #[.slice none 0 0, .int .i64 2]) ∧ Below w.heap.size w w' := by
  have CM := hide (fun (W : World) (hb : Below w.heap.size w W) => may_any (c := c) (hN.below (hb.mono hB)) (Nat.le_trans hB hb.size) hc ht hq)
  clear hN ht hq
  go_enter Tryd.func14, Tryd.ntmps14
  go_wp2_with fail
  refine (CM.out _ ((Below.refl _ _).alloc (Nat.le_refl _) _)).mono ?_
  rintro e1 w1 ⟨rfl, hb1⟩
  have HB1 := hide (((Below.refl w.heap.size w).alloc (Nat.le_refl _) _).trans (hb1.mono (by simp)))
  clear hb1
  go_wp2_with fail
  go_ret2
  exact ⟨rfl, HB1.out⟩
set_option maxHeartbeats 4000000 in
set_option maxRecDepth 100000 in
theorem print_yes {A : Option Addr} {c B n : Nat} {ts : List Nd} {t : Tr} {w : World} (hN : NdsR w B A n ts) (hB : B ≤ w.heap.size) (hc : n ≤ c) (ht : (kidsAll ts).length ≤ 1000000) (hT : Tab w) (hgB : 0 < B) (hM : May ts t) (hm : MayPut [] (prT t)) :
    Calls Tryd.prog 14 #[.agg #[.slice A n c]] w (PrintQ (printF t) w) := by
  obtain ⟨W, hW⟩ : ∃ W, w.alloc (.cells #[.slice A n c] 24) = W := ⟨_, rfl⟩
  have hb0 : Below w.heap.size w W := by rw [← hW]; exact (Below.refl _ _).alloc (Nat.le_refl _) _
  have hX1 : w.heap.size < W.heap.size := by rw [← hW]; simp
  have x0 : W.cell? ⟨w.heap.size, 0, none⟩ = some (.slice A n c) := by rw [← hW, World.cell?_alloc_at _ _ _ _ rfl]; rfl
  have CM := hide (may_any (c := c) (hN.below (hb0.mono hB)) (Nat.le_trans hB hb0.size) hc ht (may_of hM))
  have HN := hide hN
  have HB0 := hide hb0
  have HT := hide hT
  have HM := hide hM
  have HMP := hide hm
  obtain ⟨X, hX⟩ : ∃ X, w.heap.size = X := ⟨_, rfl⟩
  go_enter Tryd.func14, Tryd.ntmps14
  go_upto_region 1 with (fail)
  clear hN ht hb0 hT hM hm hW
  rw [hX] at x0 hX1
  clear hX
  go_wp2_with fail
  refine CM.out.mono ?_
  rintro e1 w1 ⟨rfl, hb1⟩
  have y0 := (hb1.cell (p := ⟨X, 0, none⟩) hX1).trans x0
  have HB1 := hide (HB0.out.trans (hb1.mono HB0.out.size))
  clear hb1
  go_upto_region 4 with (fail)
  obtain ⟨w2, hw2⟩ : ∃ w2, w1.alloc (.cells #[.slice A n c, .slice none 0 0] 59) = w2 := ⟨_, rfl⟩
  have hb2 : Below w1.heap.size w1 w2 := by rw [← hw2]; exact (Below.refl _ _).alloc (Nat.le_refl _) _
  have HB2 := hide (HB1.out.trans (hb2.mono HB1.out.size))
  have hp : Pe ⟨B, w1.heap.size + 1, w1.heap.size, n, c, A, ts⟩ [] (.slice none 0 0) w2 := by
    refine ⟨⟨?_, ?_, ?_, World.ownsRow_nil _ _ _ _, Nat.lt_succ_self _⟩, HN.out.below (HB2.out.mono hB), ?_, ?_, HT.out.below hgB (HB2.out.mono hB), hgB⟩
    · rw [← hw2]; exact World.cell?_alloc_at _ _ _ _ rfl
    · rw [← hw2]; exact World.cell?_alloc_at _ _ _ _ rfl
    · rw [← hw2]; exact World.frozen?_alloc_new _ _ _ _
    · rw [← hw2]; simp
    · exact Nat.le_trans hB HB1.out.size
  have CP := hide (pnode_all (C := ⟨B, w1.heap.size + 1, w1.heap.size, n, c, A, ts⟩) HM.out.each 4096 (by omega) t 0 [] _ w2 (by have := HM.out.len; rw [HM.out.flat, flatT_len] at this; exact this) HM.out.at_ hp HMP.out)
  have hg2 : w1.heap.size < w2.heap.size := by rw [← hw2]; simp
  rw [hw2]
  have HW1 := hide HB1.out.size
  obtain ⟨G, hG⟩ : ∃ G, w1.heap.size = G := ⟨_, rfl⟩
  clear hw2 hb2 hp y0 x0
  rw [hG] at CP hg2 HW1
  rw [hG]
  clear hG
  go_wp2_with fail
  refine CP.out.mono ?_
  rintro e3 w3 ⟨rfl, v3, hp3, hk3⟩
  have z1 : w3.cell? ⟨G, 1, none⟩ = some v3 := hp3.pn.c1
  have hown := hp3.pn.own
  obtain ⟨A3, c3, rfl, _, _⟩ := own_shape hown
  obtain ⟨u, hu⟩ : ∃ u, putA [] (prT t) = u := ⟨_, rfl⟩
  have hpf : printF t = u := hu
  have HPF := hide hpf
  have hown2 : w3.ownsRow (G + 1) 34 1 (.slice A3 u.length c3) u.length (u16s u) := by rw [← hu]; exact hown
  rw [hu] at z1
  have HO := hide hown2
  have HB3 := hide (HB2.out.trans (hk3.below (B := w.heap.size) (fun i hi => by simp [Value.ownBlock] at hi) HW1.out HB2.out.size))
  clear hp3 hk3 hown hown2 hu hpf
  by_cases hlen : 4096 < u.length
  · have h1 : (4096 : Int) < (u.length : Int) := by omega
    go_wp2_with fail
    go_ret2
    show PrintQ (printF t) w _ _
    rw [HPF.out]
    exact ⟨HB3.out, .inl ⟨hlen, rfl⟩⟩
  · have h1 : ¬ (4096 : Int) < (u.length : Int) := by omega
    go_wp2_with fail
    go_ret2
    show PrintQ (printF t) w _ _
    rw [HPF.out]
    have ho9 : w3.ownsRow w.heap.size 34 1 (.slice A3 u.length c3) (u16s u).length (u16s u) := by
      rw [u16s_len]
      exact own_less HO.out (Nat.le_trans HW1.out (Nat.le_succ G))
    exact ⟨HB3.out, .inr ⟨by omega, _, rfl, ⟨ho9, HB3.out⟩⟩⟩
end Go.Proofs.YtelcjdblnagdgaaDoor

namespace Go.Proofs.YtelcjdblnagdgaaDoor
open Go.RowKit

theorem InkT.ne {s : List UInt8} (h : InkT s) : s ≠ [] := by
  rintro rfl
  rcases h with h | ⟨b, h, _⟩
  · simp [inkS] at h
  · cases h
theorem each_fields {ts : List Nd} (he : eachF ts 0 ts = true) : ∀ x ∈ ts, fieldsF x = true := fun _ hx => (each_mem he hx).1
theorem may_put {ts : List Nd} {t : Tr} (h : May ts t) (hl : ∀ x ∈ ts, ∀ y ∈ x.mag, y < 4294967296) : MayPut [] (prT t) := by
  refine ⟨fun s hs => (prT_ink 0 t (by rw [← h.flat]; exact each_fields h.each) s hs).ne, ?_⟩
  have := h.few hl
  simp
  omega
/-- what Print comes to: of nodes that make no good tree an error, else the units -/
def PrintA (ts : List Nd) (w : World) (e : Ending) (w' : World) : Prop :=
  mayF ts = false ∧ e = .returned (.tuple #[.slice none 0 0, .int .i64 2]) ∧ Below w.heap.size w w' ∨ ∃ t, May ts t ∧ mayF ts = true ∧ PrintQ (printF t) w e w'
theorem print_any {A : Option Addr} {c B n : Nat} {ts : List Nd} {w : World} (hN : NdsR w B A n ts) (hB : B ≤ w.heap.size) (hc : n ≤ c) (ht : (kidsAll ts).length ≤ 1000000) (hT : Tab w) (hgB : 0 < B) :
    Calls Tryd.prog 14 #[.agg #[.slice A n c]] w (PrintA ts w) := by
  cases hq : mayF ts with
  | false =>
    refine (print_no hN hB hc ht hq).mono ?_
    rintro e w' ⟨h1, h2⟩
    exact .inl ⟨hq, h1, h2⟩
  | true =>
    obtain ⟨t, hM⟩ := may_tree hq
    refine (print_yes hN hB hc ht hT hgB hM (may_put hM hN.limbs)).mono ?_
    intro e w' h
    exact .inr ⟨t, hM, hq, h⟩
end Go.Proofs.YtelcjdblnagdgaaDoor

namespace Go.Proofs.YtelcjdblnagdgaaDoor
open Go.RowKit

theorem nest_no {A : Option Addr} {c B n : Nat} {ts : List Nd} {w : World} (hN : NdsR w B A n ts) (hB : B ≤ w.heap.size) (hc : n ≤ c) (ht : (kidsAll ts).length ≤ 1000000) (hq : mayF ts = false) :
    Calls Tryd.prog 13 #[.agg #[.slice A n c]] w fun e w' => e = .returned (.int .i64 0) ∧ Below w.heap.size w w' := by
  have CM := hide (fun (W : World) (hb : Below w.heap.size w W) => may_any (c := c) (hN.below (hb.mono hB)) (Nat.le_trans hB hb.size) hc ht hq)
  clear hN ht hq
  go_enter Tryd.func13, Tryd.ntmps13
  go_wp2_with fail
  refine (CM.out _ ((Below.refl _ _).alloc (Nat.le_refl _) _)).mono ?_
  rintro e1 w1 ⟨rfl, hb1⟩
  have HB1 := hide (((Below.refl w.heap.size w).alloc (Nat.le_refl _) _).trans (hb1.mono (by simp)))
  clear hb1
  go_wp2_with fail
  go_ret
  exact ⟨rfl, HB1.out⟩
set_option maxHeartbeats 2000000 in
set_option maxRecDepth 100000 in
theorem nest_yes {A : Option Addr} {c B n : Nat} {ts : List Nd} {w : World} (hN : NdsR w B A n ts) (hB : B ≤ w.heap.size) (hc : n ≤ c) (ht : (kidsAll ts).length ≤ 1000000) (hq : mayF ts = true) (h0 : 0 < n) (hl : n ≤ 4096) (hf : Fwd ts) {nd : Nat} (hd : nestD ts = nd) :
    Calls Tryd.prog 13 #[.agg #[.slice A n c]] w fun e w' => e = .returned (.int .i64 (nd : Int)) ∧ Below w.heap.size w w' := by
  obtain ⟨W, hW⟩ : ∃ W, w.alloc (.cells #[.slice A n c] 24) = W := ⟨_, rfl⟩
  have hb0 : Below w.heap.size w W := by rw [← hW]; exact (Below.refl _ _).alloc (Nat.le_refl _) _
  have hX1 : w.heap.size < W.heap.size := by rw [← hW]; simp
  have x0 : W.cell? ⟨w.heap.size, 0, none⟩ = some (.slice A n c) := by rw [← hW, World.cell?_alloc_at _ _ _ _ rfl]; rfl
  have CM := hide (may_any (c := c) (hN.below (hb0.mono hB)) (Nat.le_trans hB hb0.size) hc ht hq)
  have HN := hide hN
  have HB0 := hide hb0
  obtain ⟨dl, hdl⟩ : ∃ dl, deepF ts = dl := ⟨_, rfl⟩
  have hmx := hide (show maxL dl = nd by rw [← hdl]; exact hd)
  have CD := hide (fun (w1 : World) (hb : Below w.heap.size w w1) => deep_any (c := c) (hN.below (hb.mono hB)) (Nat.le_trans hB hb.size) h0 hl hf (kids_le ht) hdl)
  obtain ⟨X, hX⟩ : ∃ X, w.heap.size = X := ⟨_, rfl⟩
  go_enter Tryd.func13, Tryd.ntmps13
  go_upto_region 1 with (fail)
  clear hN ht hb0 hq hd hdl hW hf
  rw [hX] at x0 hX1
  clear hX
  go_wp2_with fail
  refine CM.out.mono ?_
  rintro e1 w1 ⟨rfl, hb1⟩
  have y0 := (hb1.cell (p := ⟨X, 0, none⟩) hX1).trans x0
  have HB1 := hide (HB0.out.trans (hb1.mono HB0.out.size))
  clear hb1
  have CD1 := hide (CD.out w1 HB1.out)
  go_wp2_with fail
  refine CD1.out.mono ?_
  rintro e2 w2 ⟨A3, c3, rfl, hq3, hc3, hr3, hb3⟩
  have HB2 := hide (HB1.out.trans (hb3.mono HB1.out.size))
  have CX := hide (max_any (c := c3) hq3 h0 (by omega) hr3 hmx.out)
  clear hq3 hr3 hb3
  go_wp2_with fail
  refine CX.out.mono ?_
  rintro e3 w3 ⟨rfl, rfl⟩
  go_wp2_with fail
  go_ret
  exact ⟨rfl, HB2.out⟩
end Go.Proofs.YtelcjdblnagdgaaDoor

namespace Go.Proofs.YtelcjdblnagdgaaDoor
open Go.RowKit

/-- slices.Clone of ints, wherever they lie -/
theorem iclone_any {A : Option Addr} {B n c : Nat} {xs : List Int} {w : World} (hn : xs.length = n) (ha : Reads w B 1 A n (i64s xs)) (hl : n ≤ 1000000) :
    Calls Tryd.prog 29 #[.slice A n c] w fun e w' => ∃ v, e = .returned v ∧ Made w w' 3 v (i64s xs) := by
  rcases Nat.eq_zero_or_pos n with h0 | h0
  · subst h0
    have hx : xs = [] := List.eq_nil_of_length_eq_zero hn
    subst hx
    cases A with
    | none =>
      refine (Tryd.slices_Clone_int_nil 0 c w).mono ?_
      rintro e w' ⟨rfl, rfl⟩
      exact ⟨_, rfl, Made.nil _ _⟩
    | some a =>
      refine (Tryd.slices_Clone_int_zero a c w).mono ?_
      rintro e w' ⟨v', rfl, ho, _, hb⟩
      exact ⟨v', rfl, ho, hb⟩
  · obtain ⟨b, o, rfl, _, hc⟩ := ha.spotR h0
    refine (Tryd.slices_Clone_int b o n c xs w (by omega) (by omega) (fun j hj => ?_)).mono ?_
    · have := hc j (.int .i64 xs[j]) (by simp [i64s, List.getElem?_eq_getElem hj])
      rw [this]
      simp [List.getD, hj]
    · rintro e w' ⟨v', rfl, ho, _, hb⟩
      refine ⟨v', rfl, ?_, hb⟩
      rw [List.take_of_length_le (by omega)] at ho
      rw [i64s_len, hn]
      exact ho
theorem tkids_low (A : Option Addr) (c n : Nat) (k : Int) (w : World) (h : k < 0) :
    Calls Tryd.prog 12 #[.agg #[.slice A n c], .int .i64 k] w fun e w' => e = .returned (.slice none 0 0) ∧ Below w.heap.size w w' := by
  go_enter Tryd.func12, Tryd.ntmps12
  go_wp2_with fail
  go_ret
  exact ⟨rfl, by go_grown⟩
theorem tkids_high (A : Option Addr) (c n k : Nat) (w : World) (h : ¬ k < n) :
    Calls Tryd.prog 12 #[.agg #[.slice A n c], .int .i64 (k : Int)] w fun e w' => e = .returned (.slice none 0 0) ∧ Below w.heap.size w w' := by
  have h1 : (n : Int) ≤ (k : Int) := by omega
  have h2 : ¬ (k : Int) < 0 := by omega
  go_enter Tryd.func12, Tryd.ntmps12
  go_wp2_with fail
  go_ret
  exact ⟨rfl, by go_grown⟩
set_option maxHeartbeats 2000000 in
set_option maxRecDepth 100000 in
theorem tkids_in {A : Option Addr} {c B n k : Nat} {ts : List Nd} {x : Nd} {w : World} (hN : NdsR w B A n ts) (hB : B ≤ w.heap.size) (hk : k < n) (hx : ts[k]? = some x) (hl : x.kids.length ≤ 1000000) :
    Calls Tryd.prog 12 #[.agg #[.slice A n c], .int .i64 (k : Int)] w fun e w' => ∃ v, e = .returned v ∧ Made w w' 3 v (i64s x.kids) := by
  obtain ⟨b, o, x', s, rfl, hbB, hx', hC, hR⟩ := hN.get hk
  obtain rfl : x = x' := Option.some.inj (hx.symm.trans hx')
  have k7 := hC.k7
  have hbw : b < w.heap.size := by omega
  have CC := hide (fun (W : World) (hb : Below w.heap.size w W) => iclone_any (c := s.ck) rfl (hR.kids.below (hb.mono hB)) hl)
  have h1 : ¬ (n : Int) ≤ (k : Int) := by omega
  have h2 : ¬ (k : Int) < 0 := by omega
  have h3 : (k : Int) < (n : Int) := by omega
  obtain ⟨L, hL⟩ : ∃ L, x.kids.length = L := ⟨_, rfl⟩
  rw [hL] at k7
  have CC2 := hide (show ∀ (W : World), Below w.heap.size w W → Calls Tryd.prog 29 #[.slice s.Ak L s.ck] W fun e w' => ∃ v, e = .returned v ∧ Made W w' 3 v (i64s x.kids) from by rw [← hL]; exact CC.out)
  clear hN hx hx' hC hR CC hl hL
  go_enter Tryd.func12, Tryd.ntmps12
  go_wp2_with fail
  refine (CC2.out _ ((Below.refl _ _).alloc (Nat.le_refl _) _)).mono ?_
  rintro e1 w1 ⟨v, rfl, hm⟩
  have HM := hide (show Made w w1 3 v (i64s x.kids) from ⟨own_less hm.own (by simp), ((Below.refl w.heap.size w).alloc (Nat.le_refl _) _).trans (hm.below.mono (by simp))⟩)
  clear hm
  go_wp2_with fail
  go_ret
  exact ⟨v, rfl, HM.out⟩
end Go.Proofs.YtelcjdblnagdgaaDoor
