/- Joined for a claim: BigTrim, TBigT, TBigM, TRev, TBigW, TPrA, TPr8. -/
import Derived.Test.YtelcjdblnagdgaaDoorM11
import Derived.Test.YtelcjdblnagdgaaDoorM01
import Derived.Laws.OwnMore
import Derived.Test.YtelcjdblnagdgaaDoorM02
import Derived.Test.YtelcjdblnagdgaaDoorShelf
import Derived.Test.YtelcjdblnagdgaaDoorM08
import Derived.Test.YtelcjdblnagdgaaDoorM03
import Derived.Lib.SliceRun
import Derived.Deep.CutBlock
import Derived.Deep.DeepCutAuto
import Derived.Deep.LoopGhost
import Derived.Laws.BitsAllLaws
namespace Go.Proofs.YtelcjdblnagdgaaDoor
open Go.RowKit

def u32s (l : List Nat) : List Value := l.map fun n : Nat => Value.int .u32 (n : Int)
theorem u32s_len (l : List Nat) : (u32s l).length = l.length := by simp [u32s]
theorem u32s_get {l : List Nat} {j : Nat} (h : j < l.length) : (u32s l)[j]? = some (.int .u32 (l[j] : Int)) := by
  simp [u32s, List.getElem?_eq_getElem h]
theorem u32s_take (l : List Nat) (k : Nat) : (u32s l).take k = u32s (l.take k) := by simp [u32s]
theorem u32s_app (l r : List Nat) : u32s l ++ u32s r = u32s (l ++ r) := by simp [u32s]
/-- The head of a slice that a call has made. -/
theorem own_take {w : World} {base : Nat} {e : TypeId} {A : Option Addr} {n c j : Nat} {xs : List Value} (h : w.ownsRow base e 1 (.slice A n c) n xs) (hj : j ≤ n) : w.ownsRow base e 1 (.slice A j c) j (xs.take j) := by
  refine ⟨by rw [List.length_take, h.1]; omega, ?_⟩
  rcases h.2 with ⟨h1, h2⟩ | ⟨g, cap, cur, h1, hb, hg, hn, hc, hs, ht⟩
  · left
    injection h1 with h3 h4 h5
    subst h2
    obtain rfl : j = 0 := by omega
    exact ⟨by rw [h3, h5], rfl⟩
  · right
    injection h1 with h3 h4 h5
    subst h3 h5
    refine ⟨g, c, cur, rfl, hb, hg, by omega, hc, hs, ?_⟩
    rw [← ht, List.take_take]
    congr 1
    omega
theorem Reads.spotV {w : World} {B n : Nat} {A : Option Addr} {xs : List Value} (h : Reads w B 1 A n xs) (h0 : 0 < n) :
    ∃ b off, A = some ⟨b, off, none⟩ ∧ b < B ∧ ∀ j u, xs[j]? = some u → w.cell? ⟨b, off + j, none⟩ = some u := by
  obtain ⟨ad, u, e, hb, hx, hc⟩ := h.at_ h0
  have hs : ad.spot = none := by
    cases hsp : ad.spot with
    | none => rfl
    | some s =>
      exfalso
      rw [Addr.add_zero] at hc
      simp only [World.cell?, hsp] at hc
      split at hc
      · simp at hc
      · cases hc
  obtain ⟨b, off, sp⟩ := ad
  simp only at hs
  subst hs
  refine ⟨b, off, e, hb, fun j v hv => ?_⟩
  have hj : j < n := by
    have := (List.getElem?_eq_some_iff.1 hv).1
    have h1 := h.1
    omega
  obtain ⟨ad', u', e', _, hx', h1⟩ := h.at_ hj
  rw [e] at e'
  injection e' with e'
  subst e'
  rw [Addr.add_lit] at h1
  rw [h1, ← hx', hv]

set_option maxHeartbeats 2000000 in
set_option maxRecDepth 1000000 in
theorem btrim_is {A : Option Addr} {c B n m : Nat} {xs : List Nat} {w : World} (hn : xs.length = n) (ha : Reads w B 1 A n (u32s xs)) (hl : n ≤ 4096) (hc : n ≤ c) (hc2 : c ≤ maxLen) (hm : (trimL xs).length = m) :
    Calls Tryd.prog 82 #[.slice A n c] w fun e w' => e = .returned (.slice A m c) ∧ w = w' := by
  have HA := hide ha
  have HM := hide hm
  have HN := hide hn
  unfold maxLen at hc2
  clear ha hm hn
  go_enter Tryd.func82, Tryd.ntmps82
  go_wp2
  go_loop [0] (fun v => ∃ j : Nat, v = .slice A j c ∧ j ≤ n ∧ Hid (trimL (xs.take j) = trimL xs)) (fun v => match v with | .slice _ j _ => j | _ => 0)
  case atStart => exact ⟨n, rfl, Nat.le_refl _, hide (by rw [← HN.out, List.take_length])⟩
  case round =>
    obtain ⟨j, rfl, hj, hT⟩ := hrel
    cases j with
    | zero =>
      have hz := hide (show m = 0 by
        have := hT.out
        rw [List.take_zero] at this
        rw [← HM.out, ← this]; rfl)
      go_wp2
      go_ret
      obtain rfl := hz.out
      exact ⟨rfl, rfl⟩
    | succ i =>
      have hx := HN.out
      obtain ⟨b, off, rfl, hbB, hcell⟩ := HA.out.spotV (by omega)
      have hi : i < xs.length := by omega
      have hca := hcell i _ (u32s_get hi)
      have hsn := hide (show xs.take (i + 1) = xs.take i ++ [xs[i]] from List.take_succ_eq_append_getElem hi)
      obtain ⟨x, hxx⟩ : ∃ x, xs[i] = x := ⟨_, rfl⟩
      rw [hxx] at hca hsn
      clear hcell hxx hx
      by_cases h0 : x = 0
      · have e1 : ((x : Int) == 0) = true := by rw [h0]; rfl
        have hz := hide (show trimL (xs.take i) = trimL xs by rw [← hT.out, hsn.out, h0, trimL_zero])
        clear h0
        go_wp2
        go_round
        case rel => exact ⟨i, rfl, by omega, hz.out⟩
        case measure => simp
      · have e1 : ((x : Int) == 0) = false := beq_eq_false_iff_ne.2 (by omega)
        have hz := hide (show m = i + 1 by
          rw [← HM.out, ← hT.out, hsn.out, trimL_stop h0, List.length_append, List.length_take]
          simp; omega)
        clear h0
        go_wp2
        go_ret
        obtain rfl := hz.out
        exact ⟨rfl, rfl⟩
end Go.Proofs.YtelcjdblnagdgaaDoor

namespace Go.Proofs.YtelcjdblnagdgaaDoor

theorem valL_valM (l : List Nat) : valL l = valM l := by
  induction l with
  | nil => rfl
  | cons x r ih => rw [valL, valM, ih]
/-- how far the digits are: what is left, and the bytes so far, the last first -/
def AtTxt (v0 v : Nat) (ls : List UInt8) : Prop := decS v0 = (if v = 0 then [] else decS v) ++ ls.reverse
theorem AtTxt.start {v0 : Nat} (h : v0 ≠ 0) : AtTxt v0 v0 [] := by unfold AtTxt; rw [if_neg h]; simp
theorem AtTxt.step {v0 v : Nat} {ls : List UInt8} (h : AtTxt v0 v ls) (hv : v ≠ 0) : AtTxt v0 (v / 10) (ls ++ [chr (48 + v % 10)]) := by
  unfold AtTxt at h ⊢
  rw [if_neg hv] at h
  rw [h, List.reverse_append]
  by_cases h10 : v < 10
  · rw [decS_lo h10, if_pos (by omega), show v % 10 = v by omega]; rfl
  · rw [decS_hi h10, if_neg (by omega)]; simp
theorem AtTxt.done {v0 : Nat} {ls : List UInt8} (h : AtTxt v0 0 ls) : ls.reverse = decS v0 := by
  unfold AtTxt at h; rw [h]; rfl
theorem AtTxt.len {v0 v : Nat} {ls : List UInt8} (h : AtTxt v0 v ls) : ls.length ≤ (decS v0).length := by
  unfold AtTxt at h; rw [h, List.length_append, List.length_reverse]; omega
/-- how far the division is: from place k on it is done, with a rest -/
structure AtDiv (ms : List Nat) (k r : Nat) (cs : List Nat) : Prop where
  len : cs.length = ms.length
  low : cs.take k = ms.take k
  rest : r ≤ 9
  val : valL (ms.drop k) = 10 * valL (cs.drop k) + r
  lt : ∀ x ∈ cs, x < 4294967296
theorem AtDiv.start {ms : List Nat} (h : ∀ x ∈ ms, x < 4294967296) : AtDiv ms ms.length 0 ms := ⟨rfl, rfl, by omega, by rw [List.drop_length]; rfl, h⟩
theorem AtDiv.get {ms cs : List Nat} {k r : Nat} (h : AtDiv ms (k + 1) r cs) (hk : k < ms.length) : cs[k]'(by rw [h.len]; exact hk) = ms[k] := by
  have h1 := congrArg (fun l => l[k]?) h.low
  simp only [List.getElem?_take, if_pos (Nat.lt_succ_self k)] at h1
  rw [List.getElem?_eq_getElem (by rw [h.len]; exact hk), List.getElem?_eq_getElem hk] at h1
  exact Option.some.inj h1
theorem AtDiv.step {ms cs : List Nat} {k r : Nat} (h : AtDiv ms (k + 1) r cs) (hk : k < ms.length) : AtDiv ms k ((r * 4294967296 + ms[k]) % 10) (cs.set k ((r * 4294967296 + ms[k]) / 10)) := by
  have hkc : k < cs.length := by rw [h.len]; exact hk
  have hx : ms[k] < 4294967296 := by rw [← h.get hk]; exact h.lt _ (List.getElem_mem _)
  have hr := h.rest
  refine ⟨by simp [h.len], ?_, by omega, ?_, ?_⟩
  · rw [List.take_set_of_le (Nat.le_refl k)]
    have := congrArg (List.take k) h.low
    rwa [List.take_take, List.take_take, Nat.min_eq_left (by omega)] at this
  · have hv := h.val
    rw [List.drop_eq_getElem_cons hk, valL, hv, List.drop_set, if_neg (by omega), Nat.sub_self, List.drop_eq_getElem_cons hkc, List.set_cons_zero, valL]
    omega
  · intro x hm
    rcases List.mem_or_eq_of_mem_set hm with hm | rfl
    · exact h.lt x hm
    · omega
theorem AtDiv.done {ms cs : List Nat} {r : Nat} (h : AtDiv ms 0 r cs) : valL ms = 10 * valL cs + r ∧ r ≤ 9 := by
  have := h.val
  simp only [List.drop_zero] at this
  exact ⟨this, h.rest⟩
theorem valL_trimL (l : List Nat) : valL (trimL l) = valL l := by
  induction l with
  | nil => rfl
  | cons x r ih =>
    by_cases h : trimL r = [] ∧ x = 0
    · rw [trimL, if_pos h, valL, valL]
      have := trimL_nil.1 h.1
      omega
    · rw [trimL, if_neg h, valL, valL, ih]
theorem trimL_idem (l : List Nat) : trimL (trimL l) = trimL l := by
  induction l with
  | nil => rfl
  | cons x r ih =>
    by_cases h : trimL r = [] ∧ x = 0
    · rw [trimL, if_pos h]; rfl
    · rw [trimL, if_neg h, trimL, ih, if_neg h]
theorem trimL_mem {l : List Nat} {x : Nat} (h : x ∈ trimL l) : x ∈ l := by
  rw [trimL_take l] at h
  exact List.mem_of_mem_take h
/-- a number whose last limb is not nought is as long as it may be -/
theorem trimL_last {l : List Nat} {x : Nat} (h : l.getLast? = some x) (hx : x ≠ 0) : trimL l = l := by
  obtain ⟨r, rfl⟩ : ∃ r, l = r ++ [x] := by
    have hne : l ≠ [] := by intro e; subst e; simp at h
    refine ⟨l.dropLast, ?_⟩
    have h1 := List.dropLast_concat_getLast hne
    rw [List.getLast?_eq_some_getLast hne] at h
    rw [← Option.some.inj h, h1]
  exact trimL_stop hx r
end Go.Proofs.YtelcjdblnagdgaaDoor

namespace Go.Proofs.YtelcjdblnagdgaaDoor
open Go.RowKit

theorem Tryd.info_u32 : (Tryd.prog.info? 64).map (fun i => (i.zero, i.size, i.bytes)) = some (some (.int .u32 0), 1, 4) := by kernel_rfl
theorem u32s_one (l : List Nat) : ∀ u ∈ u32s l, u.oneCell' = true := by
  intro u hu
  obtain ⟨n, _, rfl⟩ := List.mem_map.1 hu
  rfl
theorem own_less {w : World} {base base' n size : Nat} {e : TypeId} {v : Value} {xs : List Value} (h : w.ownsRow base e size v n xs) (hb : base' ≤ base) : w.ownsRow base' e size v n xs := by
  refine ⟨h.1, ?_⟩
  rcases h.2 with h1 | ⟨g, cap, cur, h1, h2, h3⟩
  · exact .inl h1
  · exact .inr ⟨g, cap, cur, h1, Nat.le_trans hb h2, h3⟩
section
variable {P : Program} {w0 w : World} {ops : Array Oper} {rest : List Oper} {o : Oper} {a : Act} {Q : Exit → Act → World → Prop}
theorem wpList_anyQ (hgd : o.guard = none) (s x : Operand) (t : TypeId)
    (ho : o.op = .call { callee := .builtin .append, args := #[s, x], argTypes := #[t, t] })
    (e : TypeId) (i : TypeInfo) (z : Value) (bytes : Nat) (ht : P.underlying t = some (.slice e)) (hi : P.info? e = some i) (hz : i.zero = some z)
    (hsize : i.size = 1) (hby : i.bytes = bytes) (hzs : z.cells.size = 1)
    (v : Value) (xs : List Value) (hs : a.eval s = v) (hm : Made w0 w e v xs)
    (B : Nat) (A : Option Addr) (m c : Nat) (news : List Value) (hx : a.eval x = .slice A m c) (hr : Reads w B 1 A m news) (h1 : ∀ u ∈ news, u.oneCell' = true)
    (hsz : xs.length + m ≤ 35184372088832) (hb2 : bytes ≤ 4)
    (h : ∀ v' w', Made w0 w' e v' (xs ++ news) → wpList P ops Q rest (a.put o.dst v') w') : wpList P ops Q (o :: rest) a w := by
  have hl : news.length = m := by have := hr.1; omega
  subst hl
  have hby2 : (xs.length + news.length) * bytes ≤ 140737488355328 := by
    calc (xs.length + news.length) * bytes ≤ 35184372088832 * 4 := Nat.mul_le_mul hsz hb2
      _ ≤ 140737488355328 := by omega
  obtain ⟨v', w', hrun, h2, h3, _⟩ := run_append_any (P := P) w w0.heap.size t o.type e i z 1 bytes ht hi hz hsize hby hzs (by omega) v xs.length xs hm.own B A news.length c news hr h1 (by unfold maxLen; omega) hby2 hm.below.size
  refine wpList_plain hgd fun K hK => ?_
  unfold Oper.wp execOp
  simp only [ho, resolve, invoke, builtin, Sem.run_bind, Sem.run_pure, Result.andThen_ok, List.map_toArray, List.map_cons, List.map_nil, hs, hx, hrun]
  refine hK _ _ (h v' w' ⟨by rw [List.length_append]; exact h2, hm.below.grown h3 hm.below.size (fun k hk => (hm.own.lt k hk).1)⟩)
end
set_option maxRecDepth 100000 in
/-- slices.Clone of limbs, wherever they lie -/
theorem bclone_any {A : Option Addr} {B n c : Nat} {xs : List Nat} {w : World} (hn : xs.length = n) (hB : B ≤ w.heap.size) (ha : Reads w B 1 A n (u32s xs)) (hl : n ≤ 4096) :
    Calls Tryd.prog 89 #[.slice A n c] w fun e w' => ∃ A' cp, e = .returned (.slice A' n cp) ∧ w'.ownsRow w.heap.size 64 1 (.slice A' n cp) n (u32s xs) ∧ Below w.heap.size w w' := by
  obtain ⟨i0, hi0, hz0, hz1, hz2⟩ := info_parts Tryd.info_u32
  cases A with
  | none =>
    have h0 : n = 0 := by
      rcases Nat.eq_zero_or_pos n with h | h
      · exact h
      · obtain ⟨ad, h1, _⟩ := ha.2 h; cases h1
    subst h0
    have hx : xs = [] := List.eq_nil_of_length_eq_zero hn
    subst hx
    refine (Tryd.slices_Clone_nil_f89 0 c w).mono ?_
    rintro e w' ⟨rfl, rfl⟩
    exact ⟨none, 0, rfl, World.ownsRow_nil _ _ _ _, Below.refl _ _⟩
  | some ad =>
    have ha' := hide (ha.alloc hB (.cells #[] 64))
    clear ha
    have HL := hide (u32s_len xs)
    have q22 : ∀ (w : World) (a : Option Addr) (n c n' c' : Nat), (binOp .eql 38 (.slice a n c) (.slice none n' c')).run Tryd.prog w = .ok (.bool a.isNone) w := fun w a n c n' c' => Lib.run_eql_slice_nil w _ _ a n c n' c' Tryd.underlying38
    subst hn
    go_enter Tryd.func89, Tryd.ntmps89
    go_wp2_with (at_builtin; refine wpList_anyQ rfl _ _ 38 rfl 64 i0 _ 4 Tryd.underlying38 hi0 hz0 hz1 hz2 rfl _ _ rfl (Made.empty w _) _ _ _ c _ rfl ha'.out (u32s_one _) (by simp; omega) (by omega) ?_; intro v' w' hm')
    obtain ⟨A', cp, rfl, _, _, _⟩ := hm'.shape
    rw [List.nil_append, HL.out]
    go_ret
    exact ⟨A', cp, rfl, by have := hm'.own; rw [List.nil_append, HL.out] at this; exact this, hm'.below⟩
set_option maxRecDepth 100000 in
/-- a number's size in memory of its own -/
theorem bmag_any {A : Option Addr} {B n c : Nat} {xs : List Nat} {w : World} (hn : xs.length = n) (ha : Reads w B 1 A n (u32s xs)) (hB : B ≤ w.heap.size) (hl : ∀ y ∈ xs, y < 4294967296) (hq : bigMay false xs = true) :
    Calls Tryd.prog 81 #[.agg #[.bool false, .slice A n c]] w fun e w' => ∃ A' cp, e = .returned (.slice A' n cp) ∧ w'.ownsRow w.heap.size 64 1 (.slice A' n cp) n (u32s xs) ∧ Below w.heap.size w w' := by
  have h8 : n ≤ 8 := by
    unfold bigMay at hq
    rw [Bool.and_eq_true] at hq
    have := of_decide_eq_true hq.1
    omega
  obtain ⟨W, hW⟩ : ∃ W, w.alloc (.cells #[.bool false, .slice A n c] 40) = W := ⟨_, rfl⟩
  have hb0 : Below w.heap.size w W := by rw [← hW]; exact (Below.refl _ _).alloc (Nat.le_refl _) _
  have hX1 : w.heap.size < W.heap.size := by rw [← hW]; simp
  have x0 : W.cell? ⟨w.heap.size, 0, none⟩ = some (.bool false) := by rw [← hW, World.cell?_alloc_at _ _ _ _ rfl]; rfl
  have x1 : W.cell? ⟨w.heap.size, 1, none⟩ = some (.slice A n c) := by rw [← hW, World.cell?_alloc_at _ _ _ _ rfl]; rfl
  have CM := hide (bmay_any (c := c) false hn (ha.below (hb0.mono hB)) (Nat.le_trans hB hb0.size) hl hq)
  have HB0 := hide hb0
  have HA := hide ha
  obtain ⟨X, hX⟩ : ∃ X, w.heap.size = X := ⟨_, rfl⟩
  go_enter Tryd.func81, Tryd.ntmps81
  go_upto_region 1 with (fail)
  clear ha hb0 hW
  rw [hX] at x0 x1 hX1
  clear hX
  go_wp2_with fail
  refine CM.out.mono ?_
  rintro e1 w1 ⟨rfl, hb1⟩
  have x11 := (hb1.cell (p := ⟨X, 1, none⟩) hX1).trans x1
  have HB1 := hide (HB0.out.trans (hb1.mono HB0.out.size))
  have CC := hide (bclone_any (c := c) hn (Nat.le_trans hB HB1.out.size) (HA.out.below (HB1.out.mono hB)) (by omega))
  clear hb1
  go_wp2_with fail
  refine CC.out.mono ?_
  rintro e2 w2 ⟨A', cp, rfl, ho, hb2⟩
  have HO := hide (own_less ho HB1.out.size)
  have HB2 := hide (HB1.out.trans (hb2.mono HB1.out.size))
  clear ho hb2
  go_wp2_with fail
  go_ret
  exact ⟨A', cp, rfl, HO.out, HB2.out⟩
set_option maxRecDepth 100000 in
/-- a number without a sign bears none -/
theorem bneg_any {A : Option Addr} {B n c : Nat} {xs : List Nat} {w : World} (hn : xs.length = n) (ha : Reads w B 1 A n (u32s xs)) (hB : B ≤ w.heap.size) (hl : ∀ y ∈ xs, y < 4294967296) (hq : bigMay false xs = true) :
    Calls Tryd.prog 83 #[.agg #[.bool false, .slice A n c]] w fun e w' => e = .returned (.bool false) ∧ Below w.heap.size w w' := by
  obtain ⟨W, hW⟩ : ∃ W, w.alloc (.cells #[.bool false, .slice A n c] 40) = W := ⟨_, rfl⟩
  have hb0 : Below w.heap.size w W := by rw [← hW]; exact (Below.refl _ _).alloc (Nat.le_refl _) _
  have hX1 : w.heap.size < W.heap.size := by rw [← hW]; simp
  have x0 : W.cell? ⟨w.heap.size, 0, none⟩ = some (.bool false) := by rw [← hW, World.cell?_alloc_at _ _ _ _ rfl]; rfl
  have x1 : W.cell? ⟨w.heap.size, 1, none⟩ = some (.slice A n c) := by rw [← hW, World.cell?_alloc_at _ _ _ _ rfl]; rfl
  have CM := hide (bmay_any (c := c) false hn (ha.below (hb0.mono hB)) (Nat.le_trans hB hb0.size) hl hq)
  have HB0 := hide hb0
  obtain ⟨X, hX⟩ : ∃ X, w.heap.size = X := ⟨_, rfl⟩
  go_enter Tryd.func83, Tryd.ntmps83
  go_upto_region 1 with (fail)
  clear ha hb0 hW
  rw [hX] at x0 x1 hX1
  clear hX
  go_wp2_with fail
  refine CM.out.mono ?_
  rintro e1 w1 ⟨rfl, hb1⟩
  have x01 := (hb1.cell (p := ⟨X, 0, none⟩) hX1).trans x0
  have HB1 := hide (HB0.out.trans (hb1.mono HB0.out.size))
  clear hb1
  go_wp2_with fail
  go_ret
  exact ⟨rfl, HB1.out⟩
end Go.Proofs.YtelcjdblnagdgaaDoor

namespace Go.Proofs.YtelcjdblnagdgaaDoor
open Go.RowKit

/-- how far the reversal is -/
def AtRev (zs : List UInt8) (i : Nat) (cs : List UInt8) : Prop := cs.length = zs.length ∧ 2 * i ≤ zs.length ∧ ∀ j, j < zs.length → cs[j]? = if j < i ∨ zs.length ≤ j + i then zs[zs.length - 1 - j]? else zs[j]?
theorem AtRev.start (zs : List UInt8) : AtRev zs 0 zs := ⟨rfl, by omega, fun j hj => by rw [if_neg (by omega)]⟩
theorem AtRev.done {zs cs : List UInt8} {i : Nat} (h : AtRev zs i cs) (h2 : zs.length ≤ 2 * i + 1) : cs = zs.reverse := by
  obtain ⟨hl, _, hg⟩ := h
  apply List.ext_getElem?
  intro j
  by_cases hj : j < zs.length
  · rw [hg j hj, List.getElem?_reverse hj]
    split
    · rfl
    · rw [show zs.length - 1 - j = j by omega]
  · rw [List.getElem?_eq_none (by omega), List.getElem?_eq_none (by simp; omega)]
theorem AtRev.get {zs cs : List UInt8} {i j : Nat} (h : AtRev zs i cs) (h1 : i ≤ j) (h2 : j + i < zs.length) : cs[j]? = zs[j]? := by
  rw [h.2.2 j (by omega), if_neg (by omega)]
theorem AtRev.step {zs cs : List UInt8} {i jn : Nat} {a b : UInt8} (h : AtRev zs i cs) (hj : i + jn + 1 = zs.length) (hij : i < jn) (ha : cs[i]? = some a) (hb : cs[jn]? = some b) : AtRev zs (i + 1) ((cs.set i b).set jn a) := by
  have ha2 := h.get (Nat.le_refl i) (by omega)
  have hb2 := h.get (j := jn) (by omega) (by omega)
  refine ⟨by simp [h.1], by omega, fun k hk => ?_⟩
  rw [List.getElem?_set, List.getElem?_set]
  by_cases e1 : jn = k
  · subst e1
    rw [if_pos rfl, if_pos (by simp; have := h.1; omega), if_pos (by omega), show zs.length - 1 - jn = i by omega, ← ha2, ha]
  · rw [if_neg e1]
    by_cases e2 : i = k
    · subst e2
      rw [if_pos rfl, if_pos (by have := h.1; omega), if_pos (by omega), show zs.length - 1 - i = jn by omega, ← hb2, hb]
    · rw [if_neg e2, h.2.2 k hk]
      by_cases e3 : k < i ∨ zs.length ≤ k + i
      · rw [if_pos e3, if_pos (by omega)]
      · rw [if_neg e3, if_neg (by omega)]
theorem u8s_get? {l : List UInt8} {j : Nat} {a : UInt8} (h : l[j]? = some a) : (u8s l)[j]? = some (.int .u8 (a.toNat : Int)) := by
  simp [u8s, u8v, h]
theorem u8s_set (l : List UInt8) (j : Nat) (a : UInt8) : (u8s l).set j (.int .u8 (a.toNat : Int)) = u8s (l.set j a) := by
  simp [u8s, u8v, List.map_set]
set_option maxHeartbeats 4000000 in
set_option maxRecDepth 100000 in
theorem brev_any {g n cp base : Nat} {zs : List UInt8} {w : World} (hn : zs.length = n) (hn6 : n ≤ 1000000) (ho : w.ownsRow base 5 1 (.slice (some ⟨g, 0, none⟩) n cp) n (u8s zs)) :
    Calls Tryd.prog 84 #[.slice (some ⟨g, 0, none⟩) n cp] w fun e w' => e = .returned (.tuple #[]) ∧ w'.ownsRow base 5 1 (.slice (some ⟨g, 0, none⟩) n cp) n (u8s zs.reverse) ∧ w.grownBy w' (some g) := by
  subst hn
  have HO := hide ho
  clear ho
  go_enter Tryd.func84, Tryd.ntmps84
  go_wp2_with fail
  go_loopg [2, 3] zs.length (fun r s2 s3 wr => ∃ (i : Nat) (jz : Int) (cs : List UInt8), s2 = .int .i64 i ∧ s3 = .int .i64 jz ∧ jz = (zs.length : Int) - 1 - i ∧ i + r = zs.length ∧ Hid (wr.ownsRow base 5 1 (.slice (some ⟨g, 0, none⟩) zs.length cp) zs.length (u8s cs)) ∧ Hid (w.grownBy wr (some g)) ∧ Hid (AtRev zs i cs))
  case atStart => exact ⟨0, _, zs, rfl, rfl, by omega, by omega, HO.out, World.grownBy.refl w _, AtRev.start zs⟩
  case round =>
    obtain ⟨i, jz, cs, rfl, rfl, hjz, hir, hown, hgr, hat⟩ := hrel
    by_cases hlt : (i : Int) < jz
    · obtain ⟨jn, rfl⟩ : ∃ jn : Nat, jz = (jn : Int) := ⟨jz.toNat, by omega⟩
      have hjn : i + jn + 1 = zs.length := by omega
      have hij : i < jn := by omega
      have hcl := hat.out.1
      obtain ⟨a, ha⟩ : ∃ a, cs[i]? = some a := ⟨cs[i]'(by omega), List.getElem?_eq_getElem _⟩
      obtain ⟨b, hb⟩ : ∃ b, cs[jn]? = some b := ⟨cs[jn]'(by omega), List.getElem?_eq_getElem _⟩
      have ci : wr.cell? ⟨g, i, none⟩ = some (.int .u8 (a.toNat : Int)) := by rw [hown.out.cellAt i (by omega), u8s_get? ha]
      have cj : wr.cell? ⟨g, jn, none⟩ = some (.int .u8 (b.toNat : Int)) := by rw [hown.out.cellAt jn (by omega), u8s_get? hb]
      have fi := hown.out.frozenAt i
      have fj := hown.out.frozenAt jn
      have HST := hide (hat.out.step hjn hij ha hb)
      have hz1 : (i : Int) < (zs.length : Int) := by omega
      have hz2 : (jn : Int) < (zs.length : Int) := by omega
      clear hjz hcl ha hb
      go_wp2_with fail
      go_region
      all_goals go_wp2
      all_goals go_roundg (gk - 1)
      case measure => omega
      case rel =>
        have st1 := hown.out.stored i (.int .u8 (b.toNat : Int))
        have st2 := st1.1.stored jn (.int .u8 (a.toNat : Int))
        refine ⟨i + 1, (jn : Int) - 1, (cs.set i b).set jn a, by go_num, rfl, by omega, by omega, ?_, grown_trans hgr.out (grown_trans (grown_trans st1.2 st2.2) (grown_drewN _ (some g) 1)), HST.out⟩
        rw [← u8s_set, ← u8s_set]
        exact st2.1.drew
    · have hd := hat.out.done (by omega)
      go_wp2
      go_end0
      exact ⟨rfl, by rw [← hd]; exact hown.out, hgr.out⟩
end Go.Proofs.YtelcjdblnagdgaaDoor

namespace Go.Proofs.YtelcjdblnagdgaaDoor
open Go.RowKit

theorem u32s_setT (l : List Nat) (k x : Nat) : (u32s l).set k (.int .u32 (x : Int)) = u32s (l.set k x) := by
  simp [u32s, List.map_set]
theorem own_belowB {w w' : World} {base n size : Nat} {e : TypeId} {v : Value} {xs : List Value} (h : w.ownsRow base e size v n xs) (hb : Below w.heap.size w w') : w'.ownsRow base e size v n xs :=
  h.kept (row := none) ⟨hb.os, hb.tape, hb.output, hb.size, fun k hk _ => hb.block k hk⟩ (by cases hv : v.ownBlock <;> simp)
theorem own_other {w w' : World} {base g n c size : Nat} {e : TypeId} {xs : List Value} {row : Option Nat} (h : w.ownsRow base e size (.slice (some ⟨g, 0, none⟩) n c) n xs) (hg : w.grownBy w' row) (hne : some g ≠ row) : w'.ownsRow base e size (.slice (some ⟨g, 0, none⟩) n c) n xs := by
  refine ⟨h.1, ?_⟩
  rcases h.2 with ⟨h1, _⟩ | ⟨g', cap, cur, h1, hb, hgh, hr⟩
  · cases h1
  · right
    refine ⟨g', cap, cur, h1, hb, ?_, hr⟩
    have e : g = g' := by injection h1 with h1; injection h1 with h1; injection h1
    subst e
    rw [hg.block g (by
      rcases Nat.lt_or_ge g w.heap.size with h' | h'
      · exact h'
      · rw [Array.getElem?_eq_none h'] at hgh; cases hgh) hne]
    exact hgh
theorem or32 {r x : Nat} (hr : r ≤ 9) (hx : x < 4294967296) : bits .or .u64 (((r * 4294967296 : Nat)) : Int) (x : Int) = ((r * 4294967296 + x : Nat) : Int) := by
  have := u64_or_nat (r * 4294967296) x (by omega) (by omega)
  rw [this, show r * 4294967296 = 2 ^ 32 * r by omega, Nat.two_pow_add_eq_or_of_lt hx]
set_option maxHeartbeats 8000000 in
set_option maxRecDepth 100000 in
theorem btext_some {A : Option Addr} {B n c : Nat} {xs : List Nat} {w : World} (hn : xs.length = n) (ha : Reads w B 1 A n (u32s xs)) (hB : B ≤ w.heap.size) (hl : ∀ y ∈ xs, y < 4294967296) (hq : bigMay false xs = true) (h0 : 0 < n) (h8 : n ≤ 8) (htr : trimL xs = xs) (hd78 : (decS (valL xs)).length ≤ 78) :
    Calls Tryd.prog 65 #[.agg #[.bool false, .slice A n c]] w fun e w' => e = .returned (.string ⟨(decS (valL xs)).toArray⟩) ∧ Below w.heap.size w w' := by
  obtain ⟨i0, hi0, hz0, hz1, hz2⟩ := info_parts Tryd.info_u8
  obtain ⟨W, hW⟩ : ∃ W, w.alloc (.cells #[.bool false, .slice A n c] 40) = W := ⟨_, rfl⟩
  have hb0 : Below w.heap.size w W := by rw [← hW]; exact (Below.refl _ _).alloc (Nat.le_refl _) _
  have hX1 : w.heap.size < W.heap.size := by rw [← hW]; simp
  have x0 : W.cell? ⟨w.heap.size, 0, none⟩ = some (.bool false) := by rw [← hW, World.cell?_alloc_at _ _ _ _ rfl]; rfl
  have x1 : W.cell? ⟨w.heap.size, 1, none⟩ = some (.slice A n c) := by rw [← hW, World.cell?_alloc_at _ _ _ _ rfl]; rfl
  have CM := hide (bmag_any (c := c) hn (ha.below (hb0.mono hB)) (Nat.le_trans hB hb0.size) hl hq)
  have CG := hide (fun (w2 : World) (hb : Below W.heap.size W w2) => bneg_any (c := c) hn (ha.below ((hb0.trans (hb.mono hb0.size)).mono hB)) (Nat.le_trans hB (hb0.trans (hb.mono hb0.size)).size) hl hq)
  have HB0 := hide hb0
  have HN := hide hn
  have HL := hide hl
  have HT := hide htr
  obtain ⟨X, hX⟩ : ∃ X, w.heap.size = X := ⟨_, rfl⟩
  go_enter Tryd.func65, Tryd.ntmps65
  go_upto_region 1 with (fail)
  clear ha hb0 hW hl hq htr hn
  rw [hX] at x0 x1 hX1
  clear hX
  go_wp2_with fail
  refine CM.out.mono ?_
  rintro e1 w1 ⟨A', cp, rfl, ho, hb1⟩
  obtain ⟨g, cap, hv, hgb, hgl⟩ := ho.form h0
  injection hv with hA _ hcap
  subst hA hcap
  obtain ⟨hnc, hcm⟩ : n ≤ cp ∧ cp ≤ maxLen := by
    obtain ⟨_, c9, e9, h1, h2⟩ := own_shape ho
    injection e9 with e91 e92 e93
    subst e93
    exact ⟨h1, h2⟩
  have hn0 : ((n : Int) == 0) = false := beq_eq_false_iff_ne.2 (by omega)
  have y0 := (hb1.cell (p := ⟨X, 0, none⟩) hX1).trans x0
  have y1 := (hb1.cell (p := ⟨X, 1, none⟩) hX1).trans x1
  have HB1 := hide hb1
  have HO := hide ho
  clear hb1 ho
  go_wp2_with fail
  go_loopg [3, 4] (valL xs) (fun r m l wr => ∃ (ms : List Nat) (k : Nat) (ls : List UInt8), m = .slice (some ⟨g, 0, none⟩) k cp ∧ k ≤ 8 ∧ k ≤ cp ∧ Hid (valL ms = r) ∧ Hid (ms.length = k) ∧ Hid (trimL ms = ms) ∧ Hid (∀ y ∈ ms, y < 4294967296) ∧ Hid (wr.ownsRow W.heap.size 64 1 (.slice (some ⟨g, 0, none⟩) k cp) k (u32s ms)) ∧ Hid (MadeM w1 wr g 5 l (u8s ls)) ∧ Hid (AtTxt (valL xs) r ls))
  case atStart => exact ⟨xs, n, [], rfl, h8, hnc, rfl, HN.out, HT.out, HL.out, HO.out, MadeM.nil (World.grownBy.refl w1 _) _, AtTxt.start (fun e => by have h1 := trimL_nil.2 e; rw [HT.out] at h1; have := HN.out; rw [h1] at this; simp at this; omega)⟩
  case round =>
    obtain ⟨ms, k, ls, rfl, hk8, hkc, hval, hlen, htm, hlt, hown, hm, hat⟩ := hrel
    by_cases hk : 0 < k
    · go_wp2_with fail
      obtain ⟨G, rfl⟩ : ∃ G, G = gk := ⟨_, rfl⟩
      obtain ⟨wo, rfl⟩ : ∃ wo, wo = wr := ⟨_, rfl⟩
      go_loopg [5, 6] k (fun q rv iv wi => ∃ (rr : Nat) (cs : List Nat), rv = .int .u64 rr ∧ iv = .int .i64 ((q : Int) - 1) ∧ q ≤ k ∧ rr ≤ 9 ∧ Hid (AtDiv ms q rr cs) ∧ Hid (wi.ownsRow W.heap.size 64 1 (.slice (some ⟨g, 0, none⟩) k cp) k (u32s cs)) ∧ Hid (wo.grownBy wi (some g)))
      case atStart => exact ⟨0, ms, rfl, rfl, Nat.le_refl _, by omega, by rw [← hlen.out]; exact AtDiv.start hlt.out, hown.out, World.grownBy.refl _ _⟩
      case round =>
        obtain ⟨rr, cs, rfl, rfl, hqk, hr9, hdiv, hownI, hgrI⟩ := hrel
        by_cases hq0 : 0 < gk
        · obtain ⟨p, hp⟩ : ∃ p, gk = p + 1 := ⟨gk - 1, by omega⟩
          subst hp
          have hpk : p < ms.length := by rw [hlen.out]; omega
          have hx := hdiv.out.get hpk
          have hxl : ms[p] < 4294967296 := hlt.out _ (List.getElem_mem _)
          have hce : wr.cell? ⟨g, p, none⟩ = some (.int .u32 (ms[p] : Int)) := by
            rw [hownI.out.cellAt p (by omega), u32s_get (by rw [hdiv.out.len]; exact hpk), hx]
          have hfr := hownI.out.frozenAt p
          have HST := hide (hdiv.out.step hpk)
          obtain ⟨x, hxx⟩ : ∃ x, ms[p] = x := ⟨_, rfl⟩
          rw [hxx] at hce HST hxl
          obtain ⟨t, ht⟩ : ∃ t, rr * 4294967296 + x = t := ⟨_, rfl⟩
          have ht2 : t < 42949672960 := by omega
          rw [ht] at HST
          have eor : bits .or .u64 ((rr : Int) * 4294967296) (x : Int) = (t : Int) := by
            have := or32 hr9 hxl
            rw [ht] at this
            rw [← this]
            congr 1
          obtain ⟨d, hd⟩ : ∃ d, t / 10 = d := ⟨_, rfl⟩
          obtain ⟨mm, hmm⟩ : ∃ d, t % 10 = d := ⟨_, rfl⟩
          have em : (t : Int).tmod 10 = (mm : Int) := by rw [← hmm]; rfl
          have ed0 : (t : Int).tdiv 10 = (d : Int) := by rw [← hd]; rfl
          have hdl : (d : Int) ≤ 4294967295 := by omega
          have hm9 : mm ≤ 9 := by omega
          rw [hd, hmm] at HST
          have ep : ((p + 1 : Nat) : Int) - 1 = (p : Int) := by omega
          rw [ep]
          clear hx hxx hpk ht hd hmm ht2
          go_wp2_with fail
          go_roundg p
          case measure => omega
          case rel =>
            have st := hownI.out.stored p (.int .u32 (d : Int))
            rw [u32s_setT] at st
            refine ⟨mm, cs.set p d, rfl, rfl, by omega, hm9, HST.out, st.1, grown_trans hgrI.out st.2⟩
        · obtain rfl : gk = 0 := by omega
          have hdn := hdiv.out.done
          have hcsl := hdiv.out.len
          rw [hlen.out] at hcsl
          have hrr : rr = valL ms % 10 := by omega
          have hcv : valL cs = valL ms / 10 := by omega
          have hv0 : valL ms ≠ 0 := fun e => by
            have h1 := trimL_nil.2 e
            rw [htm.out] at h1
            have := hlen.out
            rw [h1] at this
            simp at this
            omega
          have HAT := hide (hat.out.step (by rw [← hval.out]; exact hv0))
          rw [← hval.out] at HAT
          rw [← hrr] at HAT
          have HLS := hide hat.out.len
          have hls : (u8s ls).length ≤ 78 := by rw [u8s_len]; have := HLS.out; omega
          have hm2 := hide (hm.out.go hgl hgrI.out)
          have hne : some g ≠ u4.ownBlock := fun e => by have := (hm2.out.own.lt g e.symm).1; omega
          have HC := hide (show u8s [chr (48 + rr)] = [.int .u8 (48 + (rr : Int))] by
            have : (chr (48 + rr)).toNat = 48 + rr := chr_nat (by omega)
            simp [u8s, u8v, this])
          have HCV := hide hcv
          have HCL := hide hcsl
          have HLT := hide hdiv.out.lt
          have HV0 := hide hv0
          clear hdn hrr hcv hcsl hv0 hm hat hdiv
          go_wp2_with (at_builtin; refine wpList_litM rfl _ _ 93 rfl 5 i0 _ 1 Tryd.underlying93 hi0 hz0 hz1 hz2 rfl _ _ rfl hm2.out [.int .u8 (48 + (rr : Int))] 1 1 rfl rfl rfl (by omega) (by omega) ?_; intro v' w' hm' hgr)
          have ho2 := own_other hownI.out hgr hne
          obtain ⟨m, hm3⟩ : ∃ m, (trimL cs).length = m := ⟨_, rfl⟩
          have hmk : m ≤ k := by have := trimL_len cs; rw [hm3, HCL.out] at this; exact this
          have ho3 : w'.ownsRow W.heap.size 64 1 (.slice (some ⟨g, 0, none⟩) m cp) m (u32s (trimL cs)) := by
            have h1 := own_take ho2 hmk
            rw [u32s_take, ← hm3, ← trimL_take] at h1
            rw [← hm3]
            exact h1
          have CT := hide (btrim_is (xs := cs) (m := m) (c := cp) HCL.out (Reads.of_own ho2) (by omega) hkc hcm hm3)
          have HO3 := hide ho3
          have HM3 := hide hm'
          have HML := hide hm3
          clear ho2 ho3 hm' hgr hm3
          refine CT.out.mono ?_
          rintro e5 w5 ⟨rfl, rfl⟩
          go_wp2_with fail
          go_roundg (valL (trimL cs))
          case measure =>
            have := valL_trimL cs
            have h2 := HCV.out
            have h3 := HV0.out
            have h4 := hval.out
            omega
          case rel =>
            refine ⟨trimL cs, m, ls ++ [chr (48 + rr)], rfl, by omega, by omega, rfl, HML.out, trimL_idem cs, fun y hy => HLT.out y (trimL_mem hy), HO3.out, HM3.out.cells (by rw [← HC.out]; simp [u8s]), ?_⟩
            have := HAT.out
            rw [← HCV.out, ← valL_trimL cs] at this
            exact this
    · have hk0 : k = 0 := by omega
      have hms : ms = [] := List.eq_nil_of_length_eq_zero (by rw [hlen.out, hk0])
      have hg0 : gk = 0 := by rw [← hval.out, hms]; rfl
      rw [hg0] at hat
      have hrev := hat.out.done
      have hls0 : 0 < ls.length := by
        rcases Nat.eq_zero_or_pos ls.length with h | h
        · exfalso
          have h1 := congrArg List.length hrev
          rw [List.length_reverse, h] at h1
          have h2 : 0 < (decS (valL xs)).length := by
            by_cases h10 : valL xs < 10
            · rw [decS_lo h10]; simp
            · rw [decS_hi h10]; simp
          omega
        · exact h
      have hlen78 : ls.length ≤ 78 := by have := congrArg List.length hrev; rw [List.length_reverse] at this; omega
      have hbl := hm.out.own
      obtain ⟨g2, cp2, hv2, hg2b, _⟩ := hbl.form (by rw [u8s_len]; exact hls0)
      rw [u8s_len] at hv2 hbl
      rw [hv2] at hbl
      have HBW := hide (HB1.out.grown hm.out.grown HB1.out.size (fun k hk => by injection hk with hk; omega))
      have z0 := (HBW.out.cell (p := ⟨X, 0, none⟩) hX1).trans x0
      have z1 := (HBW.out.cell (p := ⟨X, 1, none⟩) hX1).trans x1
      have HBL := hide hbl
      have HREV := hide hrev
      have HGW := hide (HB0.out.trans (HBW.out.mono HB0.out.size))
      have CN := hide (CG.out wr HBW.out)
      obtain ⟨q, hq⟩ : ∃ q, ls.length = q := ⟨_, rfl⟩
      subst hv2
      have HQ := hide hq
      rw [hq] at hls0 hlen78 HBL
      subst hk0
      rw [hq]
      clear hms hg0 hrev hbl hval hlen htm hlt hown hm hat hq y0 y1 x0 x1
      go_wp2_with fail
      refine CN.out.mono ?_
      rintro e5 w5 ⟨rfl, hb5⟩
      have CR := hide (brev_any (zs := ls) HQ.out (by omega) (own_belowB HBL.out hb5))
      have HG5 := hide (HGW.out.trans (hb5.mono HGW.out.size))
      clear hb5
      go_wp2_with fail
      refine CR.out.mono ?_
      rintro e6 w6 ⟨rfl, ho6, hg6⟩
      rw [HREV.out] at ho6
      have hs := run_str (c := cp2) (Reads.of_own ho6)
      have HG6 := hide (show Below w.heap.size w w6 from HG5.out.grown hg6 HG5.out.size (fun k hk => by injection hk with hk; have := HB1.out.size; have := HB0.out.size; omega))
      clear ho6 hg6
      go_wp2_with fail
      go_ret
      exact ⟨rfl, HG6.out⟩
set_option maxHeartbeats 2000000 in
set_option maxRecDepth 100000 in
theorem btext_none {A : Option Addr} {B c : Nat} {w : World} (ha : Reads w B 1 A 0 (u32s [])) (hB : B ≤ w.heap.size) :
    Calls Tryd.prog 65 #[.agg #[.bool false, .slice A 0 c]] w fun e w' => e = .returned (.string ⟨#[48]⟩) ∧ Below w.heap.size w w' := by
  obtain ⟨W, hW⟩ : ∃ W, w.alloc (.cells #[.bool false, .slice A 0 c] 40) = W := ⟨_, rfl⟩
  have hb0 : Below w.heap.size w W := by rw [← hW]; exact (Below.refl _ _).alloc (Nat.le_refl _) _
  have x0 : W.cell? ⟨w.heap.size, 0, none⟩ = some (.bool false) := by rw [← hW, World.cell?_alloc_at _ _ _ _ rfl]; rfl
  have x1 : W.cell? ⟨w.heap.size, 1, none⟩ = some (.slice A 0 c) := by rw [← hW, World.cell?_alloc_at _ _ _ _ rfl]; rfl
  have CM := hide (bmag_any (xs := []) (c := c) rfl (ha.below (hb0.mono hB)) (Nat.le_trans hB hb0.size) (by simp) (by rfl))
  have HB0 := hide hb0
  obtain ⟨X, hX⟩ : ∃ X, w.heap.size = X := ⟨_, rfl⟩
  go_enter Tryd.func65, Tryd.ntmps65
  go_upto_region 1 with (fail)
  clear ha hb0 hW
  rw [hX] at x0 x1
  clear hX
  go_wp2_with fail
  refine CM.out.mono ?_
  rintro e1 w1 ⟨A', cp, rfl, ho, hb1⟩
  have HB1 := hide (HB0.out.trans (hb1.mono HB0.out.size))
  clear ho hb1
  go_wp2_with fail
  go_ret
  exact ⟨rfl, HB1.out⟩
/-- big.Text of a number that may be and has no sign: its digits -/
theorem btext_any {A : Option Addr} {B n c : Nat} {xs : List Nat} {w : World} (hn : xs.length = n) (ha : Reads w B 1 A n (u32s xs)) (hB : B ≤ w.heap.size) (hl : ∀ y ∈ xs, y < 4294967296) (hq : bigMay false xs = true) (hd78 : (decS (valM xs)).length ≤ 78) :
    Calls Tryd.prog 65 #[.agg #[.bool false, .slice A n c]] w fun e w' => e = .returned (.string ⟨(decS (valM xs)).toArray⟩) ∧ Below w.heap.size w w' := by
  rcases Nat.eq_zero_or_pos n with h0 | h0
  · subst h0
    have hx : xs = [] := List.eq_nil_of_length_eq_zero hn
    subst hx
    refine (btext_none ha hB).mono ?_
    rintro e w' ⟨rfl, hb⟩
    exact ⟨by rw [show valM [] = 0 from rfl, decS_lo (by omega)]; rfl, hb⟩
  · have h8 : n ≤ 8 := by
      unfold bigMay at hq
      rw [Bool.and_eq_true] at hq
      have := of_decide_eq_true hq.1
      omega
    have htr : trimL xs = xs := by
      unfold bigMay at hq
      rw [Bool.and_eq_true] at hq
      have h2 := hq.2
      cases hx : xs.getLast? with
      | none => rw [List.getLast?_eq_none_iff] at hx; subst hx; rfl
      | some x =>
        rw [hx] at h2
        exact trimL_last hx (by simpa using h2)
    rw [← valL_valM] at hd78 ⊢
    exact btext_some hn ha hB hl hq h0 h8 htr hd78
end Go.Proofs.YtelcjdblnagdgaaDoor

namespace Go.Proofs.YtelcjdblnagdgaaDoor
open Go.RowKit

set_option maxHeartbeats 4000000 in
set_option maxRecDepth 100000 in
theorem ex_30 {C : Cx} {us : List UInt16} {v : Value} {w : World} {L ck : Nat} {Ak : Option Addr} (nb : ByteArray) (vs vm : Value) (nn : Int) (ng : Bool) (h0 : 0 ≤ nn) (h1 : nn ≤ 9007199254740991) (hp : Pe C us v w) (hm : MayPut us ([decS nn.toNat])) :
    Calls Tryd.prog 47 #[.pointer (some ⟨C.g, 0, none⟩), .agg #[.int .i64 30, .string nb, vs, .int .i64 0, .int .i64 nn, .bool ng, vm, .slice Ak L ck]] w (PutQ C us v w ([decS nn.toNat])) := by
  obtain ⟨W, hW⟩ : ∃ W, w.alloc (.cells #[.int .i64 30, .string nb, vs, .int .i64 0, .int .i64 nn, .bool ng, vm, .slice Ak L ck] 42) = W := ⟨_, rfl⟩
  have hb0 : Below w.heap.size w W := by rw [← hW]; exact (Below.refl _ _).alloc (Nat.le_refl _) _
  have x0 : W.cell? ⟨w.heap.size, 0, none⟩ = some (.int .i64 30) := by rw [← hW, World.cell?_alloc_at _ _ _ _ rfl]; rfl
  have x3 : W.cell? ⟨w.heap.size, 3, none⟩ = some (.int .i64 0) := by rw [← hW, World.cell?_alloc_at _ _ _ _ rfl]; rfl
  have x4 : W.cell? ⟨w.heap.size, 4, none⟩ = some (.int .i64 nn) := by rw [← hW, World.cell?_alloc_at _ _ _ _ rfl]; rfl
  have x7 : W.cell? ⟨w.heap.size, 7, none⟩ = some (.slice Ak L ck) := by rw [← hW, World.cell?_alloc_at _ _ _ _ rfl]; rfl
  have HP0 := hide (hp.below hb0)
  have HB0 := hide hb0
  have HM := hide hm
  have CT := hide (ntext_any nn W h0 h1 HP0.out.tab)
  obtain ⟨X, hX⟩ : ∃ X, w.heap.size = X := ⟨_, rfl⟩
  go_enter Tryd.func47, Tryd.ntmps47
  go_upto_region 1 with (fail)
  clear hp hm hb0 
  clear hW
  rw [hX] at x0
  rw [hX] at x3
  rw [hX] at x4
  rw [hX] at x7
  clear hX
  go_wp2_with fail
  refine CT.out.mono ?_
  rintro e1 w1 ⟨rfl, hb1⟩
  have HP1 := hide (HP0.out.below hb1)
  have HB1 := hide (HB0.out.trans (hb1.mono HB0.out.size))
  have C2 := hide (put_lit HP1.out [decS nn.toNat] 1 rfl HM.out)
  clear hb1
  go_wp2_with fail
  refine C2.out.mono ?_
  rintro e2 w2 ⟨rfl, v2, hp2, hk2⟩
  have HP2 := hide hp2
  have HK2 := hide hk2
  clear hp2 hk2
  go_wp2_with fail
  refine bodyPost_ret (v := .tuple #[]) (by simp [results, Tryd.results47, go_sem]) rfl ?_
  exact PutQ.back HB1.out ⟨rfl, v2, HP2.out, HK2.out⟩
theorem put_n1 {C : Cx} {us : List UInt16} {v : Value} {w : World} {d : List UInt8} {nb : ByteArray} (h : ⟨d.toArray⟩ = nb) (hp : Pe C us v w) (hm : MayPut us [d ++ [110]]) :
    Calls Tryd.prog 59 #[.pointer (some ⟨C.g, 0, none⟩), .slice (some ⟨w.heap.size, 0, none⟩) 1 1] (w.alloc (.cells #[.string (nb ++ ⟨#[110]⟩)] 9)) (PutQ C us v w [d ++ [110]]) := by
  have e : nb ++ ⟨#[110]⟩ = ⟨(d ++ [110]).toArray⟩ := by
    subst h
    apply ByteArray.ext
    simp
  rw [e]
  exact put_lit hp [d ++ [110]] 1 rfl hm
set_option maxHeartbeats 4000000 in
set_option maxRecDepth 100000 in
theorem ex_31 {C : Cx} {us : List UInt16} {v : Value} {w : World} {lm cm L ck : Nat} {Am Ak : Option Addr} {ms : List Nat} (nb : ByteArray) (vs : Value) (nk nn : Int) (hn : ms.length = lm) (hst : Reads w C.B 1 Am lm (u32s ms)) (hl : ∀ y ∈ ms, y < 4294967296) (hq : bigMay false ms = true) (hd78 : (decS (valM ms)).length ≤ 78) (hp : Pe C us v w) (hm : MayPut us ([decS (valM ms) ++ [110]])) :
    Calls Tryd.prog 47 #[.pointer (some ⟨C.g, 0, none⟩), .agg #[.int .i64 31, .string nb, vs, .int .i64 nk, .int .i64 nn, .bool false, .slice Am lm cm, .slice Ak L ck]] w (PutQ C us v w ([decS (valM ms) ++ [110]])) := by
  obtain ⟨W, hW⟩ : ∃ W, w.alloc (.cells #[.int .i64 31, .string nb, vs, .int .i64 nk, .int .i64 nn, .bool false, .slice Am lm cm, .slice Ak L ck] 42) = W := ⟨_, rfl⟩
  have hb0 : Below w.heap.size w W := by rw [← hW]; exact (Below.refl _ _).alloc (Nat.le_refl _) _
  have x0 : W.cell? ⟨w.heap.size, 0, none⟩ = some (.int .i64 31) := by rw [← hW, World.cell?_alloc_at _ _ _ _ rfl]; rfl
  have x5 : W.cell? ⟨w.heap.size, 5, none⟩ = some (.bool false) := by rw [← hW, World.cell?_alloc_at _ _ _ _ rfl]; rfl
  have x6 : W.cell? ⟨w.heap.size, 6, none⟩ = some (.slice Am lm cm) := by rw [← hW, World.cell?_alloc_at _ _ _ _ rfl]; rfl
  have x7 : W.cell? ⟨w.heap.size, 7, none⟩ = some (.slice Ak L ck) := by rw [← hW, World.cell?_alloc_at _ _ _ _ rfl]; rfl
  have HP0 := hide (hp.below hb0)
  have HB0 := hide hb0
  have HM := hide hm
  have CT := hide (btext_any (c := cm) hn (hst.below (hb0.mono (Nat.le_of_lt hp.blt))) (Nat.le_trans (Nat.le_of_lt hp.blt) hb0.size) hl hq hd78)
  obtain ⟨sb, hsb⟩ : ∃ sb : ByteArray, ⟨(decS (valM ms)).toArray⟩ = sb := ⟨_, rfl⟩
  rw [hsb] at CT
  have HSB := hide hsb
  have hss : sb.size ≤ 78 := by rw [← hsb]; simpa [ByteArray.size] using hd78
  have hse : sb.toList.length = sb.size := by rw [ByteArray.toList_eq]; rfl
  obtain ⟨X, hX⟩ : ∃ X, w.heap.size = X := ⟨_, rfl⟩
  go_enter Tryd.func47, Tryd.ntmps47
  go_upto_region 1 with (fail)
  clear hp hm hb0 hst hn hl hq hd78 hsb
  clear hW
  rw [hX] at x0
  rw [hX] at x5
  rw [hX] at x6
  rw [hX] at x7
  clear hX
  go_wp2_with fail
  refine CT.out.mono ?_
  rintro e1 w1 ⟨rfl, hb1⟩
  have HP1 := hide (HP0.out.below hb1)
  have HB1 := hide (HB0.out.trans (hb1.mono HB0.out.size))
  have C2 := hide (put_n1 HSB.out HP1.out HM.out)
  clear hb1
  go_wp2_with fail
  refine C2.out.mono ?_
  rintro e2 w2 ⟨rfl, v2, hp2, hk2⟩
  have HP2 := hide hp2
  have HK2 := hide hk2
  clear hp2 hk2
  go_wp2_with fail
  refine bodyPost_ret (v := .tuple #[]) (by simp [results, Tryd.results47, go_sem]) rfl ?_
  exact PutQ.back HB1.out ⟨rfl, v2, HP2.out, HK2.out⟩
set_option maxHeartbeats 4000000 in
set_option maxRecDepth 100000 in
theorem ex_32 {C : Cx} {us : List UInt16} {v : Value} {w : World} {ls cs L ck : Nat} {As Ak : Option Addr} {st : List UInt16} (nb : ByteArray) (vm : Value) (nk nn : Int) (ng : Bool) (hn : st.length = ls) (hls : ls ≤ 1000000) (hst : Reads w C.B 1 As ls (u16s st)) (hp : Pe C us v w) (hm : MayPut us ([quoP st])) :
    Calls Tryd.prog 47 #[.pointer (some ⟨C.g, 0, none⟩), .agg #[.int .i64 32, .string nb, .slice As ls cs, .int .i64 nk, .int .i64 nn, .bool ng, vm, .slice Ak L ck]] w (PutQ C us v w ([quoP st])) := by
  obtain ⟨W, hW⟩ : ∃ W, w.alloc (.cells #[.int .i64 32, .string nb, .slice As ls cs, .int .i64 nk, .int .i64 nn, .bool ng, vm, .slice Ak L ck] 42) = W := ⟨_, rfl⟩
  have hb0 : Below w.heap.size w W := by rw [← hW]; exact (Below.refl _ _).alloc (Nat.le_refl _) _
  have x0 : W.cell? ⟨w.heap.size, 0, none⟩ = some (.int .i64 32) := by rw [← hW, World.cell?_alloc_at _ _ _ _ rfl]; rfl
  have x2 : W.cell? ⟨w.heap.size, 2, none⟩ = some (.slice As ls cs) := by rw [← hW, World.cell?_alloc_at _ _ _ _ rfl]; rfl
  have x7 : W.cell? ⟨w.heap.size, 7, none⟩ = some (.slice Ak L ck) := by rw [← hW, World.cell?_alloc_at _ _ _ _ rfl]; rfl
  have HP0 := hide (hp.below hb0)
  have HB0 := hide hb0
  have HM := hide hm
  have CT := hide (quoted_any (c := cs) hn (Nat.le_trans (Nat.le_of_lt hp.blt) hb0.size) (hst.below (hb0.mono (Nat.le_of_lt hp.blt))) hls)
  obtain ⟨X, hX⟩ : ∃ X, w.heap.size = X := ⟨_, rfl⟩
  go_enter Tryd.func47, Tryd.ntmps47
  go_upto_region 1 with (fail)
  clear hp hm hb0 hst hn
  clear hW
  rw [hX] at x0
  rw [hX] at x2
  rw [hX] at x7
  clear hX
  go_wp2_with fail
  refine CT.out.mono ?_
  rintro e1 w1 ⟨rfl, hb1⟩
  have HP1 := hide (HP0.out.below hb1)
  have HB1 := hide (HB0.out.trans (hb1.mono HB0.out.size))
  have C2 := hide (put_lit HP1.out [quoP st] 1 rfl HM.out)
  clear hb1
  go_wp2_with fail
  refine C2.out.mono ?_
  rintro e2 w2 ⟨rfl, v2, hp2, hk2⟩
  have HP2 := hide hp2
  have HK2 := hide hk2
  clear hp2 hk2
  go_wp2_with fail
  refine bodyPost_ret (v := .tuple #[]) (by simp [results, Tryd.results47, go_sem]) rfl ?_
  exact PutQ.back HB1.out ⟨rfl, v2, HP2.out, HK2.out⟩
set_option maxHeartbeats 4000000 in
set_option maxRecDepth 100000 in
theorem ex_40 {C : Cx} {us : List UInt16} {v : Value} {w : World} {m ls cs ck : Nat} {As Ak : Option Addr} {st : List UInt16} (nb : ByteArray) (vm : Value) (nk nn : Int) (ng : Bool) {a0 : Tr} (hN : NodeC C m) (s0 : a0.size ≤ m) (hk : KidsS C w Ak [a0]) (hn : st.length = ls) (hls : ls ≤ 1000000) (hst : Reads w C.B 1 As ls (u16s st)) (hp : Pe C us v w) (hm : MayPut us ([quoP st, [58]] ++ partP (a0.nd.kind, prT a0))) :
    Calls Tryd.prog 47 #[.pointer (some ⟨C.g, 0, none⟩), .agg #[.int .i64 40, .string nb, .slice As ls cs, .int .i64 nk, .int .i64 nn, .bool ng, vm, .slice Ak 1 ck]] w (PutQ C us v w ([quoP st, [58]] ++ partP (a0.nd.kind, prT a0))) := by
  obtain ⟨b, o, rfl, hka⟩ := hk (by simp)
  obtain ⟨W, hW⟩ : ∃ W, w.alloc (.cells #[.int .i64 40, .string nb, .slice As ls cs, .int .i64 nk, .int .i64 nn, .bool ng, vm, .slice (some ⟨b, o, none⟩) 1 ck] 42) = W := ⟨_, rfl⟩
  have hb0 : Below w.heap.size w W := by rw [← hW]; exact (Below.refl _ _).alloc (Nat.le_refl _) _
  have x0 : W.cell? ⟨w.heap.size, 0, none⟩ = some (.int .i64 40) := by rw [← hW, World.cell?_alloc_at _ _ _ _ rfl]; rfl
  have x2 : W.cell? ⟨w.heap.size, 2, none⟩ = some (.slice As ls cs) := by rw [← hW, World.cell?_alloc_at _ _ _ _ rfl]; rfl
  have x7 : W.cell? ⟨w.heap.size, 7, none⟩ = some (.slice (some ⟨b, o, none⟩) 1 ck) := by rw [← hW, World.cell?_alloc_at _ _ _ _ rfl]; rfl
  obtain ⟨p0, at0, bb0, cc0⟩ := (hka.below (hb0.mono (Nat.le_of_lt hp.blt))) 0 (by simp)
  have c0 : W.cell? ⟨b, o, none⟩ = some (.int .i64 (p0 : Int)) := cc0
  have AT0 : Hid (At C.ts p0 a0) := at0
  have HN := hide hN
  have HP0 := hide (hp.below hb0)
  have HB0 := hide hb0
  obtain ⟨mm1, mm2⟩ := hm.two (b := [quoP st, [58]]) (c := partP (a0.nd.kind, prT a0)) rfl
  have M1 := hide mm1
  have M2 := hide mm2
  have CT := hide (quoted_any (c := cs) hn (Nat.le_trans (Nat.le_of_lt hp.blt) hb0.size) (hst.below (hb0.mono (Nat.le_of_lt hp.blt))) hls)
  obtain ⟨X, hX⟩ : ∃ X, w.heap.size = X := ⟨_, rfl⟩
  go_enter Tryd.func47, Tryd.ntmps47
  go_upto_region 1 with (fail)
  clear hp hm hb0 hst hn hN hka at0 cc0 mm1 mm2
  clear hW
  rw [hX] at x0
  rw [hX] at x2
  rw [hX] at x7
  clear hX
  go_wp2_with fail
  refine CT.out.mono ?_
  rintro e1 w1 ⟨rfl, hb1⟩
  have HP1 := hide (HP0.out.below hb1)
  have HB1 := hide (HB0.out.trans (hb1.mono HB0.out.size))
  have c0_1 := ((hb1.mono (Nat.le_of_lt HP0.out.blt)).cell (p := ⟨b, o, none⟩) bb0).trans c0
  have C2 := hide (put_lit HP1.out [quoP st, [58]] 2 rfl M1.out)
  clear hb1
  go_wp2_with fail
  refine C2.out.mono ?_
  rintro e2 w2 ⟨rfl, v2, hp2, hk2⟩
  have HP2 := hide hp2
  have HK2 := hide hk2
  have c0_2 := ((HP1.out.low hk2).cell (p := ⟨b, o, none⟩) bb0).trans c0_1
  have C3 := hide (ppart_any HN.out s0 AT0.out hp2 M2.out)
  clear hp2 hk2
  go_wp2_with fail
  refine C3.out.mono ?_
  rintro e3 w3 ⟨rfl, v3, hp3, hk3⟩
  have HP3 := hide hp3
  have HK3 := hide (HK2.out.trans hk3)
  clear hp3 hk3
  go_wp2_with fail
  refine bodyPost_ret (v := .tuple #[]) (by simp [results, Tryd.results47, go_sem]) rfl ?_
  refine PutQ.back HB1.out ⟨rfl, v3, ?_, HK3.out⟩
  have := HP3.out
  rw [← putA_app] at this
  exact this
end Go.Proofs.YtelcjdblnagdgaaDoor

namespace Go.Proofs.YtelcjdblnagdgaaDoor
open Go.RowKit

/-- all the kids' tokens -/
def seqP (l : List Tr) : Tks := (prs l).flatMap (·.2)
theorem seq_take {l : List Tr} {i : Nat} (h : i < l.length) : seqP (l.take (i + 1)) = seqP (l.take i) ++ prT l[i] := by
  unfold seqP
  rw [List.take_succ_eq_append_getElem h, prs_map, prs_map, List.map_append, List.flatMap_append]
  simp
theorem seq_rest (l : List Tr) (i : Nat) : ∃ r, seqP l = seqP (l.take i) ++ r := by
  refine ⟨seqP (l.drop i), ?_⟩
  unfold seqP
  rw [← List.flatMap_append, prs_map, prs_map, prs_map, ← List.map_append, List.take_append_drop]
theorem MayPut.uptoS {us : List UInt16} {l : List Tr} {i : Nat} (h : MayPut us (seqP l)) (hi : i < l.length) : MayPut (putA us (seqP (l.take i))) (prT l[i]) := by
  obtain ⟨r, hr⟩ := seq_rest l (i + 1)
  rw [seq_take hi, List.append_assoc] at hr
  exact ((h.of hr).app.2).app.1
set_option maxHeartbeats 4000000 in
set_option maxRecDepth 100000 in
theorem st_1 {C : Cx} {m L ck k0 : Nat} {Ak : Option Addr} {us : List UInt16} {v : Value} {w : World} (nb : ByteArray) (vs vm : Value) (nk nn : Int) (ng : Bool) {l : List Tr} (hN : NodeC C m) (hs : ∀ t ∈ l, t.size ≤ m) (hL : l.length = L) (hL6 : L ≤ 1000000) (hk : KidsS C w Ak l) (hp : Pe C us v w) (hm : MayPut us (seqP l)) :
    Calls Tryd.prog 46 #[.pointer (some ⟨C.g, 0, none⟩), .int .i64 (k0 : Int), .agg #[.int .i64 1, .string nb, vs, .int .i64 nk, .int .i64 nn, .bool ng, vm, .slice Ak L ck]] w (PutQ C us v w (seqP l)) := by
  obtain ⟨W, hW⟩ : ∃ W, w.alloc (.cells #[.int .i64 1, .string nb, vs, .int .i64 nk, .int .i64 nn, .bool ng, vm, .slice Ak L ck] 42) = W := ⟨_, rfl⟩
  have hb0 : Below w.heap.size w W := by rw [← hW]; exact (Below.refl _ _).alloc (Nat.le_refl _) _
  have x0 : W.cell? ⟨w.heap.size, 0, none⟩ = some (.int .i64 1) := by rw [← hW, World.cell?_alloc_at _ _ _ _ rfl]; rfl
  have x7 : W.cell? ⟨w.heap.size, 7, none⟩ = some (.slice Ak L ck) := by rw [← hW, World.cell?_alloc_at _ _ _ _ rfl]; rfl
  have HKW := hide (hk.below (hb0.mono (Nat.le_of_lt hp.blt)))
  have HS := hide hs
  have HN := hide hN
  have HLL := hide hL
  have HP0 := hide (hp.below hb0)
  have HB0 := hide hb0
  have M2 := hide hm
  obtain ⟨X, hX⟩ : ∃ X, w.heap.size = X := ⟨_, rfl⟩
  go_enter Tryd.func46, Tryd.ntmps46
  go_upto_region 1 with (fail)
  clear hm hp hb0 hN hs hk hL
  clear hW
  rw [hX] at x0 x7
  clear hX
  go_wp2_with fail
  by_cases hl : l = []
  · subst hl
    obtain rfl : L = 0 := by rw [← HLL.out]; rfl
    go_loopw [23] (fun i wr => i = .int .i64 0 ∧ wr = W) (fun _ _ => 0)
    case atStart => exact ⟨rfl, rfl⟩
    case round =>
      obtain ⟨rfl, rfl⟩ := hrel
      have HPe := hide HP0.out
      have HKe := hide (Pk.refl C.g wr v)
      have HE := hide (show seqP [] = [] from rfl)
      go_wp2_with fail
      refine bodyPost_ret (v := .tuple #[]) (by simp [results, Tryd.results46, go_sem]) rfl ?_
      refine PutQ.back HB0.out ⟨rfl, v, ?_, HKe.out⟩
      exact HPe.out
  obtain ⟨b, o, rfl, hka⟩ := HKW.out hl
  have HK := hide hka
  clear hka hl HKW
  go_loopw [23] (fun i wr => ∃ (j : Nat) (vr : Value), j ≤ L ∧ i = .int .i64 j ∧ Hid (Pe C (putA us (seqP (l.take j))) vr wr) ∧ Hid (Pk C.g W wr v vr)) (fun i _ => L - (intOf i).toNat)
  case atStart => exact ⟨0, v, Nat.zero_le _, rfl, HP0.out, Pk.refl _ _ _⟩
  case round =>
    obtain ⟨j, vr, hj, rfl, hpr, hkr⟩ := hrel
    by_cases hlt : j < L
    · have hjl : j < l.length := by rw [HLL.out]; exact hlt
      obtain ⟨p, hat, hbB, hcell⟩ := (HK.out.below (HP0.out.low hkr.out)) j hjl
      have hsz := HS.out l[j] (List.getElem_mem hjl)
      have HMS := hide (M2.out.uptoS hjl)
      have HTK := hide (seq_take hjl)
      obtain ⟨t, ht⟩ : ∃ t, l[j] = t := ⟨_, rfl⟩
      rw [ht] at hat hsz HMS HTK
      have HAT := hide hat
      obtain ⟨ur, hur⟩ : ∃ ur, putA us (seqP (l.take j)) = ur := ⟨_, rfl⟩
      rw [hur] at hpr HMS
      have HUR := hide hur
      clear hjl hat ht hur
      have C7 := hide (HN.out t p ur vr wr hsz HAT.out hpr.out HMS.out)
      go_wp2_with fail
      refine C7.out.mono ?_
      rintro e3 w3 ⟨rfl, v3, hp3, hk3⟩
      have HP3 := hide hp3
      have HK3 := hide (hkr.out.trans hk3)
      clear hp3 hk3
      go_wp2_with fail
      go_roundw
      case rel => exact ⟨j + 1, v3, by omega, by go_num, by rw [HTK.out, putA_app, HUR.out]; exact HP3.out, HK3.out⟩
      case measure => simp [intOf]; omega
    · obtain rfl : L = j := by omega
      have HE := hide (show seqP (l.take L) = seqP l by rw [List.take_of_length_le (by rw [HLL.out]; omega)])
      have HPe := hide hpr.out
      have HKe := hide hkr.out
      clear hpr hkr
      go_wp2_with fail
      refine bodyPost_ret (v := .tuple #[]) (by simp [results, Tryd.results46, go_sem]) rfl ?_
      refine PutQ.back HB0.out ⟨rfl, vr, ?_, HKe.out⟩
      have := HPe.out
      rw [HE.out] at this
      exact this
set_option maxHeartbeats 4000000 in
set_option maxRecDepth 100000 in
theorem st_4 {C : Cx} {m L ck k0 : Nat} {Ak : Option Addr} {us : List UInt16} {v : Value} {w : World} (nb : ByteArray) (vs vm : Value) (nk nn : Int) (ng : Bool) {l : List Tr} (hN : NodeC C m) (hs : ∀ t ∈ l, t.size ≤ m) (hL : l.length = L) (hL6 : L ≤ 1000000) (hk : KidsS C w Ak l) (hp : Pe C us v w) (hm : MayPut us ([[123]] ++ (seqP l ++ [[125]]))) :
    Calls Tryd.prog 46 #[.pointer (some ⟨C.g, 0, none⟩), .int .i64 (k0 : Int), .agg #[.int .i64 4, .string nb, vs, .int .i64 nk, .int .i64 nn, .bool ng, vm, .slice Ak L ck]] w (PutQ C us v w ([[123]] ++ (seqP l ++ [[125]]))) := by
  obtain ⟨W, hW⟩ : ∃ W, w.alloc (.cells #[.int .i64 4, .string nb, vs, .int .i64 nk, .int .i64 nn, .bool ng, vm, .slice Ak L ck] 42) = W := ⟨_, rfl⟩
  have hb0 : Below w.heap.size w W := by rw [← hW]; exact (Below.refl _ _).alloc (Nat.le_refl _) _
  have x0 : W.cell? ⟨w.heap.size, 0, none⟩ = some (.int .i64 4) := by rw [← hW, World.cell?_alloc_at _ _ _ _ rfl]; rfl
  have x7 : W.cell? ⟨w.heap.size, 7, none⟩ = some (.slice Ak L ck) := by rw [← hW, World.cell?_alloc_at _ _ _ _ rfl]; rfl
  have HKW := hide (hk.below (hb0.mono (Nat.le_of_lt hp.blt)))
  have HS := hide hs
  have HN := hide hN
  have HLL := hide hL
  have HP0 := hide (hp.below hb0)
  have HB0 := hide hb0
  obtain ⟨mm1, rr1⟩ := hm.two (b := [[123]]) (c := seqP l ++ [[125]]) rfl
  obtain ⟨mm2, mm3⟩ := rr1.app
  have M1 := hide mm1
  have M2 := hide mm2
  have M3 := hide mm3
  obtain ⟨X, hX⟩ : ∃ X, w.heap.size = X := ⟨_, rfl⟩
  go_enter Tryd.func46, Tryd.ntmps46
  go_upto_region 1 with (fail)
  clear hm hp hb0 hN hs hk hL mm1 rr1 mm2 mm3
  clear hW
  rw [hX] at x0 x7
  clear hX
  have C1 := hide (put_lit HP0.out [[123]] 1 rfl M1.out)
  go_wp2_with fail
  refine C1.out.mono ?_
  rintro e1 w1 ⟨rfl, v1, hp1, hk1⟩
  have HP1 := hide hp1
  have HK1 := hide hk1
  have HKW := hide (HKW.out.below (HP0.out.low HK1.out))
  clear hp1 hk1
  go_wp2_with fail
  by_cases hl : l = []
  · subst hl
    obtain rfl : L = 0 := by rw [← HLL.out]; rfl
    go_loopw [53] (fun i wr => i = .int .i64 0 ∧ wr = w1) (fun _ _ => 0)
    case atStart => exact ⟨rfl, rfl⟩
    case round =>
      obtain ⟨rfl, rfl⟩ := hrel
      have HPe := hide HP1.out
      have HKe := hide (Pk.refl C.g wr v1)
      have HE := hide (show seqP [] = [] from rfl)
      have HM3 := hide M3.out
      have C9 := hide (put_lit HPe.out [[125]] 1 rfl HM3.out)
      clear HPe HM3
      go_wp2_with fail
      refine C9.out.mono ?_
      rintro e9 w9 ⟨rfl, v9, hp9, hk9⟩
      have HP9 := hide hp9
      have HK9 := hide (HK1.out.trans (HKe.out.trans hk9))
      clear hp9 hk9
      go_wp2_with fail
      refine bodyPost_ret (v := .tuple #[]) (by simp [results, Tryd.results46, go_sem]) rfl ?_
      refine PutQ.back HB0.out ⟨rfl, v9, ?_, HK9.out⟩
      have := HP9.out
      rw [show putA (putA us [[123]]) ([[125]] : Tks) = putA (putA (putA us [[123]]) (seqP [])) [[125]] from rfl] at this
      simp only [← putA_app, List.append_assoc] at this
      exact this
  obtain ⟨b, o, rfl, hka⟩ := HKW.out hl
  have HK := hide hka
  clear hka hl HKW
  go_loopw [53] (fun i wr => ∃ (j : Nat) (vr : Value), j ≤ L ∧ i = .int .i64 j ∧ Hid (Pe C (putA (putA us [[123]]) (seqP (l.take j))) vr wr) ∧ Hid (Pk C.g w1 wr v1 vr)) (fun i _ => L - (intOf i).toNat)
  case atStart => exact ⟨0, v1, Nat.zero_le _, rfl, HP1.out, Pk.refl _ _ _⟩
  case round =>
    obtain ⟨j, vr, hj, rfl, hpr, hkr⟩ := hrel
    by_cases hlt : j < L
    · have hjl : j < l.length := by rw [HLL.out]; exact hlt
      obtain ⟨p, hat, hbB, hcell⟩ := (HK.out.below (HP1.out.low hkr.out)) j hjl
      have hsz := HS.out l[j] (List.getElem_mem hjl)
      have HMS := hide (M2.out.uptoS hjl)
      have HTK := hide (seq_take hjl)
      obtain ⟨t, ht⟩ : ∃ t, l[j] = t := ⟨_, rfl⟩
      rw [ht] at hat hsz HMS HTK
      have HAT := hide hat
      obtain ⟨ur, hur⟩ : ∃ ur, putA (putA us [[123]]) (seqP (l.take j)) = ur := ⟨_, rfl⟩
      rw [hur] at hpr HMS
      have HUR := hide hur
      clear hjl hat ht hur
      have C7 := hide (HN.out t p ur vr wr hsz HAT.out hpr.out HMS.out)
      go_wp2_with fail
      refine C7.out.mono ?_
      rintro e3 w3 ⟨rfl, v3, hp3, hk3⟩
      have HP3 := hide hp3
      have HK3 := hide (hkr.out.trans hk3)
      clear hp3 hk3
      go_wp2_with fail
      go_roundw
      case rel => exact ⟨j + 1, v3, by omega, by go_num, by rw [HTK.out, putA_app, HUR.out]; exact HP3.out, HK3.out⟩
      case measure => simp [intOf]; omega
    · obtain rfl : L = j := by omega
      have HE := hide (show seqP (l.take L) = seqP l by rw [List.take_of_length_le (by rw [HLL.out]; omega)])
      have HPe := hide hpr.out
      have HKe := hide hkr.out
      clear hpr hkr
      have HM3 := hide (show MayPut (putA (putA us [[123]]) (seqP (l.take L))) [[125]] from by rw [HE.out]; exact M3.out)
      have C9 := hide (put_lit HPe.out [[125]] 1 rfl HM3.out)
      clear HPe HM3
      go_wp2_with fail
      refine C9.out.mono ?_
      rintro e9 w9 ⟨rfl, v9, hp9, hk9⟩
      have HP9 := hide hp9
      have HK9 := hide (HK1.out.trans (HKe.out.trans hk9))
      clear hp9 hk9
      go_wp2_with fail
      refine bodyPost_ret (v := .tuple #[]) (by simp [results, Tryd.results46, go_sem]) rfl ?_
      refine PutQ.back HB0.out ⟨rfl, v9, ?_, HK9.out⟩
      have := HP9.out
      rw [HE.out] at this
      simp only [← putA_app, List.append_assoc] at this
      exact this
set_option maxHeartbeats 4000000 in
set_option maxRecDepth 100000 in
theorem cp_11 {C : Cx} {us : List UInt16} {v : Value} {w : World} (nb : ByteArray) (vs vm vk : Value) (nk nn : Int) (ng : Bool) (hp : Pe C us v w) :
    Calls Tryd.prog 63 #[.pointer (some ⟨C.g, 0, none⟩), .agg #[.int .i64 11, .string nb, vs, .int .i64 nk, .int .i64 nn, .bool ng, vm, vk]] w (PutQ C us v w []) := by
  have HP := hide hp
  clear hp
  go_enter Tryd.func63, Tryd.ntmps63
  go_wp2_with fail
  refine bodyPost_ret (v := .tuple #[]) (by simp [results, Tryd.results63, go_sem]) rfl ?_
  exact PutQ.back ((Below.refl _ _).alloc (Nat.le_refl _) _) (PutQ.nil (HP.out.alloc _))
set_option maxHeartbeats 4000000 in
set_option maxRecDepth 100000 in
theorem st_11 {C : Cx} {k0 : Nat} {us : List UInt16} {v : Value} {w : World} (nb : ByteArray) (vs vm vk : Value) (nk nn : Int) (ng : Bool) (hp : Pe C us v w) :
    Calls Tryd.prog 46 #[.pointer (some ⟨C.g, 0, none⟩), .int .i64 (k0 : Int), .agg #[.int .i64 11, .string nb, vs, .int .i64 nk, .int .i64 nn, .bool ng, vm, vk]] w (PutQ C us v w []) := by
  have HP := hide hp
  clear hp
  have HC := hide (fun (W : World) (hb : Below w.heap.size w W) => cp_11 nb vs vm vk nk nn ng (HP.out.below hb))
  go_enter Tryd.func46, Tryd.ntmps46
  go_wp2_with fail
  refine (HC.out _ ((Below.refl _ _).alloc (Nat.le_refl _) _)).mono ?_
  rintro e1 w1 ⟨rfl, v1, hp1, hk1⟩
  have HP1 := hide hp1
  have HK1 := hide hk1
  clear hp1 hk1
  go_wp2_with fail
  refine bodyPost_ret (v := .tuple #[]) (by simp [results, Tryd.results46, go_sem]) rfl ?_
  exact PutQ.back ((Below.refl _ _).alloc (Nat.le_refl _) _) ⟨rfl, v1, HP1.out, HK1.out⟩
end Go.Proofs.YtelcjdblnagdgaaDoor
