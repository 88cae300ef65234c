/- A list of tokens in memory; how far lex.Tokens is. -/
import Derived.Test.YtngcikgjdeomdaaLexToken
namespace Go.Proofs.Ytngcikgjdeomdaa
open Go.RowKit

theorem Try.info_tok : (Try.prog.info? 39).map (fun i => (i.zero, i.size, i.bytes)) = some (some (.agg zero9.toArray), 9, 112) := by kernel_rfl
def tokV9 (t : Tok) (vs vm : Value) : List Value := [.int .i64 (t.kind : Int), .string ⟨t.text.toArray⟩, vs, .int .i64 t.nk, .int .i64 t.nn, .bool false, vm, .int .i64 (t.pos : Int), .bool t.nl]
/-- cells that are these tokens; what they own lies in blocks from base on -/
def TokC (w : World) (base : Nat) : List Tok → List Value → Prop
  | [], cs => cs = []
  | t :: r, cs => ∃ vs vm rest, cs = tokV9 t vs vm ++ rest ∧ w.ownsRow base 32 1 vs t.str.length (u16s t.str) ∧ w.ownsRow base 88 1 vm t.mag.length (u32s t.mag) ∧ TokC w base r rest
theorem TokC.len {w : World} {base : Nat} : ∀ {ts : List Tok} {cs : List Value}, TokC w base ts cs → cs.length = ts.length * 9 := by
  intro ts
  induction ts with
  | nil => intro cs h; rw [show cs = [] from h]; rfl
  | cons t r ih =>
    intro cs h
    obtain ⟨vs, vm, rest, rfl, _, _, h3⟩ := h
    have := ih h3
    simp only [tokV9, List.length_append, List.length_cons, List.length_nil, this]
    omega
theorem TokC.map {w w' : World} {base base' : Nat} (hk : ∀ (e : TypeId) (v : Value) (n : Nat) (xs : List Value), (e = 32 ∨ e = 88) → w.ownsRow base e 1 v n xs → w'.ownsRow base' e 1 v n xs) : ∀ {ts : List Tok} {cs : List Value}, TokC w base ts cs → TokC w' base' ts cs := by
  intro ts
  induction ts with
  | nil => intro cs h; exact h
  | cons t r ih =>
    intro cs h
    obtain ⟨vs, vm, rest, rfl, h1, h2, h3⟩ := h
    exact ⟨vs, vm, rest, rfl, hk _ _ _ _ (.inl rfl) h1, hk _ _ _ _ (.inr rfl) h2, ih h3⟩
theorem TokC.snoc {w : World} {base : Nat} {t : Tok} {vs vm : Value} (h1 : w.ownsRow base 32 1 vs t.str.length (u16s t.str)) (h2 : w.ownsRow base 88 1 vm t.mag.length (u32s t.mag)) : ∀ {ts : List Tok} {cs : List Value}, TokC w base ts cs → TokC w base (ts ++ [t]) (cs ++ tokV9 t vs vm) := by
  intro ts
  induction ts with
  | nil => intro cs h; rw [show cs = [] from h]; exact ⟨vs, vm, [], by simp, h1, h2, rfl⟩
  | cons s r ih =>
    intro cs h
    obtain ⟨vs', vm', rest, rfl, g1, g2, g3⟩ := h
    exact ⟨vs', vm', rest ++ tokV9 t vs vm, by simp, g1, g2, ih g3⟩
/-- A row of one type is not the row of another one. -/
theorem own_apart {w w' : World} {b1 b2 : Nat} {e1 e2 : TypeId} {s1 s2 n1 n2 : Nat} {v1 v2 : Value} {xs ys : List Value} (h1 : w.ownsRow b1 e1 s1 v1 n1 xs) (h2 : w.ownsRow b2 e2 s2 v2 n2 ys) (hne : e1 ≠ e2) (hg : w.grownBy w' v2.ownBlock) : w'.ownsRow b1 e1 s1 v1 n1 xs := by
  refine h1.kept hg ?_
  rcases h1.2 with ⟨rfl, _⟩ | ⟨g, cap, cur, rfl, _, hgg, _⟩
  · exact .inl rfl
  · right
    rcases h2.2 with ⟨rfl, _⟩ | ⟨g2, cap2, cur2, rfl, _, hgg2, _⟩
    · simp [Value.ownBlock]
    · intro e
      simp only [Value.ownBlock, Option.some.injEq] at e
      subst e
      rw [hgg] at hgg2
      injection hgg2 with hgg2
      injection hgg2 with _ h4 _
      exact hne h4
theorem own_new {w w' : World} {base : Nat} {e : TypeId} {s n : Nat} {v : Value} {xs : List Value} (h : w.ownsRow base e s v n xs) (hg : w.grownBy w' none) : w'.ownsRow base e s v n xs :=
  h.kept hg (by cases hv : v.ownBlock <;> simp)

/-- a slice that is these tokens -/
def TokL (w : World) (base : Nat) (ts : List Tok) (v : Value) : Prop := ∃ cs, w.ownsRow base 39 9 v ts.length cs ∧ TokC w base ts cs
theorem TokL.nil (w : World) (base : Nat) : TokL w base [] (.slice none 0 0) := ⟨[], World.ownsRow_nil _ _ _ _, rfl⟩
theorem TokL.grown {w w' : World} {base g : Nat} {ts : List Tok} {v : Value} (h : TokL w base ts v) (hg : w.grownBy w' (some g)) (hb : g < base) : TokL w' base ts v := by
  obtain ⟨cs, h1, h2⟩ := h
  exact ⟨cs, own_grown h1 hg hb, h2.map fun _ _ _ _ _ h => own_grown h hg hb⟩
theorem TokL.new {w w' : World} {base : Nat} {ts : List Tok} {v : Value} (h : TokL w base ts v) (hg : w.grownBy w' none) : TokL w' base ts v := by
  obtain ⟨cs, h1, h2⟩ := h
  exact ⟨cs, own_new h1 hg, h2.map fun _ _ _ _ _ h => own_new h hg⟩
theorem TokL.base {w : World} {base base' : Nat} {ts : List Tok} {v : Value} (h : TokL w base ts v) (hb : base' ≤ base) : TokL w base' ts v := by
  obtain ⟨cs, h1, h2⟩ := h
  exact ⟨cs, own_base h1 hb, h2.map fun _ _ _ _ _ h => own_base h hb⟩
theorem TokL.below {w w' : World} {base : Nat} {ts : List Tok} {v : Value} (h : TokL w base ts v) (hb : Below w.heap.size w w') : TokL w' base ts v :=
  h.new ⟨hb.os, hb.tape, hb.output, hb.size, fun k hk _ => hb.block k hk⟩
/-- Behind an append of one token. -/
theorem TokL.snoc {w w' : World} {base : Nat} {ts : List Tok} {v v' : Value} {t : Tok} {vs vm : Value} {cs : List Value} (hc : w.ownsRow base 39 9 v ts.length cs) (ht : TokC w base ts cs) (h1 : w.ownsRow base 32 1 vs t.str.length (u16s t.str)) (h2 : w.ownsRow base 88 1 vm t.mag.length (u32s t.mag))
    (ho : w'.ownsRow base 39 9 v' (ts.length + 1) (cs ++ tokV9 t vs vm)) (hg : w.grownBy w' v.ownBlock) : TokL w' base (ts ++ [t]) v' := by
  refine ⟨cs ++ tokV9 t vs vm, by rw [List.length_append]; exact ho, TokC.snoc (own_apart h1 hc (by decide) hg) (own_apart h2 hc (by decide) hg) (ht.map fun e _ _ _ he h => own_apart h hc (by rcases he with rfl | rfl <;> decide) hg)⟩

section
variable {P : Program} {w : World} {ops : Array Oper} {rest : List Oper} {o : Oper} {a : Act} {Q : Exit → Act → World → Prop}
/-- append of what the operation ahead has laid; its block's number as the slot has it. -/
theorem wpList_litH (hgd : o.guard = none) (s x : Operand) (t : TypeId)
    (ho : o.op = .call { callee := .builtin .append, args := #[s, x], argTypes := #[t, t] })
    (e : TypeId) (i : TypeInfo) (z : Value) (size bytes : Nat) (ht : P.underlying t = some (.slice e)) (hi : P.info? e = some i) (hz : i.zero = some z)
    (hsize : i.size = size) (hby : i.bytes = bytes) (hzs : z.cells.size = size) (hsz0 : 0 < size) (base : Nat) (hbase : base ≤ w.heap.size)
    (v : Value) (xs : List Value) (k : Nat) (hs : a.eval s = v) (hm : w.ownsRow base e size v k xs)
    (cs : List Value) (m c B0 : Nat) (hB0 : B0 = w.heap.size) (hx : a.eval x = .slice (some ⟨B0, 0, none⟩) m c) (hl : cs.length = m * size) (h1 : (cs.all fun u => u.oneCell') = true)
    (hsz : k + m ≤ 70368744177664) (hb2 : (k + m) * bytes ≤ 140737488355328)
    (h : ∀ v' w', w'.ownsRow base e size v' (k + m) (xs ++ cs) → w.grownBy w' v.ownBlock → wpList P ops Q rest (a.put o.dst v') w') : wpList P ops Q (o :: rest) a (w.alloc (.cells cs.toArray e)) := by
  subst hB0
  exact wpList_litG hgd s x t ho e i z size bytes ht hi hz hsize hby hzs hsz0 base hbase v xs k hs hm cs m c hx hl h1 hsz hb2 h
end

/-- what the loop has in hand: the reader is block w.heap.size -/
structure LxS (w wr : World) (A : Option Addr) (n c p : Nat) (v : Value) (acc : List Tok) : Prop where
  rd : Rd wr w.heap.size A n c p
  below : Below w.heap.size w wr
  toks : TokL wr (w.heap.size + 1) acc v
theorem below_grown {w wr w' : World} (h : Below w.heap.size w wr) (hg : wr.grownBy w' (some w.heap.size)) : Below w.heap.size w w' :=
  h.grown hg h.size (fun k hk => by injection hk with hk; omega)
theorem LxS.mov {w wr w' : World} {A : Option Addr} {n c p p' : Nat} {v : Value} {acc : List Tok} (h : LxS w wr A n c p v acc) (hm : Mv wr w' w.heap.size A n c p') : LxS w w' A n c p' v acc :=
  ⟨hm.rd, below_grown h.below hm.grown, h.toks.grown hm.grown (by omega)⟩
theorem LxS.new {w wr w' : World} {A : Option Addr} {n c p : Nat} {v : Value} {acc : List Tok} (h : LxS w wr A n c p v acc) (hg : wr.grownBy w' none) : LxS w w' A n c p v acc :=
  ⟨⟨hg.cell h.rd.c0 (by simp), hg.cell h.rd.c1 (by simp), (World.frozen?_of_block (w := wr) (hg.block _ h.rd.lt (by simp))).trans h.rd.f1⟩, h.below.grown hg h.below.size (fun k hk => by cases hk), h.toks.new hg⟩
theorem LxS.app {w wr w' : World} {A : Option Addr} {n c p : Nat} {v v' : Value} {acc acc' : List Tok} (h : LxS w wr A n c p v acc) (hg : wr.grownBy w' v.ownBlock) (ht : TokL w' (w.heap.size + 1) acc' v') : LxS w w' A n c p v' acc' := by
  obtain ⟨cs, ho, _⟩ := h.toks
  have hne : ∀ k, k < w.heap.size + 1 → some k ≠ v.ownBlock := fun k hk e => by have := (ho.lt k e.symm).1; omega
  exact ⟨⟨hg.cell h.rd.c0 (hne _ (by simp)), hg.cell h.rd.c1 (hne _ (by simp)), (World.frozen?_of_block (w := wr) (hg.block _ h.rd.lt (hne _ (by simp)))).trans h.rd.f1⟩, h.below.grown hg h.below.size (fun k hk => by have := (ho.lt k hk).1; omega), ht⟩

/-- tokens ahead of what comes -/
def prep (acc : List Tok) (q : List Tok × Nat × Nat) : List Tok × Nat × Nat := if q.2.2 ≠ 0 then ([], q.2) else (acc ++ q.1, 0, 0)
theorem prep_cons (acc : List Tok) (t : Tok) (q : List Tok × Nat × Nat) : prep acc (consT t q) = prep (acc ++ [t]) q := by
  unfold prep consT
  by_cases h : q.2.2 ≠ 0
  · rw [if_pos h, if_pos h]; simp only; rw [if_pos h]
  · rw [if_neg h, if_neg h]; simp
theorem lexL_zero : ∀ (f k : Nat) (l : List UInt16), (lexN f k l).2.2 = 0 → (lexN f k l).2.1 = 0 := by
  intro f
  induction f with
  | zero => intro k l _; rfl
  | succ f ih =>
    intro k l
    rw [lexN]
    by_cases h1 : (passF l).2.2 ≠ 0
    · rw [if_pos h1]; intro h; exact absurd h h1
    rw [if_neg h1]
    by_cases h2 : l.drop (passF l).1 = []
    · rw [if_pos h2]; intro _; rfl
    rw [if_neg h2]
    by_cases h3 : (tokAt k l).1 ≠ 0
    · rw [if_pos h3]; intro h; exact absurd h h3
    rw [if_neg h3]
    unfold consT
    split
    · intro h; rename_i h4; exact absurd h h4
    · intro _; rfl
theorem lexL_err : ∀ (f k : Nat) (l : List UInt16), (lexN f k l).2.2 ≠ 0 → (lexN f k l).1 = [] := by
  intro f
  induction f with
  | zero => intro k l _; rfl
  | succ f ih =>
    intro k l
    rw [lexN]
    by_cases h1 : (passF l).2.2 ≠ 0
    · rw [if_pos h1]; intro h; rfl
    rw [if_neg h1]
    by_cases h2 : l.drop (passF l).1 = []
    · rw [if_pos h2]; intro h; exact absurd rfl h
    rw [if_neg h2]
    by_cases h3 : (tokAt k l).1 ≠ 0
    · rw [if_pos h3]; intro h; rfl
    rw [if_neg h3]
    unfold consT
    split
    · intro _; rfl
    · intro h; exact absurd rfl h
/-- how far the loop is -/
def AtLex (u : List UInt16) (p : Nat) (acc : List Tok) : Prop := acc.length ≤ p ∧ p ≤ u.length ∧ lexL 0 u = prep acc (lexL p (u.drop p))
theorem AtLex.start (u : List UInt16) : AtLex u 0 [] := by
  refine ⟨Nat.le_refl _, Nat.zero_le _, ?_⟩
  rw [List.drop_zero]
  unfold prep
  split
  · rename_i h
    have := lexL_err _ _ _ h
    exact Prod.ext this rfl
  · rename_i h
    have h1 := Decidable.not_not.1 h
    have h2 := lexL_zero _ _ _ h1
    exact Prod.ext rfl (Prod.ext h2 h1)
theorem AtLex.pass {u : List UInt16} {p m e : Nat} {nl : Bool} {acc : List Tok} (h : AtLex u p acc) (hq : passF (u.drop p) = (m, nl, e)) (he : e ≠ 0) : lexL 0 u = ([], p + m, e) := by
  obtain ⟨_, _, h⟩ := h
  rw [h, lexL_pass (by rw [hq]; exact he), hq]
  unfold prep
  rw [if_pos he]
theorem AtLex.last {u : List UInt16} {p m : Nat} {nl : Bool} {acc : List Tok} (h : AtLex u p acc) (hq : passF (u.drop p) = (m, nl, 0)) (hm : p + m = u.length) : lexL 0 u = (acc ++ [setAt noTok u.length nl], 0, 0) := by
  obtain ⟨_, _, h⟩ := h
  rw [h, lexL_end (by rw [hq]) (by rw [hq, List.drop_drop, hm, List.drop_length]), hq, ← hm]
  unfold prep
  rw [if_neg (by simp)]
theorem AtLex.bad {u : List UInt16} {p m e k : Nat} {nl : Bool} {t : Tok} {acc : List Tok} (h : AtLex u p acc) (hq : passF (u.drop p) = (m, nl, 0)) (hm : p + m < u.length) (ht : tokenT (p + m == 0) (u.drop (p + m)) = (e, t, k)) (he : e ≠ 0) : lexL 0 u = ([], p + m, e) := by
  obtain ⟨_, _, h⟩ := h
  have htok : tokAt p (u.drop p) = (e, t, k) := by unfold tokAt; rw [hq, List.drop_drop]; exact ht
  rw [h, lexL_bad (by rw [hq]) (by rw [hq, List.drop_drop]; intro h2; have := congrArg List.length h2; rw [List.length_drop] at this; simp at this; omega) (by rw [htok]; exact he), hq, htok]
  unfold prep
  rw [if_pos he]
theorem AtLex.more {u : List UInt16} {p m k : Nat} {nl : Bool} {t : Tok} {acc : List Tok} (h : AtLex u p acc) (hq : passF (u.drop p) = (m, nl, 0)) (hm : p + m < u.length) (ht : tokenT (p + m == 0) (u.drop (p + m)) = (0, t, k)) : AtLex u (p + m + k) (acc ++ [setAt t (p + m) nl]) ∧ 1 ≤ k := by
  obtain ⟨ha, hp, h⟩ := h
  have htok : tokAt p (u.drop p) = (0, t, k) := by unfold tokAt; rw [hq, List.drop_drop]; exact ht
  have hlen := token_len (z := p + m == 0) (l := u.drop (p + m)) (by rw [ht])
  rw [ht, List.length_drop] at hlen
  simp only at hlen
  refine ⟨⟨by simp; omega, by omega, ?_⟩, hlen.1⟩
  rw [h, lexL_more (by rw [hq]) (by rw [hq, List.drop_drop]; intro h2; have := congrArg List.length h2; rw [List.length_drop] at this; simp at this; omega) (by rw [htok]), prep_cons, hq, htok, List.drop_drop, Nat.add_assoc]
end Go.Proofs.Ytngcikgjdeomdaa
