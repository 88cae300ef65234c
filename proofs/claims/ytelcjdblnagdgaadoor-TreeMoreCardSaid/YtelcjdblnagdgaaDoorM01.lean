/- Joined for a claim: Base0, Base, Base2, LexBase, Spec, LexSpec, TreeSpec, TreeMem. -/
import Derived.Test.YtelcjdblnagdgaaDoorProg
import Derived.WalkKit
import Derived.WalkSpells
import Derived.WalkLawsBesides
import Derived.Deep.AppendLies
import Derived.Deep.Draws
import Derived.Deep.QuietTactic
import Derived.BigQuiet
import Derived.Maps.AppendAt
import Derived.RegionTactic
import Derived.Lib.Hide
import Derived.Handy
import Derived.Lib.DecodeN
namespace Go.Proofs.YtelcjdblnagdgaaDoor
open Go.RowKit
theorem hide {p : Prop} (h : p) : Hid p := h
theorem ret_bool {a b : Bool} (h : a = b) : Ending.returned (.bool a) = .returned (.bool b) := by rw [h]
theorem ret_int {k : IntKind} {a b : Int} (h : a = b) : Ending.returned (.int k a) = .returned (.int k b) := by rw [h]
theorem below_drewN {B : Nat} {a w : World} (h : Below B a w) (n : Nat) : Below B a (w.drewN n) := ⟨h.os, h.tape, h.output, h.size, h.block⟩
end Go.Proofs.YtelcjdblnagdgaaDoor

namespace Go.Proofs.YtelcjdblnagdgaaDoor
open Go.RowKit

theorem block_of_add (a : Addr) (n : Nat) : (a.add n).block = a.block := by unfold Addr.add; split <;> rfl
theorem add_of_add (a : Addr) (i j : Nat) : (a.add i).add j = a.add (i + j) := by
  unfold Addr.add
  by_cases hi : i = 0 <;> by_cases hj : j = 0 <;> simp [hi, hj, Nat.add_assoc]

/-- The slice at address A of n elements (of size cells each) holds the cells xs, below block B. -/
def Reads (w : World) (B size : Nat) (A : Option Addr) (n : Nat) (xs : List Value) : Prop :=
  xs.length = n * size ∧ (0 < n → ∃ ad, A = some ad ∧ ad.block < B ∧ ∀ j u, xs[j]? = some u → w.cell? (ad.add j) = some u)

section
variable {w w' : World} {B B' size n : Nat} {A : Option Addr} {xs : List Value}
theorem Reads.none_ : Reads w B size A 0 [] := ⟨by simp, fun h => absurd h (by omega)⟩
theorem Reads.at_ {k : Nat} (h : Reads w B 1 A n xs) (hk : k < n) : ∃ ad u, A = some ad ∧ ad.block < B ∧ xs[k]? = some u ∧ w.cell? (ad.add k) = some u := by
  obtain ⟨ad, e, hb, hc⟩ := h.2 (by omega)
  have hl : k < xs.length := by have := h.1; omega
  exact ⟨ad, xs[k], e, hb, List.getElem?_eq_getElem hl, hc k _ (List.getElem?_eq_getElem hl)⟩
theorem Reads.keep (h : Reads w B size A n xs) (hk : ∀ p : Addr, p.block < B → w'.cell? p = w.cell? p) : Reads w' B size A n xs :=
  ⟨h.1, fun hn => by
    obtain ⟨ad, e, hb, hc⟩ := h.2 hn
    exact ⟨ad, e, hb, fun j u hu => (hk _ (by rw [block_of_add]; exact hb)).trans (hc j u hu)⟩⟩
theorem Reads.more (h : Reads w B size A n xs) (hB : B ≤ B') : Reads w B' size A n xs :=
  ⟨h.1, fun hn => by
    obtain ⟨ad, e, hb, hc⟩ := h.2 hn
    exact ⟨ad, e, by omega, hc⟩⟩
theorem Reads.below (h : Reads w B size A n xs) (hb : Below B w w') : Reads w' B size A n xs := h.keep fun _ hp => hb.cell hp
theorem Reads.drew (h : Reads w B size A n xs) : Reads w.drew B size A n xs := h
theorem Reads.drewN (h : Reads w B size A n xs) (k : Nat) : Reads (w.drewN k) B size A n xs := h
theorem Reads.alloc (h : Reads w B size A n xs) (hB : B ≤ w.heap.size) (o : Obj) : Reads (w.alloc o) B size A n xs := h.keep fun p hp => World.cell?_alloc_lt w o p (by omega)
theorem Reads.cut (h : Reads w B size A n xs) {k cap : Nat} (hk : k ≤ n) (hc : n ≤ cap) :
    Reads w B size (if cap = k then A else A.map (·.add (k * size))) (n - k) (xs.drop (k * size)) := by
  refine ⟨by rw [List.length_drop, h.1, Nat.sub_mul], fun hn => ?_⟩
  obtain ⟨ad, rfl, hb, hcell⟩ := h.2 (by omega)
  rw [if_neg (by omega)]
  refine ⟨ad.add (k * size), rfl, by rw [block_of_add]; exact hb, fun j u hu => ?_⟩
  rw [add_of_add]
  exact hcell _ u (by rw [← hu, List.getElem?_drop])
theorem Reads.take (h : Reads w B size A n xs) {k : Nat} (hk : k ≤ n) : Reads w B size A k (xs.take (k * size)) := by
  refine ⟨by rw [List.length_take, h.1]; exact Nat.min_eq_left (Nat.mul_le_mul_right _ hk), fun hn => ?_⟩
  obtain ⟨ad, rfl, hb, hcell⟩ := h.2 (by omega)
  refine ⟨ad, rfl, hb, fun j u hu => hcell j u ?_⟩
  rw [List.getElem?_take] at hu
  split at hu
  · exact hu
  · cases hu
theorem Reads.of_own {base : Nat} {e : TypeId} {c : Nat} (h : w.ownsRow base e size (.slice A n c) n xs) : Reads w w.heap.size size A n xs := by
  refine ⟨h.1, fun hn => ?_⟩
  obtain ⟨g, cap, hv, _, hlt⟩ := h.form hn
  have hA : A = some ⟨g, 0, none⟩ := by injection hv
  subst hA
  exact ⟨_, rfl, hlt, h.cells (g := g) rfl⟩
end

/-- What a call has made for itself: a slice of one-cell elements of type e in blocks from base on; it holds xs. -/
theorem own_shape {w : World} {base : Nat} {e : TypeId} {size n : Nat} {v : Value} {xs : List Value} (h : w.ownsRow base e size v n xs) :
    ∃ A c, v = .slice A n c ∧ n ≤ c ∧ c ≤ maxLen := by
  rcases h.2 with ⟨rfl, rfl⟩ | ⟨g, cap, cur, rfl, _, _, hnc, hm, _⟩
  · exact ⟨none, 0, rfl, Nat.le_refl _, by unfold maxLen; omega⟩
  · exact ⟨_, cap, rfl, hnc, hm⟩

def u8v (x : UInt8) : Value := .int .u8 (x.toNat : Int)
def u16v (x : UInt16) : Value := .int .u16 (x.toNat : Int)
def u8s (l : List UInt8) : List Value := l.map u8v
def u16s (l : List UInt16) : List Value := l.map u16v
theorem u8s_one (l : List UInt8) : ∀ u ∈ u8s l, u.oneCell' = true := by
  intro u hu
  obtain ⟨_, _, rfl⟩ := List.mem_map.1 hu
  rfl
theorem u16s_one (l : List UInt16) : ∀ u ∈ u16s l, u.oneCell' = true := by
  intro u hu
  obtain ⟨_, _, rfl⟩ := List.mem_map.1 hu
  rfl
theorem u16s_len (l : List UInt16) : (u16s l).length = l.length := by simp [u16s]
theorem u8s_len (l : List UInt8) : (u8s l).length = l.length := by simp [u8s]

/-- A call that began in w0 has made the slice v, of one-cell elements xs of type e, in new blocks; what lay before is as it was. -/
structure Made (w0 w : World) (e : TypeId) (v : Value) (xs : List Value) : Prop where
  own : w.ownsRow w0.heap.size e 1 v xs.length xs
  below : Below w0.heap.size w0 w

theorem Made.nil (w0 : World) (e : TypeId) : Made w0 w0 e (.slice none 0 0) [] := ⟨World.ownsRow_nil _ _ _ _, Below.refl _ _⟩
theorem Made.of_below {w0 w : World} (h : Below w0.heap.size w0 w) (e : TypeId) : Made w0 w e (.slice none 0 0) [] := ⟨World.ownsRow_nil _ _ _ _, h⟩
theorem Made.shape {w0 w : World} {e : TypeId} {v : Value} {xs : List Value} (h : Made w0 w e v xs) :
    ∃ A c, v = .slice A xs.length c ∧ xs.length ≤ c ∧ c ≤ maxLen ∧ Reads w w.heap.size 1 A xs.length xs := by
  obtain ⟨A, c, hv, h1, h2⟩ := own_shape h.own
  have h' := h.own
  rw [hv] at h'
  exact ⟨A, c, hv, h1, h2, Reads.of_own h'⟩
theorem Made.alloc {w0 w : World} {e : TypeId} {v : Value} {xs : List Value} (h : Made w0 w e v xs) (o : Obj) : Made w0 (w.alloc o) e v xs :=
  ⟨h.own.alloc o, h.below.alloc h.below.size o⟩
theorem Made.drew {w0 w : World} {e : TypeId} {v : Value} {xs : List Value} (h : Made w0 w e v xs) : Made w0 w.drew e v xs := ⟨h.own.drew, h.below.drew⟩
theorem Made.cells {w0 w : World} {e : TypeId} {v : Value} {xs ys : List Value} (h : Made w0 w e v xs) (e1 : xs = ys) : Made w0 w e v ys := e1 ▸ h

section
variable {P : Program} {w0 w : World} {ops : Array Oper} {rest : List Oper} {o : Oper} {a : Act} {Q : Exit → Act → World → Prop}
/-- append of the elements of a slice that lies in memory, onto what the call has made. -/
theorem wpList_app (hgd : o.guard = none) (s x : Operand) (t : TypeId)
    (ho : o.op = .call { callee := .builtin .append, args := #[s, x], argTypes := #[t, t] })
    (e : TypeId) (i : TypeInfo) (z : Value) (bytes : Nat) (ht : P.underlying t = some (.slice e)) (hi : P.info? e = some i) (hz : i.zero = some z)
    (hsize : i.size = 1) (hby : i.bytes = bytes) (hzs : z.cells.size = 1)
    (v : Value) (xs : List Value) (hs : a.eval s = v) (hm : Made w0 w e v xs)
    (ad : Addr) (m c : Nat) (news : List Value) (hx : a.eval x = .slice (some ad) m c) (hl : news.length = m) (hnews : ∀ j u, news[j]? = some u → w.cell? (ad.add j) = some u) (h1 : ∀ u ∈ news, u.oneCell' = true)
    (hsz : xs.length + m ≤ 70368744177664) (hb2 : bytes ≤ 2)
    (h : ∀ v' w', Made w0 w' e v' (xs ++ news) → w.grownBy w' v.ownBlock → wpList P ops Q rest (a.put o.dst v') w') : wpList P ops Q (o :: rest) a w := by
  subst hl
  refine wpList_append_own w hgd s x t ho w0.heap.size e i z 1 bytes ht hi hz hsize hby hzs (by omega) v xs.length xs hs hm.own ad _ c news hx (by omega) hnews h1 (by unfold maxLen; omega) ?_ hm.below.size ?_
  · calc (xs.length + news.length) * bytes ≤ 70368744177664 * 2 := Nat.mul_le_mul hsz hb2
      _ ≤ 140737488355328 := by omega
  · intro v' w' h1 h2 _
    refine h v' w' ⟨by rw [List.length_append]; exact h1, hm.below.grown h2 hm.below.size (fun k hk => (hm.own.lt k hk).1)⟩ h2
/-- append of the elements that the operation ahead has laid in a block of their own. -/
theorem wpList_lit (hgd : o.guard = none) (s x : Operand) (t : TypeId)
    (ho : o.op = .call { callee := .builtin .append, args := #[s, x], argTypes := #[t, t] })
    (e : TypeId) (i : TypeInfo) (z : Value) (bytes : Nat) (ht : P.underlying t = some (.slice e)) (hi : P.info? e = some i) (hz : i.zero = some z)
    (hsize : i.size = 1) (hby : i.bytes = bytes) (hzs : z.cells.size = 1)
    (v : Value) (xs : List Value) (hs : a.eval s = v) (hm : Made w0 w e v xs)
    (cs : List Value) (m c : Nat) (hx : a.eval x = .slice (some ⟨w.heap.size, 0, none⟩) m c) (hl : cs.length = m) (h1 : (cs.all fun u => u.oneCell') = true)
    (hsz : xs.length + m ≤ 70368744177664) (hb2 : bytes ≤ 2)
    (h : ∀ v' w', Made w0 w' e v' (xs ++ cs) → wpList P ops Q rest (a.put o.dst v') w') : wpList P ops Q (o :: rest) a (w.alloc (.cells cs.toArray e)) := by
  refine wpList_app hgd s x t ho e i z bytes ht hi hz hsize hby hzs v xs hs (hm.alloc _) ⟨w.heap.size, 0, none⟩ m c cs hx hl ?_ (fun u hu => List.all_eq_true.1 h1 u hu) hsz hb2 (fun v' w' h' _ => h v' w' h')
  intro j u hu
  rw [Addr.add_lit, World.cell?_alloc_at _ _ _ _ rfl]
  simpa using hu
end

theorem Tryd.info_u16 : (Tryd.prog.info? 34).map (fun i => (i.zero, i.size, i.bytes)) = some (some (.int .u16 0), 1, 2) := by kernel_rfl
theorem Tryd.info_u8 : (Tryd.prog.info? 5).map (fun i => (i.zero, i.size, i.bytes)) = some (some (.int .u8 0), 1, 1) := by kernel_rfl
end Go.Proofs.YtelcjdblnagdgaaDoor

namespace Go.Proofs.YtelcjdblnagdgaaDoor
open Go.RowKit

theorem Made.call {w0 w w' : World} {e : TypeId} {v : Value} {xs : List Value} (h : Made w0 w e v xs) (hb : Below w.heap.size w w') : Made w0 w' e v xs :=
  ⟨h.own.kept (row := none) ⟨hb.os, hb.tape, hb.output, hb.size, fun k hk _ => hb.block k hk⟩ (by cases hv : v.ownBlock <;> simp), h.below.trans (hb.mono h.below.size)⟩
theorem Made.u16 {w0 w : World} {e : TypeId} {v : Value} {xs : List UInt16} (h : Made w0 w e v (u16s xs)) :
    ∃ A c, v = .slice A xs.length c ∧ xs.length ≤ c ∧ c ≤ maxLen ∧ Reads w w.heap.size 1 A xs.length (u16s xs) := by
  obtain ⟨A, c, hv, h1, h2, h3⟩ := h.shape
  have e : (u16s xs).length = xs.length := by simp [u16s]
  rw [e] at hv h1 h3
  exact ⟨A, c, hv, h1, h2, h3⟩
theorem Made.u8 {w0 w : World} {e : TypeId} {v : Value} {xs : List UInt8} (h : Made w0 w e v (u8s xs)) :
    ∃ A c, v = .slice A xs.length c ∧ xs.length ≤ c ∧ c ≤ maxLen ∧ Reads w w.heap.size 1 A xs.length (u8s xs) := by
  obtain ⟨A, c, hv, h1, h2, h3⟩ := h.shape
  have e : (u8s xs).length = xs.length := by simp [u8s]
  rw [e] at hv h1 h3
  exact ⟨A, c, hv, h1, h2, h3⟩
theorem Reads.u16 {w : World} {B n : Nat} {A : Option Addr} {xs : List UInt16} (h : Reads w B 1 A n (u16s xs)) {k : Nat} (hk : k < xs.length) :
    ∃ ad, A = some ad ∧ ad.block < B ∧ w.cell? (ad.add k) = some (.int .u16 (xs[k].toNat : Int)) := by
  have hl : xs.length = n := by have := h.1; simpa [u16s] using this
  obtain ⟨ad, u, e, hb, hx, hc⟩ := h.at_ (k := k) (by omega)
  refine ⟨ad, e, hb, ?_⟩
  rw [hc]
  simp [u16s, hk] at hx
  rw [← hx]; rfl
theorem Reads.u8 {w : World} {B n : Nat} {A : Option Addr} {xs : List UInt8} (h : Reads w B 1 A n (u8s xs)) {k : Nat} (hk : k < xs.length) :
    ∃ ad, A = some ad ∧ ad.block < B ∧ w.cell? (ad.add k) = some (.int .u8 (xs[k].toNat : Int)) := by
  have hl : xs.length = n := by have := h.1; simpa [u8s] using this
  obtain ⟨ad, u, e, hb, hx, hc⟩ := h.at_ (k := k) (by omega)
  refine ⟨ad, e, hb, ?_⟩
  rw [hc]
  simp [u8s, hk] at hx
  rw [← hx]; rfl
theorem Addr.add_zero (a : Addr) : a.add 0 = a := by simp [Addr.add]
theorem Reads.u16_0 {w : World} {B n : Nat} {A : Option Addr} {xs : List UInt16} (h : Reads w B 1 A n (u16s xs)) (hk : 0 < xs.length) :
    ∃ ad, A = some ad ∧ ad.block < B ∧ w.cell? ad = some (.int .u16 (xs[0].toNat : Int)) := by
  obtain ⟨ad, h1, h2, h3⟩ := h.u16 hk
  rw [Addr.add_zero] at h3
  exact ⟨ad, h1, h2, h3⟩
/-- A cut from k on. -/
theorem Reads.cut16 {w : World} {B c : Nat} {A : Option Addr} {xs : List UInt16} (h : Reads w B 1 A xs.length (u16s xs)) {k : Nat} (hk : k ≤ xs.length) (hc : xs.length ≤ c) :
    Reads w B 1 (if c = k then A else A.map (·.add k)) (xs.drop k).length (u16s (xs.drop k)) := by
  have h1 := h.cut (k := k) (cap := c) hk hc
  simp only [Nat.mul_one] at h1
  rw [List.length_drop]
  simpa [u16s, List.map_drop] using h1
theorem Reads.cut8 {w : World} {B c : Nat} {A : Option Addr} {xs : List UInt8} (h : Reads w B 1 A xs.length (u8s xs)) {k : Nat} (hk : k ≤ xs.length) (hc : xs.length ≤ c) :
    Reads w B 1 (if c = k then A else A.map (·.add k)) (xs.drop k).length (u8s (xs.drop k)) := by
  have h1 := h.cut (k := k) (cap := c) hk hc
  simp only [Nat.mul_one] at h1
  rw [List.length_drop]
  simpa [u8s, List.map_drop] using h1
theorem Reads.take16 {w : World} {B n : Nat} {A : Option Addr} {xs : List UInt16} (h : Reads w B 1 A n (u16s xs)) {k : Nat} (hk : k ≤ xs.length) :
    Reads w B 1 A (xs.take k).length (u16s (xs.take k)) := by
  have hl : xs.length = n := by have := h.1; simpa [u16s] using this
  have h1 := h.take (k := k) (by omega)
  rw [List.length_take, Nat.min_eq_left hk]
  simpa [u16s, List.map_take] using h1
theorem Reads.take8 {w : World} {B n : Nat} {A : Option Addr} {xs : List UInt8} (h : Reads w B 1 A n (u8s xs)) {k : Nat} (hk : k ≤ xs.length) :
    Reads w B 1 A (xs.take k).length (u8s (xs.take k)) := by
  have hl : xs.length = n := by have := h.1; simpa [u8s] using this
  have h1 := h.take (k := k) (by omega)
  rw [List.length_take, Nat.min_eq_left hk]
  simpa [u8s, List.map_take] using h1
theorem ret_ib {k : IntKind} {n m : Int} {a b : Bool} (h : n = m) (h2 : a = b) : Ending.returned (.tuple #[.int k n, .bool a]) = .returned (.tuple #[.int k m, .bool b]) := by rw [h, h2]
end Go.Proofs.YtelcjdblnagdgaaDoor

namespace Go.Proofs.YtelcjdblnagdgaaDoor
open Go.RowKit

theorem grown_trans {a b c : World} {row : Option Nat} (h : a.grownBy b row) (k : b.grownBy c row) : a.grownBy c row :=
  ⟨k.os.trans h.os, k.tape.trans h.tape, k.output.trans h.output, Nat.le_trans h.size k.size, fun i hi hne => (k.block i (Nat.lt_of_lt_of_le hi h.size) hne).trans (h.block i hi hne)⟩
theorem grown_of_below {a b : World} (row : Option Nat) (h : Below a.heap.size a b) : a.grownBy b row := ⟨h.os, h.tape, h.output, h.size, fun i hi _ => h.block i hi⟩
theorem grown_drew (a : World) (row : Option Nat) : a.grownBy a.drew row := ⟨rfl, rfl, rfl, Nat.le_refl _, fun _ _ _ => rfl⟩
theorem grown_drewN (a : World) (row : Option Nat) (n : Nat) : a.grownBy (a.drewN n) row := ⟨rfl, rfl, rfl, Nat.le_refl _, fun _ _ _ => rfl⟩
theorem grown_set (a : World) (g j : Nat) (v : Value) : a.grownBy (a.setCell ⟨g, j, none⟩ v) (some g) :=
  ⟨rfl, rfl, rfl, by simp [World.setCell], fun i _ hne => Below.heap_setCell _ _ _ _ (fun e => hne (by rw [e]))⟩
theorem grown_alloc (a : World) (o : Obj) (row : Option Nat) : a.grownBy (a.alloc o) row := World.grownBy_alloc a o row
/-- What was there when a call began, and is there behind it. -/
theorem below_of_grown {B : Nat} {a b : World} {g : Nat} (h : a.grownBy b (some g)) (hB : B ≤ g) (hg : g ≤ a.heap.size) : Below B a b :=
  ⟨h.os, h.tape, h.output, h.size, fun i hi => h.block i (by omega) (by intro e; injection e with e; omega)⟩
theorem grown_cell {a b : World} {g : Nat} (h : a.grownBy b (some g)) {p : Addr} {v : Value} (hc : a.cell? p = some v) (hp : p.block ≠ g) : b.cell? p = some v :=
  h.cell hc (by intro e; injection e with e; exact hp e)
theorem grown_frozen {a b : World} {g : Nat} (h : a.grownBy b (some g)) {p : Addr} (hl : p.block < a.heap.size) (hp : p.block ≠ g) : b.frozen? p = a.frozen? p :=
  World.frozen?_of_block (w := a) (h.block p.block hl (by intro e; injection e with e; exact hp e))
theorem Reads.grown {w w' : World} {B size n g : Nat} {A : Option Addr} {xs : List Value} (h : Reads w B size A n xs) (hg : w.grownBy w' (some g)) (hB : B ≤ g) (hl : g ≤ w.heap.size) : Reads w' B size A n xs :=
  h.below (below_of_grown hg hB hl)
theorem own_grown {w w' : World} {base g : Nat} {e : TypeId} {size n : Nat} {v : Value} {xs : List Value} (h : w.ownsRow base e size v n xs) (hg : w.grownBy w' (some g)) (hb : g < base) : w'.ownsRow base e size v n xs :=
  h.kept hg (by
    cases hv : v.ownBlock with
    | none => exact .inl rfl
    | some k =>
      right
      intro e
      injection e with e
      have := (h.lt k hv).1
      omega)
theorem own_below {w w' : World} {base : Nat} {e : TypeId} {size n : Nat} {v : Value} {xs : List Value} (h : w.ownsRow base e size v n xs) (hb : Below w.heap.size w w') : w'.ownsRow base e size v n xs :=
  h.kept (row := none) ⟨hb.os, hb.tape, hb.output, hb.size, fun k hk _ => hb.block k hk⟩ (by cases hv : v.ownBlock <;> simp)
theorem own_base {w : World} {base base' : Nat} {e : TypeId} {size n : Nat} {v : Value} {xs : List Value} (h : w.ownsRow base e size v n xs) (hb : base' ≤ base) : w.ownsRow base' e size v n xs := by
  refine ⟨h.1, ?_⟩
  rcases h.2 with h2 | ⟨g, cap, cur, h1, h3, h4, h5⟩
  · exact Or.inl h2
  · exact Or.inr ⟨g, cap, cur, h1, Nat.le_trans hb h3, h4, h5⟩

/-- A reader in block g: its units are the slice (A, n, c), it stands at place k. -/
structure Rd (w : World) (g : Nat) (A : Option Addr) (n c k : Nat) : Prop where
  c0 : w.cell? ⟨g, 0, none⟩ = some (.slice A n c)
  c1 : w.cell? ⟨g, 1, none⟩ = some (.int .i64 (k : Int))
  f1 : w.frozen? ⟨g, 1, none⟩ = false
section
variable {w w' : World} {g n c k : Nat} {A : Option Addr}
theorem Rd.lt (h : Rd w g A n c k) : g < w.heap.size := World.block_lt_of_cell? w _ h.c0
theorem Rd.below {D : Nat} (h : Rd w g A n c k) (hb : Below D w w') (hg : g < D) : Rd w' g A n c k :=
  ⟨(hb.cell (p := ⟨g, 0, none⟩) hg).trans h.c0, (hb.cell (p := ⟨g, 1, none⟩) hg).trans h.c1, (hb.frozen (p := ⟨g, 1, none⟩) hg).trans h.f1⟩
theorem Rd.drew (h : Rd w g A n c k) : Rd w.drew g A n c k := ⟨h.c0, h.c1, h.f1⟩
theorem Rd.drewN (h : Rd w g A n c k) (m : Nat) : Rd (w.drewN m) g A n c k := ⟨h.c0, h.c1, h.f1⟩
theorem Rd.alloc (h : Rd w g A n c k) (o : Obj) : Rd (w.alloc o) g A n c k := h.below ((Below.refl _ w).alloc (Nat.le_refl _) o) h.lt
theorem Rd.set (h : Rd w g A n c k) (k' : Nat) : Rd (w.setCell ⟨g, 1, none⟩ (.int .i64 (k' : Int))) g A n c k' := by
  have h1 := h.c0
  have h2 := h.c1
  have h3 := h.f1
  exact ⟨by go_simp, by go_simp, by go_simp⟩
theorem Rd.setI (h : Rd w g A n c k) {z : Int} {k' : Nat} (hz : z = (k' : Int)) : Rd (w.setCell ⟨g, 1, none⟩ (.int .i64 z)) g A n c k' := by
  subst hz
  exact h.set k'
end
/-- A reader that a call has moved on. -/
structure Mv (w w' : World) (g : Nat) (A : Option Addr) (n c k : Nat) : Prop where
  rd : Rd w' g A n c k
  grown : w.grownBy w' (some g)
theorem Mv.refl {w : World} {g n c k : Nat} {A : Option Addr} (h : Rd w g A n c k) : Mv w w g A n c k := ⟨h, World.grownBy.refl w _⟩
theorem Mv.then {w w1 w2 : World} {g n c k k' : Nat} {A : Option Addr} (h : Mv w w1 g A n c k) (h2 : Mv w1 w2 g A n c k') : Mv w w2 g A n c k' := ⟨h2.rd, grown_trans h.grown h2.grown⟩
theorem Mv.step {w w1 : World} {g n c k : Nat} {A : Option Addr} (h : Mv w w1 g A n c k) {z : Int} {k' : Nat} (hz : z = (k' : Int)) : Mv w (w1.setCell ⟨g, 1, none⟩ (.int .i64 z)) g A n c k' :=
  ⟨h.rd.setI hz, grown_trans h.grown (grown_set w1 g 1 _)⟩
theorem Mv.below {w w1 w2 : World} {g n c k : Nat} {A : Option Addr} (h : Mv w w1 g A n c k) (hb : Below w1.heap.size w1 w2) : Mv w w2 g A n c k :=
  ⟨h.rd.below hb h.rd.lt, grown_trans h.grown (grown_of_below _ hb)⟩
theorem Mv.drewN {w w1 : World} {g n c k : Nat} {A : Option Addr} (h : Mv w w1 g A n c k) (m : Nat) : Mv w (w1.drewN m) g A n c k := ⟨h.rd.drewN m, grown_trans h.grown (grown_drewN _ _ _)⟩
theorem Mv.drew {w w1 : World} {g n c k : Nat} {A : Option Addr} (h : Mv w w1 g A n c k) : Mv w w1.drew g A n c k := ⟨h.rd.drew, grown_trans h.grown (grown_drew _ _)⟩

/-- Behind a call that moved a reader on: a slice that the call has made. -/
structure MadeM (w0 w : World) (g : Nat) (e : TypeId) (v : Value) (xs : List Value) : Prop where
  own : w.ownsRow w0.heap.size e 1 v xs.length xs
  grown : w0.grownBy w (some g)
theorem MadeM.nil {w0 w : World} {g : Nat} (h : w0.grownBy w (some g)) (e : TypeId) : MadeM w0 w g e (.slice none 0 0) [] := ⟨World.ownsRow_nil _ _ _ _, h⟩
theorem MadeM.go {w0 w w' : World} {g : Nat} {e : TypeId} {v : Value} {xs : List Value} (h : MadeM w0 w g e v xs) (hg : g < w0.heap.size) (hw : w.grownBy w' (some g)) : MadeM w0 w' g e v xs :=
  ⟨own_grown h.own hw hg, grown_trans h.grown hw⟩
theorem MadeM.cells {w0 w : World} {g : Nat} {e : TypeId} {v : Value} {xs ys : List Value} (h : MadeM w0 w g e v xs) (e1 : xs = ys) : MadeM w0 w g e v ys := e1 ▸ h
theorem MadeM.shape {w0 w : World} {g : Nat} {e : TypeId} {v : Value} {xs : List Value} (h : MadeM w0 w g e v xs) :
    ∃ A c, v = .slice A xs.length c ∧ xs.length ≤ c ∧ c ≤ maxLen ∧ Reads w w.heap.size 1 A xs.length xs := by
  obtain ⟨A, c, hv, h1, h2⟩ := own_shape h.own
  have h' := h.own
  rw [hv] at h'
  exact ⟨A, c, hv, h1, h2, Reads.of_own h'⟩
theorem MadeM.u8 {w0 w : World} {g : Nat} {e : TypeId} {v : Value} {xs : List UInt8} (h : MadeM w0 w g e v (u8s xs)) :
    ∃ A c, v = .slice A xs.length c ∧ xs.length ≤ c ∧ c ≤ maxLen ∧ Reads w w.heap.size 1 A xs.length (u8s xs) := by
  obtain ⟨A, c, hv, h1, h2, h3⟩ := h.shape
  have e : (u8s xs).length = xs.length := by simp [u8s]
  rw [e] at hv h1 h3
  exact ⟨A, c, hv, h1, h2, h3⟩
theorem MadeM.u16 {w0 w : World} {g : Nat} {e : TypeId} {v : Value} {xs : List UInt16} (h : MadeM w0 w g e v (u16s xs)) :
    ∃ A c, v = .slice A xs.length c ∧ xs.length ≤ c ∧ c ≤ maxLen ∧ Reads w w.heap.size 1 A xs.length (u16s xs) := by
  obtain ⟨A, c, hv, h1, h2, h3⟩ := h.shape
  have e : (u16s xs).length = xs.length := by simp [u16s]
  rw [e] at hv h1 h3
  exact ⟨A, c, hv, h1, h2, h3⟩

section
variable {P : Program} {w0 w : World} {g : Nat} {ops : Array Oper} {rest : List Oper} {o : Oper} {a : Act} {Q : Exit → Act → World → Prop}
/-- append of what the operation ahead has laid in a block of its own, behind a reader that moves. -/
theorem wpList_litM (hgd : o.guard = none) (s x : Operand) (t : TypeId)
    (ho : o.op = .call { callee := .builtin .append, args := #[s, x], argTypes := #[t, t] })
    (e : TypeId) (i : TypeInfo) (z : Value) (bytes : Nat) (ht : P.underlying t = some (.slice e)) (hi : P.info? e = some i) (hz : i.zero = some z)
    (hsize : i.size = 1) (hby : i.bytes = bytes) (hzs : z.cells.size = 1)
    (v : Value) (xs : List Value) (hs : a.eval s = v) (hm : MadeM w0 w g e v xs)
    (cs : List Value) (m c : Nat) (hx : a.eval x = .slice (some ⟨w.heap.size, 0, none⟩) m c) (hl : cs.length = m) (h1 : (cs.all fun u => u.oneCell') = true)
    (hsz : xs.length + m ≤ 70368744177664) (hb2 : bytes ≤ 2)
    (h : ∀ v' w', MadeM w0 w' g e v' (xs ++ cs) → w.grownBy w' v.ownBlock → wpList P ops Q rest (a.put o.dst v') w') : wpList P ops Q (o :: rest) a (w.alloc (.cells cs.toArray e)) := by
  subst hl
  refine wpList_append_own (w.alloc (.cells cs.toArray e)) hgd s x t ho w0.heap.size e i z 1 bytes ht hi hz hsize hby hzs (by omega) v xs.length xs hs (hm.own.alloc _) ⟨w.heap.size, 0, none⟩ _ c cs hx (by omega) ?_ (fun u hu => List.all_eq_true.1 h1 u hu) (by unfold maxLen; omega) ?_ (Nat.le_trans hm.grown.size (by simp)) ?_
  · intro j u hu
    rw [Addr.add_lit, World.cell?_alloc_at _ _ _ _ rfl]
    simpa using hu
  · calc (xs.length + cs.length) * bytes ≤ 70368744177664 * 2 := Nat.mul_le_mul hsz hb2
      _ ≤ 140737488355328 := by omega
  · intro v' w' h1 h2 _
    have hgr : w.grownBy w' v.ownBlock := grown_trans (grown_alloc w _ _) h2
    refine h v' w' ⟨by rw [List.length_append]; exact h1, ⟨hgr.os.trans hm.grown.os, hgr.tape.trans hm.grown.tape, hgr.output.trans hm.grown.output, Nat.le_trans hm.grown.size hgr.size, fun k hk hne => ?_⟩⟩ hgr
    rw [hgr.block k (Nat.lt_of_lt_of_le hk hm.grown.size) (fun e => by have := (hm.own.lt k e.symm).1; omega)]
    exact hm.grown.block k hk hne
end
/-- The reader behind an append onto what the call has made. -/
theorem Rd.appended {w0 w w' : World} {g gr n c k : Nat} {A : Option Addr} {e : TypeId} {v : Value} {xs : List Value} (h : Rd w gr A n c k) (hm : MadeM w0 w g e v xs) (hg : gr < w0.heap.size) (hw : w.grownBy w' v.ownBlock) : Rd w' gr A n c k := by
  have hne : some gr ≠ v.ownBlock := fun e => by have := (hm.own.lt gr e.symm).1; omega
  exact ⟨hw.cell h.c0 hne, hw.cell h.c1 hne, (World.frozen?_of_block (w := w) (hw.block gr h.lt hne)).trans h.f1⟩
end Go.Proofs.YtelcjdblnagdgaaDoor

namespace Go.Proofs.YtelcjdblnagdgaaDoor

def isDigit (x : UInt16) : Bool := decide (48 ≤ x.toNat) && decide (x.toNat ≤ 57)
def isBlank (x : UInt16) : Bool := x.toNat == 32 || x.toNat == 9 || x.toNat == 10 || x.toNat == 13

theorem isDigit_iff {x : UInt16} : isDigit x = true ↔ 48 ≤ x.toNat ∧ x.toNat ≤ 57 := by simp [isDigit]

/-- the number of digits -/
def decGo (n : Nat) : List UInt16 → Nat
  | [] => n
  | x :: r => decGo (10 * n + (x.toNat - 48)) r
def decVal (l : List UInt16) : Nat := decGo 0 l
theorem decGo_append (n : Nat) (l r : List UInt16) : decGo n (l ++ r) = decGo (decGo n l) r := by
  induction l generalizing n with
  | nil => rfl
  | cons x l ih => exact ih _
theorem decVal_snoc (l : List UInt16) (x : UInt16) : decVal (l ++ [x]) = 10 * decVal l + (x.toNat - 48) := by
  unfold decVal; rw [decGo_append]; rfl
theorem decGo_ge (n : Nat) (l : List UInt16) : n ≤ decGo n l := by
  induction l generalizing n with
  | nil => exact Nat.le_refl _
  | cons x l ih => exact Nat.le_trans (by omega) (ih _)
theorem decGo_mono {n m : Nat} (h : n ≤ m) (l : List UInt16) : decGo n l ≤ decGo m l := by
  induction l generalizing n m with
  | nil => exact h
  | cons x l ih => exact ih (by omega)
theorem decVal_split (l r : List UInt16) : decVal (l ++ r) = decGo (decVal l) r := decGo_append 0 l r
theorem decVal_take_le (l : List UInt16) (k : Nat) : decVal (l.take k) ≤ decVal l := by
  conv => rhs; rw [← List.take_append_drop k l]
  rw [decVal_split]; exact decGo_ge _ _
theorem decVal_take_lt (l : List UInt16) (k : Nat) (h : k < l.length) : 10 * decVal (l.take k) ≤ decVal l := by
  have h1 := decVal_take_le l (k + 1)
  rw [List.take_succ_eq_append_getElem h, decVal_snoc] at h1
  omega
theorem decVal_take_succ (l : List UInt16) (k : Nat) (h : k < l.length) : decVal (l.take (k + 1)) = 10 * decVal (l.take k) + (l[k].toNat - 48) := by
  rw [List.take_succ_eq_append_getElem h, decVal_snoc]
/-- a bound on the number of so many digits -/
theorem decGo_lt {l : List UInt16} (h : ∀ x ∈ l, isDigit x = true) : ∀ n, decGo n l < (n + 1) * 10 ^ l.length := by
  induction l with
  | nil => intro n; show n < (n + 1) * 1; omega
  | cons x l ih =>
    intro n
    have hx := isDigit_iff.1 (h x (by simp))
    have h2 := ih (fun y hy => h y (by simp [hy])) (10 * n + (x.toNat - 48))
    have h3 : 10 * n + (x.toNat - 48) + 1 ≤ (n + 1) * 10 := by omega
    have h4 : (n + 1) * 10 ^ (x :: l).length = ((n + 1) * 10) * 10 ^ l.length := by
      show (n + 1) * 10 ^ (l.length + 1) = _
      rw [Nat.pow_succ, Nat.mul_assoc, Nat.mul_comm 10]
    rw [h4]
    exact Nat.lt_of_lt_of_le h2 (Nat.mul_le_mul_right _ h3)
theorem decVal_lt {l : List UInt16} (h : ∀ x ∈ l, isDigit x = true) : decVal l < 10 ^ l.length := by
  have := decGo_lt h 0
  simpa [decVal] using this

/-- text.Key: the place, and whether there is one -/
def keyOk (u : List UInt16) : Bool := !(u.isEmpty) && decide (u.length ≤ 10) && !(decide (u[0]? = some 48) && decide (1 < u.length)) && u.all isDigit && decide (decVal u ≤ 4294967294)
theorem keyOk_len {u : List UInt16} (h : keyOk u = true) : 0 < u.length ∧ u.length ≤ 10 := by
  simp only [keyOk, Bool.and_eq_true, decide_eq_true_eq, Bool.not_eq_true'] at h
  exact ⟨by cases u <;> simp_all, h.1.1.1.2⟩
theorem keyOk_long {u : List UInt16} (h : ¬ (0 < u.length ∧ u.length ≤ 10)) : keyOk u = false := by
  by_cases h1 : keyOk u = true
  · exact absurd (keyOk_len h1) h
  · simpa using h1
theorem keyOk_lead {u : List UInt16} (h : 0 < u.length) (h1 : u[0] = 48) (h2 : 1 < u.length) : keyOk u = false := by
  simp [keyOk, List.getElem?_eq_getElem h, h1, h2]
theorem keyOk_odd {u : List UInt16} {x : UInt16} (h : x ∈ u) (h1 : isDigit x = false) : keyOk u = false := by
  have : u.all isDigit = false := by
    rw [List.all_eq_false]
    exact ⟨x, h, by simp [h1]⟩
  simp [keyOk, this]
theorem keyOk_at {u : List UInt16} (h : 0 < u.length) (h10 : u.length ≤ 10) (h1 : ¬ (u[0] = 48 ∧ 1 < u.length)) (h2 : ∀ x ∈ u, isDigit x = true) : keyOk u = decide (decVal u ≤ 4294967294) := by
  have e1 : u.all isDigit = true := List.all_eq_true.2 h2
  have e2 : (decide (u[0]? = some 48) && decide (1 < u.length)) = false := by
    rw [List.getElem?_eq_getElem h]
    simpa using h1
  have e3 : u.isEmpty = false := by
    rw [List.isEmpty_eq_false_iff]
    exact List.ne_nil_of_length_pos h
  simp only [keyOk, e1, e2, e3, decide_eq_true h10, Bool.not_false, Bool.true_and]
def keyF (u : List UInt16) : Nat := if keyOk u then decVal u else 0

/-- units of numbers of forms that are not taken -/
def oddUnits : List UInt16 := [120, 88, 111, 79, 46, 43, 45, 95]
def okUnit (x : UInt16) : Bool := isDigit x || (decide (97 ≤ x.toNat) && decide (x.toNat ≤ 102)) || (decide (65 ≤ x.toNat) && decide (x.toNat ≤ 70)) || decide (x ∈ oddUnits)
def strangeF (u : List UInt16) : Bool := u.all okUnit && u.any isDigit

theorem okUnit_digit {x : UInt16} (h : isDigit x = true) : okUnit x = true := by simp [okUnit, h]

/-- a number: its kind and its whole part -/
structure Nm where
  kind : Int
  n : Int
deriving DecidableEq

def trimR (u : List UInt16) : List UInt16 := (u.reverse.dropWhile isBlank).reverse
def trimF (u : List UInt16) : List UInt16 := trimR (u.dropWhile isBlank)
def infinity : List UInt16 := [73, 110, 102, 105, 110, 105, 116, 121]
def signOf (t : List UInt16) : Bool := t.headD 0 == 45
def restOf (t : List UInt16) : List UInt16 := if t.headD 0 = 45 ∨ t.headD 0 = 43 then t.tail else t
/-- the number without its sign -/
def baseT (t : List UInt16) : Nm × Bool :=
  if restOf t = infinity then (⟨3, 0⟩, true)
  else if restOf t ≠ [] ∧ (restOf t).all isDigit = true then
    (if decVal (restOf t) ≤ 9007199254740991 then (⟨0, decVal (restOf t)⟩, true) else (⟨2, 0⟩, false))
  else (⟨2, 0⟩, !strangeF t)
def negNm (a : Nm) : Nm := if a.kind = 2 then a else if a.kind = 3 then ⟨4, 0⟩ else if a.n = 0 then ⟨1, 0⟩ else ⟨0, -a.n⟩
def numT (t : List UInt16) : Nm × Bool :=
  if t = [] then (⟨0, 0⟩, true) else (if signOf t = true then negNm (baseT t).1 else (baseT t).1, (baseT t).2)
theorem strange_inf {t : List UInt16} (h : restOf t = infinity) : strangeF t = false := by
  have hm : (73 : UInt16) ∈ t := by
    have h1 : (73 : UInt16) ∈ restOf t := by rw [h]; decide
    unfold restOf at h1
    split at h1
    · exact List.mem_of_mem_tail h1
    · exact h1
  have : t.all okUnit = false := List.all_eq_false.2 ⟨73, hm, by decide⟩
  simp [strangeF, this]
def numF (u : List UInt16) : Nm × Bool := numT (trimF u)
end Go.Proofs.YtelcjdblnagdgaaDoor

namespace Go.Proofs.YtelcjdblnagdgaaDoor

/-- a token -/
structure Tok where
  kind : Nat
  text : List UInt8
  str : List UInt16
  nk : Int
  nn : Int
  mag : List Nat
  pos : Nat
  nl : Bool
deriving DecidableEq
def noTok : Tok := ⟨0, [], [], 0, 0, [], 0, false⟩

def isLet (x : UInt16) : Bool := (decide (97 ≤ x.toNat) && decide (x.toNat ≤ 122)) || (decide (65 ≤ x.toNat) && decide (x.toNat ≤ 90)) || x.toNat == 95 || x.toNat == 36
def isBl (x : UInt16) : Bool := x.toNat == 9 || x.toNat == 11 || x.toNat == 12 || x.toNat == 32
def isLine (x : UInt16) : Bool := x.toNat == 10 || x.toNat == 13
def isFar (x : UInt16) : Bool := x.toNat == 8232 || x.toNat == 8233
def isRun (x : UInt16) : Bool := isLet x || isDigit x
/-- does a unit of such a kind stand there? -/
def isAt (k : Nat) (p : UInt16 → Bool) (l : List UInt16) : Bool := (l[k]?).any p
/-- do these bytes stand ahead? -/
def starts (s : List UInt8) (l : List UInt16) : Bool := (s.map (·.toUInt16)).isPrefixOf l
def asc (l : List UInt16) : List UInt8 := l.map (·.toUInt8)
def plus (n : Nat) (p : Nat × Bool × Nat) : Nat × Bool × Nat := (n + p.1, p.2)

/-- an error of what is left out -/
def leftF (st : Bool) : Nat := if st = true then 6 else 0
/-- a remark behind its two signs: how many units, whether a line ends, an error -/
def remGo (long : Bool) : List UInt16 → Bool → Bool → Nat × Bool × Nat
  | [], _, st => (0, false, if long = true then 5 else leftF st)
  | x :: r, nl, st =>
    if (long && starts [42, 47] (x :: r)) = true then (2, nl, leftF st)
    else if (!long && isLine x) = true then (0, false, leftF st)
    else plus 1 (remGo long r (nl || isLine x) (st || isFar x))
def remarkF (l : List UInt16) : Nat × Bool × Nat := plus 2 (remGo (starts [47, 42] l) (l.drop 2) false false)
/-- what stands between tokens: how many units (an error: where), whether a line ends, an error -/
def passN : Nat → List UInt16 → Bool → Nat × Bool × Nat
  | 0, _, nl => (0, nl, 0)
  | _ + 1, [], nl => (0, nl, 0)
  | f + 1, x :: r, nl =>
    if (isBl x || isLine x) = true then plus 1 (passN f r (nl || isLine x))
    else if (starts [47, 47] (x :: r) || starts [47, 42] (x :: r)) = true then
      (if (remarkF (x :: r)).2.2 ≠ 0 then (0, false, (remarkF (x :: r)).2.2)
       else plus (remarkF (x :: r)).1 (passN f ((x :: r).drop (remarkF (x :: r)).1) (nl || (remarkF (x :: r)).2.1)))
    else (0, nl, 0)
def passF (l : List UInt16) : Nat × Bool × Nat := passN l.length l false

/-- the words -/
def wordsIn : List (List UInt8) := [[98, 114, 101, 97, 107], [99, 97, 116, 99, 104], [99, 111, 110, 115, 116], [99, 111, 110, 116, 105, 110, 117, 101], [101, 108, 115, 101], [102, 97, 108, 115, 101], [102, 105, 110, 97, 108, 108, 121], [102, 111, 114], [102, 117, 110, 99, 116, 105, 111, 110], [105, 102], [105, 110], [108, 101, 116], [110, 101, 119], [110, 117, 108, 108], [114, 101, 116, 117, 114, 110], [116, 104, 105, 115], [116, 104, 114, 111, 119], [116, 114, 117, 101], [116, 114, 121], [116, 121, 112, 101, 111, 102], [118, 111, 105, 100], [119, 104, 105, 108, 101]]
def wordsOut : List (List UInt8) := [[97, 114, 103, 117, 109, 101, 110, 116, 115], [97, 115, 121, 110, 99], [97, 119, 97, 105, 116], [99, 97, 115, 101], [99, 108, 97, 115, 115], [100, 101, 98, 117, 103, 103, 101, 114], [100, 101, 102, 97, 117, 108, 116], [100, 101, 108, 101, 116, 101], [100, 111], [101, 110, 117, 109], [101, 118, 97, 108], [101, 120, 112, 111, 114, 116], [101, 120, 116, 101, 110, 100, 115], [105, 109, 112, 108, 101, 109, 101, 110, 116, 115], [105, 109, 112, 111, 114, 116], [105, 110, 115, 116, 97, 110, 99, 101, 111, 102], [105, 110, 116, 101, 114, 102, 97, 99, 101], [112, 97, 99, 107, 97, 103, 101], [112, 114, 105, 118, 97, 116, 101], [112, 114, 111, 116, 101, 99, 116, 101, 100], [112, 117, 98, 108, 105, 99], [115, 116, 97, 116, 105, 99], [115, 117, 112, 101, 114], [115, 119, 105, 116, 99, 104], [118, 97, 114], [119, 105, 116, 104], [121, 105, 101, 108, 100]]
def signsIn : List (List UInt8) := [[123], [125], [40], [41], [91], [93], [59], [44], [46], [63], [58], [126], [60], [62], [60, 61], [62, 61], [61, 61], [33, 61], [61, 61, 61], [33, 61, 61], [43], [45], [42], [47], [37], [38], [124], [94], [33], [38, 38], [124, 124], [63, 63], [61], [43, 61], [45, 61], [42, 61], [47, 61], [37, 61], [38, 61], [124, 61], [94, 61], [60, 60, 61], [62, 62, 61], [62, 62, 62, 61], [43, 43], [45, 45], [60, 60], [62, 62], [62, 62, 62], [61, 62]]
def signsOut : List (List UInt8) := [[46, 46, 46], [63, 46], [42, 42], [42, 42, 61], [38, 38, 61], [124, 124, 61], [63, 63, 61]]
def wordF (s : List UInt8) : Nat := if s ∈ wordsIn then 1 else if s ∈ wordsOut then 2 else 0
def signF (s : List UInt8) : Nat := if s ∈ signsIn then 1 else if s ∈ signsOut then 2 else 0
def runF (s : List UInt8) : Bool := match s with | [] => false | b :: r => isLet b.toUInt16 && r.all fun c => isRun c.toUInt16
def nameF (s : List UInt8) : Bool := runF s && wordF s == 0

/-- a token's answer: an error, the token, how many units -/
abbrev Ans := Nat × Tok × Nat
def bad (e : Nat) : Ans := (e, noTok, 0)
def wordT (l : List UInt16) : Ans :=
  if starts [92] (l.drop (l.takeWhile isRun).length) = true then bad 6
  else (0, { noTok with kind := if 0 < wordF (asc (l.takeWhile isRun)) then 6 else 1, text := asc (l.takeWhile isRun) }, (l.takeWhile isRun).length)
def limbsN : Nat → Nat → List Nat
  | 0, _ => []
  | f + 1, v => if v = 0 then [] else v % 4294967296 :: limbsN f (v / 4294967296)
def limbs (v : Nat) : List Nat := limbsN 9 v
def big8 : Nat := 4294967296 ^ 8
def oddAfter (zero : Bool) (x : UInt16) : Bool :=
  x.toNat == 46 || x.toNat == 101 || x.toNat == 69 || x.toNat == 95 || (zero && (x.toNat == 120 || x.toNat == 88 || x.toNat == 111 || x.toNat == 79 || x.toNat == 98 || x.toNat == 66))
def bigT (v n : Nat) (r : List UInt16) : Ans :=
  if big8 ≤ v then bad 6
  else if (isAt 0 isLet r || isAt 0 isDigit r) = true then bad 5
  else (0, { noTok with kind := 3, mag := limbs v }, n + 1)
/-- d: the digits; r: what stands behind them -/
def numT' (d r : List UInt16) : Ans :=
  if (isAt 0 (fun x => x.toNat == 48) d && !decide (d = [48])) = true then bad 5
  else if starts [110] r = true then bigT (decVal d) d.length (r.drop 1)
  else if isAt 0 (oddAfter (decide (d = [48]))) r = true then bad 6
  else if isAt 0 isLet r = true then bad 5
  else if 9007199254740991 < decVal d then bad 6
  else (0, { noTok with kind := 2, nn := decVal d }, d.length)
def numberT (l : List UInt16) : Ans := numT' (l.takeWhile isDigit) (l.drop (l.takeWhile isDigit).length)

def hexF (x : UInt16) : Nat :=
  if isDigit x = true then x.toNat - 48 else if 97 ≤ x.toNat ∧ x.toNat ≤ 102 then x.toNat - 87 else if 65 ≤ x.toNat ∧ x.toNat ≤ 70 then x.toNat - 55 else 16
def hexVal (v : Nat) : List UInt16 → Nat
  | [] => v
  | x :: r => hexVal (16 * v + hexF x) r
def isHex (x : UInt16) : Bool := decide (hexF x < 16)
/-- a unit of so many digits of sixteen: an error, the unit, how many units -/
def codeF (n : Nat) (l : List UInt16) : Nat × UInt16 × Nat :=
  if (decide (n ≤ l.length) && (l.take n).all isHex) = true then (0, UInt16.ofNat (hexVal 0 (l.take n)), n) else (5, 0, 0)
def simpleF (x : UInt16) : Option UInt16 :=
  if x = 110 then some 10 else if x = 116 then some 9 else if x = 114 then some 13 else if x = 98 then some 8 else if x = 118 then some 11 else if x = 102 then some 12 else none
def more (n : Nat) (p : Nat × UInt16 × Nat) : Nat × UInt16 × Nat := if p.1 = 0 then (0, p.2.1, n + p.2.2) else p
def escR (x : UInt16) (r : List UInt16) : Nat × UInt16 × Nat :=
  if (x.toNat == 48 && !isAt 0 isDigit r) = true then (0, 0, 1)
  else if isDigit x = true then (5, 0, 0)
  else if (isLine x || isFar x || (x.toNat == 117 && starts [123] r)) = true then (6, 0, 0)
  else if x.toNat = 120 then more 1 (codeF 2 r)
  else if x.toNat = 117 then more 1 (codeF 4 r)
  else (0, x, 1)
def escF : List UInt16 → Nat × UInt16 × Nat
  | [] => (5, 0, 0)
  | x :: r => if (simpleF x).isSome = true then (0, (simpleF x).getD 0, 1) else escR x r
/-- what stands behind a quote: an error, the units, how many units -/
def quoN (q : UInt16) : Nat → List UInt16 → List UInt16 → Nat × List UInt16 × Nat
  | 0, _, _ => (5, [], 0)
  | _ + 1, [], _ => (5, [], 0)
  | f + 1, x :: r, acc =>
    if isLine x = true then (5, [], 0)
    else if x = q then (0, acc, 1)
    else if x.toNat = 92 then
      (if (escF r).1 ≠ 0 then ((escF r).1, [], 0)
       else ((quoN q f (r.drop (escF r).2.2) (acc ++ [(escF r).2.1])).1, (quoN q f (r.drop (escF r).2.2) (acc ++ [(escF r).2.1])).2.1, 1 + (escF r).2.2 + (quoN q f (r.drop (escF r).2.2) (acc ++ [(escF r).2.1])).2.2))
    else ((quoN q f r (acc ++ [x])).1, (quoN q f r (acc ++ [x])).2.1, 1 + (quoN q f r (acc ++ [x])).2.2)
def quoF (q : UInt16) (l : List UInt16) : Nat × List UInt16 × Nat := quoN q (l.length + 1) l []
def quotedT (q : UInt16) (r : List UInt16) : Ans :=
  if (quoF q r).1 ≠ 0 then bad (quoF q r).1 else (0, { noTok with kind := 4, str := (quoF q r).2.1 }, 1 + (quoF q r).2.2)

/-- the sign of so many units that stands ahead -/
def signAt (l : List UInt16) (n : Nat) : Nat :=
  if (decide (n ≤ l.length) && (l.take n).all (fun x => decide (x.toNat ≤ 127)) && !(decide (asc (l.take n) = [63, 46]) && isAt 2 isDigit l)) = true then signF (asc (l.take n)) else 0
def signN (l : List UInt16) : Nat → Option Nat
  | 0 => none
  | n + 1 => if signAt l (n + 1) ≠ 0 then some (n + 1) else signN l n
def signT (z : Bool) (l : List UInt16) : Ans :=
  match signN l 4 with
  | some n => if signAt l n = 2 then bad 6 else (0, { noTok with kind := 5, text := asc (l.take n) }, n)
  | none => if (isAt 0 (fun x => decide (128 ≤ x.toNat) || x.toNat == 96 || x.toNat == 92) l || (z && starts [35, 33] l)) = true then bad 6 else bad 5
/-- the token that stands ahead -/
def tokenT (z : Bool) : List UInt16 → Ans
  | [] => bad 5
  | x :: r =>
    if isLet x = true then wordT (x :: r)
    else if isDigit x = true then numberT (x :: r)
    else if (x.toNat == 39 || x.toNat == 34) = true then quotedT x r
    else if (x.toNat == 46 && isAt 0 isDigit r) = true then bad 6
    else signT z (x :: r)

/-- a token ahead of what comes behind it -/
def consT (t : Tok) (p : List Tok × Nat × Nat) : List Tok × Nat × Nat := if p.2.2 ≠ 0 then ([], p.2) else (t :: p.1, 0, 0)
/-- the token at place k, behind what was passed -/
def tokAt (k : Nat) (l : List UInt16) : Ans := tokenT (k + (passF l).1 == 0) (l.drop (passF l).1)
def setAt (t : Tok) (k : Nat) (nl : Bool) : Tok := { t with pos := k, nl := nl }
/-- tokens, where an error is, the error; k: the place -/
def lexN : Nat → Nat → List UInt16 → List Tok × Nat × Nat
  | 0, _, _ => ([], 0, 0)
  | f + 1, k, l =>
    if (passF l).2.2 ≠ 0 then ([], k + (passF l).1, (passF l).2.2)
    else if l.drop (passF l).1 = [] then ([setAt noTok (k + (passF l).1) (passF l).2.1], 0, 0)
    else if (tokAt k l).1 ≠ 0 then ([], k + (passF l).1, (tokAt k l).1)
    else consT (setAt (tokAt k l).2.1 (k + (passF l).1) (passF l).2.1) (lexN f (k + (passF l).1 + (tokAt k l).2.2) (l.drop ((passF l).1 + (tokAt k l).2.2)))
def lexF (u : List UInt16) : List Tok × Nat × Nat := if 4096 < u.length then ([], 0, 3) else lexN (u.length + 1) 0 u
end Go.Proofs.YtelcjdblnagdgaaDoor

namespace Go.Proofs.YtelcjdblnagdgaaDoor

/-- a node -/
structure Nd where
  kind : Int
  name : List UInt8
  str : List UInt16
  nk : Int
  nn : Int
  neg : Bool
  mag : List Nat
  kids : List Int
deriving DecidableEq
def noNd : Nd := ⟨0, [], [], 0, 0, false, [], []⟩

def isStmt (k : Int) : Bool := decide (2 ≤ k) && decide (k ≤ 19) && !(k == 7) && !(k == 11) && !(k == 17)
def isSub (k : Int) : Bool := isStmt k && !(k == 5) && !(k == 6) && !(k == 19)
def isExpr (k : Int) : Bool := decide (30 ≤ k) && decide (k ≤ 53) && !(k == 40)
def isTarget (k : Int) : Bool := k == 33 || k == 52 || k == 53
def isKind (k : Int) : Bool := (decide (1 ≤ k) && decide (k ≤ 20)) || (decide (30 ≤ k) && decide (k ≤ 53))
/-- may a kid of a sort be of a kind? -/
def fitsF (s : Nat) (k : Int) : Bool :=
  if s = 1 then isStmt k else if s = 2 then isSub k else if s = 3 then isExpr k else if s = 4 then isTarget k
  else if s = 5 then k == 7 else if s = 6 then k == 20 else if s = 7 then k == 40 else if s = 8 then k == 4
  else if s = 9 then k == 11 || isExpr k else if s = 10 then k == 11 || k == 5 || k == 6 || isExpr k
  else if s = 11 then k == 11 || k == 17 else if s = 12 then k == 11 || k == 4 else if s = 13 then k == 4 || isExpr k else false
def paramsF (n last : Nat) : List Nat := List.replicate (n - 1) 6 ++ [last]
/-- which kids a node of a kind has, if it has so many, and of which sort all behind them are -/
def shapeF (k : Int) (n : Nat) : List Nat × Nat :=
  if k = 1 ∨ k = 4 then ([], 1)
  else if k = 3 ∨ k = 15 ∨ k = 40 ∨ k = 43 ∨ k = 52 then ([3], 0)
  else if k = 5 ∨ k = 6 then ([5], 5)
  else if k = 7 ∨ k = 14 then ([3].take (min n 1), 0)
  else if k = 8 then ([3, 2, 2].take (min (max n 2) 3), 0)
  else if k = 9 then ([3, 2], 0)
  else if k = 10 then ([10, 9, 9, 2], 0)
  else if k = 16 then ([8, 11, 12], 0)
  else if k = 17 then ([8], 0)
  else if k = 18 then ([2], 0)
  else if k = 19 ∨ k = 41 then (paramsF n 8, 0)
  else if k = 42 then (paramsF n 13, 0)
  else if k = 38 then ([], 3)
  else if k = 39 then ([], 7)
  else if k = 44 ∨ k = 45 then ([4], 0)
  else if k = 46 ∨ k = 47 ∨ k = 53 then ([3, 3], 0)
  else if k = 48 then ([3, 3, 3], 0)
  else if k = 49 then ([4, 3], 0)
  else if k = 50 ∨ k = 51 then ([3], 3)
  else ([], 0)
/-- the node at a place -/
def atN (ts : List Nd) (k : Int) : Nd := ts.getD k.toNat noNd
/-- do kids from the first on fit? -/
def fitAll (ts : List Nd) : List Nat → Nat → List Int → Bool
  | _, _, [] => true
  | [], r, k :: ks => fitsF r (atN ts k).kind && fitAll ts [] r ks
  | s :: l, r, k :: ks => fitsF s (atN ts k).kind && fitAll ts l r ks
/-- does a statement end with an If without an else? -/
def dangN : Nat → List Nd → Int → Bool
  | 0, _, _ => false
  | f + 1, ts, n =>
    if (atN ts n).kind = 8 ∧ (atN ts n).kids.length = 2 then true
    else if (atN ts n).kind = 8 ∨ (atN ts n).kind = 9 ∨ (atN ts n).kind = 10 ∨ (atN ts n).kind = 18 then
      (match (atN ts n).kids.getLast? with | none => false | some k => dangN f ts k)
    else false
def dangles (ts : List Nd) (n : Int) : Bool := dangN ts.length ts n
/-- has a node just the kids of its kind? -/
def kidsF (ts : List Nd) (x : Nd) : Bool :=
  isKind x.kind && decide ((shapeF x.kind x.kids.length).1.length ≤ x.kids.length)
  && fitAll ts (shapeF x.kind x.kids.length).1 (shapeF x.kind x.kids.length).2 x.kids
  && (if x.kind = 16 then ((atN ts (x.kids.getD 1 0)).kind == 17 || (atN ts (x.kids.getD 2 0)).kind == 4)
      else if x.kind = 8 ∧ x.kids.length = 3 then !(dangles ts (x.kids.getD 1 0)) else true)

def opsU : List (List UInt8) := [[45], [43], [33], [126], [116, 121, 112, 101, 111, 102], [118, 111, 105, 100]]
def opsP : List (List UInt8) := [[43, 43], [45, 45]]
def opsB : List (List UInt8) := [[43], [45], [42], [47], [37], [38], [124], [94], [60, 60], [62, 62], [62, 62, 62], [60], [62], [60, 61], [62, 61], [61, 61], [33, 61], [61, 61, 61], [33, 61, 61], [105, 110]]
def opsL : List (List UInt8) := [[38, 38], [124, 124], [63, 63]]
def opsA : List (List UInt8) := [[61], [43, 61], [45, 61], [42, 61], [47, 61], [37, 61], [38, 61], [124, 61], [94, 61], [60, 60, 61], [62, 62, 61], [62, 62, 62, 61]]
/-- the operators of a kind -/
def opsF (k : Int) : List (List UInt8) :=
  if k = 43 then opsU else if k = 44 ∨ k = 45 then opsP else if k = 46 then opsB else if k = 47 then opsL else if k = 49 then opsA else []
/-- may a node have that name? -/
def namedF (k : Int) (s : List UInt8) : Bool :=
  if k = 7 ∨ k = 18 ∨ k = 19 ∨ k = 20 ∨ k = 33 then nameF s
  else if k = 12 ∨ k = 13 ∨ k = 17 ∨ k = 41 then decide (s = []) || nameF s
  else if k = 52 then runF s
  else if opsF k ≠ [] then decide (s ∈ opsF k) else decide (s = [])
def numMay (k n : Int) : Bool := if k = 0 then decide (-9007199254740991 ≤ n) && decide (n ≤ 9007199254740991) else decide (1 ≤ k) && decide (k ≤ 4) && n == 0
def bigMay (neg : Bool) (m : List Nat) : Bool := decide (m.length ≤ 8) && (match m.getLast? with | none => !neg | some x => !(x == 0))
/-- has a node just the fields of its kind, and are they as they may be? -/
def fieldsF (x : Nd) : Bool :=
  if 4096 < x.name.length then false
  else if (!(x.kind == 32) && !(x.kind == 40) && !x.str.isEmpty) = true then false
  else if (!(x.kind == 30) && !(x.nk == 0 && x.nn == 0)) = true then false
  else if (!(x.kind == 31) && (x.neg || !x.mag.isEmpty)) = true then false
  else if x.kind = 32 ∨ x.kind = 40 then decide (x.name = []) && decide (x.str.length ≤ 4096)
  else if x.kind = 30 then decide (x.name = []) && x.nk == 0 && numMay x.nk x.nn && decide (0 ≤ x.nn)
  else if x.kind = 31 then decide (x.name = []) && bigMay x.neg x.mag && !x.neg
  else namedF x.kind x.name

/-- do kids stand behind their node, and in the list? -/
def kidsIn (N n : Nat) (ks : List Int) : Bool := ks.all fun k => decide ((n : Int) < k) && decide (k < (N : Int))
/-- does each node stand where it is expected? st: the places that are expected -/
def orderGo (N : Nat) : Nat → List Nd → List Int → Bool
  | _, [], st => st.isEmpty
  | _, _ :: _, [] => false
  | n, x :: r, s :: st => s == (n : Int) && kidsIn N n x.kids && orderGo N (n + 1) r (x.kids ++ st)
def orderF (ts : List Nd) : Bool := orderGo ts.length 0 ts [0]
/-- in how many a node lies -/
def setAll (d : List Nat) (v : Nat) : List Int → List Nat
  | [] => d
  | k :: ks => setAll (d.set k.toNat v) v ks
def deepGo : Nat → List Nd → List Nat → List Nat
  | _, [], d => d
  | n, x :: r, d => deepGo (n + 1) r (setAll (d.set n (max (d.getD n 0) 1)) (max (d.getD n 0) 1 + 1) x.kids)
def deepF (ts : List Nd) : List Nat := deepGo 0 ts (List.replicate ts.length 0)
def maxL : List Nat → Nat
  | [] => 0
  | x :: r => max x (maxL r)
def nestD (ts : List Nd) : Nat := maxL (deepF ts)
def eachF (ts : List Nd) : Nat → List Nd → Bool
  | _, [] => true
  | n, x :: r => !(decide (0 < n) && x.kind == 1) && fieldsF x && kidsF ts x && eachF ts (n + 1) r
/-- is it a good tree? -/
def mayF (ts : List Nd) : Bool :=
  match ts with
  | [] => false
  | x :: _ => decide (ts.length ≤ 4096) && x.kind == 1 && orderF ts && eachF ts 0 ts && decide (nestD ts ≤ 48)
def nestF (ts : List Nd) : Nat := if mayF ts = true then nestD ts else 0
end Go.Proofs.YtelcjdblnagdgaaDoor

namespace Go.Proofs.YtelcjdblnagdgaaDoor
open Go.RowKit

def i64s (l : List Int) : List Value := l.map (Value.int .i64)
theorem i64s_len (l : List Int) : (i64s l).length = l.length := by simp [i64s]
theorem i64s_one (l : List Int) : ∀ u ∈ i64s l, u.oneCell' = true := by
  intro u hu
  obtain ⟨_, _, rfl⟩ := List.mem_map.1 hu
  rfl
def n32s (l : List Nat) : List Value := l.map fun n : Nat => Value.int .u32 (n : Int)
theorem n32s_len (l : List Nat) : (n32s l).length = l.length := by simp [n32s]
theorem n32s_one (l : List Nat) : ∀ u ∈ n32s l, u.oneCell' = true := by
  intro u hu
  obtain ⟨_, _, rfl⟩ := List.mem_map.1 hu
  rfl
/-- what a node's own slices are -/
structure NdSl where
  As : Option Addr
  Am : Option Addr
  Ak : Option Addr
  cs : Nat
  cm : Nat
  ck : Nat
/-- the eight cells of a node -/
def ndV (x : Nd) (s : NdSl) : List Value := [.int .i64 x.kind, .string ⟨x.name.toArray⟩, .slice s.As x.str.length s.cs, .int .i64 x.nk, .int .i64 x.nn, .bool x.neg, .slice s.Am x.mag.length s.cm, .slice s.Ak x.kids.length s.ck]
/-- what a node's slices hold, below block B -/
structure NdR (w : World) (B : Nat) (x : Nd) (s : NdSl) : Prop where
  str : Reads w B 1 s.As x.str.length (u16s x.str)
  mag : Reads w B 1 s.Am x.mag.length (n32s x.mag)
  kids : Reads w B 1 s.Ak x.kids.length (i64s x.kids)
  cs : x.str.length ≤ s.cs ∧ s.cs ≤ maxLen
  cm : x.mag.length ≤ s.cm ∧ s.cm ≤ maxLen
  ck : x.kids.length ≤ s.ck ∧ s.ck ≤ maxLen
  limb : ∀ y ∈ x.mag, y < 4294967296
  kin : ∀ y ∈ x.kids, -9223372036854775808 ≤ y ∧ y ≤ 9223372036854775807
  kb : -9223372036854775808 ≤ x.kind ∧ x.kind ≤ 9223372036854775807
  nkb : -9223372036854775808 ≤ x.nk ∧ x.nk ≤ 9223372036854775807
  nnb : -9223372036854775808 ≤ x.nn ∧ x.nn ≤ 9223372036854775807
  nm : x.name.length ≤ 9223372036854775807
section
variable {w w' : World} {B B' : Nat} {x : Nd} {s : NdSl}
theorem NdR.below (h : NdR w B x s) (hb : Below B w w') : NdR w' B x s := ⟨h.str.below hb, h.mag.below hb, h.kids.below hb, h.cs, h.cm, h.ck, h.limb, h.kin, h.kb, h.nkb, h.nnb, h.nm⟩
theorem NdR.back (h : NdR w' B x s) (hb : Below B w w') : NdR w B x s :=
  ⟨h.str.keep fun _ hp => (hb.cell hp).symm, h.mag.keep fun _ hp => (hb.cell hp).symm, h.kids.keep fun _ hp => (hb.cell hp).symm, h.cs, h.cm, h.ck, h.limb, h.kin, h.kb, h.nkb, h.nnb, h.nm⟩
theorem NdR.more (h : NdR w B x s) (hb : B ≤ B') : NdR w B' x s := ⟨h.str.more hb, h.mag.more hb, h.kids.more hb, h.cs, h.cm, h.ck, h.limb, h.kin, h.kb, h.nkb, h.nnb, h.nm⟩
end
/-- the eight cells lie there -/
structure NdC (w : World) (b o : Nat) (x : Nd) (s : NdSl) : Prop where
  k0 : w.cell? ⟨b, o, none⟩ = some (.int .i64 x.kind)
  k1 : w.cell? ⟨b, o + 1, none⟩ = some (.string ⟨x.name.toArray⟩)
  k2 : w.cell? ⟨b, o + 2, none⟩ = some (.slice s.As x.str.length s.cs)
  k3 : w.cell? ⟨b, o + 3, none⟩ = some (.int .i64 x.nk)
  k4 : w.cell? ⟨b, o + 4, none⟩ = some (.int .i64 x.nn)
  k5 : w.cell? ⟨b, o + 5, none⟩ = some (.bool x.neg)
  k6 : w.cell? ⟨b, o + 6, none⟩ = some (.slice s.Am x.mag.length s.cm)
  k7 : w.cell? ⟨b, o + 7, none⟩ = some (.slice s.Ak x.kids.length s.ck)
theorem NdC.keep {w w' : World} {b o : Nat} {x : Nd} {s : NdSl} (h : NdC w b o x s) (hk : ∀ j, w'.cell? ⟨b, j, none⟩ = w.cell? ⟨b, j, none⟩) : NdC w' b o x s :=
  ⟨(hk _).trans h.k0, (hk _).trans h.k1, (hk _).trans h.k2, (hk _).trans h.k3, (hk _).trans h.k4, (hk _).trans h.k5, (hk _).trans h.k6, (hk _).trans h.k7⟩
theorem NdC.below {w w' : World} {b o D : Nat} {x : Nd} {s : NdSl} (h : NdC w b o x s) (hb : Below D w w') (hd : b < D) : NdC w' b o x s := h.keep fun j => hb.cell (p := ⟨b, j, none⟩) hd
/-- nodes that lie in memory from A on, below block B -/
def NdsR (w : World) (B : Nat) (A : Option Addr) (n : Nat) (ts : List Nd) : Prop :=
  ts.length = n ∧ (0 < n → ∃ b o, A = some ⟨b, o, none⟩ ∧ b < B ∧ ∀ i (h : i < ts.length), ∃ s, NdC w b (o + i * 8) ts[i] s ∧ NdR w B ts[i] s)
section
variable {w w' : World} {B B' n : Nat} {A : Option Addr} {ts : List Nd}
theorem NdsR.below (h : NdsR w B A n ts) (hb : Below B w w') : NdsR w' B A n ts := ⟨h.1, fun h0 => by
  obtain ⟨b, o, hA, hB, hat⟩ := h.2 h0
  refine ⟨b, o, hA, hB, fun i hi => ?_⟩
  obtain ⟨s, h1, h2⟩ := hat i hi
  exact ⟨s, h1.below hb hB, h2.below hb⟩⟩
theorem NdsR.more (h : NdsR w B A n ts) (hb : B ≤ B') : NdsR w B' A n ts := ⟨h.1, fun h0 => by
  obtain ⟨b, o, hA, hB, hat⟩ := h.2 h0
  refine ⟨b, o, hA, Nat.lt_of_lt_of_le hB hb, fun i hi => ?_⟩
  obtain ⟨s, h1, h2⟩ := hat i hi
  exact ⟨s, h1, h2.more hb⟩⟩
theorem NdsR.get (h : NdsR w B A n ts) {i : Nat} (hi : i < n) : ∃ b o x s, A = some ⟨b, o, none⟩ ∧ b < B ∧ ts[i]? = some x ∧ NdC w b (o + i * 8) x s ∧ NdR w B x s := by
  obtain ⟨b, o, hA, hB, hat⟩ := h.2 (by omega)
  have hl : i < ts.length := by rw [h.1]; exact hi
  obtain ⟨s, h1, h2⟩ := hat i hl
  exact ⟨b, o, ts[i], s, hA, hB, List.getElem?_eq_getElem hl, h1, h2⟩
theorem NdsR.limbs (h : NdsR w B A n ts) : ∀ x ∈ ts, ∀ y ∈ x.mag, y < 4294967296 := by
  intro x hx
  obtain ⟨i, hi, rfl⟩ := List.getElem_of_mem hx
  have hn : i < n := by rw [← h.1]; exact hi
  obtain ⟨b, o, x, s, _, _, hx, _, hr⟩ := h.get hn
  rw [List.getElem?_eq_getElem hi] at hx
  obtain rfl := Option.some.inj hx
  exact hr.limb
theorem NdsR.nil (h : n = 0) : NdsR w B A n [] := ⟨h.symm, fun h0 => by omega⟩
end
theorem Reads.spotR {w : World} {B n : Nat} {A : Option Addr} {xs : List Value} (h : Reads w B 1 A n xs) (h0 : 0 < n) :
    ∃ b off, A = some ⟨b, off, none⟩ ∧ b < B ∧ ∀ j u, xs[j]? = some u → w.cell? ⟨b, off + j, none⟩ = some u := by
  obtain ⟨ad, u, e, hb, hx, hc⟩ := h.at_ h0
  have hs : ad.spot = none := by
    cases hsp : ad.spot with
    | none => rfl
    | some s =>
      exfalso
      rw [Addr.add_zero] at hc
      simp only [World.cell?, hsp] at hc
      split at hc
      · simp at hc
      · cases hc
  obtain ⟨b, off, sp⟩ := ad
  simp only at hs
  subst hs
  refine ⟨b, off, e, hb, fun j v hv => ?_⟩
  have hj : j < n := by
    have := (List.getElem?_eq_some_iff.1 hv).1
    have h1 := h.1
    omega
  obtain ⟨ad', u', e', _, hx', h1⟩ := h.at_ hj
  rw [e] at e'
  injection e' with e'
  subst e'
  rw [Addr.add_lit] at h1
  rw [h1, ← hx', hv]
theorem Reads.spotK {w : World} {B n : Nat} {A : Option Addr} {l : List Int} (h : Reads w B 1 A n (i64s l)) (h0 : 0 < l.length) :
    ∃ b off, A = some ⟨b, off, none⟩ ∧ b < B ∧ ∀ j (hj : j < l.length), w.cell? ⟨b, off + j, none⟩ = some (.int .i64 l[j]) := by
  have hl : l.length = n := by have := h.1; simpa [i64s] using this
  obtain ⟨b, off, hA, hb, hc⟩ := h.spotR (by omega)
  exact ⟨b, off, hA, hb, fun j hj => hc j _ (by simp [i64s, List.getElem?_eq_getElem hj])⟩
theorem own_pre {w : World} {base : Nat} {e : TypeId} {A : Option Addr} {n c j : Nat} {xs : List Value} (h : w.ownsRow base e 1 (.slice A n c) n xs) (hj : j ≤ n) : w.ownsRow base e 1 (.slice A j c) j (xs.take j) := by
  refine ⟨by rw [List.length_take, h.1]; omega, ?_⟩
  rcases h.2 with ⟨h1, h2⟩ | ⟨g, cap, cur, h1, hb, hg, hn, hc, hs, ht⟩
  · left
    injection h1 with h3 h4 h5
    subst h2
    obtain rfl : j = 0 := by omega
    exact ⟨by rw [h3, h5], rfl⟩
  · right
    injection h1 with h3 h4 h5
    subst h3 h5
    refine ⟨g, c, cur, rfl, hb, hg, by omega, hc, hs, ?_⟩
    rw [← ht, List.take_take]
    congr 1
    omega

/-- What is as it was behind an append onto v: all blocks but that in which v lies. -/
structure Kept (w w' : World) (v v' : Value) : Prop where
  os : w'.os = w.os
  tape : w'.tape = w.tape
  output : w'.output = w.output
  size : w.heap.size ≤ w'.heap.size
  block : ∀ i, i < w.heap.size → v.ownBlock ≠ some i → w'.heap[i]? = w.heap[i]?
  own : v'.ownBlock = v.ownBlock ∨ ∃ r, v'.ownBlock = some r ∧ w.heap.size ≤ r
section
variable {w w' w'' : World} {v v' v'' : Value}
theorem Kept.refl (w : World) (v : Value) : Kept w w v v := ⟨rfl, rfl, rfl, Nat.le_refl _, fun _ _ _ => rfl, .inl rfl⟩
theorem Kept.trans (h : Kept w w' v v') (k : Kept w' w'' v' v'') : Kept w w'' v v'' :=
  ⟨k.os.trans h.os, k.tape.trans h.tape, k.output.trans h.output, Nat.le_trans h.size k.size, fun i hi hne => (k.block i (Nat.lt_of_lt_of_le hi h.size) (by
    rcases h.own with e | ⟨r, e, hr⟩
    · rw [e]; exact hne
    · rw [e]; intro e2; injection e2 with e2; omega)).trans (h.block i hi hne), by
    rcases k.own with e | ⟨r, e, hr⟩
    · rcases h.own with e2 | ⟨r, e2, hr⟩
      · exact .inl (e.trans e2)
      · exact .inr ⟨r, e.trans e2, hr⟩
    · exact .inr ⟨r, e, Nat.le_trans h.size hr⟩⟩
theorem Kept.cell (h : Kept w w' v v') {p : Addr} (hp : p.block < w.heap.size) (hne : v.ownBlock ≠ some p.block) : w'.cell? p = w.cell? p := World.cell?_of_block (h.block p.block hp hne)
theorem Kept.frozen (h : Kept w w' v v') {p : Addr} (hp : p.block < w.heap.size) (hne : v.ownBlock ≠ some p.block) : w'.frozen? p = w.frozen? p := World.frozen?_of_block (h.block p.block hp hne)
theorem Kept.apart (h : Kept w w' v v') {i : Nat} (hi : i < w.heap.size) (hne : v.ownBlock ≠ some i) : v'.ownBlock ≠ some i := by
  rcases h.own with e | ⟨r, e, hr⟩
  · rw [e]; exact hne
  · rw [e]; intro e2; injection e2 with e2; omega
theorem Kept.below {B : Nat} (h : Kept w w' v v') (hB : ∀ i, v.ownBlock = some i → B ≤ i) (hs : B ≤ w.heap.size) : Below B w w' :=
  ⟨h.os, h.tape, h.output, h.size, fun i hi => h.block i (by omega) (fun e => by have := hB i e; omega)⟩
theorem Kept.alloc (h : Kept w w' v v') (o : Obj) : Kept w (w'.alloc o) v v' :=
  ⟨h.os, h.tape, h.output, by have := h.size; simp; omega, fun i hi hne => (heap_alloc_old w' o (Nat.lt_of_lt_of_le hi h.size)).trans (h.block i hi hne), h.own⟩
end
theorem own_drewN' {w : World} {base e n size : Nat} {v : Value} {xs : List Value} (h : w.ownsRow base e size v n xs) (m : Nat) : (w.drewN m).ownsRow base e size v n xs :=
  h.kept (row := none) ⟨rfl, rfl, rfl, Nat.le_refl _, fun _ _ _ => rfl⟩ (by cases hv : v.ownBlock <;> simp)
theorem own_ge {w : World} {base n size : Nat} {e : TypeId} {v : Value} {xs : List Value} (h : w.ownsRow base e size v n xs) : ∀ i, v.ownBlock = some i → base ≤ i := fun i hi => (h.lt i hi).1
theorem own_kept {w w' : World} {base n : Nat} {e : TypeId} {v v1 v2 : Value} {xs : List Value} {size : Nat} (h : w.ownsRow base e size v n xs) (hk : Kept w w' v1 v2) (hne : ∀ i, v.ownBlock = some i → v1.ownBlock ≠ some i) : w'.ownsRow base e size v n xs :=
  h.kept (row := v1.ownBlock) ⟨hk.os, hk.tape, hk.output, hk.size, fun i hi hr => hk.block i hi (fun e => hr e.symm)⟩ (by
    cases hv : v.ownBlock with
    | none => exact .inl rfl
    | some i => exact .inr (fun e => hne i hv e.symm))
section
variable {P : Program} {w : World} {ops : Array Oper} {rest : List Oper} {o : Oper} {a : Act} {Q : Exit → Act → World → Prop}
/-- append of what the operation ahead has laid in a block of its own; what is kept. -/
theorem wpList_litK (hgd : o.guard = none) (s x : Operand) (t : TypeId)
    (ho : o.op = .call { callee := .builtin .append, args := #[s, x], argTypes := #[t, t] })
    (base : Nat) (e : TypeId) (i : TypeInfo) (z : Value) (size bytes : Nat) (ht : P.underlying t = some (.slice e)) (hi : P.info? e = some i) (hz : i.zero = some z)
    (hsize : i.size = size) (hby : i.bytes = bytes) (hzs : z.cells.size = size) (hs0 : 0 < size)
    (v : Value) (n : Nat) (xs : List Value) (hs : a.eval s = v) (hown : w.ownsRow base e size v n xs) (hbase : base ≤ w.heap.size)
    (cs : List Value) (m c : Nat) (hx : a.eval x = .slice (some ⟨w.heap.size, 0, none⟩) m c) (hl : cs.length = m * size) (h1 : (cs.all fun u => u.oneCell') = true)
    (hsz : n + m ≤ 1099511627776) (hb2 : bytes ≤ 128)
    (h : ∀ v' w', w'.ownsRow base e size v' (n + m) (xs ++ cs) → Kept w w' v v' → wpList P ops Q rest (a.put o.dst v') w') : wpList P ops Q (o :: rest) a (w.alloc (.cells cs.toArray e)) := by
  refine wpList_append_own_at (w.alloc (.cells cs.toArray e)) hgd s x t ho base e i z size bytes ht hi hz hsize hby hzs hs0 v n xs hs (hown.alloc _) ⟨w.heap.size, 0, none⟩ m c cs hx hl ?_ (fun u hu => List.all_eq_true.1 h1 u hu) (by unfold maxLen; omega) ?_ (by simp; omega) ?_
  · intro j u hu
    rw [Addr.add_lit, World.cell?_alloc_at _ _ _ _ rfl]
    simpa using hu
  · calc (n + m) * bytes ≤ 1099511627776 * 128 := Nat.mul_le_mul hsz hb2
      _ ≤ 140737488355328 := by omega
  · intro v' w' h2 h3 _ h5
    refine h v' w' h2 ⟨h3.os, h3.tape, h3.output, Nat.le_trans (by simp) h3.size, fun k hk hne => ?_, ?_⟩
    · rw [h3.block k (by simp; omega) (fun e => hne e.symm)]
      exact heap_alloc_old w _ hk
    · rcases h5 with e | e
      · exact .inl e
      · exact .inr ⟨_, e, by simp⟩
end
theorem Tryd.info_int : (Tryd.prog.info? 3).map (fun i => (i.zero, i.size, i.bytes)) = some (some (.int .i64 0), 1, 8) := by kernel_rfl
end Go.Proofs.YtelcjdblnagdgaaDoor
