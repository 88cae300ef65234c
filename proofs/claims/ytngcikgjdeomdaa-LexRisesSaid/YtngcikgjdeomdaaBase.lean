/- Words for memory that the walks of this seat share: a slice that reads as a list, and what a call makes. No condition. -/
import Derived.Test.YtngcikgjdeomdaaBase0
namespace Go.Proofs.Ytngcikgjdeomdaa
open Go.RowKit

theorem block_of_add (a : Addr) (n : Nat) : (a.add n).block = a.block := by unfold Addr.add; split <;> rfl
theorem add_of_add (a : Addr) (i j : Nat) : (a.add i).add j = a.add (i + j) := by
  unfold Addr.add
  by_cases hi : i = 0 <;> by_cases hj : j = 0 <;> simp [hi, hj, Nat.add_assoc]

/-- The slice at address A of n elements (of size cells each) holds the cells xs, below block B. -/
def Reads (w : World) (B size : Nat) (A : Option Addr) (n : Nat) (xs : List Value) : Prop :=
  xs.length = n * size ∧ (0 < n → ∃ ad, A = some ad ∧ ad.block < B ∧ ∀ j u, xs[j]? = some u → w.cell? (ad.add j) = some u)

section
variable {w w' : World} {B B' size n : Nat} {A : Option Addr} {xs : List Value}
theorem Reads.none_ : Reads w B size A 0 [] := ⟨by simp, fun h => absurd h (by omega)⟩
theorem Reads.at_ {k : Nat} (h : Reads w B 1 A n xs) (hk : k < n) : ∃ ad u, A = some ad ∧ ad.block < B ∧ xs[k]? = some u ∧ w.cell? (ad.add k) = some u := by
  obtain ⟨ad, e, hb, hc⟩ := h.2 (by omega)
  have hl : k < xs.length := by have := h.1; omega
  exact ⟨ad, xs[k], e, hb, List.getElem?_eq_getElem hl, hc k _ (List.getElem?_eq_getElem hl)⟩
theorem Reads.keep (h : Reads w B size A n xs) (hk : ∀ p : Addr, p.block < B → w'.cell? p = w.cell? p) : Reads w' B size A n xs :=
  ⟨h.1, fun hn => by
    obtain ⟨ad, e, hb, hc⟩ := h.2 hn
    exact ⟨ad, e, hb, fun j u hu => (hk _ (by rw [block_of_add]; exact hb)).trans (hc j u hu)⟩⟩
theorem Reads.more (h : Reads w B size A n xs) (hB : B ≤ B') : Reads w B' size A n xs :=
  ⟨h.1, fun hn => by
    obtain ⟨ad, e, hb, hc⟩ := h.2 hn
    exact ⟨ad, e, by omega, hc⟩⟩
theorem Reads.below (h : Reads w B size A n xs) (hb : Below B w w') : Reads w' B size A n xs := h.keep fun _ hp => hb.cell hp
theorem Reads.drew (h : Reads w B size A n xs) : Reads w.drew B size A n xs := h
theorem Reads.drewN (h : Reads w B size A n xs) (k : Nat) : Reads (w.drewN k) B size A n xs := h
theorem Reads.alloc (h : Reads w B size A n xs) (hB : B ≤ w.heap.size) (o : Obj) : Reads (w.alloc o) B size A n xs := h.keep fun p hp => World.cell?_alloc_lt w o p (by omega)
theorem Reads.cut (h : Reads w B size A n xs) {k cap : Nat} (hk : k ≤ n) (hc : n ≤ cap) :
    Reads w B size (if cap = k then A else A.map (·.add (k * size))) (n - k) (xs.drop (k * size)) := by
  refine ⟨by rw [List.length_drop, h.1, Nat.sub_mul], fun hn => ?_⟩
  obtain ⟨ad, rfl, hb, hcell⟩ := h.2 (by omega)
  rw [if_neg (by omega)]
  refine ⟨ad.add (k * size), rfl, by rw [block_of_add]; exact hb, fun j u hu => ?_⟩
  rw [add_of_add]
  exact hcell _ u (by rw [← hu, List.getElem?_drop])
theorem Reads.take (h : Reads w B size A n xs) {k : Nat} (hk : k ≤ n) : Reads w B size A k (xs.take (k * size)) := by
  refine ⟨by rw [List.length_take, h.1]; exact Nat.min_eq_left (Nat.mul_le_mul_right _ hk), fun hn => ?_⟩
  obtain ⟨ad, rfl, hb, hcell⟩ := h.2 (by omega)
  refine ⟨ad, rfl, hb, fun j u hu => hcell j u ?_⟩
  rw [List.getElem?_take] at hu
  split at hu
  · exact hu
  · cases hu
theorem Reads.of_own {base : Nat} {e : TypeId} {c : Nat} (h : w.ownsRow base e size (.slice A n c) n xs) : Reads w w.heap.size size A n xs := by
  refine ⟨h.1, fun hn => ?_⟩
  obtain ⟨g, cap, hv, _, hlt⟩ := h.form hn
  have hA : A = some ⟨g, 0, none⟩ := by injection hv
  subst hA
  exact ⟨_, rfl, hlt, h.cells (g := g) rfl⟩
end

/-- What a call has made for itself: a slice of one-cell elements of type e in blocks from base on; it holds xs. -/
theorem own_shape {w : World} {base : Nat} {e : TypeId} {size n : Nat} {v : Value} {xs : List Value} (h : w.ownsRow base e size v n xs) :
    ∃ A c, v = .slice A n c ∧ n ≤ c ∧ c ≤ maxLen := by
  rcases h.2 with ⟨rfl, rfl⟩ | ⟨g, cap, cur, rfl, _, _, hnc, hm, _⟩
  · exact ⟨none, 0, rfl, Nat.le_refl _, by unfold maxLen; omega⟩
  · exact ⟨_, cap, rfl, hnc, hm⟩

def u8v (x : UInt8) : Value := .int .u8 (x.toNat : Int)
def u16v (x : UInt16) : Value := .int .u16 (x.toNat : Int)
def u8s (l : List UInt8) : List Value := l.map u8v
def u16s (l : List UInt16) : List Value := l.map u16v
theorem u8s_one (l : List UInt8) : ∀ u ∈ u8s l, u.oneCell' = true := by
  intro u hu
  obtain ⟨_, _, rfl⟩ := List.mem_map.1 hu
  rfl
theorem u16s_one (l : List UInt16) : ∀ u ∈ u16s l, u.oneCell' = true := by
  intro u hu
  obtain ⟨_, _, rfl⟩ := List.mem_map.1 hu
  rfl
theorem u16s_len (l : List UInt16) : (u16s l).length = l.length := by simp [u16s]
theorem u8s_len (l : List UInt8) : (u8s l).length = l.length := by simp [u8s]

/-- A call that began in w0 has made the slice v, of one-cell elements xs of type e, in new blocks; what lay before is as it was. -/
structure Made (w0 w : World) (e : TypeId) (v : Value) (xs : List Value) : Prop where
  own : w.ownsRow w0.heap.size e 1 v xs.length xs
  below : Below w0.heap.size w0 w

theorem Made.nil (w0 : World) (e : TypeId) : Made w0 w0 e (.slice none 0 0) [] := ⟨World.ownsRow_nil _ _ _ _, Below.refl _ _⟩
theorem Made.of_below {w0 w : World} (h : Below w0.heap.size w0 w) (e : TypeId) : Made w0 w e (.slice none 0 0) [] := ⟨World.ownsRow_nil _ _ _ _, h⟩
theorem Made.shape {w0 w : World} {e : TypeId} {v : Value} {xs : List Value} (h : Made w0 w e v xs) :
    ∃ A c, v = .slice A xs.length c ∧ xs.length ≤ c ∧ c ≤ maxLen ∧ Reads w w.heap.size 1 A xs.length xs := by
  obtain ⟨A, c, hv, h1, h2⟩ := own_shape h.own
  have h' := h.own
  rw [hv] at h'
  exact ⟨A, c, hv, h1, h2, Reads.of_own h'⟩
theorem Made.alloc {w0 w : World} {e : TypeId} {v : Value} {xs : List Value} (h : Made w0 w e v xs) (o : Obj) : Made w0 (w.alloc o) e v xs :=
  ⟨h.own.alloc o, h.below.alloc h.below.size o⟩
theorem Made.drew {w0 w : World} {e : TypeId} {v : Value} {xs : List Value} (h : Made w0 w e v xs) : Made w0 w.drew e v xs := ⟨h.own.drew, h.below.drew⟩
theorem Made.cells {w0 w : World} {e : TypeId} {v : Value} {xs ys : List Value} (h : Made w0 w e v xs) (e1 : xs = ys) : Made w0 w e v ys := e1 ▸ h

section
variable {P : Program} {w0 w : World} {ops : Array Oper} {rest : List Oper} {o : Oper} {a : Act} {Q : Exit → Act → World → Prop}
/-- append of the elements of a slice that lies in memory, onto what the call has made. -/
theorem wpList_app (hgd : o.guard = none) (s x : Operand) (t : TypeId)
    (ho : o.op = .call { callee := .builtin .append, args := #[s, x], argTypes := #[t, t] })
    (e : TypeId) (i : TypeInfo) (z : Value) (bytes : Nat) (ht : P.underlying t = some (.slice e)) (hi : P.info? e = some i) (hz : i.zero = some z)
    (hsize : i.size = 1) (hby : i.bytes = bytes) (hzs : z.cells.size = 1)
    (v : Value) (xs : List Value) (hs : a.eval s = v) (hm : Made w0 w e v xs)
    (ad : Addr) (m c : Nat) (news : List Value) (hx : a.eval x = .slice (some ad) m c) (hl : news.length = m) (hnews : ∀ j u, news[j]? = some u → w.cell? (ad.add j) = some u) (h1 : ∀ u ∈ news, u.oneCell' = true)
    (hsz : xs.length + m ≤ 70368744177664) (hb2 : bytes ≤ 2)
    (h : ∀ v' w', Made w0 w' e v' (xs ++ news) → w.grownBy w' v.ownBlock → wpList P ops Q rest (a.put o.dst v') w') : wpList P ops Q (o :: rest) a w := by
  subst hl
  refine wpList_append_own w hgd s x t ho w0.heap.size e i z 1 bytes ht hi hz hsize hby hzs (by omega) v xs.length xs hs hm.own ad _ c news hx (by omega) hnews h1 (by unfold maxLen; omega) ?_ hm.below.size ?_
  · calc (xs.length + news.length) * bytes ≤ 70368744177664 * 2 := Nat.mul_le_mul hsz hb2
      _ ≤ 140737488355328 := by omega
  · intro v' w' h1 h2 _
    refine h v' w' ⟨by rw [List.length_append]; exact h1, hm.below.grown h2 hm.below.size (fun k hk => (hm.own.lt k hk).1)⟩ h2
/-- append of the elements that the operation ahead has laid in a block of their own. -/
theorem wpList_lit (hgd : o.guard = none) (s x : Operand) (t : TypeId)
    (ho : o.op = .call { callee := .builtin .append, args := #[s, x], argTypes := #[t, t] })
    (e : TypeId) (i : TypeInfo) (z : Value) (bytes : Nat) (ht : P.underlying t = some (.slice e)) (hi : P.info? e = some i) (hz : i.zero = some z)
    (hsize : i.size = 1) (hby : i.bytes = bytes) (hzs : z.cells.size = 1)
    (v : Value) (xs : List Value) (hs : a.eval s = v) (hm : Made w0 w e v xs)
    (cs : List Value) (m c : Nat) (hx : a.eval x = .slice (some ⟨w.heap.size, 0, none⟩) m c) (hl : cs.length = m) (h1 : (cs.all fun u => u.oneCell') = true)
    (hsz : xs.length + m ≤ 70368744177664) (hb2 : bytes ≤ 2)
    (h : ∀ v' w', Made w0 w' e v' (xs ++ cs) → wpList P ops Q rest (a.put o.dst v') w') : wpList P ops Q (o :: rest) a (w.alloc (.cells cs.toArray e)) := by
  refine wpList_app hgd s x t ho e i z bytes ht hi hz hsize hby hzs v xs hs (hm.alloc _) ⟨w.heap.size, 0, none⟩ m c cs hx hl ?_ (fun u hu => List.all_eq_true.1 h1 u hu) hsz hb2 (fun v' w' h' _ => h v' w' h')
  intro j u hu
  rw [Addr.add_lit, World.cell?_alloc_at _ _ _ _ rfl]
  simpa using hu
end

theorem Try.info_u16 : (Try.prog.info? 32).map (fun i => (i.zero, i.size, i.bytes)) = some (some (.int .u16 0), 1, 2) := by kernel_rfl
theorem Try.info_u8 : (Try.prog.info? 5).map (fun i => (i.zero, i.size, i.bytes)) = some (some (.int .u8 0), 1, 1) := by kernel_rfl
end Go.Proofs.Ytngcikgjdeomdaa
