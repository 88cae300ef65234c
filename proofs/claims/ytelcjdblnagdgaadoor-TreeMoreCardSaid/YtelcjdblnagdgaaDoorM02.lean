/- Joined for a claim: TreeFlat, Ascii, DecS, TreePrint, TreeLen, TreeGood, TreeTr, PMore, PSum. -/
import Derived.Test.YtelcjdblnagdgaaDoorM01
namespace Go.Proofs.YtelcjdblnagdgaaDoor

inductive Tr where
  | mk (x : Nd) (l : List Tr)
mutual
def Tr.size : Tr → Nat
  | .mk _ l => 1 + sizes l
def sizes : List Tr → Nat
  | [] => 0
  | t :: r => t.size + sizes r
end
def Tr.nd : Tr → Nd | .mk x _ => x
def Tr.subs : Tr → List Tr | .mk _ l => l
def places (n : Nat) : List Tr → List Int
  | [] => []
  | t :: r => (n : Int) :: places (n + t.size) r
mutual
def flatT (n : Nat) : Tr → List Nd
  | .mk x l => { x with kids := places (n + 1) l } :: flatL (n + 1) l
def flatL (n : Nat) : List Tr → List Nd
  | [] => []
  | t :: r => flatT n t ++ flatL (n + t.size) r
end
theorem size_mk (x : Nd) (l : List Tr) : (Tr.mk x l).size = 1 + sizes l := by rw [Tr.size]
theorem sizes_nil : sizes [] = 0 := by rw [sizes]
theorem sizes_cons (t : Tr) (r : List Tr) : sizes (t :: r) = t.size + sizes r := by rw [sizes]
theorem size_pos (t : Tr) : 1 ≤ t.size := by cases t; rw [size_mk]; omega
theorem flatT_mk (n : Nat) (x : Nd) (l : List Tr) : flatT n (.mk x l) = { x with kids := places (n + 1) l } :: flatL (n + 1) l := by rw [flatT]
theorem flatL_nil (n : Nat) : flatL n [] = [] := by rw [flatL]
theorem flatL_cons (n : Nat) (t : Tr) (r : List Tr) : flatL n (t :: r) = flatT n t ++ flatL (n + t.size) r := by rw [flatL]
mutual
theorem flatT_len (n : Nat) (t : Tr) : (flatT n t).length = t.size := by
  cases t with
  | mk x l => rw [flatT_mk, size_mk, List.length_cons, flatL_len (n + 1) l]; omega
theorem flatL_len (n : Nat) (l : List Tr) : (flatL n l).length = sizes l := by
  cases l with
  | nil => rw [flatL_nil, sizes_nil]; rfl
  | cons t r => rw [flatL_cons, sizes_cons, List.length_append, flatT_len n t, flatL_len (n + t.size) r]
end
theorem places_len (n : Nat) (l : List Tr) : (places n l).length = l.length := by
  induction l generalizing n with
  | nil => rfl
  | cons t r ih => simp [places, ih]
theorem places_in {n : Nat} {l : List Tr} {p : Int} (h : p ∈ places n l) : (n : Int) ≤ p ∧ p < ((n + sizes l : Nat) : Int) := by
  induction l generalizing n with
  | nil => cases h
  | cons t r ih =>
    have := size_pos t
    rw [sizes_cons]
    rcases List.mem_cons.1 h with h | h
    · omega
    · have := ih h; omega
/-- a node's kids as they lie -/
def Tr.laid (n : Nat) : Tr → Nd | .mk x l => { x with kids := places (n + 1) l }
theorem flatT_head (n : Nat) (t : Tr) : (flatT n t)[0]? = some (t.laid n) := by cases t; rw [flatT_mk]; rfl

/-- a tree stands in a list at a place -/
def At (ts : List Nd) (n : Nat) (t : Tr) : Prop := ∃ a b, ts = a ++ flatT n t ++ b ∧ a.length = n
def AtL (ts : List Nd) (n : Nat) (l : List Tr) : Prop := ∃ a b, ts = a ++ flatL n l ++ b ∧ a.length = n
theorem At.get {ts : List Nd} {n : Nat} {t : Tr} (h : At ts n t) : ts[n]? = some (t.laid n) := by
  obtain ⟨a, b, rfl, hl⟩ := h
  rw [List.append_assoc, List.getElem?_append_right (by omega), hl, Nat.sub_self, List.getElem?_append_left (by rw [flatT_len]; exact size_pos t)]
  exact flatT_head n t
theorem At.le {ts : List Nd} {n : Nat} {t : Tr} (h : At ts n t) : n + t.size ≤ ts.length := by
  obtain ⟨a, b, rfl, hl⟩ := h
  simp only [List.length_append, flatT_len]
  omega
theorem At.subs {ts : List Nd} {n : Nat} {x : Nd} {l : List Tr} (h : At ts n (.mk x l)) : AtL ts (n + 1) l := by
  obtain ⟨a, b, rfl, hl⟩ := h
  rw [flatT_mk]
  exact ⟨a ++ [{ x with kids := places (n + 1) l }], b, by simp, by simp [hl]⟩
theorem AtL.head {ts : List Nd} {n : Nat} {t : Tr} {l : List Tr} (h : AtL ts n (t :: l)) : At ts n t := by
  obtain ⟨a, b, rfl, hl⟩ := h
  rw [flatL_cons]
  exact ⟨a, flatL (n + t.size) l ++ b, by simp, hl⟩
theorem AtL.tail {ts : List Nd} {n : Nat} {t : Tr} {l : List Tr} (h : AtL ts n (t :: l)) : AtL ts (n + t.size) l := by
  obtain ⟨a, b, rfl, hl⟩ := h
  rw [flatL_cons]
  exact ⟨a ++ flatT n t, b, by simp, by simp [hl, flatT_len]⟩
theorem AtL.kid {ts : List Nd} : ∀ {l : List Tr} {n : Nat} (_ : AtL ts n l) (i : Nat) (hi : i < l.length), ∃ p : Nat, (places n l)[i]? = some (p : Int) ∧ At ts p l[i] ∧ n ≤ p := by
  intro l
  induction l with
  | nil => intro n h i hi; simp at hi
  | cons t r ih =>
    intro n h i hi
    cases i with
    | zero => exact ⟨n, rfl, h.head, Nat.le_refl _⟩
    | succ i =>
      obtain ⟨p, h1, h2, h3⟩ := ih h.tail i (by simpa using hi)
      exact ⟨p, by simpa [places] using h1, h2, by omega⟩
theorem At.kid {ts : List Nd} {n : Nat} {x : Nd} {l : List Tr} (h : At ts n (.mk x l)) (i : Nat) (hi : i < l.length) : ∃ p : Nat, (places (n + 1) l)[i]? = some (p : Int) ∧ At ts p l[i] ∧ n < p := by
  obtain ⟨p, h1, h2, h3⟩ := h.subs.kid i hi
  exact ⟨p, h1, h2, by omega⟩
theorem At.whole (t : Tr) : At (flatT 0 t) 0 t := ⟨[], [], by simp, rfl⟩

theorem orderGo_cons (N n : Nat) (x : Nd) (r : List Nd) (s : Int) (st : List Int) : orderGo N n (x :: r) (s :: st) = (s == (n : Int) && kidsIn N n x.kids && orderGo N (n + 1) r (x.kids ++ st)) := rfl
theorem deepGo_cons (n : Nat) (x : Nd) (r : List Nd) (d : List Nat) : deepGo n (x :: r) d = deepGo (n + 1) r (setAll (d.set n (max (d.getD n 0) 1)) (max (d.getD n 0) 1 + 1) x.kids) := rfl
theorem order_list {N m : Nat} (ih : ∀ n r k st, r.length < m → orderGo N n r (k :: st) = true → ∃ t r', k = (n : Int) ∧ r = flatT n t ++ r' ∧ orderGo N (n + t.size) r' st = true) :
    ∀ (ks : List Int) (n : Nat) (r : List Nd) (st : List Int), r.length < m → orderGo N n r (ks ++ st) = true → ∃ l r', ks = places n l ∧ r = flatL n l ++ r' ∧ orderGo N (n + sizes l) r' st = true := by
  intro ks
  induction ks with
  | nil => intro n r st _ h; exact ⟨[], r, rfl, by rw [flatL_nil]; rfl, by rw [sizes_nil]; exact h⟩
  | cons k ks ihk =>
    intro n r st hm h
    obtain ⟨t, r', hk, hr, h2⟩ := ih n r k (ks ++ st) hm h
    have hl : r'.length < m := by
      have := congrArg List.length hr
      rw [List.length_append] at this
      omega
    obtain ⟨l, r'', hks, hr', h3⟩ := ihk (n + t.size) r' st hl h2
    refine ⟨t :: l, r'', by rw [hk, hks]; rfl, by rw [hr, hr', flatL_cons, List.append_assoc], ?_⟩
    rw [sizes_cons, ← Nat.add_assoc]
    exact h3
theorem order_one (N : Nat) : ∀ (m n : Nat) (r : List Nd) (k : Int) (st : List Int), r.length < m → orderGo N n r (k :: st) = true → ∃ t r', k = (n : Int) ∧ r = flatT n t ++ r' ∧ orderGo N (n + t.size) r' st = true := by
  intro m
  induction m with
  | zero => intro n r k st h; omega
  | succ m ih =>
    intro n r k st hm h
    cases r with
    | nil => cases h
    | cons x r =>
      unfold orderGo at h
      simp only [Bool.and_eq_true, beq_iff_eq] at h
      obtain ⟨⟨hk, _⟩, h⟩ := h
      obtain ⟨l, r', h1, h2, h3⟩ := order_list (m := m) ih x.kids (n + 1) r st (by simp at hm; omega) h
      refine ⟨.mk x l, r', hk, ?_, ?_⟩
      · rw [flatT_mk, ← h1, h2]; rfl
      · rw [size_mk, ← Nat.add_assoc]; exact h3
theorem order_tree {ts : List Nd} (h : orderF ts = true) : ∃ t, ts = flatT 0 t := by
  obtain ⟨t, r', _, h1, h2⟩ := order_one ts.length (ts.length + 1) 0 ts 0 [] (by omega) h
  cases r' with
  | nil => exact ⟨t, by rw [h1]; simp⟩
  | cons x r => cases h2
mutual
theorem order_flatT (N : Nat) (t : Tr) (n : Nat) (r : List Nd) (st : List Int) (h : n + t.size ≤ N) : orderGo N n (flatT n t ++ r) ((n : Int) :: st) = orderGo N (n + t.size) r st := by
  cases t with
  | mk x l =>
    rw [size_mk] at h ⊢
    rw [flatT_mk, List.cons_append]
    have hk : kidsIn N n (places (n + 1) l) = true := by
      unfold kidsIn
      rw [List.all_eq_true]
      intro p hp
      have := places_in hp
      simp only [Bool.and_eq_true, decide_eq_true_eq]
      omega
    rw [orderGo_cons]
    simp only [beq_self_eq_true, hk, Bool.true_and]
    rw [order_flatL N l (n + 1) r st (by omega), Nat.add_assoc]
theorem order_flatL (N : Nat) (l : List Tr) (n : Nat) (r : List Nd) (st : List Int) (h : n + sizes l ≤ N) : orderGo N n (flatL n l ++ r) (places n l ++ st) = orderGo N (n + sizes l) r st := by
  cases l with
  | nil => rw [flatL_nil, sizes_nil]; rfl
  | cons t l =>
    rw [sizes_cons] at h ⊢
    rw [flatL_cons, List.append_assoc]
    show orderGo N n (flatT n t ++ (flatL (n + t.size) l ++ r)) ((n : Int) :: (places (n + t.size) l ++ st)) = _
    rw [order_flatT N t n _ _ (by omega), order_flatL N l (n + t.size) r st (by omega), Nat.add_assoc]
end
theorem order_flat (t : Tr) : orderF (flatT 0 t) = true := by
  have h := order_flatT t.size t 0 [] [] (by omega)
  rw [List.append_nil] at h
  unfold orderF
  rw [flatT_len]
  exact h.trans rfl

mutual
def depsT (v : Nat) : Tr → List Nat
  | .mk _ l => v :: depsL (v + 1) l
def depsL (v : Nat) : List Tr → List Nat
  | [] => []
  | t :: r => depsT v t ++ depsL v r
end
theorem depsT_mk (v : Nat) (x : Nd) (l : List Tr) : depsT v (.mk x l) = v :: depsL (v + 1) l := by rw [depsT]
theorem depsL_nil (v : Nat) : depsL v [] = [] := by rw [depsL]
theorem depsL_cons (v : Nat) (t : Tr) (r : List Tr) : depsL v (t :: r) = depsT v t ++ depsL v r := by rw [depsL]
mutual
theorem depsT_len (v : Nat) (t : Tr) : (depsT v t).length = t.size := by
  cases t with
  | mk x l => rw [depsT_mk, size_mk, List.length_cons, depsL_len (v + 1) l]; omega
theorem depsL_len (v : Nat) (l : List Tr) : (depsL v l).length = sizes l := by
  cases l with
  | nil => rw [depsL_nil, sizes_nil]; rfl
  | cons t r => rw [depsL_cons, sizes_cons, List.length_append, depsT_len v t, depsL_len v r]
end
def over (d : List Nat) (n : Nat) (e : List Nat) : List Nat := d.take n ++ e ++ d.drop (n + e.length)
theorem over_len {d e : List Nat} {n : Nat} (h : n + e.length ≤ d.length) : (over d n e).length = d.length := by
  unfold over
  simp only [List.length_append, List.length_take, List.length_drop]
  omega
theorem over_get {d e : List Nat} {n i : Nat} (h : n + e.length ≤ d.length) : (over d n e)[i]? = if n ≤ i ∧ i < n + e.length then e[i - n]? else d[i]? := by
  unfold over
  by_cases h1 : i < n
  · rw [if_neg (by omega), List.append_assoc, List.getElem?_append_left (by rw [List.length_take]; omega), List.getElem?_take_of_lt h1]
  · by_cases h2 : i < n + e.length
    · rw [if_pos ⟨by omega, h2⟩, List.append_assoc, List.getElem?_append_right (by rw [List.length_take]; omega), List.length_take, Nat.min_eq_left (by omega), List.getElem?_append_left (by omega)]
    · rw [if_neg (by omega), List.getElem?_append_right (by rw [List.length_append, List.length_take]; omega), List.getElem?_drop, List.length_append, List.length_take, Nat.min_eq_left (by omega)]
      congr 1; omega
theorem setAll_get {v : Nat} : ∀ (ks : List Int) (d : List Nat) (i : Nat), (∀ k ∈ ks, 0 ≤ k) → (setAll d v ks)[i]? = if (i : Int) ∈ ks ∧ i < d.length then some v else d[i]? := by
  intro ks
  induction ks with
  | nil => intro d i _; simp [setAll]
  | cons k ks ih =>
    intro d i h
    unfold setAll
    rw [ih _ _ (fun k hk => h k (List.mem_cons_of_mem _ hk)), List.length_set]
    have hk := h k (List.mem_cons_self ..)
    by_cases h1 : (i : Int) ∈ ks ∧ i < d.length
    · rw [if_pos h1, if_pos ⟨List.mem_cons_of_mem _ h1.1, h1.2⟩]
    · rw [if_neg h1, List.getElem?_set]
      by_cases h2 : k.toNat = i
      · subst h2
        have h3 : ((k.toNat : Nat) : Int) = k := Int.toNat_of_nonneg hk
        rw [if_pos rfl]
        by_cases h4 : k.toNat < d.length
        · rw [if_pos h4, if_pos ⟨by rw [h3]; exact List.mem_cons_self .., h4⟩]
        · rw [if_neg h4, if_neg (fun hh => h4 hh.2), List.getElem?_eq_none (by omega)]
      · rw [if_neg h2, if_neg]
        rintro ⟨h5, h6⟩
        rcases List.mem_cons.1 h5 with h5 | h5
        · exact h2 (by omega)
        · exact h1 ⟨h5, h6⟩
theorem setAll_len {v : Nat} : ∀ (ks : List Int) (d : List Nat), (setAll d v ks).length = d.length := by
  intro ks
  induction ks with
  | nil => intro d; rfl
  | cons k ks ih => intro d; unfold setAll; rw [ih, List.length_set]
theorem places_at : ∀ {l : List Tr} {n : Nat}, ∀ p ∈ places n l, (0 : Int) ≤ p := by
  intro l n p hp
  have := places_in hp
  omega
mutual
theorem deep_flatT (t : Tr) (n v : Nat) (r : List Nd) (d : List Nat) (hv : 1 ≤ v) (hd : n + t.size ≤ d.length) (h : max (d.getD n 0) 1 = v) : deepGo n (flatT n t ++ r) d = deepGo (n + t.size) r (over d n (depsT v t)) := by
  cases t with
  | mk x l =>
    rw [size_mk] at hd ⊢
    rw [flatT_mk, List.cons_append]
    rw [deepGo_cons, h]
    have hlen : (setAll (d.set n v) (v + 1) (places (n + 1) l)).length = d.length := by rw [setAll_len, List.length_set]
    rw [deep_flatL l (n + 1) (v + 1) r _ (by omega) (by rw [hlen]; omega) (fun p hp => by
      have := places_in hp
      rw [setAll_get _ _ _ (fun k hk => places_at k hk), if_pos ⟨hp, by rw [List.length_set]; omega⟩])]
    rw [Nat.add_assoc]
    congr 1
    apply List.ext_getElem?
    intro i
    have e1 : (depsT v (.mk x l)).length = 1 + sizes l := by rw [depsT_len, size_mk]
    have e2 := depsL_len (v + 1) l
    rw [over_get (by rw [e2, hlen]; omega), over_get (by rw [e1]; omega), e1, e2]
    by_cases h1 : n + 1 ≤ i ∧ i < n + 1 + sizes l
    · rw [if_pos h1, if_pos (by omega), depsT_mk, show i - n = (i - (n + 1)) + 1 by omega, List.getElem?_cons_succ]
    · rw [if_neg h1]
      by_cases h2 : i = n
      · subst h2
        rw [if_pos (by omega), Nat.sub_self, depsT_mk, setAll_get _ _ _ (fun k hk => places_at k hk), if_neg (fun hh => by have := places_in hh.1; omega), List.getElem?_set_self (by omega)]
        rfl
      · rw [if_neg (by omega), setAll_get _ _ _ (fun k hk => places_at k hk), if_neg (fun hh => by have := places_in hh.1; omega), List.getElem?_set_ne (by omega)]
theorem deep_flatL (l : List Tr) (n v : Nat) (r : List Nd) (d : List Nat) (hv : 1 ≤ v) (hd : n + sizes l ≤ d.length) (h : ∀ p : Nat, (p : Int) ∈ places n l → d[p]? = some v) : deepGo n (flatL n l ++ r) d = deepGo (n + sizes l) r (over d n (depsL v l)) := by
  cases l with
  | nil =>
    rw [flatL_nil, sizes_nil, depsL_nil]
    have : over d n [] = d := by unfold over; simp
    rw [this]; rfl
  | cons t l =>
    rw [sizes_cons] at hd ⊢
    have e1 := depsT_len v t
    have e2 := depsL_len v l
    have hn : d[n]? = some v := h n (List.mem_cons_self ..)
    rw [flatL_cons, List.append_assoc, deep_flatT t n v _ d hv (by omega) (by rw [List.getD_eq_getElem?_getD, hn]; simp only [Option.getD_some]; omega)]
    have hol : (over d n (depsT v t)).length = d.length := over_len (by rw [e1]; omega)
    rw [deep_flatL l (n + t.size) v r _ hv (by rw [hol]; omega) (fun p hp => by
      have := places_in hp
      rw [over_get (by rw [e1]; omega), e1, if_neg (by omega)]
      exact h p (List.mem_cons_of_mem _ hp))]
    rw [Nat.add_assoc]
    congr 1
    apply List.ext_getElem?
    intro i
    rw [over_get (by rw [e2, hol]; omega), over_get (by rw [e1]; omega), over_get (by rw [depsL_len, sizes_cons]; omega), e1, e2, depsL_len, sizes_cons, depsL_cons]
    by_cases h1 : n + t.size ≤ i ∧ i < n + t.size + sizes l
    · rw [if_pos h1, if_pos (by omega), List.getElem?_append_right (by omega), e1]
      congr 1; omega
    · rw [if_neg h1]
      by_cases h2 : n ≤ i ∧ i < n + t.size
      · rw [if_pos h2, if_pos (by omega), List.getElem?_append_left (by omega)]
      · rw [if_neg h2, if_neg (by omega)]
end
theorem deep_flat (t : Tr) : deepF (flatT 0 t) = depsT 1 t := by
  have h := deep_flatT t 0 1 [] (List.replicate t.size 0) (Nat.le_refl _) (by simp) (by
    have := size_pos t
    rw [List.getD_eq_getElem?_getD, List.getElem?_replicate_of_lt (by omega)]
    rfl)
  rw [List.append_nil] at h
  unfold deepF
  rw [flatT_len, h]
  unfold over
  have := depsT_len 1 t
  simp only [deepGo, List.take_zero, List.nil_append, Nat.zero_add, this]
  rw [List.drop_of_length_le (by simp)]
  simp
mutual
def depT : Tr → Nat
  | .mk _ l => 1 + depL l
def depL : List Tr → Nat
  | [] => 0
  | t :: r => max (depT t) (depL r)
end
theorem depT_mk (x : Nd) (l : List Tr) : depT (.mk x l) = 1 + depL l := by rw [depT]
theorem depL_nil : depL [] = 0 := by rw [depL]
theorem depL_cons (t : Tr) (r : List Tr) : depL (t :: r) = max (depT t) (depL r) := by rw [depL]
theorem maxL_app (a b : List Nat) : maxL (a ++ b) = max (maxL a) (maxL b) := by
  induction a with
  | nil => simp [maxL]
  | cons x r ih => simp only [List.cons_append, maxL, ih]; omega
mutual
theorem maxL_depsT (v : Nat) (t : Tr) : maxL (depsT (v + 1) t) = v + depT t := by
  cases t with
  | mk x l =>
    rw [depsT_mk, depT_mk]
    have := maxL_depsL (v + 1) l
    unfold maxL
    rcases this with ⟨h1, h2⟩ | h
    · subst h1; rw [depsL_nil, depL_nil]; unfold maxL; omega
    · rw [h]; omega
theorem maxL_depsL (v : Nat) (l : List Tr) : (l = [] ∧ maxL (depsL (v + 1) l) = 0) ∨ maxL (depsL (v + 1) l) = v + depL l := by
  cases l with
  | nil => exact .inl ⟨rfl, by rw [depsL_nil]; rfl⟩
  | cons t r =>
    right
    rw [depsL_cons, maxL_app, maxL_depsT v t, depL_cons]
    rcases maxL_depsL v r with ⟨h1, h2⟩ | h
    · rw [h2]; subst h1; rw [depL_nil]; omega
    · rw [h]; omega
end
theorem nest_flat (t : Tr) : nestD (flatT 0 t) = depT t := by
  unfold nestD
  rw [deep_flat]
  have := maxL_depsT 0 t
  rw [Nat.zero_add, Nat.zero_add] at this
  exact this
end Go.Proofs.YtelcjdblnagdgaaDoor

namespace Go.Proofs.YtelcjdblnagdgaaDoor
open Go.RowKit

def ascii (l : List UInt8) : List UInt16 := l.map (·.toUInt16)
theorem ascii_snoc (s : ByteArray) (k : Nat) (h : k < s.size) : u16s (ascii (s.data.toList.take (k + 1))) = u16s (ascii (s.data.toList.take k)) ++ [.int .u16 (s[k].toNat : Int)] := by
  rw [List.take_succ_eq_append_getElem (by simpa using h)]
  simp [ascii, u16s, u16v]
  rfl

set_option maxHeartbeats 400000 in
theorem ascii_any (s : ByteArray) (w : World) (hs : s.size ≤ 70368744177664) :
    Calls Tryd.prog 21 #[.string s] w fun e w' => ∃ v, e = .returned v ∧ Made w w' 34 v (u16s (ascii s.data.toList)) := by
  obtain ⟨i0, hi0, hz0, hz1, hz2⟩ := info_parts Tryd.info_u16
  go_enter Tryd.func21, Tryd.ntmps21
  go_wp2
  go_loopw [3, 7] (fun v i wr => ∃ k : Nat, k ≤ s.size ∧ i = .int .i64 k ∧ Made w wr 34 v (u16s (ascii (s.data.toList.take k)))) (fun _ i _ => s.size - (intOf i).toNat)
  case atStart => exact ⟨0, Nat.zero_le _, rfl, Made.nil _ _⟩
  case round =>
    obtain ⟨k, hk, rfl, hm⟩ := hrel
    by_cases hlt : k < s.size
    · have hb := s[k].toNat_lt
      have hle : (u16s (ascii (s.data.toList.take k))).length ≤ k := by simp [u16s, ascii]; omega
      go_wp2_with (at_builtin; refine wpList_lit rfl _ _ 30 rfl 34 i0 _ 2 Tryd.underlying30 hi0 hz0 hz1 hz2 rfl _ _ rfl hm _ 1 1 rfl rfl rfl (by omega) (by omega) ?_; intro v' w' hm')
      go_roundw
      case rel => exact ⟨k + 1, by omega, by go_num, by rw [ascii_snoc s k hlt]; exact hm'⟩
      case measure => simp [intOf]; omega
    · go_wp2
      go_ret
      have hkk : k = s.size := by omega
      subst hkk
      exact ⟨_, rfl, hm.cells (by rw [List.take_of_length_le (by simp)])⟩
end Go.Proofs.YtelcjdblnagdgaaDoor

namespace Go.Proofs.YtelcjdblnagdgaaDoor

/-- a byte -/
def chr (n : Nat) : UInt8 := UInt8.ofNat n
theorem chr_nat {n : Nat} (h : n < 256) : (chr n).toNat = n := by
  unfold chr; simp; omega

/-- the digits of a number -/
def decS (n : Nat) : List UInt8 := if n < 10 then [chr (48 + n)] else decS (n / 10) ++ [chr (48 + n % 10)]
termination_by n
theorem decS_lo {n : Nat} (h : n < 10) : decS n = [chr (48 + n)] := by rw [decS, if_pos h]
theorem decS_hi {n : Nat} (h : ¬ n < 10) : decS n = decS (n / 10) ++ [chr (48 + n % 10)] := by rw [decS, if_neg h]
theorem decS_len (n : Nat) : (decS n).length ≤ n + 1 := by
  induction n using Nat.strongRecOn with
  | _ n ih =>
    by_cases h : n < 10
    · rw [decS_lo h]; simp
    · rw [decS_hi h, List.length_append]
      have := ih (n / 10) (by omega)
      simp; omega
end Go.Proofs.YtelcjdblnagdgaaDoor

namespace Go.Proofs.YtelcjdblnagdgaaDoor

abbrev Tks := List (List UInt8)
/-- a kid: its kind, and what is printed of it -/
abbrev Kd := Int × Tks
def inP (t : Tks) : Tks := [40] :: (t ++ [[41]])
def partP (k : Kd) : Tks := if 30 ≤ k.1 ∧ k.1 ≤ 37 then k.2 else inP k.2
def clauseP (k : Kd) : Tks := if k.1 = 5 ∨ k.1 = 6 then k.2.dropLast else if k.1 = 11 then [] else inP k.2
def comR (f : Kd → Tks) : List Kd → Tks
  | [] => []
  | k :: r => [44] :: (f k ++ comR f r)
def comP (f : Kd → Tks) : List Kd → Tks
  | [] => []
  | k :: r => f k ++ comR f r
def namedP (s : List UInt8) : Tks := if s = [] then [] else [s]
def paramsP (l : List Kd) : Tks := [40] :: (comP (·.2) l ++ [[41]])
def kd (ks : List Kd) (i : Nat) : Kd := ks.getD i (0, [])
def hexD (n : Nat) : UInt8 := if n < 10 then UInt8.ofNat (48 + n) else UInt8.ofNat (87 + n)
def quo1 (x : UInt16) : List UInt8 :=
  if 32 ≤ x.toNat ∧ x.toNat ≤ 126 ∧ x.toNat ≠ 34 ∧ x.toNat ≠ 92 then [x.toUInt8]
  else [92, 117, hexD (x.toNat / 4096), hexD (x.toNat / 256 % 16), hexD (x.toNat / 16 % 16), hexD (x.toNat % 16)]
def quoP (u : List UInt16) : List UInt8 := 34 :: (u.flatMap quo1 ++ [34])
def valM : List Nat → Nat
  | [] => 0
  | x :: r => x + 4294967296 * valM r
def declsP (x : Nd) (ks : List Kd) : Tks := (if x.kind = 6 then [99, 111, 110, 115, 116] else [108, 101, 116]) :: comP (·.2) ks
def funcP (x : Nd) (ks : List Kd) : Tks := [102, 117, 110, 99, 116, 105, 111, 110] :: (namedP x.name ++ (paramsP ks.dropLast ++ (kd ks (ks.length - 1)).2))
def arrowP (ks : List Kd) : Tks := paramsP ks.dropLast ++ ([61, 62] :: (if (kd ks (ks.length - 1)).1 = 4 then (kd ks (ks.length - 1)).2 else inP (kd ks (ks.length - 1)).2))
def callP (ks : List Kd) : Tks := partP (kd ks 0) ++ ([40] :: (comP partP (ks.drop 1) ++ [[41]]))
/-- a statement, or a part of one -/
def stmtP (x : Nd) (ks : List Kd) : Tks :=
  if x.kind = 1 then ks.flatMap (·.2)
  else if x.kind = 2 then [[59]]
  else if x.kind = 3 then inP (kd ks 0).2 ++ [[59]]
  else if x.kind = 4 then [123] :: (ks.flatMap (·.2) ++ [[125]])
  else if x.kind = 5 ∨ x.kind = 6 then declsP x ks ++ [[59]]
  else if x.kind = 7 then x.name :: (if ks = [] then [] else [61] :: inP (kd ks 0).2)
  else if x.kind = 12 ∨ x.kind = 13 then (if x.kind = 13 then [99, 111, 110, 116, 105, 110, 117, 101] else [98, 114, 101, 97, 107]) :: (namedP x.name ++ [[59]])
  else if x.kind = 14 then [114, 101, 116, 117, 114, 110] :: ((if ks = [] then [] else inP (kd ks 0).2) ++ [[59]])
  else if x.kind = 15 then [116, 104, 114, 111, 119] :: (inP (kd ks 0).2 ++ [[59]])
  else if x.kind = 18 then x.name :: [58] :: (kd ks 0).2
  else if x.kind = 20 then [x.name]
  else if x.kind = 8 then [105, 102] :: (inP (kd ks 0).2 ++ ((kd ks 1).2 ++ (if 2 < ks.length then [101, 108, 115, 101] :: (kd ks 2).2 else [])))
  else if x.kind = 9 then [119, 104, 105, 108, 101] :: (inP (kd ks 0).2 ++ (kd ks 1).2)
  else if x.kind = 10 then [102, 111, 114] :: [40] :: (clauseP (kd ks 0) ++ ([59] :: (clauseP (kd ks 1) ++ ([59] :: (clauseP (kd ks 2) ++ ([41] :: (kd ks 3).2))))))
  else if x.kind = 16 then [116, 114, 121] :: ((kd ks 0).2 ++ ((kd ks 1).2 ++ (if (kd ks 2).1 = 4 then [102, 105, 110, 97, 108, 108, 121] :: (kd ks 2).2 else [])))
  else if x.kind = 17 then [99, 97, 116, 99, 104] :: ((if x.name = [] then [] else [[40], x.name, [41]]) ++ (kd ks 0).2)
  else if x.kind = 19 then funcP x ks
  else []
/-- an expression -/
def exprP (x : Nd) (ks : List Kd) : Tks :=
  if x.kind = 30 then [decS x.nn.toNat]
  else if x.kind = 31 then [decS (valM x.mag) ++ [110]]
  else if x.kind = 32 then [quoP x.str]
  else if x.kind = 33 then [x.name]
  else if x.kind = 34 then [[116, 114, 117, 101]]
  else if x.kind = 35 then [[102, 97, 108, 115, 101]]
  else if x.kind = 36 then [[110, 117, 108, 108]]
  else if x.kind = 37 then [[116, 104, 105, 115]]
  else if x.kind = 38 then [91] :: (comP partP ks ++ [[93]])
  else if x.kind = 39 then [123] :: (comP (·.2) ks ++ [[125]])
  else if x.kind = 40 then quoP x.str :: [58] :: partP (kd ks 0)
  else if x.kind = 41 then funcP x ks
  else if x.kind = 42 then arrowP ks
  else if x.kind = 43 then x.name :: partP (kd ks 0)
  else if x.kind = 44 then x.name :: (kd ks 0).2
  else if x.kind = 45 then (kd ks 0).2 ++ [x.name]
  else if x.kind = 46 ∨ x.kind = 47 then partP (kd ks 0) ++ (x.name :: partP (kd ks 1))
  else if x.kind = 48 then partP (kd ks 0) ++ ([63] :: (partP (kd ks 1) ++ ([58] :: partP (kd ks 2))))
  else if x.kind = 49 then (kd ks 0).2 ++ (x.name :: partP (kd ks 1))
  else if x.kind = 50 then callP ks
  else if x.kind = 51 then [110, 101, 119] :: callP ks
  else if x.kind = 52 then partP (kd ks 0) ++ ([46] :: [x.name])
  else if x.kind = 53 then partP (kd ks 0) ++ ([91] :: (partP (kd ks 1) ++ [[93]]))
  else []
def nodeP (x : Nd) (ks : List Kd) : Tks := if x.kind < 30 then stmtP x ks else exprP x ks
mutual
def prT : Tr → Tks
  | .mk x l => nodeP x (prs l)
def prs : List Tr → List Kd
  | [] => []
  | t :: r => (t.nd.kind, prT t) :: prs r
end
theorem prT_mk (x : Nd) (l : List Tr) : prT (.mk x l) = nodeP x (prs l) := by rw [prT]
theorem prs_nil : prs [] = [] := by rw [prs]
theorem prs_cons (t : Tr) (r : List Tr) : prs (t :: r) = (t.nd.kind, prT t) :: prs r := by rw [prs]
theorem prs_map (l : List Tr) : prs l = l.map fun t => (t.nd.kind, prT t) := by
  induction l with
  | nil => rw [prs_nil]; rfl
  | cons t r ih => rw [prs_cons, ih]; rfl
theorem prs_len (l : List Tr) : (prs l).length = l.length := by rw [prs_map, List.length_map]
theorem prs_kd {l : List Tr} {i : Nat} (h : i < l.length) : kd (prs l) i = (l[i].nd.kind, prT l[i]) := by
  unfold kd
  rw [prs_map, List.getD_eq_getElem?_getD, List.getElem?_map, List.getElem?_eq_getElem h]
  rfl
/-- a token laid behind what is there -/
def putU (u : List UInt16) (s : List UInt8) : List UInt16 := (if u = [] then [] else u ++ [32]) ++ ascii s
def putA (u : List UInt16) (t : Tks) : List UInt16 := t.foldl putU u
def printF (t : Tr) : List UInt16 := putA [] (prT t)
theorem putA_nil (u : List UInt16) : putA u [] = u := rfl
theorem putA_cons (u : List UInt16) (s : List UInt8) (t : Tks) : putA u (s :: t) = putA (putU u s) t := rfl
theorem putA_app (u : List UInt16) (a b : Tks) : putA u (a ++ b) = putA (putA u a) b := List.foldl_append ..
/-- how much tokens are -/
def tlen : Tks → Nat
  | [] => 0
  | s :: r => s.length + 1 + tlen r
theorem tlen_app (a b : Tks) : tlen (a ++ b) = tlen a + tlen b := by
  induction a with
  | nil => simp [tlen]
  | cons s r ih => simp only [List.cons_append, tlen, ih]; omega
theorem putU_len (u : List UInt16) (s : List UInt8) : (putU u s).length ≤ u.length + (s.length + 1) := by
  unfold putU
  rw [List.length_append]
  have : (ascii s).length = s.length := by simp [ascii]
  split <;> simp [this] <;> omega
theorem putA_len (t : Tks) : ∀ u, (putA u t).length ≤ u.length + tlen t := by
  induction t with
  | nil => intro u; exact Nat.le_refl _
  | cons s r ih =>
    intro u
    rw [putA_cons]
    have h1 := ih (putU u s)
    have h2 := putU_len u s
    unfold tlen
    omega
end Go.Proofs.YtelcjdblnagdgaaDoor

namespace Go.Proofs.YtelcjdblnagdgaaDoor

def sumK : List Kd → Nat
  | [] => 0
  | k :: r => tlen k.2 + 10 + sumK r
theorem sumK_app (a b : List Kd) : sumK (a ++ b) = sumK a + sumK b := by
  induction a with
  | nil => simp [sumK]
  | cons k r ih => simp only [List.cons_append, sumK, ih]; omega
theorem tlen_inP (t : Tks) : tlen (inP t) = tlen t + 4 := by
  unfold inP
  simp only [tlen, tlen_app, List.length_cons, List.length_nil]
  omega
theorem tlen_partP (k : Kd) : tlen (partP k) ≤ tlen k.2 + 4 := by
  unfold partP
  split
  · omega
  · rw [tlen_inP]; omega
theorem tlen_dropLast : ∀ (t : Tks), tlen t.dropLast ≤ tlen t := by
  intro t
  induction t with
  | nil => exact Nat.le_refl _
  | cons s r ih =>
    cases r with
    | nil => simp [tlen]
    | cons s2 r2 =>
      rw [List.dropLast_cons_of_ne_nil (by simp)]
      show s.length + 1 + tlen _ ≤ s.length + 1 + tlen _
      omega
theorem tlen_clauseP (k : Kd) : tlen (clauseP k) ≤ tlen k.2 + 4 := by
  unfold clauseP
  split
  · have := tlen_dropLast k.2; omega
  · split
    · simp [tlen]
    · rw [tlen_inP]; omega
theorem tlen_comR (f : Kd → Tks) (h : ∀ k, tlen (f k) ≤ tlen k.2 + 4) : ∀ ks, tlen (comR f ks) ≤ sumK ks := by
  intro ks
  induction ks with
  | nil => exact Nat.le_refl _
  | cons k r ih =>
    have := h k
    simp only [comR, tlen, tlen_app, sumK, List.length_cons, List.length_nil]
    omega
theorem tlen_comP (f : Kd → Tks) (h : ∀ k, tlen (f k) ≤ tlen k.2 + 4) (ks : List Kd) : tlen (comP f ks) ≤ sumK ks := by
  cases ks with
  | nil => exact Nat.le_refl _
  | cons k r =>
    have h1 := h k
    have h2 := tlen_comR f h r
    simp only [comP, tlen_app, sumK]
    omega
theorem tlen_comK (ks : List Kd) : tlen (comP (·.2) ks) ≤ sumK ks := tlen_comP _ (fun k => by show tlen k.2 ≤ _; omega) ks
theorem tlen_flat (ks : List Kd) : tlen (ks.flatMap (·.2)) ≤ sumK ks := by
  induction ks with
  | nil => exact Nat.le_refl _
  | cons k r ih =>
    simp only [List.flatMap_cons, tlen_app, sumK]
    omega
theorem kd_nil (i : Nat) : kd [] i = (0, []) := by simp [kd]
theorem kd_succ (k : Kd) (r : List Kd) (i : Nat) : kd (k :: r) (i + 1) = kd r i := by simp [kd]
theorem kd_zero (k : Kd) (r : List Kd) : kd (k :: r) 0 = k := by simp [kd]
theorem kd_4 (ks : List Kd) : tlen (kd ks 0).2 + tlen (kd ks 1).2 + tlen (kd ks 2).2 + tlen (kd ks 3).2 ≤ sumK ks := by
  rcases ks with _ | ⟨a, _ | ⟨b, _ | ⟨c, _ | ⟨d, r⟩⟩⟩⟩ <;> simp only [kd_nil, kd_succ, kd_zero, sumK, tlen] <;> omega
theorem kd_call (ks : List Kd) : tlen (kd ks 0).2 + sumK (ks.drop 1) ≤ sumK ks := by
  rcases ks with _ | ⟨a, r⟩
  · simp [kd_nil, sumK, tlen]
  · simp only [kd_zero, sumK, List.drop_succ_cons, List.drop_zero]; omega
theorem kd_last (ks : List Kd) : sumK ks.dropLast + tlen (kd ks (ks.length - 1)).2 ≤ sumK ks := by
  rcases List.eq_nil_or_concat ks with rfl | ⟨a, k, rfl⟩
  · simp [kd_nil, sumK, tlen]
  · rw [List.concat_eq_append, List.dropLast_concat, sumK_app]
    have : kd (a ++ [k]) ((a ++ [k]).length - 1) = k := by
      unfold kd
      rw [List.length_append, List.length_singleton, Nat.add_sub_cancel, List.getD_eq_getElem?_getD, List.getElem?_append_right (Nat.le_refl _), Nat.sub_self]
      rfl
    rw [this]
    simp only [sumK]
    omega
theorem quo1_len (x : UInt16) : (quo1 x).length ≤ 6 := by
  unfold quo1
  split <;> simp
theorem quoP_len (u : List UInt16) : (quoP u).length ≤ 6 * u.length + 2 := by
  unfold quoP
  have : (u.flatMap quo1).length ≤ 6 * u.length := by
    induction u with
    | nil => simp
    | cons x r ih =>
      have := quo1_len x
      simp only [List.flatMap_cons, List.length_append, List.length_cons]
      omega
  simp only [List.length_cons, List.length_append, List.length_nil]
  omega
theorem decS_max : ∀ (k n : Nat), n < 10 ^ (k + 1) → (decS n).length ≤ k + 1 := by
  intro k
  induction k with
  | zero => intro n h; rw [decS]; rw [if_pos (by omega)]; simp
  | succ k ih =>
    intro n h
    rw [decS]
    split
    · simp
    · have h2 : n / 10 < 10 ^ (k + 1) := by rw [Nat.div_lt_iff_lt_mul (by omega)]; rwa [Nat.pow_succ] at h
      have := ih (n / 10) h2
      rw [List.length_append, List.length_singleton]
      omega
theorem valM_lt : ∀ (m : List Nat), (∀ x ∈ m, x < 4294967296) → valM m < 4294967296 ^ m.length := by
  intro m
  induction m with
  | nil => intro _; simp [valM]
  | cons x r ih =>
    intro h
    have h1 := ih fun y hy => h y (List.mem_cons_of_mem _ hy)
    have h2 := h x (List.mem_cons_self ..)
    simp only [valM, List.length_cons, Nat.pow_succ]
    omega
/-- a node's own texts are not long -/
structure Short (x : Nd) : Prop where
  name : x.name.length ≤ 4096
  str : x.str.length ≤ 4096
  mag : x.mag.length ≤ 8
  limb : ∀ y ∈ x.mag, y < 4294967296
  nn : x.nn ≤ 9007199254740991
theorem Short.dec {x : Nd} (h : Short x) : (decS x.nn.toNat).length ≤ 16 := decS_max 15 _ (by have := h.nn; omega)
theorem Short.big {x : Nd} (h : Short x) : (decS (valM x.mag)).length ≤ 78 := by
  refine decS_max 77 _ (Nat.lt_of_lt_of_le (valM_lt x.mag h.limb) (Nat.le_trans (Nat.pow_le_pow_right (by omega) h.mag) (by decide +kernel)))
theorem paramsP_len (ks : List Kd) : tlen (paramsP ks) ≤ sumK ks + 4 := by
  unfold paramsP
  have := tlen_comK ks
  simp only [tlen, tlen_app, List.length_cons, List.length_nil]
  omega
theorem namedP_len (s : List UInt8) : tlen (namedP s) ≤ s.length + 1 := by
  unfold namedP
  split <;> simp [tlen]
theorem funcP_len (x : Nd) (ks : List Kd) : tlen (funcP x ks) ≤ x.name.length + 20 + sumK ks := by
  unfold funcP
  have h1 := namedP_len x.name
  have h2 := paramsP_len ks.dropLast
  have h3 := kd_last ks
  simp only [tlen, tlen_app, List.length_cons, List.length_nil]
  omega
theorem callP_len (ks : List Kd) : tlen (callP ks) ≤ 20 + sumK ks := by
  unfold callP
  have h1 := kd_call ks
  have h2 := tlen_partP (kd ks 0)
  have h3 := tlen_comP partP tlen_partP (ks.drop 1)
  simp only [tlen, tlen_app, List.length_cons, List.length_nil]
  omega
theorem tlen_one (s : List UInt8) : tlen [s] = s.length + 1 := by simp [tlen]
theorem tlen_cons (s : List UInt8) (t : Tks) : tlen (s :: t) = s.length + 1 + tlen t := rfl
theorem tlen_ite {p : Prop} [Decidable p] (a b : Tks) : tlen (if p then a else b) = if p then tlen a else tlen b := by split <;> rfl
theorem ite_le {p : Prop} [Decidable p] {a b : Tks} {n : Nat} (h1 : tlen a ≤ n) (h2 : tlen b ≤ n) : tlen (if p then a else b) ≤ n := by
  split
  · exact h1
  · exact h2
set_option maxHeartbeats 1000000 in
theorem stmtP_len {x : Nd} (h : Short x) (ks : List Kd) : tlen (stmtP x ks) ≤ 30000 + sumK ks := by
  have hn := h.name
  have h4 := kd_4 ks
  have hf := tlen_flat ks
  have hc := tlen_comK ks
  have hfn := funcP_len x ks
  have hnm := namedP_len x.name
  have c0 := tlen_clauseP (kd ks 0)
  have c1 := tlen_clauseP (kd ks 1)
  have c2 := tlen_clauseP (kd ks 2)
  unfold stmtP declsP
  repeat' refine ite_le ?_ ?_
  all_goals try simp only [tlen_app, tlen_inP, tlen_ite, List.length_cons, List.length_nil, tlen]
  all_goals repeat' split
  all_goals first | omega | (simp only [List.length_cons, List.length_nil]; omega)
set_option maxHeartbeats 1000000 in
theorem exprP_len {x : Nd} (h : Short x) (ks : List Kd) : tlen (exprP x ks) ≤ 30000 + sumK ks := by
  have hn := h.name
  have hs := h.str
  have hq := quoP_len x.str
  have hd := h.dec
  have hb := h.big
  have h4 := kd_4 ks
  have hc := tlen_comK ks
  have hcp := tlen_comP partP tlen_partP ks
  have hfn := funcP_len x ks
  have hcl := callP_len ks
  have ha := paramsP_len ks.dropLast
  have hl := kd_last ks
  have p0 := tlen_partP (kd ks 0)
  have p1 := tlen_partP (kd ks 1)
  have p2 := tlen_partP (kd ks 2)
  unfold exprP arrowP
  repeat' refine ite_le ?_ ?_
  all_goals try simp only [tlen_app, tlen_inP, tlen_ite, List.length_append, List.length_cons, List.length_nil, tlen]
  all_goals repeat' split
  all_goals first | omega | (simp only [List.length_cons, List.length_nil]; omega)
theorem nodeP_len {x : Nd} (h : Short x) (ks : List Kd) : tlen (nodeP x ks) ≤ 30000 + sumK ks := by
  unfold nodeP
  split
  · exact stmtP_len h ks
  · exact exprP_len h ks
mutual
/-- all nodes of a tree are short -/
def ShortT : Tr → Prop
  | .mk x l => Short x ∧ ShortL l
def ShortL : List Tr → Prop
  | [] => True
  | t :: r => ShortT t ∧ ShortL r
end
theorem shortT_mk (x : Nd) (l : List Tr) : ShortT (.mk x l) = (Short x ∧ ShortL l) := by rw [ShortT]
theorem shortL_cons (t : Tr) (r : List Tr) : ShortL (t :: r) = (ShortT t ∧ ShortL r) := by rw [ShortL]
mutual
theorem prT_len (t : Tr) (h : ShortT t) : tlen (prT t) + 10 ≤ 30010 * t.size := by
  cases t with
  | mk x l =>
    rw [shortT_mk] at h
    have h1 := nodeP_len h.1 (prs l)
    have h2 := prs_sum l h.2
    rw [prT_mk, size_mk]
    omega
theorem prs_sum (l : List Tr) (h : ShortL l) : sumK (prs l) ≤ 30010 * sizes l := by
  cases l with
  | nil => rw [prs_nil, sizes_nil]; simp [sumK]
  | cons t r =>
    rw [shortL_cons] at h
    have h1 := prT_len t h.1
    have h2 := prs_sum r h.2
    rw [prs_cons, sizes_cons]
    simp only [sumK]
    omega
end
end Go.Proofs.YtelcjdblnagdgaaDoor

namespace Go.Proofs.YtelcjdblnagdgaaDoor

theorem each_at {ts : List Nd} : ∀ (r : List Nd) (m : Nat), eachF ts m r = true → ∀ n x, r[n]? = some x → fieldsF x = true ∧ kidsF ts x = true ∧ (0 < m + n → x.kind ≠ 1) := by
  intro r
  induction r with
  | nil => intro m _ n x h; cases h
  | cons y r ih =>
    intro m h n x hx
    unfold eachF at h
    simp only [Bool.and_eq_true, Bool.not_eq_true', Bool.and_eq_false_iff, decide_eq_false_iff_not, beq_eq_false_iff_ne] at h
    cases n with
    | zero =>
      obtain rfl : y = x := Option.some.inj hx
      exact ⟨h.1.1.2, h.1.2, fun h0 => by rcases h.1.1.1 with h1 | h1; exact absurd h0 h1; exact h1⟩
    | succ n =>
      have := ih (m + 1) h.2 n x hx
      exact ⟨this.1, this.2.1, fun h0 => this.2.2 (by omega)⟩
structure May (ts : List Nd) (t : Tr) : Prop where
  flat : ts = flatT 0 t
  len : ts.length ≤ 4096
  each : eachF ts 0 ts = true
  nest : depT t ≤ 48
  kind : t.nd.kind = 1
theorem laid_kind (n : Nat) (t : Tr) : (t.laid n).kind = t.nd.kind := by cases t; rfl
theorem may_tree {ts : List Nd} (h : mayF ts = true) : ∃ t, May ts t := by
  unfold mayF at h
  cases ts with
  | nil => cases h
  | cons x r =>
    simp only [Bool.and_eq_true, decide_eq_true_eq, beq_iff_eq] at h
    obtain ⟨⟨⟨⟨h1, h2⟩, h3⟩, h4⟩, h5⟩ := h
    obtain ⟨t, ht⟩ := order_tree h3
    have hx := flatT_head 0 t
    rw [← ht] at hx
    have hx : x = t.laid 0 := Option.some.inj hx
    rw [ht, nest_flat] at h5
    exact ⟨t, ht, h1, h4, h5, by rw [← laid_kind 0 t, ← hx]; exact h2⟩
theorem may_of {ts : List Nd} {t : Tr} (h : May ts t) : mayF ts = true := by
  have hx := flatT_head 0 t
  rw [← h.flat] at hx
  unfold mayF
  cases ts with
  | nil => cases hx
  | cons x r =>
    have hx : x = t.laid 0 := Option.some.inj hx
    simp only [Bool.and_eq_true, decide_eq_true_eq, beq_iff_eq]
    refine ⟨⟨⟨⟨h.len, by rw [hx, laid_kind]; exact h.kind⟩, ?_⟩, h.each⟩, ?_⟩
    · rw [h.flat]; exact order_flat t
    · rw [h.flat, nest_flat]; exact h.nest
theorem May.at_ {ts : List Nd} {t : Tr} (h : May ts t) : At ts 0 t := by rw [h.flat]; exact At.whole t
theorem at_atN {ts : List Nd} {n : Nat} {t : Tr} (h : At ts n t) : atN ts (n : Int) = t.laid n := by
  unfold atN
  rw [List.getD_eq_getElem?_getD, Int.toNat_natCast, h.get]
  rfl
theorem fit_len {ts : List Nd} : ∀ (ks : List Int) (l : List Nat), fitAll ts l 0 ks = true → ks.length ≤ l.length := by
  intro ks
  induction ks with
  | nil => intro l _; simp
  | cons k r ih =>
    intro l h
    cases l with
    | nil =>
      unfold fitAll at h
      simp [fitsF] at h
    | cons s l =>
      unfold fitAll at h
      rw [Bool.and_eq_true] at h
      have := ih l h.2
      simp only [List.length_cons]
      omega
theorem kids_len {ts : List Nd} {x : Nd} (h : kidsF ts x = true) : (shapeF x.kind x.kids.length).1.length ≤ x.kids.length ∧ ((shapeF x.kind x.kids.length).2 = 0 → x.kids.length = (shapeF x.kind x.kids.length).1.length) := by
  unfold kidsF at h
  simp only [Bool.and_eq_true, decide_eq_true_eq] at h
  obtain ⟨⟨⟨_, h1⟩, h2⟩, _⟩ := h
  refine ⟨h1, fun h0 => Nat.le_antisymm ?_ h1⟩
  rw [h0] at h2
  exact fit_len _ _ h2
/-- how many kids a node of a kind has -/
structure Cnt (k : Int) (n : Nat) : Prop where
  one : k = 3 ∨ k = 15 ∨ k = 40 ∨ k = 43 ∨ k = 52 ∨ k = 17 ∨ k = 18 ∨ k = 44 ∨ k = 45 → n = 1
  two : k = 9 ∨ k = 46 ∨ k = 47 ∨ k = 53 ∨ k = 49 → n = 2
  opt : k = 7 ∨ k = 14 → n ≤ 1
  three : k = 16 ∨ k = 48 → n = 3
  if_ : k = 8 → n = 2 ∨ n = 3
  four : k = 10 → n = 4
  some_ : k = 5 ∨ k = 6 ∨ k = 19 ∨ k = 41 ∨ k = 42 ∨ k = 50 ∨ k = 51 → 1 ≤ n
  none_ : k = 2 ∨ k = 11 ∨ k = 12 ∨ k = 13 ∨ k = 20 ∨ (30 ≤ k ∧ k ≤ 37) → n = 0
theorem params_len (n last : Nat) : (paramsF n last).length = n - 1 + 1 := by simp [paramsF]
theorem kids_cnt {ts : List Nd} {x : Nd} (h : kidsF ts x = true) : Cnt x.kind x.kids.length := by
  obtain ⟨h1, h2⟩ := kids_len h
  obtain ⟨n, hn⟩ : ∃ n, x.kids.length = n := ⟨_, rfl⟩
  obtain ⟨k, hk⟩ : ∃ k, x.kind = k := ⟨_, rfl⟩
  rw [hk, hn] at h1 h2 ⊢
  constructor
  · rintro (rfl | rfl | rfl | rfl | rfl | rfl | rfl | rfl | rfl) <;> exact h2 rfl
  · rintro (rfl | rfl | rfl | rfl | rfl) <;> exact h2 rfl
  · rintro (rfl | rfl)
    all_goals
      have := h2 rfl
      have e : ([3].take (min n 1) : List Nat).length ≤ 1 := by rw [List.length_take]; simp; omega
      exact Nat.le_trans (Nat.le_of_eq this) e
  · rintro (rfl | rfl) <;> exact h2 rfl
  · rintro rfl
    have h3 := h2 rfl
    have e : ([3, 2, 2].take (min (max n 2) 3) : List Nat).length = min (max n 2) 3 := by rw [List.length_take]; simp
    have h4 : n = min (max n 2) 3 := h3.trans e
    omega
  · rintro rfl; exact h2 rfl
  · rintro (rfl | rfl | rfl | rfl | rfl | rfl | rfl)
    · exact h1
    · exact h1
    · have : n = (paramsF n 8).length := h2 rfl
      rw [params_len] at this; omega
    · have : n = (paramsF n 8).length := h2 rfl
      rw [params_len] at this; omega
    · have : n = (paramsF n 13).length := h2 rfl
      rw [params_len] at this; omega
    · exact h1
    · exact h1
  · intro h3
    have e : shapeF k n = ([], 0) := by
      unfold shapeF
      rw [if_neg (by omega), if_neg (by omega), if_neg (by omega), if_neg (by omega), if_neg (by omega), if_neg (by omega), if_neg (by omega), if_neg (by omega), if_neg (by omega), if_neg (by omega), if_neg (by omega), if_neg (by omega), if_neg (by omega), if_neg (by omega), if_neg (by omega), if_neg (by omega), if_neg (by omega), if_neg (by omega), if_neg (by omega)]
    rw [e] at h2
    exact h2 rfl
/-- every node of a tree has as many kids as its kind wants -/
theorem At.cnt {ts : List Nd} {n : Nat} {x : Nd} {l : List Tr} (he : eachF ts 0 ts = true) (h : At ts n (.mk x l)) : Cnt x.kind l.length := by
  have h1 := (each_at ts 0 he n _ h.get).2.1
  have h2 := kids_cnt h1
  have e : ((Tr.mk x l).laid n).kids.length = l.length := places_len (n + 1) l
  rw [e] at h2
  exact h2
theorem fields_short {x : Nd} (h : fieldsF x = true) (hl : ∀ y ∈ x.mag, y < 4294967296) : Short x := by
  unfold fieldsF at h
  by_cases h1 : 4096 < x.name.length
  · rw [if_pos h1] at h; cases h
  rw [if_neg h1] at h
  by_cases h2 : (!(x.kind == 32) && !(x.kind == 40) && !x.str.isEmpty) = true
  · rw [if_pos h2] at h; cases h
  rw [if_neg h2] at h
  by_cases h3 : (!(x.kind == 30) && !(x.nk == 0 && x.nn == 0)) = true
  · rw [if_pos h3] at h; cases h
  rw [if_neg h3] at h
  by_cases h4 : (!(x.kind == 31) && (x.neg || !x.mag.isEmpty)) = true
  · rw [if_pos h4] at h; cases h
  rw [if_neg h4] at h
  have hs : x.kind ≠ 32 ∧ x.kind ≠ 40 → x.str = [] := by
    rintro ⟨a, b⟩
    have a' : (x.kind == 32) = false := beq_eq_false_iff_ne.2 a
    have b' : (x.kind == 40) = false := beq_eq_false_iff_ne.2 b
    rw [a', b'] at h2
    simpa using h2
  have hn : x.kind ≠ 30 → x.nk = 0 ∧ x.nn = 0 := by
    intro a
    have a' : (x.kind == 30) = false := beq_eq_false_iff_ne.2 a
    rw [a'] at h3
    simpa using h3
  have hm : x.kind ≠ 31 → x.mag = [] := by
    intro a
    have a' : (x.kind == 31) = false := beq_eq_false_iff_ne.2 a
    rw [a'] at h4
    simp only [Bool.not_false, Bool.true_and, Bool.or_eq_true, Bool.not_eq_true', not_or, Bool.not_eq_true] at h4
    simpa using h4.2
  by_cases k1 : x.kind = 32 ∨ x.kind = 40
  · rw [if_pos k1] at h
    simp only [Bool.and_eq_true, decide_eq_true_eq] at h
    exact ⟨by omega, h.2, by rw [hm (by omega)]; simp, hl, by rw [(hn (by omega)).2]; omega⟩
  rw [if_neg k1] at h
  have hs' : x.str = [] := hs (by omega)
  by_cases k2 : x.kind = 30
  · rw [if_pos k2] at h
    simp only [Bool.and_eq_true, decide_eq_true_eq, beq_iff_eq] at h
    have hmay := h.1.2
    unfold numMay at hmay
    rw [if_pos h.1.1.2] at hmay
    simp only [Bool.and_eq_true, decide_eq_true_eq] at hmay
    exact ⟨by omega, by rw [hs']; simp, by rw [hm (by omega)]; simp, hl, hmay.2⟩
  rw [if_neg k2] at h
  by_cases k3 : x.kind = 31
  · rw [if_pos k3] at h
    simp only [Bool.and_eq_true, decide_eq_true_eq] at h
    have hmay := h.1.2
    unfold bigMay at hmay
    simp only [Bool.and_eq_true, decide_eq_true_eq] at hmay
    exact ⟨by omega, by rw [hs']; simp, hmay.1, hl, by rw [(hn k2).2]; omega⟩
  · exact ⟨by omega, by rw [hs']; simp, by rw [hm k3]; simp, hl, by rw [(hn k2).2]; omega⟩
theorem Short.laid {x : Nd} {ks : List Int} (h : Short { x with kids := ks }) : Short x := ⟨h.name, h.str, h.mag, h.limb, h.nn⟩
mutual
theorem shortT_flat (n : Nat) (t : Tr) (h : ∀ x ∈ flatT n t, Short x) : ShortT t := by
  cases t with
  | mk x l =>
    rw [flatT_mk] at h
    rw [shortT_mk]
    exact ⟨(h _ (List.mem_cons_self ..)).laid, shortL_flat (n + 1) l fun y hy => h y (List.mem_cons_of_mem _ hy)⟩
theorem shortL_flat (n : Nat) (l : List Tr) (h : ∀ x ∈ flatL n l, Short x) : ShortL l := by
  cases l with
  | nil => rw [ShortL]; trivial
  | cons t r =>
    rw [flatL_cons] at h
    rw [shortL_cons]
    exact ⟨shortT_flat n t fun y hy => h y (List.mem_append_left _ hy), shortL_flat (n + t.size) r fun y hy => h y (List.mem_append_right _ hy)⟩
end
theorem each_mem {ts : List Nd} (he : eachF ts 0 ts = true) {x : Nd} (hx : x ∈ ts) : fieldsF x = true ∧ kidsF ts x = true := by
  obtain ⟨n, hn, rfl⟩ := List.getElem_of_mem hx
  have := each_at ts 0 he n ts[n] (List.getElem?_eq_getElem hn)
  exact ⟨this.1, this.2.1⟩
theorem May.short {ts : List Nd} {t : Tr} (h : May ts t) (hl : ∀ x ∈ ts, ∀ y ∈ x.mag, y < 4294967296) : ShortT t := by
  refine shortT_flat 0 t fun x hx => ?_
  rw [← h.flat] at hx
  exact fields_short (each_mem h.each hx).1 (hl x hx)
/-- how much is printed of a good tree -/
theorem May.few {ts : List Nd} {t : Tr} (h : May ts t) (hl : ∀ x ∈ ts, ∀ y ∈ x.mag, y < 4294967296) : tlen (prT t) ≤ 122920960 := by
  have h1 := prT_len t (h.short hl)
  have h2 : t.size = ts.length := by rw [h.flat, flatT_len]
  have h3 := h.len
  omega
end Go.Proofs.YtelcjdblnagdgaaDoor

namespace Go.Proofs.YtelcjdblnagdgaaDoor

mutual
def dangT : Tr → Bool
  | .mk x l => if x.kind = 8 ∧ l.length = 2 then true else if x.kind = 8 ∨ x.kind = 9 ∨ x.kind = 10 ∨ x.kind = 18 then dangL l else false
def dangL : List Tr → Bool
  | [] => false
  | t :: r => match r with | [] => dangT t | _ :: _ => dangL r
end
theorem dangT_mk (x : Nd) (l : List Tr) : dangT (.mk x l) = if x.kind = 8 ∧ l.length = 2 then true else if x.kind = 8 ∨ x.kind = 9 ∨ x.kind = 10 ∨ x.kind = 18 then dangL l else false := by rw [dangT]
theorem dangL_nil : dangL [] = false := by rw [dangL]
theorem dangL_one (t : Tr) : dangL [t] = dangT t := by rw [dangL]
theorem dangL_two (t s : Tr) (r : List Tr) : dangL (t :: s :: r) = dangL (s :: r) := by rw [dangL]
def kindsL (l : List Tr) : List Int := l.map (·.nd.kind)
def fitK : List Nat → Nat → List Int → Bool
  | _, _, [] => true
  | [], r, k :: ks => fitsF r k && fitK [] r ks
  | s :: l, r, k :: ks => fitsF s k && fitK l r ks
def kidK (l : List Tr) (i : Nat) : Int := (kindsL l).getD i 0
def dangA (l : List Tr) (i : Nat) : Bool := match l[i]? with | none => false | some t => dangT t
def kidsK (k : Int) (l : List Tr) : Bool :=
  isKind k && decide ((shapeF k l.length).1.length ≤ l.length)
  && fitK (shapeF k l.length).1 (shapeF k l.length).2 (kindsL l)
  && (if k = 16 then (kidK l 1 == 17 || kidK l 2 == 4) else if k = 8 ∧ l.length = 3 then !(dangA l 1) else true)
mutual
def goodT : Tr → Bool
  | .mk x l => fieldsF x && kidsK x.kind l && goodL l
def goodL : List Tr → Bool
  | [] => true
  | t :: r => goodT t && goodL r
end
theorem goodT_mk (x : Nd) (l : List Tr) : goodT (.mk x l) = (fieldsF x && kidsK x.kind l && goodL l) := by rw [goodT]
theorem goodL_nil : goodL [] = true := by rw [goodL]
theorem goodL_cons (t : Tr) (r : List Tr) : goodL (t :: r) = (goodT t && goodL r) := by rw [goodL]
theorem goodL_all {l : List Tr} : goodL l = true ↔ ∀ t ∈ l, goodT t = true := by
  induction l with
  | nil => rw [goodL_nil]; simp
  | cons t r ih => rw [goodL_cons, Bool.and_eq_true, ih]; simp
theorem goodL_app (a b : List Tr) : goodL (a ++ b) = (goodL a && goodL b) := by
  induction a with
  | nil => rw [goodL_nil]; simp
  | cons t r ih => rw [List.cons_append, goodL_cons, goodL_cons, ih, Bool.and_assoc]
theorem dangL_last : ∀ (l : List Tr), dangL l = match l.getLast? with | none => false | some t => dangT t := by
  intro l
  induction l with
  | nil => rw [dangL_nil]; rfl
  | cons t r ih =>
    cases r with
    | nil => rw [dangL_one]; rfl
    | cons s r => rw [dangL_two, ih, List.getLast?_cons_cons]
theorem places_last : ∀ {ts : List Nd} {l : List Tr} {n : Nat} (_ : AtL ts n l), (l = [] ∧ (places n l).getLast? = none) ∨ ∃ (p : Nat) (t : Tr), (places n l).getLast? = some (p : Int) ∧ l.getLast? = some t ∧ At ts p t ∧ t.size ≤ sizes l := by
  intro ts l
  induction l with
  | nil => intro n _; exact .inl ⟨rfl, rfl⟩
  | cons t r ih =>
    intro n h
    right
    rcases ih h.tail with ⟨hr, _⟩ | ⟨p, s, h1, h2, h3, h4⟩
    · subst hr
      exact ⟨n, t, rfl, rfl, h.head, by rw [sizes_cons]; omega⟩
    · cases r with
      | nil => cases h2
      | cons s' r' =>
        refine ⟨p, s, ?_, by rw [List.getLast?_cons_cons]; exact h2, h3, by rw [sizes_cons]; omega⟩
        show ((n : Int) :: places (n + t.size) (s' :: r')).getLast? = _
        rw [show places (n + t.size) (s' :: r') = ((n + t.size : Nat) : Int) :: places (n + t.size + s'.size) r' from rfl] at h1 ⊢
        rw [List.getLast?_cons_cons]
        exact h1
theorem dang_at {ts : List Nd} : ∀ (f : Nat) (n : Nat) (t : Tr), At ts n t → t.size ≤ f → dangN f ts (n : Int) = dangT t := by
  intro f
  induction f with
  | zero => intro n t _ h; have := size_pos t; omega
  | succ f ih =>
    intro n t h hf
    cases t with
    | mk x l =>
      rw [size_mk] at hf
      rw [dangT_mk]
      unfold dangN
      have e1 : (atN ts (n : Int)).kind = x.kind := by rw [at_atN h]; rfl
      have e2 : (atN ts (n : Int)).kids = places (n + 1) l := by rw [at_atN h]; rfl
      rw [e1, e2, places_len]
      congr 1
      congr 1
      rw [dangL_last]
      rcases places_last h.subs with ⟨hl, h1⟩ | ⟨p, s, h1, h2, h3, h4⟩
      · rw [h1, hl]; rfl
      · rw [h1, h2]
        exact ih p s h3 (by omega)
theorem dang_full {ts : List Nd} {n : Nat} {t : Tr} (h : At ts n t) : dangles ts (n : Int) = dangT t := dang_at _ n t h (by have := h.le; omega)
theorem fit_at {ts : List Nd} : ∀ (l : List Tr) (n : Nat) (s : List Nat) (r : Nat), AtL ts n l → fitAll ts s r (places n l) = fitK s r (kindsL l) := by
  intro l
  induction l with
  | nil => intro n s r _; cases s <;> rfl
  | cons t l ih =>
    intro n s r h
    have h1 : (atN ts (n : Int)).kind = t.nd.kind := by rw [at_atN h.head, laid_kind]
    cases s with
    | nil =>
      show (fitsF r (atN ts (n : Int)).kind && fitAll ts [] r (places (n + t.size) l)) = (fitsF r t.nd.kind && fitK [] r (kindsL l))
      rw [h1, ih _ _ _ h.tail]
    | cons a s =>
      show (fitsF a (atN ts (n : Int)).kind && fitAll ts s r (places (n + t.size) l)) = (fitsF a t.nd.kind && fitK s r (kindsL l))
      rw [h1, ih _ _ _ h.tail]
theorem fitK_len : ∀ (ks : List Int) (l : List Nat), fitK l 0 ks = true → ks.length ≤ l.length := by
  intro ks
  induction ks with
  | nil => intro l _; simp
  | cons k r ih =>
    intro l h
    cases l with
    | nil =>
      unfold fitK at h
      simp [fitsF] at h
    | cons s l =>
      unfold fitK at h
      rw [Bool.and_eq_true] at h
      have := ih l h.2
      simp only [List.length_cons]
      omega
theorem getD_places {ts : List Nd} {n : Nat} {l : List Tr} (h : AtL ts n l) {i : Nat} (hi : i < l.length) : ∃ p : Nat, (places n l).getD i 0 = (p : Int) ∧ At ts p l[i] := by
  obtain ⟨p, h1, h2, _⟩ := h.kid i hi
  exact ⟨p, by rw [List.getD_eq_getElem?_getD, h1]; rfl, h2⟩
theorem kidK_at {l : List Tr} {i : Nat} (hi : i < l.length) : kidK l i = l[i].nd.kind := by
  unfold kidK kindsL
  rw [List.getD_eq_getElem?_getD, List.getElem?_map, List.getElem?_eq_getElem hi]
  rfl
theorem kids_at {ts : List Nd} {n : Nat} {x : Nd} {l : List Tr} (h : At ts n (.mk x l)) : kidsF ts ((Tr.mk x l).laid n) = kidsK x.kind l := by
  have hk : ((Tr.mk x l).laid n).kind = x.kind := rfl
  have hs : ((Tr.mk x l).laid n).kids = places (n + 1) l := rfl
  unfold kidsF kidsK
  rw [hk, hs, places_len, fit_at l (n + 1) _ _ h.subs]
  by_cases h1 : decide ((shapeF x.kind l.length).1.length ≤ l.length) = true
  · rw [h1]
    by_cases h2 : fitK (shapeF x.kind l.length).1 (shapeF x.kind l.length).2 (kindsL l) = true
    · rw [h2]
      congr 1
      by_cases h16 : x.kind = 16
      · rw [if_pos h16, if_pos h16]
        have hl : l.length = 3 := by
          rw [h16] at h1 h2
          have h3 : 3 ≤ l.length := of_decide_eq_true h1
          have h4 := fitK_len _ _ h2
          unfold kindsL at h4
          rw [List.length_map] at h4
          exact Nat.le_antisymm h4 h3
        obtain ⟨p, e1, a1⟩ := getD_places h.subs (i := 1) (by omega)
        obtain ⟨q, e2, a2⟩ := getD_places h.subs (i := 2) (by omega)
        rw [e1, e2, at_atN a1, at_atN a2, laid_kind, laid_kind, kidK_at (by omega), kidK_at (by omega)]
      · rw [if_neg h16, if_neg h16]
        by_cases h8 : x.kind = 8 ∧ l.length = 3
        · rw [if_pos h8, if_pos h8]
          obtain ⟨p, e1, a1⟩ := getD_places h.subs (i := 1) (by omega)
          rw [e1, dang_full a1]
          unfold dangA
          rw [List.getElem?_eq_getElem (by omega)]
        · rw [if_neg h8, if_neg h8]
    · rw [Bool.not_eq_true] at h2
      rw [h2]; simp
  · rw [Bool.not_eq_true] at h1
    rw [h1]; simp
theorem each_app {ts : List Nd} (a b : List Nd) (n : Nat) : eachF ts n (a ++ b) = (eachF ts n a && eachF ts (n + a.length) b) := by
  induction a generalizing n with
  | nil => simp [eachF]
  | cons x r ih =>
    show (_ && eachF ts (n + 1) (r ++ b)) = _
    rw [ih]
    show _ = ((_ && eachF ts (n + 1) r) && eachF ts (n + (r.length + 1)) b)
    rw [show n + 1 + r.length = n + (r.length + 1) by omega]
    simp only [Bool.and_assoc]
theorem fieldsF_kids (x : Nd) (ks : List Int) : fieldsF { x with kids := ks } = fieldsF x := rfl
/-- no kid is a Program -/
theorem fits_one (s : Nat) : fitsF s 1 = false := by
  have f : ∀ {p : Prop} [Decidable p] {a b : Bool}, a = false → b = false → (if p then a else b) = false := fun h1 h2 => by split <;> assumption
  unfold fitsF
  repeat' refine f ?_ ?_
  all_goals rfl
theorem fitK_one : ∀ (ks : List Int) (s : List Nat) (r : Nat), fitK s r ks = true → ∀ k ∈ ks, k ≠ 1 := by
  intro ks
  induction ks with
  | nil => intro s r _ k hk; cases hk
  | cons a ks ih =>
    intro s r h k hk
    cases s with
    | nil =>
      unfold fitK at h
      rw [Bool.and_eq_true] at h
      rcases List.mem_cons.1 hk with rfl | hk
      · intro e; rw [e, fits_one] at h; cases h.1
      · exact ih _ _ h.2 k hk
    | cons b s =>
      unfold fitK at h
      rw [Bool.and_eq_true] at h
      rcases List.mem_cons.1 hk with rfl | hk
      · intro e; rw [e, fits_one] at h; cases h.1
      · exact ih _ _ h.2 k hk
mutual
theorem eachT {ts : List Nd} (n : Nat) (t : Tr) (h : At ts n t) (h1 : n = 0 ∨ t.nd.kind ≠ 1) : eachF ts n (flatT n t) = goodT t := by
  cases t with
  | mk x l =>
    rw [flatT_mk, goodT_mk]
    show (!(decide (0 < n) && x.kind == 1) && fieldsF { x with kids := places (n + 1) l } && kidsF ts ((Tr.mk x l).laid n) && eachF ts (n + 1) (flatL (n + 1) l)) = _
    have e : (decide (0 < n) && x.kind == 1) = false := by
      rcases h1 with h1 | h1
      · subst h1; rfl
      · have : (x.kind == 1) = false := beq_eq_false_iff_ne.2 h1
        rw [this, Bool.and_false]
    rw [e, fieldsF_kids, kids_at h, Bool.not_false, Bool.true_and]
    by_cases h2 : kidsK x.kind l = true
    · rw [eachL (n + 1) l h.subs (by omega) (by
        unfold kidsK at h2
        simp only [Bool.and_eq_true] at h2
        intro t ht
        exact fitK_one _ _ _ h2.1.2 _ (List.mem_map_of_mem ht))]
    · rw [Bool.not_eq_true] at h2
      rw [h2]; simp
theorem eachL {ts : List Nd} (n : Nat) (l : List Tr) (h : AtL ts n l) (h0 : 0 < n) (h1 : ∀ t ∈ l, t.nd.kind ≠ 1) : eachF ts n (flatL n l) = goodL l := by
  cases l with
  | nil => rw [flatL_nil, goodL_nil]; rfl
  | cons t r =>
    rw [flatL_cons, goodL_cons, each_app, flatT_len, eachT n t h.head (.inr (h1 t (List.mem_cons_self ..))), eachL (n + t.size) r h.tail (by omega) fun s hs => h1 s (List.mem_cons_of_mem _ hs)]
end
/-- a good tree -/
structure Good (t : Tr) : Prop where
  size : t.size ≤ 4096
  kind : t.nd.kind = 1
  good : goodT t = true
  nest : depT t ≤ 48
theorem good_may {t : Tr} : May (flatT 0 t) t ↔ Good t := by
  have he := eachT (ts := flatT 0 t) 0 t (At.whole t) (.inl rfl)
  constructor
  · intro h
    exact ⟨by have := h.len; rw [flatT_len] at this; exact this, h.kind, by rw [← he]; exact h.each, h.nest⟩
  · intro h
    exact ⟨rfl, by rw [flatT_len]; exact h.size, by rw [he]; exact h.good, h.nest, h.kind⟩
theorem may_good {ts : List Nd} {t : Tr} (h : May ts t) : Good t := by
  have e := h.flat
  subst e
  exact good_may.1 h
theorem mayF_iff {ts : List Nd} : mayF ts = true ↔ ∃ t, ts = flatT 0 t ∧ Good t := by
  constructor
  · intro h
    obtain ⟨t, ht⟩ := may_tree h
    exact ⟨t, ht.flat, may_good ht⟩
  · rintro ⟨t, rfl, h⟩
    exact may_of (good_may.2 h)
end Go.Proofs.YtelcjdblnagdgaaDoor

namespace Go.Proofs.YtelcjdblnagdgaaDoor

theorem sizes_app (a b : List Tr) : sizes (a ++ b) = sizes a + sizes b := by
  induction a with
  | nil => rw [sizes_nil]; simp
  | cons t r ih => rw [List.cons_append, sizes_cons, sizes_cons, ih]; omega
theorem places_app (a b : List Tr) (n : Nat) : places n (a ++ b) = places n a ++ places (n + sizes a) b := by
  induction a generalizing n with
  | nil => rw [sizes_nil]; simp [places]
  | cons t r ih =>
    show (n : Int) :: places (n + t.size) (r ++ b) = (n : Int) :: places (n + t.size) r ++ places (n + sizes (t :: r)) b
    rw [ih, sizes_cons, ← Nat.add_assoc]; rfl
theorem flatL_app (a b : List Tr) (n : Nat) : flatL n (a ++ b) = flatL n a ++ flatL (n + sizes a) b := by
  induction a generalizing n with
  | nil => rw [flatL_nil, sizes_nil]; simp
  | cons t r ih => rw [List.cons_append, flatL_cons, flatL_cons, ih, sizes_cons, ← Nat.add_assoc, List.append_assoc]
theorem depL_app (a b : List Tr) : depL (a ++ b) = max (depL a) (depL b) := by
  induction a with
  | nil => rw [depL_nil]; simp
  | cons t r ih => rw [List.cons_append, depL_cons, depL_cons, ih]; omega
theorem prs_app (a b : List Tr) : prs (a ++ b) = prs a ++ prs b := by rw [prs_map, prs_map, prs_map, List.map_append]
def leafT : Tr := .mk { noNd with kind := 2 } []
def addT (t : Tr) : Tr := .mk t.nd (t.subs ++ [leafT])
theorem leaf_size : leafT.size = 1 := by unfold leafT; rw [size_mk, sizes_nil]
theorem leaf_flat (n : Nat) : flatT n leafT = [{ noNd with kind := 2 }] := by unfold leafT; rw [flatT_mk, flatL_nil]; rfl
/-- the list of its nodes, as the statement makes it -/
def moreL (ts : List Nd) : List Nd := match ts with
  | [] => []
  | x :: r => ({ x with kids := x.kids ++ [(ts.length : Int)] } :: r) ++ [{ noNd with kind := 2 }]
theorem more_flat (t : Tr) : moreL (flatT 0 t) = flatT 0 (addT t) := by
  cases t with
  | mk x l =>
    have hl := flatT_len 0 (.mk x l)
    rw [flatT_mk] at hl ⊢
    unfold addT
    rw [flatT_mk, flatL_app, places_app, flatL_cons, flatL_nil, leaf_flat]
    unfold moreL
    simp only [Tr.nd, Tr.subs]
    rw [hl, size_mk]
    simp [places]
theorem fitK_snoc : ∀ (ks : List Int) (k : Int), fitK [] 1 (ks ++ [k]) = (fitK [] 1 ks && isStmt k) := by
  intro ks
  induction ks with
  | nil => intro k; simp [fitK, fitsF]
  | cons a r ih =>
    intro k
    show (fitsF 1 a && fitK [] 1 (r ++ [k])) = (fitsF 1 a && fitK [] 1 r && isStmt k)
    rw [ih, Bool.and_assoc]
theorem leaf_good : goodT leafT = true := by
  unfold leafT
  rw [goodT_mk, goodL_nil]
  decide
theorem add_good {t : Tr} (h : Good t) (hs : t.size < 4096) : Good (addT t) ∧ depT (addT t) = max (depT t) 2 := by
  cases t with
  | mk x l =>
    have hk : x.kind = 1 := h.kind
    have hg := h.good
    have hd := h.nest
    rw [size_mk] at hs
    rw [depT_mk] at hd ⊢
    rw [goodT_mk] at hg
    simp only [Bool.and_eq_true] at hg
    have e2 : depT (addT (.mk x l)) = max (1 + depL l) 2 := by
      unfold addT
      rw [depT_mk, Tr.subs, depL_app, depL_cons, depL_nil]
      unfold leafT
      rw [depT_mk, depL_nil]
      omega
    refine ⟨⟨?_, h.kind, ?_, by rw [e2]; omega⟩, e2⟩
    · unfold addT
      rw [size_mk, Tr.subs, sizes_app, sizes_cons, sizes_nil, leaf_size]
      omega
    · unfold addT
      rw [goodT_mk, Tr.nd, Tr.subs, goodL_app, hg.2, goodL_cons, goodL_nil, leaf_good, hg.1.1]
      have hkk := hg.1.2
      unfold kidsK at hkk ⊢
      rw [hk] at hkk ⊢
      have e : ∀ n, shapeF 1 n = ([], 1) := fun n => rfl
      rw [e] at hkk ⊢
      have ek : kindsL (l ++ [leafT]) = kindsL l ++ [2] := by unfold kindsL leafT; rw [List.map_append]; rfl
      rw [ek, fitK_snoc]
      simp only [Bool.and_eq_true] at hkk
      rw [hkk.1.2]
      rfl
theorem more_prT {t : Tr} (h : t.nd.kind = 1) : prT (addT t) = prT t ++ [[59]] := by
  cases t with
  | mk x l =>
    have hk : x.kind = 1 := h
    unfold addT
    rw [prT_mk, prT_mk, Tr.nd, Tr.subs, prs_app, prs_cons, prs_nil]
    have e : prT leafT = [[59]] := by unfold leafT; rw [prT_mk, prs_nil]; rfl
    rw [e]
    have hn : ∀ ks, nodeP x ks = ks.flatMap (·.2) := by
      intro ks
      unfold nodeP stmtP
      rw [if_pos (by omega), if_pos hk]
    rw [hn, hn, List.flatMap_append]
    rfl
theorem more_law {ts : List Nd} (h : mayF ts = true) (hl : ts.length < 4096) : ∃ t, May ts t ∧ mayF (moreL ts) = true ∧ nestF (moreL ts) = max (nestF ts) 2 ∧ May (moreL ts) (addT t) ∧ printF (addT t) = if printF t = [] then [59] else printF t ++ [32, 59] := by
  obtain ⟨t, rfl, hg⟩ := mayF_iff.1 h
  rw [flatT_len] at hl
  obtain ⟨hg2, hd⟩ := add_good hg hl
  have h2 : mayF (moreL (flatT 0 t)) = true := by rw [more_flat]; exact mayF_iff.2 ⟨addT t, rfl, hg2⟩
  refine ⟨t, good_may.2 hg, h2, ?_, by rw [more_flat]; exact good_may.2 hg2, ?_⟩
  · unfold nestF
    rw [if_pos h2, if_pos h, more_flat, nest_flat, nest_flat]
    exact hd
  · unfold printF
    rw [more_prT hg.kind, putA_app]
    show putU (putA [] (prT t)) [59] = _
    unfold putU
    by_cases h3 : putA [] (prT t) = []
    · rw [if_pos h3, if_pos h3]; rfl
    · rw [if_neg h3, if_neg h3]; simp [ascii]
end Go.Proofs.YtelcjdblnagdgaaDoor

namespace Go.Proofs.YtelcjdblnagdgaaDoor

def sumT : Tr := .mk { noNd with kind := 1 } [.mk { noNd with kind := 3 } [.mk { noNd with kind := 46, name := [43] } [.mk { noNd with kind := 30, nn := 1 } [], .mk { noNd with kind := 33, name := [97] } []]]]
def sumL : List Nd := [{ noNd with kind := 1, kids := [1] }, { noNd with kind := 3, kids := [2] }, { noNd with kind := 46, name := [43], kids := [3, 4] }, { noNd with kind := 30, nn := 1 }, { noNd with kind := 33, name := [97] }]
theorem sum_flat : sumL = flatT 0 sumT := by
  unfold sumT
  simp only [flatT_mk, flatL_cons, flatL_nil, places, size_mk, sizes_cons, sizes_nil, List.append_nil]
  rfl
theorem sum_tree : May sumL sumT :=
  ⟨sum_flat, by decide, by decide +kernel, by unfold sumT; simp only [depT_mk, depL_cons, depL_nil]; omega, rfl⟩
theorem sum_may : mayF sumL = true := may_of sum_tree
theorem sum_nest : nestD sumL = 4 := by decide +kernel
theorem sum_print : printF sumT = [40, 32, 49, 32, 43, 32, 97, 32, 41, 32, 59] := by
  unfold printF sumT
  simp only [prT_mk, prs_cons, prs_nil, Tr.nd]
  decide +kernel
end Go.Proofs.YtelcjdblnagdgaaDoor
