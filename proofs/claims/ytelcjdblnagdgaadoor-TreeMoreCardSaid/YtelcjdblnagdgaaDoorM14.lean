/- Joined for a claim: TPr9, TPr4, TPrB. -/
import Derived.Test.YtelcjdblnagdgaaDoorM12
import Derived.Test.YtelcjdblnagdgaaDoorM13
import Derived.Test.YtelcjdblnagdgaaDoorM02
import Derived.Deep.CutBlock
import Derived.Deep.DeepCutAuto
import Derived.Test.YtelcjdblnagdgaaDoorM10
namespace Go.Proofs.YtelcjdblnagdgaaDoor
open Go.RowKit

theorem prs_snoc (l : List Tr) (a : Tr) : (prs (l ++ [a])).dropLast = prs l ∧ kd (prs (l ++ [a])) ((prs (l ++ [a])).length - 1) = (a.nd.kind, prT a) := by
  have e : prs (l ++ [a]) = prs l ++ [(a.nd.kind, prT a)] := by rw [prs_map, prs_map, List.map_append]; rfl
  rw [e]
  refine ⟨by simp, ?_⟩
  unfold kd
  simp
/-- what is known of a node that is printed -/
structure Nx (C : Cx) (m k : Nat) (x : Nd) (l : List Tr) (s : NdSl) (w : World) : Prop where
  hN : NodeC C m
  at_ : At C.ts k (.mk x l)
  hs : ∀ t ∈ l, t.size ≤ m
  cnt : Cnt x.kind l.length
  fields : fieldsF x = true
  h6 : l.length ≤ 1000000
  m6 : m ≤ 1000000
  hk : KidsS C w s.Ak l
  ck : l.length ≤ s.ck
  kin : 1 ≤ x.kind
/-- a node as a value -/
def ndA (x : Nd) (l : List Tr) (s : NdSl) : Value := .agg #[.int .i64 x.kind, .string ⟨x.name.toArray⟩, .slice s.As x.str.length s.cs, .int .i64 x.nk, .int .i64 x.nn, .bool x.neg, .slice s.Am x.mag.length s.cm, .slice s.Ak l.length s.ck]
section
variable {C : Cx} {m k : Nat} {x : Nd} {l : List Tr} {s : NdSl} {us : List UInt16} {v : Value} {w : World}
theorem Nx.below {w' : World} (h : Nx C m k x l s w) (hb : Below C.B w w') : Nx C m k x l s w' := { h with hk := h.hk.below hb }
theorem kids0 (h : l.length = 0) : l = [] := List.length_eq_zero_iff.1 h
theorem kids1 (h : l.length = 1) : ∃ a, l = [a] := List.length_eq_one_iff.1 h
theorem kids2 (h : l.length = 2) : ∃ a b, l = [a, b] := by
  match l, h with
  | [a, b], _ => exact ⟨a, b, rfl⟩
theorem kids3 (h : l.length = 3) : ∃ a b c, l = [a, b, c] := by
  match l, h with
  | [a, b, c], _ => exact ⟨a, b, c, rfl⟩
theorem kids4 (h : l.length = 4) : ∃ a b c d, l = [a, b, c, d] := by
  match l, h with
  | [a, b, c, d], _ => exact ⟨a, b, c, d, rfl⟩
theorem kidsN (h : 1 ≤ l.length) : ∃ r a, l = r ++ [a] := ⟨l.dropLast, l.getLast (by intro e; subst e; simp at h), (List.dropLast_concat_getLast _).symm⟩
end
theorem sd_1 {C : Cx} {m k : Nat} {x : Nd} {l : List Tr} {s : NdSl} {us : List UInt16} {v : Value} {w : World} (h : Nx C m k x l s w) (hK : x.kind = 1) (hp : Pe C us v w) (hm : MayPut us (stmtP x (prs l))) :
    Calls Tryd.prog 46 #[.pointer (some ⟨C.g, 0, none⟩), .int .i64 (k : Int), ndA x l s] w (PutQ C us v w (stmtP x (prs l))) := by
  have e : stmtP x (prs l) = seqP l := by unfold stmtP; rw [hK]; rfl
  rw [e] at hm ⊢
  unfold ndA
  rw [hK]
  exact st_1 _ _ _ _ _ _ h.hN h.hs rfl h.h6 h.hk hp hm
theorem sd_2 {C : Cx} {m k : Nat} {x : Nd} {l : List Tr} {s : NdSl} {us : List UInt16} {v : Value} {w : World} (h : Nx C m k x l s w) (hK : x.kind = 2) (hp : Pe C us v w) (hm : MayPut us (stmtP x (prs l))) :
    Calls Tryd.prog 46 #[.pointer (some ⟨C.g, 0, none⟩), .int .i64 (k : Int), ndA x l s] w (PutQ C us v w (stmtP x (prs l))) := by
  obtain rfl := kids0 (h.cnt.none_ (by omega))
  have e : stmtP x (prs []) = [[59]] := by unfold stmtP; rw [hK, prs_nil]; rfl
  rw [e] at hm ⊢
  unfold ndA
  rw [hK]
  exact st_2 x.name _ _ _ _ _ h.hN hp hm
theorem sd_3 {C : Cx} {m k : Nat} {x : Nd} {l : List Tr} {s : NdSl} {us : List UInt16} {v : Value} {w : World} (h : Nx C m k x l s w) (hK : x.kind = 3) (hp : Pe C us v w) (hm : MayPut us (stmtP x (prs l))) :
    Calls Tryd.prog 46 #[.pointer (some ⟨C.g, 0, none⟩), .int .i64 (k : Int), ndA x l s] w (PutQ C us v w (stmtP x (prs l))) := by
  obtain ⟨a0, rfl⟩ := kids1 (h.cnt.one (by omega))
  have e : stmtP x (prs [a0]) = (inP (prT a0)) ++ ([[59]]) := by unfold stmtP; rw [hK, prs_cons, prs_nil]; rfl
  rw [e] at hm ⊢
  unfold ndA
  rw [hK]
  exact st_3 x.name _ _ _ _ _ h.hN (h.hs a0 (by simp)) h.hk hp hm
theorem sd_4 {C : Cx} {m k : Nat} {x : Nd} {l : List Tr} {s : NdSl} {us : List UInt16} {v : Value} {w : World} (h : Nx C m k x l s w) (hK : x.kind = 4) (hp : Pe C us v w) (hm : MayPut us (stmtP x (prs l))) :
    Calls Tryd.prog 46 #[.pointer (some ⟨C.g, 0, none⟩), .int .i64 (k : Int), ndA x l s] w (PutQ C us v w (stmtP x (prs l))) := by
  have e : stmtP x (prs l) = [[123]] ++ (seqP l ++ [[125]]) := by unfold stmtP; rw [hK]; rfl
  rw [e] at hm ⊢
  unfold ndA
  rw [hK]
  exact st_4 _ _ _ _ _ _ h.hN h.hs rfl h.h6 h.hk hp hm
theorem sd_5 {C : Cx} {m k : Nat} {x : Nd} {l : List Tr} {s : NdSl} {us : List UInt16} {v : Value} {w : World} (h : Nx C m k x l s w) (hK : x.kind = 5) (hp : Pe C us v w) (hm : MayPut us (stmtP x (prs l))) :
    Calls Tryd.prog 46 #[.pointer (some ⟨C.g, 0, none⟩), .int .i64 (k : Int), ndA x l s] w (PutQ C us v w (stmtP x (prs l))) := by
  have e : stmtP x (prs l) = declsP x (prs l) ++ [[59]] := by unfold stmtP; rw [hK]; rfl
  rw [e] at hm ⊢
  unfold ndA
  rw [hK]
  exact st_5 _ _ _ _ _ _ h.hN h.hs h.at_ (by omega) rfl h.h6 h.hk hp hm
theorem sd_6 {C : Cx} {m k : Nat} {x : Nd} {l : List Tr} {s : NdSl} {us : List UInt16} {v : Value} {w : World} (h : Nx C m k x l s w) (hK : x.kind = 6) (hp : Pe C us v w) (hm : MayPut us (stmtP x (prs l))) :
    Calls Tryd.prog 46 #[.pointer (some ⟨C.g, 0, none⟩), .int .i64 (k : Int), ndA x l s] w (PutQ C us v w (stmtP x (prs l))) := by
  have e : stmtP x (prs l) = declsP x (prs l) ++ [[59]] := by unfold stmtP; rw [hK]; rfl
  rw [e] at hm ⊢
  unfold ndA
  rw [hK]
  exact st_6 _ _ _ _ _ _ h.hN h.hs h.at_ (by omega) rfl h.h6 h.hk hp hm
theorem sd_7 {C : Cx} {m k : Nat} {x : Nd} {l : List Tr} {s : NdSl} {us : List UInt16} {v : Value} {w : World} (h : Nx C m k x l s w) (hK : x.kind = 7) (hp : Pe C us v w) (hm : MayPut us (stmtP x (prs l))) :
    Calls Tryd.prog 46 #[.pointer (some ⟨C.g, 0, none⟩), .int .i64 (k : Int), ndA x l s] w (PutQ C us v w (stmtP x (prs l))) := by
  have h1 := h.cnt.opt (by omega)
  by_cases h0 : l.length = 0
  · obtain rfl := kids0 h0
    have e : stmtP x (prs []) = [x.name] := by unfold stmtP; rw [hK, prs_nil]; rfl
    rw [e] at hm ⊢
    unfold ndA
    rw [hK]
    exact st_7_no x.name _ _ _ _ _ h.hN hp hm
  · obtain ⟨a0, rfl⟩ := kids1 (show l.length = 1 by omega)
    have e : stmtP x (prs [a0]) = [x.name] ++ ([[61]] ++ (inP (prT a0))) := by unfold stmtP; rw [hK, prs_cons, prs_nil]; rfl
    rw [e] at hm ⊢
    unfold ndA
    rw [hK]
    exact st_7_yes x.name _ _ _ _ _ h.hN (h.hs a0 (by simp)) h.hk hp hm
theorem sd_8 {C : Cx} {m k : Nat} {x : Nd} {l : List Tr} {s : NdSl} {us : List UInt16} {v : Value} {w : World} (h : Nx C m k x l s w) (hK : x.kind = 8) (hp : Pe C us v w) (hm : MayPut us (stmtP x (prs l))) :
    Calls Tryd.prog 46 #[.pointer (some ⟨C.g, 0, none⟩), .int .i64 (k : Int), ndA x l s] w (PutQ C us v w (stmtP x (prs l))) := by
  rcases h.cnt.if_ hK with h1 | h1
  · obtain ⟨a0, a1, rfl⟩ := kids2 h1
    have e : stmtP x (prs [a0, a1]) = [[105, 102]] ++ ((inP (prT a0)) ++ (prT a1)) := by unfold stmtP; rw [hK, prs_cons, prs_cons, prs_nil]; simp [kd, inP]
    rw [e] at hm ⊢
    unfold ndA
    rw [hK]
    exact dl_st_8 _ _ _ _ _ _ _ fun W hb => cp_8_two x.name _ _ _ _ _ h.hN (h.hs a0 (by simp)) (h.hs a1 (by simp)) (h.below (hb.mono (Nat.le_of_lt hp.blt))).hk (hp.below hb) hm
  · obtain ⟨a0, a1, a2, rfl⟩ := kids3 h1
    have e : stmtP x (prs [a0, a1, a2]) = [[105, 102]] ++ ((inP (prT a0)) ++ ((prT a1) ++ ([[101, 108, 115, 101]] ++ (prT a2)))) := by unfold stmtP; rw [hK, prs_cons, prs_cons, prs_cons, prs_nil]; rfl
    rw [e] at hm ⊢
    unfold ndA
    rw [hK]
    exact dl_st_8 _ _ _ _ _ _ _ fun W hb => cp_8_three x.name _ _ _ _ _ h.hN (h.hs a0 (by simp)) (h.hs a1 (by simp)) (h.hs a2 (by simp)) (h.below (hb.mono (Nat.le_of_lt hp.blt))).hk (hp.below hb) hm
theorem sd_9 {C : Cx} {m k : Nat} {x : Nd} {l : List Tr} {s : NdSl} {us : List UInt16} {v : Value} {w : World} (h : Nx C m k x l s w) (hK : x.kind = 9) (hp : Pe C us v w) (hm : MayPut us (stmtP x (prs l))) :
    Calls Tryd.prog 46 #[.pointer (some ⟨C.g, 0, none⟩), .int .i64 (k : Int), ndA x l s] w (PutQ C us v w (stmtP x (prs l))) := by
  obtain ⟨a0, a1, rfl⟩ := kids2 (h.cnt.two (by omega))
  have e : stmtP x (prs [a0, a1]) = [[119, 104, 105, 108, 101]] ++ ((inP (prT a0)) ++ (prT a1)) := by unfold stmtP; rw [hK, prs_cons, prs_cons, prs_nil]; rfl
  rw [e] at hm ⊢
  unfold ndA
  rw [hK]
  exact dl_st_9 _ _ _ _ _ _ _ fun W hb => cp_9 x.name _ _ _ _ _ h.hN (h.hs a0 (by simp)) (h.hs a1 (by simp)) (h.below (hb.mono (Nat.le_of_lt hp.blt))).hk (hp.below hb) hm
theorem sd_10 {C : Cx} {m k : Nat} {x : Nd} {l : List Tr} {s : NdSl} {us : List UInt16} {v : Value} {w : World} (h : Nx C m k x l s w) (hK : x.kind = 10) (hp : Pe C us v w) (hm : MayPut us (stmtP x (prs l))) :
    Calls Tryd.prog 46 #[.pointer (some ⟨C.g, 0, none⟩), .int .i64 (k : Int), ndA x l s] w (PutQ C us v w (stmtP x (prs l))) := by
  obtain ⟨a0, a1, a2, a3, rfl⟩ := kids4 (h.cnt.four (by omega))
  have e : stmtP x (prs [a0, a1, a2, a3]) = [[102, 111, 114], [40]] ++ ((clauseP (a0.nd.kind, prT a0)) ++ ([[59]] ++ ((clauseP (a1.nd.kind, prT a1)) ++ ([[59]] ++ ((clauseP (a2.nd.kind, prT a2)) ++ ([[41]] ++ (prT a3))))))) := by unfold stmtP; rw [hK, prs_cons, prs_cons, prs_cons, prs_cons, prs_nil]; rfl
  rw [e] at hm ⊢
  unfold ndA
  rw [hK]
  exact dl_st_10 _ _ _ _ _ _ _ fun W hb => cp_10 x.name _ _ _ _ _ h.hN (h.hs a0 (by simp)) (h.hs a1 (by simp)) (h.hs a2 (by simp)) (h.hs a3 (by simp)) (h.below (hb.mono (Nat.le_of_lt hp.blt))).hk (hp.below hb) h.m6 hm
theorem sd_11 {C : Cx} {m k : Nat} {x : Nd} {l : List Tr} {s : NdSl} {us : List UInt16} {v : Value} {w : World} (_h : Nx C m k x l s w) (hK : x.kind = 11) (hp : Pe C us v w) (_hm : MayPut us (stmtP x (prs l))) :
    Calls Tryd.prog 46 #[.pointer (some ⟨C.g, 0, none⟩), .int .i64 (k : Int), ndA x l s] w (PutQ C us v w (stmtP x (prs l))) := by
  have e : stmtP x (prs l) = [] := by unfold stmtP; rw [hK]; rfl
  rw [e]
  unfold ndA
  rw [hK]
  exact st_11 _ _ _ _ _ _ _ hp
theorem sd_12 {C : Cx} {m k : Nat} {x : Nd} {l : List Tr} {s : NdSl} {us : List UInt16} {v : Value} {w : World} (h : Nx C m k x l s w) (hK : x.kind = 12) (hp : Pe C us v w) (hm : MayPut us (stmtP x (prs l))) :
    Calls Tryd.prog 46 #[.pointer (some ⟨C.g, 0, none⟩), .int .i64 (k : Int), ndA x l s] w (PutQ C us v w (stmtP x (prs l))) := by
  obtain rfl := kids0 (h.cnt.none_ (by omega))
  have e : stmtP x (prs []) = [[98, 114, 101, 97, 107]] ++ ((namedP x.name) ++ ([[59]])) := by unfold stmtP; rw [hK, prs_nil]; rfl
  rw [e] at hm ⊢
  unfold ndA
  rw [hK]
  exact st_12 x.name _ _ _ _ _ h.hN hp hm
theorem sd_13 {C : Cx} {m k : Nat} {x : Nd} {l : List Tr} {s : NdSl} {us : List UInt16} {v : Value} {w : World} (h : Nx C m k x l s w) (hK : x.kind = 13) (hp : Pe C us v w) (hm : MayPut us (stmtP x (prs l))) :
    Calls Tryd.prog 46 #[.pointer (some ⟨C.g, 0, none⟩), .int .i64 (k : Int), ndA x l s] w (PutQ C us v w (stmtP x (prs l))) := by
  obtain rfl := kids0 (h.cnt.none_ (by omega))
  have e : stmtP x (prs []) = [[99, 111, 110, 116, 105, 110, 117, 101]] ++ ((namedP x.name) ++ ([[59]])) := by unfold stmtP; rw [hK, prs_nil]; rfl
  rw [e] at hm ⊢
  unfold ndA
  rw [hK]
  exact st_13 x.name _ _ _ _ _ h.hN hp hm
theorem sd_14 {C : Cx} {m k : Nat} {x : Nd} {l : List Tr} {s : NdSl} {us : List UInt16} {v : Value} {w : World} (h : Nx C m k x l s w) (hK : x.kind = 14) (hp : Pe C us v w) (hm : MayPut us (stmtP x (prs l))) :
    Calls Tryd.prog 46 #[.pointer (some ⟨C.g, 0, none⟩), .int .i64 (k : Int), ndA x l s] w (PutQ C us v w (stmtP x (prs l))) := by
  have h1 := h.cnt.opt (by omega)
  by_cases h0 : l.length = 0
  · obtain rfl := kids0 h0
    have e : stmtP x (prs []) = [[114, 101, 116, 117, 114, 110]] ++ ([[59]]) := by unfold stmtP; rw [hK, prs_nil]; rfl
    rw [e] at hm ⊢
    unfold ndA
    rw [hK]
    exact st_14_no x.name _ _ _ _ _ h.hN hp hm
  · obtain ⟨a0, rfl⟩ := kids1 (show l.length = 1 by omega)
    have e : stmtP x (prs [a0]) = [[114, 101, 116, 117, 114, 110]] ++ ((inP (prT a0)) ++ ([[59]])) := by unfold stmtP; rw [hK, prs_cons, prs_nil]; rfl
    rw [e] at hm ⊢
    unfold ndA
    rw [hK]
    exact st_14_yes x.name _ _ _ _ _ h.hN (h.hs a0 (by simp)) h.hk hp hm
theorem sd_15 {C : Cx} {m k : Nat} {x : Nd} {l : List Tr} {s : NdSl} {us : List UInt16} {v : Value} {w : World} (h : Nx C m k x l s w) (hK : x.kind = 15) (hp : Pe C us v w) (hm : MayPut us (stmtP x (prs l))) :
    Calls Tryd.prog 46 #[.pointer (some ⟨C.g, 0, none⟩), .int .i64 (k : Int), ndA x l s] w (PutQ C us v w (stmtP x (prs l))) := by
  obtain ⟨a0, rfl⟩ := kids1 (h.cnt.one (by omega))
  have e : stmtP x (prs [a0]) = [[116, 104, 114, 111, 119]] ++ ((inP (prT a0)) ++ ([[59]])) := by unfold stmtP; rw [hK, prs_cons, prs_nil]; rfl
  rw [e] at hm ⊢
  unfold ndA
  rw [hK]
  exact st_15 x.name _ _ _ _ _ h.hN (h.hs a0 (by simp)) h.hk hp hm
theorem sd_16 {C : Cx} {m k : Nat} {x : Nd} {l : List Tr} {s : NdSl} {us : List UInt16} {v : Value} {w : World} (h : Nx C m k x l s w) (hK : x.kind = 16) (hp : Pe C us v w) (hm : MayPut us (stmtP x (prs l))) :
    Calls Tryd.prog 46 #[.pointer (some ⟨C.g, 0, none⟩), .int .i64 (k : Int), ndA x l s] w (PutQ C us v w (stmtP x (prs l))) := by
  obtain ⟨a0, a1, a2, rfl⟩ := kids3 (h.cnt.three (by omega))
  by_cases h4 : a2.nd.kind = 4
  · have e : stmtP x (prs [a0, a1, a2]) = [[116, 114, 121]] ++ ((prT a0) ++ ((prT a1) ++ ([[102, 105, 110, 97, 108, 108, 121]] ++ (prT a2)))) := by unfold stmtP; rw [hK, prs_cons, prs_cons, prs_cons, prs_nil]; simp [kd, h4]
    rw [e] at hm ⊢
    unfold ndA
    rw [hK]
    exact dl_st_16 _ _ _ _ _ _ _ fun W hb => cp_16_yes x.name _ _ _ _ _ h.hN (h.hs a0 (by simp)) (h.hs a1 (by simp)) (h.hs a2 (by simp)) (h.below (hb.mono (Nat.le_of_lt hp.blt))).hk (hp.below hb) h4 hm
  · have e : stmtP x (prs [a0, a1, a2]) = [[116, 114, 121]] ++ ((prT a0) ++ (prT a1)) := by unfold stmtP; rw [hK, prs_cons, prs_cons, prs_cons, prs_nil]; simp [kd, h4]
    rw [e] at hm ⊢
    unfold ndA
    rw [hK]
    exact dl_st_16 _ _ _ _ _ _ _ fun W hb => cp_16_no x.name _ _ _ _ _ h.hN (h.hs a0 (by simp)) (h.hs a1 (by simp)) (h.hs a2 (by simp)) (h.below (hb.mono (Nat.le_of_lt hp.blt))).hk (hp.below hb) rfl h4 hm
theorem sd_17 {C : Cx} {m k : Nat} {x : Nd} {l : List Tr} {s : NdSl} {us : List UInt16} {v : Value} {w : World} (h : Nx C m k x l s w) (hK : x.kind = 17) (hp : Pe C us v w) (hm : MayPut us (stmtP x (prs l))) :
    Calls Tryd.prog 46 #[.pointer (some ⟨C.g, 0, none⟩), .int .i64 (k : Int), ndA x l s] w (PutQ C us v w (stmtP x (prs l))) := by
  obtain ⟨a0, rfl⟩ := kids1 (h.cnt.one (by omega))
  by_cases h4 : x.name = []
  · have e : stmtP x (prs [a0]) = [[99, 97, 116, 99, 104]] ++ (prT a0) := by unfold stmtP; rw [hK, prs_cons, prs_nil]; simp [kd, h4]
    rw [e] at hm ⊢
    unfold ndA
    rw [hK]
    rw [h4]
    exact dl_st_17 _ _ _ _ _ _ _ fun W hb => cp_17_no _ _ _ _ _ h.hN (h.hs a0 (by simp)) (h.below (hb.mono (Nat.le_of_lt hp.blt))).hk (hp.below hb) hm
  · have e : stmtP x (prs [a0]) = [[99, 97, 116, 99, 104]] ++ ([[40], x.name, [41]] ++ (prT a0)) := by unfold stmtP; rw [hK, prs_cons, prs_nil]; simp [kd, h4]
    rw [e] at hm ⊢
    unfold ndA
    rw [hK]
    exact dl_st_17 _ _ _ _ _ _ _ fun W hb => cp_17_yes _ _ _ _ _ h.hN (h.hs a0 (by simp)) (h.below (hb.mono (Nat.le_of_lt hp.blt))).hk (hp.below hb) rfl h4 hm
theorem sd_18 {C : Cx} {m k : Nat} {x : Nd} {l : List Tr} {s : NdSl} {us : List UInt16} {v : Value} {w : World} (h : Nx C m k x l s w) (hK : x.kind = 18) (hp : Pe C us v w) (hm : MayPut us (stmtP x (prs l))) :
    Calls Tryd.prog 46 #[.pointer (some ⟨C.g, 0, none⟩), .int .i64 (k : Int), ndA x l s] w (PutQ C us v w (stmtP x (prs l))) := by
  obtain ⟨a0, rfl⟩ := kids1 (h.cnt.one (by omega))
  have e : stmtP x (prs [a0]) = [x.name, [58]] ++ (prT a0) := by unfold stmtP; rw [hK, prs_cons, prs_nil]; rfl
  rw [e] at hm ⊢
  unfold ndA
  rw [hK]
  exact st_18 x.name _ _ _ _ _ h.hN (h.hs a0 (by simp)) h.hk hp hm
theorem sd_19 {C : Cx} {m k : Nat} {x : Nd} {l : List Tr} {s : NdSl} {us : List UInt16} {v : Value} {w : World} (h : Nx C m k x l s w) (hK : x.kind = 19) (hp : Pe C us v w) (hm : MayPut us (stmtP x (prs l))) :
    Calls Tryd.prog 46 #[.pointer (some ⟨C.g, 0, none⟩), .int .i64 (k : Int), ndA x l s] w (PutQ C us v w (stmtP x (prs l))) := by
  obtain ⟨r, a, rfl⟩ := kidsN (h.cnt.some_ (by omega))
  have e : stmtP x (prs (r ++ [a])) = [[102, 117, 110, 99, 116, 105, 111, 110]] ++ (namedP x.name ++ (paramsP (prs r) ++ prT a)) := by
    have e1 : stmtP x (prs (r ++ [a])) = funcP x (prs (r ++ [a])) := by unfold stmtP; rw [hK]; rfl
    rw [e1]
    unfold funcP
    rw [(prs_snoc r a).1, (prs_snoc r a).2]
    rfl
  have hlen : (r ++ [a]).length = r.length + 1 := by simp
  have h6 := h.h6
  have hck := h.ck
  rw [hlen] at h6 hck
  rw [e] at hm ⊢
  unfold ndA
  rw [hK, hlen]
  exact dl_st_19 _ _ _ _ _ _ _ fun W hb => dl_cp_19 _ _ _ _ _ _ _ fun W2 hb2 => pfunction 19 x.name _ _ _ _ _ h.hN (fun t ht => h.hs t (by simp [ht])) (h.hs a (by simp)) rfl h6 hck (((h.below (hb.mono (Nat.le_of_lt hp.blt))).below (hb2.mono (Nat.le_of_lt (hp.below hb).blt))).hk) ((hp.below hb).below hb2) hm
theorem sd_20 {C : Cx} {m k : Nat} {x : Nd} {l : List Tr} {s : NdSl} {us : List UInt16} {v : Value} {w : World} (h : Nx C m k x l s w) (hK : x.kind = 20) (hp : Pe C us v w) (hm : MayPut us (stmtP x (prs l))) :
    Calls Tryd.prog 46 #[.pointer (some ⟨C.g, 0, none⟩), .int .i64 (k : Int), ndA x l s] w (PutQ C us v w (stmtP x (prs l))) := by
  obtain rfl := kids0 (h.cnt.none_ (by omega))
  have e : stmtP x (prs []) = [x.name] := by unfold stmtP; rw [hK, prs_nil]; rfl
  rw [e] at hm ⊢
  unfold ndA
  rw [hK]
  exact st_20 x.name _ _ _ _ _ h.hN hp hm
theorem statement_any {C : Cx} {m k : Nat} {x : Nd} {l : List Tr} {s : NdSl} {us : List UInt16} {v : Value} {w : World} (h : Nx C m k x l s w) (h20 : x.kind ≤ 20) (hp : Pe C us v w) (hm : MayPut us (stmtP x (prs l))) :
    Calls Tryd.prog 46 #[.pointer (some ⟨C.g, 0, none⟩), .int .i64 (k : Int), ndA x l s] w (PutQ C us v w (stmtP x (prs l))) := by
  have h1 := h.kin
  have hc : x.kind = 1 ∨ x.kind = 2 ∨ x.kind = 3 ∨ x.kind = 4 ∨ x.kind = 5 ∨ x.kind = 6 ∨ x.kind = 7 ∨ x.kind = 8 ∨ x.kind = 9 ∨ x.kind = 10 ∨ x.kind = 11 ∨ x.kind = 12 ∨ x.kind = 13 ∨ x.kind = 14 ∨ x.kind = 15 ∨ x.kind = 16 ∨ x.kind = 17 ∨ x.kind = 18 ∨ x.kind = 19 ∨ x.kind = 20 := by omega
  rcases hc with c | c | c | c | c | c | c | c | c | c | c | c | c | c | c | c | c | c | c | c
  · exact sd_1 h c hp hm
  · exact sd_2 h c hp hm
  · exact sd_3 h c hp hm
  · exact sd_4 h c hp hm
  · exact sd_5 h c hp hm
  · exact sd_6 h c hp hm
  · exact sd_7 h c hp hm
  · exact sd_8 h c hp hm
  · exact sd_9 h c hp hm
  · exact sd_10 h c hp hm
  · exact sd_11 h c hp hm
  · exact sd_12 h c hp hm
  · exact sd_13 h c hp hm
  · exact sd_14 h c hp hm
  · exact sd_15 h c hp hm
  · exact sd_16 h c hp hm
  · exact sd_17 h c hp hm
  · exact sd_18 h c hp hm
  · exact sd_19 h c hp hm
  · exact sd_20 h c hp hm
end Go.Proofs.YtelcjdblnagdgaaDoor

namespace Go.Proofs.YtelcjdblnagdgaaDoor
open Go.RowKit

set_option maxHeartbeats 4000000 in
set_option maxRecDepth 100000 in
theorem op_43 {C : Cx} {m ck : Nat} {Ak : Option Addr} {us : List UInt16} {v : Value} {w : World} (nm : List UInt8) (vs vm : Value) (nk nn : Int) (ng : Bool) {a0 : Tr} (hN : NodeC C m) (s0 : a0.size ≤ m) (hk : KidsS C w Ak [a0]) (hp : Pe C us v w) (hm : MayPut us ([nm] ++ (partP (a0.nd.kind, prT a0)))) :
    Calls Tryd.prog 71 #[.pointer (some ⟨C.g, 0, none⟩), .agg #[.int .i64 43, .string ⟨nm.toArray⟩, vs, .int .i64 nk, .int .i64 nn, .bool ng, vm, .slice Ak 1 ck]] w (PutQ C us v w ([nm] ++ (partP (a0.nd.kind, prT a0)))) := by
  obtain ⟨b, o, rfl, hka⟩ := hk (by simp)
  obtain ⟨W, hW⟩ : ∃ W, w.alloc (.cells #[.int .i64 43, .string ⟨nm.toArray⟩, vs, .int .i64 nk, .int .i64 nn, .bool ng, vm, .slice (some ⟨b, o, none⟩) 1 ck] 42) = W := ⟨_, rfl⟩
  have hb0 : Below w.heap.size w W := by rw [← hW]; exact (Below.refl _ _).alloc (Nat.le_refl _) _
  have hX1 : w.heap.size < W.heap.size := by rw [← hW]; simp
  have hXg : w.heap.size ≠ C.g := fun e => by have := hp.pn.lt; omega
  have hXv : v.ownBlock ≠ some w.heap.size := fun e => by have := (hp.pn.own.lt _ e).2; omega
  have x0 : W.cell? ⟨w.heap.size, 0, none⟩ = some (.int .i64 43) := by rw [← hW, World.cell?_alloc_at _ _ _ _ rfl]; rfl
  have x7 : W.cell? ⟨w.heap.size, 7, none⟩ = some (.slice (some ⟨b, o, none⟩) 1 ck) := by rw [← hW, World.cell?_alloc_at _ _ _ _ rfl]; rfl
  have x1 : W.cell? ⟨w.heap.size, 1, none⟩ = some (.string ⟨nm.toArray⟩) := by rw [← hW, World.cell?_alloc_at _ _ _ _ rfl]; rfl
  obtain ⟨p0, at0, bb0, cc0⟩ := (hka.below (hb0.mono (Nat.le_of_lt hp.blt))) 0 (by simp)
  have c0 : W.cell? ⟨b, o, none⟩ = some (.int .i64 (p0 : Int)) := cc0
  have AT0 : Hid (At C.ts p0 a0) := at0
  have HP0 := hide (hp.below hb0)
  have HB0 := hide hb0
  have HN := hide hN
  obtain ⟨mm1, rr1⟩ := hm.two (b := [nm]) (c := partP (a0.nd.kind, prT a0)) rfl
  have M1 := hide mm1
  have M2 := hide rr1
  obtain ⟨X, hX⟩ : ∃ X, w.heap.size = X := ⟨_, rfl⟩
  go_enter Tryd.func71, Tryd.ntmps71
  go_upto_region 1 with (fail)
  clear hm hp hb0 hN hka mm1 rr1 at0 cc0
  clear hW
  rw [hX] at x0
  rw [hX] at x7
  rw [hX] at x1
  rw [hX] at hX1 hXg hXv
  clear hX
  have C1 := hide (put_lit HP0.out [nm] 1 rfl M1.out)
  go_wp2_with fail
  refine C1.out.mono ?_
  rintro e1 w1 ⟨rfl, v1, hp1, hk1⟩
  have HP1 := hide hp1
  have HK1 := hide (hk1)
  have c0_1 := ((HP0.out.low HK1.out).cell (p := ⟨b, o, none⟩) bb0).trans c0
  have x0_1 := (HK1.out.cell (p := ⟨X, 0, none⟩) hX1 hXg hXv).trans x0
  have x7_1 := (HK1.out.cell (p := ⟨X, 7, none⟩) hX1 hXg hXv).trans x7
  have x1_1 := (HK1.out.cell (p := ⟨X, 1, none⟩) hX1 hXg hXv).trans x1
  clear hp1 hk1
  have C2 := hide (ppart_any HN.out s0 AT0.out HP1.out M2.out)
  go_wp2_with fail
  refine C2.out.mono ?_
  rintro e2 w2 ⟨rfl, v2, hp2, hk2⟩
  have HP2 := hide hp2
  have HK2 := hide (HK1.out.trans hk2)
  have x0_2 := (HK2.out.cell (p := ⟨X, 0, none⟩) hX1 hXg hXv).trans x0
  have x7_2 := (HK2.out.cell (p := ⟨X, 7, none⟩) hX1 hXg hXv).trans x7
  have x1_2 := (HK2.out.cell (p := ⟨X, 1, none⟩) hX1 hXg hXv).trans x1
  clear hp2 hk2
  go_wp2_with fail
  refine bodyPost_ret (v := .tuple #[]) (by simp [results, Tryd.results71, go_sem]) rfl ?_
  refine PutQ.back HB0.out ⟨rfl, v2, ?_, HK2.out⟩
  have := HP2.out
  simp only [← putA_app] at this
  exact this
set_option maxHeartbeats 4000000 in
set_option maxRecDepth 100000 in
theorem op_44 {C : Cx} {m ck : Nat} {Ak : Option Addr} {us : List UInt16} {v : Value} {w : World} (nm : List UInt8) (vs vm : Value) (nk nn : Int) (ng : Bool) {a0 : Tr} (hN : NodeC C m) (s0 : a0.size ≤ m) (hk : KidsS C w Ak [a0]) (hp : Pe C us v w) (hm : MayPut us ([nm] ++ (prT a0))) :
    Calls Tryd.prog 71 #[.pointer (some ⟨C.g, 0, none⟩), .agg #[.int .i64 44, .string ⟨nm.toArray⟩, vs, .int .i64 nk, .int .i64 nn, .bool ng, vm, .slice Ak 1 ck]] w (PutQ C us v w ([nm] ++ (prT a0))) := by
  obtain ⟨b, o, rfl, hka⟩ := hk (by simp)
  obtain ⟨W, hW⟩ : ∃ W, w.alloc (.cells #[.int .i64 44, .string ⟨nm.toArray⟩, vs, .int .i64 nk, .int .i64 nn, .bool ng, vm, .slice (some ⟨b, o, none⟩) 1 ck] 42) = W := ⟨_, rfl⟩
  have hb0 : Below w.heap.size w W := by rw [← hW]; exact (Below.refl _ _).alloc (Nat.le_refl _) _
  have hX1 : w.heap.size < W.heap.size := by rw [← hW]; simp
  have hXg : w.heap.size ≠ C.g := fun e => by have := hp.pn.lt; omega
  have hXv : v.ownBlock ≠ some w.heap.size := fun e => by have := (hp.pn.own.lt _ e).2; omega
  have x0 : W.cell? ⟨w.heap.size, 0, none⟩ = some (.int .i64 44) := by rw [← hW, World.cell?_alloc_at _ _ _ _ rfl]; rfl
  have x7 : W.cell? ⟨w.heap.size, 7, none⟩ = some (.slice (some ⟨b, o, none⟩) 1 ck) := by rw [← hW, World.cell?_alloc_at _ _ _ _ rfl]; rfl
  have x1 : W.cell? ⟨w.heap.size, 1, none⟩ = some (.string ⟨nm.toArray⟩) := by rw [← hW, World.cell?_alloc_at _ _ _ _ rfl]; rfl
  obtain ⟨p0, at0, bb0, cc0⟩ := (hka.below (hb0.mono (Nat.le_of_lt hp.blt))) 0 (by simp)
  have c0 : W.cell? ⟨b, o, none⟩ = some (.int .i64 (p0 : Int)) := cc0
  have AT0 : Hid (At C.ts p0 a0) := at0
  have HP0 := hide (hp.below hb0)
  have HB0 := hide hb0
  have HN := hide hN
  obtain ⟨mm1, rr1⟩ := hm.two (b := [nm]) (c := prT a0) rfl
  have M1 := hide mm1
  have M2 := hide rr1
  obtain ⟨X, hX⟩ : ∃ X, w.heap.size = X := ⟨_, rfl⟩
  go_enter Tryd.func71, Tryd.ntmps71
  go_upto_region 1 with (fail)
  clear hm hp hb0 hN hka mm1 rr1 at0 cc0
  clear hW
  rw [hX] at x0
  rw [hX] at x7
  rw [hX] at x1
  rw [hX] at hX1 hXg hXv
  clear hX
  have C1 := hide (put_lit HP0.out [nm] 1 rfl M1.out)
  go_wp2_with fail
  refine C1.out.mono ?_
  rintro e1 w1 ⟨rfl, v1, hp1, hk1⟩
  have HP1 := hide hp1
  have HK1 := hide (hk1)
  have c0_1 := ((HP0.out.low HK1.out).cell (p := ⟨b, o, none⟩) bb0).trans c0
  have x0_1 := (HK1.out.cell (p := ⟨X, 0, none⟩) hX1 hXg hXv).trans x0
  have x7_1 := (HK1.out.cell (p := ⟨X, 7, none⟩) hX1 hXg hXv).trans x7
  have x1_1 := (HK1.out.cell (p := ⟨X, 1, none⟩) hX1 hXg hXv).trans x1
  clear hp1 hk1
  have C2 := hide (HN.out a0 p0 _ v1 w1 s0 AT0.out HP1.out M2.out)
  go_wp2_with fail
  refine C2.out.mono ?_
  rintro e2 w2 ⟨rfl, v2, hp2, hk2⟩
  have HP2 := hide hp2
  have HK2 := hide (HK1.out.trans hk2)
  have x0_2 := (HK2.out.cell (p := ⟨X, 0, none⟩) hX1 hXg hXv).trans x0
  have x7_2 := (HK2.out.cell (p := ⟨X, 7, none⟩) hX1 hXg hXv).trans x7
  have x1_2 := (HK2.out.cell (p := ⟨X, 1, none⟩) hX1 hXg hXv).trans x1
  clear hp2 hk2
  go_wp2_with fail
  refine bodyPost_ret (v := .tuple #[]) (by simp [results, Tryd.results71, go_sem]) rfl ?_
  refine PutQ.back HB0.out ⟨rfl, v2, ?_, HK2.out⟩
  have := HP2.out
  simp only [← putA_app] at this
  exact this
set_option maxHeartbeats 4000000 in
set_option maxRecDepth 100000 in
theorem op_45 {C : Cx} {m ck : Nat} {Ak : Option Addr} {us : List UInt16} {v : Value} {w : World} (nm : List UInt8) (vs vm : Value) (nk nn : Int) (ng : Bool) {a0 : Tr} (hN : NodeC C m) (s0 : a0.size ≤ m) (hk : KidsS C w Ak [a0]) (hp : Pe C us v w) (hm : MayPut us ((prT a0) ++ ([nm]))) :
    Calls Tryd.prog 71 #[.pointer (some ⟨C.g, 0, none⟩), .agg #[.int .i64 45, .string ⟨nm.toArray⟩, vs, .int .i64 nk, .int .i64 nn, .bool ng, vm, .slice Ak 1 ck]] w (PutQ C us v w ((prT a0) ++ ([nm]))) := by
  obtain ⟨b, o, rfl, hka⟩ := hk (by simp)
  obtain ⟨W, hW⟩ : ∃ W, w.alloc (.cells #[.int .i64 45, .string ⟨nm.toArray⟩, vs, .int .i64 nk, .int .i64 nn, .bool ng, vm, .slice (some ⟨b, o, none⟩) 1 ck] 42) = W := ⟨_, rfl⟩
  have hb0 : Below w.heap.size w W := by rw [← hW]; exact (Below.refl _ _).alloc (Nat.le_refl _) _
  have hX1 : w.heap.size < W.heap.size := by rw [← hW]; simp
  have hXg : w.heap.size ≠ C.g := fun e => by have := hp.pn.lt; omega
  have hXv : v.ownBlock ≠ some w.heap.size := fun e => by have := (hp.pn.own.lt _ e).2; omega
  have x0 : W.cell? ⟨w.heap.size, 0, none⟩ = some (.int .i64 45) := by rw [← hW, World.cell?_alloc_at _ _ _ _ rfl]; rfl
  have x7 : W.cell? ⟨w.heap.size, 7, none⟩ = some (.slice (some ⟨b, o, none⟩) 1 ck) := by rw [← hW, World.cell?_alloc_at _ _ _ _ rfl]; rfl
  have x1 : W.cell? ⟨w.heap.size, 1, none⟩ = some (.string ⟨nm.toArray⟩) := by rw [← hW, World.cell?_alloc_at _ _ _ _ rfl]; rfl
  obtain ⟨p0, at0, bb0, cc0⟩ := (hka.below (hb0.mono (Nat.le_of_lt hp.blt))) 0 (by simp)
  have c0 : W.cell? ⟨b, o, none⟩ = some (.int .i64 (p0 : Int)) := cc0
  have AT0 : Hid (At C.ts p0 a0) := at0
  have HP0 := hide (hp.below hb0)
  have HB0 := hide hb0
  have HN := hide hN
  obtain ⟨mm1, rr1⟩ := hm.two (b := prT a0) (c := [nm]) rfl
  have M1 := hide mm1
  have M2 := hide rr1
  obtain ⟨X, hX⟩ : ∃ X, w.heap.size = X := ⟨_, rfl⟩
  go_enter Tryd.func71, Tryd.ntmps71
  go_upto_region 1 with (fail)
  clear hm hp hb0 hN hka mm1 rr1 at0 cc0
  clear hW
  rw [hX] at x0
  rw [hX] at x7
  rw [hX] at x1
  rw [hX] at hX1 hXg hXv
  clear hX
  have C1 := hide (HN.out a0 p0 _ v W s0 AT0.out HP0.out M1.out)
  go_wp2_with fail
  refine C1.out.mono ?_
  rintro e1 w1 ⟨rfl, v1, hp1, hk1⟩
  have HP1 := hide hp1
  have HK1 := hide (hk1)
  have x0_1 := (HK1.out.cell (p := ⟨X, 0, none⟩) hX1 hXg hXv).trans x0
  have x7_1 := (HK1.out.cell (p := ⟨X, 7, none⟩) hX1 hXg hXv).trans x7
  have x1_1 := (HK1.out.cell (p := ⟨X, 1, none⟩) hX1 hXg hXv).trans x1
  clear hp1 hk1
  have C2 := hide (put_lit HP1.out [nm] 1 rfl M2.out)
  go_wp2_with fail
  refine C2.out.mono ?_
  rintro e2 w2 ⟨rfl, v2, hp2, hk2⟩
  have HP2 := hide hp2
  have HK2 := hide (HK1.out.trans hk2)
  have x0_2 := (HK2.out.cell (p := ⟨X, 0, none⟩) hX1 hXg hXv).trans x0
  have x7_2 := (HK2.out.cell (p := ⟨X, 7, none⟩) hX1 hXg hXv).trans x7
  have x1_2 := (HK2.out.cell (p := ⟨X, 1, none⟩) hX1 hXg hXv).trans x1
  clear hp2 hk2
  go_wp2_with fail
  refine bodyPost_ret (v := .tuple #[]) (by simp [results, Tryd.results71, go_sem]) rfl ?_
  refine PutQ.back HB0.out ⟨rfl, v2, ?_, HK2.out⟩
  have := HP2.out
  simp only [← putA_app] at this
  exact this
set_option maxHeartbeats 4000000 in
set_option maxRecDepth 100000 in
theorem op_46 {C : Cx} {m ck : Nat} {Ak : Option Addr} {us : List UInt16} {v : Value} {w : World} (nm : List UInt8) (vs vm : Value) (nk nn : Int) (ng : Bool) {a0 a1 : Tr} (hN : NodeC C m) (s0 : a0.size ≤ m) (s1 : a1.size ≤ m) (hk : KidsS C w Ak [a0, a1]) (hp : Pe C us v w) (hm : MayPut us ((partP (a0.nd.kind, prT a0)) ++ ([nm] ++ (partP (a1.nd.kind, prT a1))))) :
    Calls Tryd.prog 71 #[.pointer (some ⟨C.g, 0, none⟩), .agg #[.int .i64 46, .string ⟨nm.toArray⟩, vs, .int .i64 nk, .int .i64 nn, .bool ng, vm, .slice Ak 2 ck]] w (PutQ C us v w ((partP (a0.nd.kind, prT a0)) ++ ([nm] ++ (partP (a1.nd.kind, prT a1))))) := by
  obtain ⟨b, o, rfl, hka⟩ := hk (by simp)
  obtain ⟨W, hW⟩ : ∃ W, w.alloc (.cells #[.int .i64 46, .string ⟨nm.toArray⟩, vs, .int .i64 nk, .int .i64 nn, .bool ng, vm, .slice (some ⟨b, o, none⟩) 2 ck] 42) = W := ⟨_, rfl⟩
  have hb0 : Below w.heap.size w W := by rw [← hW]; exact (Below.refl _ _).alloc (Nat.le_refl _) _
  have hX1 : w.heap.size < W.heap.size := by rw [← hW]; simp
  have hXg : w.heap.size ≠ C.g := fun e => by have := hp.pn.lt; omega
  have hXv : v.ownBlock ≠ some w.heap.size := fun e => by have := (hp.pn.own.lt _ e).2; omega
  have x0 : W.cell? ⟨w.heap.size, 0, none⟩ = some (.int .i64 46) := by rw [← hW, World.cell?_alloc_at _ _ _ _ rfl]; rfl
  have x7 : W.cell? ⟨w.heap.size, 7, none⟩ = some (.slice (some ⟨b, o, none⟩) 2 ck) := by rw [← hW, World.cell?_alloc_at _ _ _ _ rfl]; rfl
  have x1 : W.cell? ⟨w.heap.size, 1, none⟩ = some (.string ⟨nm.toArray⟩) := by rw [← hW, World.cell?_alloc_at _ _ _ _ rfl]; rfl
  obtain ⟨p0, at0, bb0, cc0⟩ := (hka.below (hb0.mono (Nat.le_of_lt hp.blt))) 0 (by simp)
  have c0 : W.cell? ⟨b, o, none⟩ = some (.int .i64 (p0 : Int)) := cc0
  have AT0 : Hid (At C.ts p0 a0) := at0
  obtain ⟨p1, at1, bb1, cc1⟩ := (hka.below (hb0.mono (Nat.le_of_lt hp.blt))) 1 (by simp)
  have c1 : W.cell? ⟨b, o + 1, none⟩ = some (.int .i64 (p1 : Int)) := cc1
  have AT1 : Hid (At C.ts p1 a1) := at1
  have HP0 := hide (hp.below hb0)
  have HB0 := hide hb0
  have HN := hide hN
  obtain ⟨mm1, rr1⟩ := hm.two (b := partP (a0.nd.kind, prT a0)) (c := [nm] ++ (partP (a1.nd.kind, prT a1))) rfl
  have M1 := hide mm1
  obtain ⟨mm2, rr2⟩ := rr1.two (b := [nm]) (c := partP (a1.nd.kind, prT a1)) rfl
  have M2 := hide mm2
  have M3 := hide rr2
  obtain ⟨X, hX⟩ : ∃ X, w.heap.size = X := ⟨_, rfl⟩
  go_enter Tryd.func71, Tryd.ntmps71
  go_upto_region 1 with (fail)
  clear hm hp hb0 hN hka mm1 rr1 mm2 rr2 at0 cc0 at1 cc1
  clear hW
  rw [hX] at x0
  rw [hX] at x7
  rw [hX] at x1
  rw [hX] at hX1 hXg hXv
  clear hX
  have C1 := hide (ppart_any HN.out s0 AT0.out HP0.out M1.out)
  go_wp2_with fail
  refine C1.out.mono ?_
  rintro e1 w1 ⟨rfl, v1, hp1, hk1⟩
  have HP1 := hide hp1
  have HK1 := hide (hk1)
  have c1_1 := ((HP0.out.low HK1.out).cell (p := ⟨b, o + 1, none⟩) bb1).trans c1
  have x0_1 := (HK1.out.cell (p := ⟨X, 0, none⟩) hX1 hXg hXv).trans x0
  have x7_1 := (HK1.out.cell (p := ⟨X, 7, none⟩) hX1 hXg hXv).trans x7
  have x1_1 := (HK1.out.cell (p := ⟨X, 1, none⟩) hX1 hXg hXv).trans x1
  clear hp1 hk1
  have C2 := hide (put_lit HP1.out [nm] 1 rfl M2.out)
  go_wp2_with fail
  refine C2.out.mono ?_
  rintro e2 w2 ⟨rfl, v2, hp2, hk2⟩
  have HP2 := hide hp2
  have HK2 := hide (HK1.out.trans hk2)
  have c1_2 := ((HP0.out.low HK2.out).cell (p := ⟨b, o + 1, none⟩) bb1).trans c1
  have x0_2 := (HK2.out.cell (p := ⟨X, 0, none⟩) hX1 hXg hXv).trans x0
  have x7_2 := (HK2.out.cell (p := ⟨X, 7, none⟩) hX1 hXg hXv).trans x7
  have x1_2 := (HK2.out.cell (p := ⟨X, 1, none⟩) hX1 hXg hXv).trans x1
  clear hp2 hk2
  have C3 := hide (ppart_any HN.out s1 AT1.out HP2.out M3.out)
  go_wp2_with fail
  refine C3.out.mono ?_
  rintro e3 w3 ⟨rfl, v3, hp3, hk3⟩
  have HP3 := hide hp3
  have HK3 := hide (HK2.out.trans hk3)
  have x0_3 := (HK3.out.cell (p := ⟨X, 0, none⟩) hX1 hXg hXv).trans x0
  have x7_3 := (HK3.out.cell (p := ⟨X, 7, none⟩) hX1 hXg hXv).trans x7
  have x1_3 := (HK3.out.cell (p := ⟨X, 1, none⟩) hX1 hXg hXv).trans x1
  clear hp3 hk3
  go_wp2_with fail
  refine bodyPost_ret (v := .tuple #[]) (by simp [results, Tryd.results71, go_sem]) rfl ?_
  refine PutQ.back HB0.out ⟨rfl, v3, ?_, HK3.out⟩
  have := HP3.out
  simp only [← putA_app, List.append_assoc] at this
  exact this
set_option maxHeartbeats 4000000 in
set_option maxRecDepth 100000 in
theorem op_47 {C : Cx} {m ck : Nat} {Ak : Option Addr} {us : List UInt16} {v : Value} {w : World} (nm : List UInt8) (vs vm : Value) (nk nn : Int) (ng : Bool) {a0 a1 : Tr} (hN : NodeC C m) (s0 : a0.size ≤ m) (s1 : a1.size ≤ m) (hk : KidsS C w Ak [a0, a1]) (hp : Pe C us v w) (hm : MayPut us ((partP (a0.nd.kind, prT a0)) ++ ([nm] ++ (partP (a1.nd.kind, prT a1))))) :
    Calls Tryd.prog 71 #[.pointer (some ⟨C.g, 0, none⟩), .agg #[.int .i64 47, .string ⟨nm.toArray⟩, vs, .int .i64 nk, .int .i64 nn, .bool ng, vm, .slice Ak 2 ck]] w (PutQ C us v w ((partP (a0.nd.kind, prT a0)) ++ ([nm] ++ (partP (a1.nd.kind, prT a1))))) := by
  obtain ⟨b, o, rfl, hka⟩ := hk (by simp)
  obtain ⟨W, hW⟩ : ∃ W, w.alloc (.cells #[.int .i64 47, .string ⟨nm.toArray⟩, vs, .int .i64 nk, .int .i64 nn, .bool ng, vm, .slice (some ⟨b, o, none⟩) 2 ck] 42) = W := ⟨_, rfl⟩
  have hb0 : Below w.heap.size w W := by rw [← hW]; exact (Below.refl _ _).alloc (Nat.le_refl _) _
  have hX1 : w.heap.size < W.heap.size := by rw [← hW]; simp
  have hXg : w.heap.size ≠ C.g := fun e => by have := hp.pn.lt; omega
  have hXv : v.ownBlock ≠ some w.heap.size := fun e => by have := (hp.pn.own.lt _ e).2; omega
  have x0 : W.cell? ⟨w.heap.size, 0, none⟩ = some (.int .i64 47) := by rw [← hW, World.cell?_alloc_at _ _ _ _ rfl]; rfl
  have x7 : W.cell? ⟨w.heap.size, 7, none⟩ = some (.slice (some ⟨b, o, none⟩) 2 ck) := by rw [← hW, World.cell?_alloc_at _ _ _ _ rfl]; rfl
  have x1 : W.cell? ⟨w.heap.size, 1, none⟩ = some (.string ⟨nm.toArray⟩) := by rw [← hW, World.cell?_alloc_at _ _ _ _ rfl]; rfl
  obtain ⟨p0, at0, bb0, cc0⟩ := (hka.below (hb0.mono (Nat.le_of_lt hp.blt))) 0 (by simp)
  have c0 : W.cell? ⟨b, o, none⟩ = some (.int .i64 (p0 : Int)) := cc0
  have AT0 : Hid (At C.ts p0 a0) := at0
  obtain ⟨p1, at1, bb1, cc1⟩ := (hka.below (hb0.mono (Nat.le_of_lt hp.blt))) 1 (by simp)
  have c1 : W.cell? ⟨b, o + 1, none⟩ = some (.int .i64 (p1 : Int)) := cc1
  have AT1 : Hid (At C.ts p1 a1) := at1
  have HP0 := hide (hp.below hb0)
  have HB0 := hide hb0
  have HN := hide hN
  obtain ⟨mm1, rr1⟩ := hm.two (b := partP (a0.nd.kind, prT a0)) (c := [nm] ++ (partP (a1.nd.kind, prT a1))) rfl
  have M1 := hide mm1
  obtain ⟨mm2, rr2⟩ := rr1.two (b := [nm]) (c := partP (a1.nd.kind, prT a1)) rfl
  have M2 := hide mm2
  have M3 := hide rr2
  obtain ⟨X, hX⟩ : ∃ X, w.heap.size = X := ⟨_, rfl⟩
  go_enter Tryd.func71, Tryd.ntmps71
  go_upto_region 1 with (fail)
  clear hm hp hb0 hN hka mm1 rr1 mm2 rr2 at0 cc0 at1 cc1
  clear hW
  rw [hX] at x0
  rw [hX] at x7
  rw [hX] at x1
  rw [hX] at hX1 hXg hXv
  clear hX
  have C1 := hide (ppart_any HN.out s0 AT0.out HP0.out M1.out)
  go_wp2_with fail
  refine C1.out.mono ?_
  rintro e1 w1 ⟨rfl, v1, hp1, hk1⟩
  have HP1 := hide hp1
  have HK1 := hide (hk1)
  have c1_1 := ((HP0.out.low HK1.out).cell (p := ⟨b, o + 1, none⟩) bb1).trans c1
  have x0_1 := (HK1.out.cell (p := ⟨X, 0, none⟩) hX1 hXg hXv).trans x0
  have x7_1 := (HK1.out.cell (p := ⟨X, 7, none⟩) hX1 hXg hXv).trans x7
  have x1_1 := (HK1.out.cell (p := ⟨X, 1, none⟩) hX1 hXg hXv).trans x1
  clear hp1 hk1
  have C2 := hide (put_lit HP1.out [nm] 1 rfl M2.out)
  go_wp2_with fail
  refine C2.out.mono ?_
  rintro e2 w2 ⟨rfl, v2, hp2, hk2⟩
  have HP2 := hide hp2
  have HK2 := hide (HK1.out.trans hk2)
  have c1_2 := ((HP0.out.low HK2.out).cell (p := ⟨b, o + 1, none⟩) bb1).trans c1
  have x0_2 := (HK2.out.cell (p := ⟨X, 0, none⟩) hX1 hXg hXv).trans x0
  have x7_2 := (HK2.out.cell (p := ⟨X, 7, none⟩) hX1 hXg hXv).trans x7
  have x1_2 := (HK2.out.cell (p := ⟨X, 1, none⟩) hX1 hXg hXv).trans x1
  clear hp2 hk2
  have C3 := hide (ppart_any HN.out s1 AT1.out HP2.out M3.out)
  go_wp2_with fail
  refine C3.out.mono ?_
  rintro e3 w3 ⟨rfl, v3, hp3, hk3⟩
  have HP3 := hide hp3
  have HK3 := hide (HK2.out.trans hk3)
  have x0_3 := (HK3.out.cell (p := ⟨X, 0, none⟩) hX1 hXg hXv).trans x0
  have x7_3 := (HK3.out.cell (p := ⟨X, 7, none⟩) hX1 hXg hXv).trans x7
  have x1_3 := (HK3.out.cell (p := ⟨X, 1, none⟩) hX1 hXg hXv).trans x1
  clear hp3 hk3
  go_wp2_with fail
  refine bodyPost_ret (v := .tuple #[]) (by simp [results, Tryd.results71, go_sem]) rfl ?_
  refine PutQ.back HB0.out ⟨rfl, v3, ?_, HK3.out⟩
  have := HP3.out
  simp only [← putA_app, List.append_assoc] at this
  exact this
set_option maxHeartbeats 4000000 in
set_option maxRecDepth 100000 in
theorem op_48 {C : Cx} {m ck : Nat} {Ak : Option Addr} {us : List UInt16} {v : Value} {w : World} (nm : List UInt8) (vs vm : Value) (nk nn : Int) (ng : Bool) {a0 a1 a2 : Tr} (hN : NodeC C m) (s0 : a0.size ≤ m) (s1 : a1.size ≤ m) (s2 : a2.size ≤ m) (hk : KidsS C w Ak [a0, a1, a2]) (hp : Pe C us v w) (hm : MayPut us ((partP (a0.nd.kind, prT a0)) ++ ([[63]] ++ ((partP (a1.nd.kind, prT a1)) ++ ([[58]] ++ (partP (a2.nd.kind, prT a2))))))) :
    Calls Tryd.prog 71 #[.pointer (some ⟨C.g, 0, none⟩), .agg #[.int .i64 48, .string ⟨nm.toArray⟩, vs, .int .i64 nk, .int .i64 nn, .bool ng, vm, .slice Ak 3 ck]] w (PutQ C us v w ((partP (a0.nd.kind, prT a0)) ++ ([[63]] ++ ((partP (a1.nd.kind, prT a1)) ++ ([[58]] ++ (partP (a2.nd.kind, prT a2))))))) := by
  obtain ⟨b, o, rfl, hka⟩ := hk (by simp)
  obtain ⟨W, hW⟩ : ∃ W, w.alloc (.cells #[.int .i64 48, .string ⟨nm.toArray⟩, vs, .int .i64 nk, .int .i64 nn, .bool ng, vm, .slice (some ⟨b, o, none⟩) 3 ck] 42) = W := ⟨_, rfl⟩
  have hb0 : Below w.heap.size w W := by rw [← hW]; exact (Below.refl _ _).alloc (Nat.le_refl _) _
  have hX1 : w.heap.size < W.heap.size := by rw [← hW]; simp
  have hXg : w.heap.size ≠ C.g := fun e => by have := hp.pn.lt; omega
  have hXv : v.ownBlock ≠ some w.heap.size := fun e => by have := (hp.pn.own.lt _ e).2; omega
  have x0 : W.cell? ⟨w.heap.size, 0, none⟩ = some (.int .i64 48) := by rw [← hW, World.cell?_alloc_at _ _ _ _ rfl]; rfl
  have x7 : W.cell? ⟨w.heap.size, 7, none⟩ = some (.slice (some ⟨b, o, none⟩) 3 ck) := by rw [← hW, World.cell?_alloc_at _ _ _ _ rfl]; rfl
  obtain ⟨p0, at0, bb0, cc0⟩ := (hka.below (hb0.mono (Nat.le_of_lt hp.blt))) 0 (by simp)
  have c0 : W.cell? ⟨b, o, none⟩ = some (.int .i64 (p0 : Int)) := cc0
  have AT0 : Hid (At C.ts p0 a0) := at0
  obtain ⟨p1, at1, bb1, cc1⟩ := (hka.below (hb0.mono (Nat.le_of_lt hp.blt))) 1 (by simp)
  have c1 : W.cell? ⟨b, o + 1, none⟩ = some (.int .i64 (p1 : Int)) := cc1
  have AT1 : Hid (At C.ts p1 a1) := at1
  obtain ⟨p2, at2, bb2, cc2⟩ := (hka.below (hb0.mono (Nat.le_of_lt hp.blt))) 2 (by simp)
  have c2 : W.cell? ⟨b, o + 2, none⟩ = some (.int .i64 (p2 : Int)) := cc2
  have AT2 : Hid (At C.ts p2 a2) := at2
  have HP0 := hide (hp.below hb0)
  have HB0 := hide hb0
  have HN := hide hN
  obtain ⟨mm1, rr1⟩ := hm.two (b := partP (a0.nd.kind, prT a0)) (c := [[63]] ++ ((partP (a1.nd.kind, prT a1)) ++ ([[58]] ++ (partP (a2.nd.kind, prT a2))))) rfl
  have M1 := hide mm1
  obtain ⟨mm2, rr2⟩ := rr1.two (b := [[63]]) (c := (partP (a1.nd.kind, prT a1)) ++ ([[58]] ++ (partP (a2.nd.kind, prT a2)))) rfl
  have M2 := hide mm2
  obtain ⟨mm3, rr3⟩ := rr2.two (b := partP (a1.nd.kind, prT a1)) (c := [[58]] ++ (partP (a2.nd.kind, prT a2))) rfl
  have M3 := hide mm3
  obtain ⟨mm4, rr4⟩ := rr3.two (b := [[58]]) (c := partP (a2.nd.kind, prT a2)) rfl
  have M4 := hide mm4
  have M5 := hide rr4
  obtain ⟨X, hX⟩ : ∃ X, w.heap.size = X := ⟨_, rfl⟩
  go_enter Tryd.func71, Tryd.ntmps71
  go_upto_region 1 with (fail)
  clear hm hp hb0 hN hka mm1 rr1 mm2 rr2 mm3 rr3 mm4 rr4 at0 cc0 at1 cc1 at2 cc2
  clear hW
  rw [hX] at x0
  rw [hX] at x7
  rw [hX] at hX1 hXg hXv
  clear hX
  have C1 := hide (ppart_any HN.out s0 AT0.out HP0.out M1.out)
  go_wp2_with fail
  refine C1.out.mono ?_
  rintro e1 w1 ⟨rfl, v1, hp1, hk1⟩
  have HP1 := hide hp1
  have HK1 := hide (hk1)
  have c1_1 := ((HP0.out.low HK1.out).cell (p := ⟨b, o + 1, none⟩) bb1).trans c1
  have c2_1 := ((HP0.out.low HK1.out).cell (p := ⟨b, o + 2, none⟩) bb2).trans c2
  have x0_1 := (HK1.out.cell (p := ⟨X, 0, none⟩) hX1 hXg hXv).trans x0
  have x7_1 := (HK1.out.cell (p := ⟨X, 7, none⟩) hX1 hXg hXv).trans x7
  clear hp1 hk1
  have C2 := hide (put_lit HP1.out [[63]] 1 rfl M2.out)
  go_wp2_with fail
  refine C2.out.mono ?_
  rintro e2 w2 ⟨rfl, v2, hp2, hk2⟩
  have HP2 := hide hp2
  have HK2 := hide (HK1.out.trans hk2)
  have c1_2 := ((HP0.out.low HK2.out).cell (p := ⟨b, o + 1, none⟩) bb1).trans c1
  have c2_2 := ((HP0.out.low HK2.out).cell (p := ⟨b, o + 2, none⟩) bb2).trans c2
  have x0_2 := (HK2.out.cell (p := ⟨X, 0, none⟩) hX1 hXg hXv).trans x0
  have x7_2 := (HK2.out.cell (p := ⟨X, 7, none⟩) hX1 hXg hXv).trans x7
  clear hp2 hk2
  have C3 := hide (ppart_any HN.out s1 AT1.out HP2.out M3.out)
  go_wp2_with fail
  refine C3.out.mono ?_
  rintro e3 w3 ⟨rfl, v3, hp3, hk3⟩
  have HP3 := hide hp3
  have HK3 := hide (HK2.out.trans hk3)
  have c2_3 := ((HP0.out.low HK3.out).cell (p := ⟨b, o + 2, none⟩) bb2).trans c2
  have x0_3 := (HK3.out.cell (p := ⟨X, 0, none⟩) hX1 hXg hXv).trans x0
  have x7_3 := (HK3.out.cell (p := ⟨X, 7, none⟩) hX1 hXg hXv).trans x7
  clear hp3 hk3
  have C4 := hide (put_lit HP3.out [[58]] 1 rfl M4.out)
  go_wp2_with fail
  refine C4.out.mono ?_
  rintro e4 w4 ⟨rfl, v4, hp4, hk4⟩
  have HP4 := hide hp4
  have HK4 := hide (HK3.out.trans hk4)
  have c2_4 := ((HP0.out.low HK4.out).cell (p := ⟨b, o + 2, none⟩) bb2).trans c2
  have x0_4 := (HK4.out.cell (p := ⟨X, 0, none⟩) hX1 hXg hXv).trans x0
  have x7_4 := (HK4.out.cell (p := ⟨X, 7, none⟩) hX1 hXg hXv).trans x7
  clear hp4 hk4
  have C5 := hide (ppart_any HN.out s2 AT2.out HP4.out M5.out)
  go_wp2_with fail
  refine C5.out.mono ?_
  rintro e5 w5 ⟨rfl, v5, hp5, hk5⟩
  have HP5 := hide hp5
  have HK5 := hide (HK4.out.trans hk5)
  have x0_5 := (HK5.out.cell (p := ⟨X, 0, none⟩) hX1 hXg hXv).trans x0
  have x7_5 := (HK5.out.cell (p := ⟨X, 7, none⟩) hX1 hXg hXv).trans x7
  clear hp5 hk5
  go_wp2_with fail
  refine bodyPost_ret (v := .tuple #[]) (by simp [results, Tryd.results71, go_sem]) rfl ?_
  refine PutQ.back HB0.out ⟨rfl, v5, ?_, HK5.out⟩
  have := HP5.out
  simp only [← putA_app, List.append_assoc] at this
  exact this
set_option maxHeartbeats 4000000 in
set_option maxRecDepth 100000 in
theorem op_49 {C : Cx} {m ck : Nat} {Ak : Option Addr} {us : List UInt16} {v : Value} {w : World} (nm : List UInt8) (vs vm : Value) (nk nn : Int) (ng : Bool) {a0 a1 : Tr} (hN : NodeC C m) (s0 : a0.size ≤ m) (s1 : a1.size ≤ m) (hk : KidsS C w Ak [a0, a1]) (hp : Pe C us v w) (hm : MayPut us ((prT a0) ++ ([nm] ++ (partP (a1.nd.kind, prT a1))))) :
    Calls Tryd.prog 71 #[.pointer (some ⟨C.g, 0, none⟩), .agg #[.int .i64 49, .string ⟨nm.toArray⟩, vs, .int .i64 nk, .int .i64 nn, .bool ng, vm, .slice Ak 2 ck]] w (PutQ C us v w ((prT a0) ++ ([nm] ++ (partP (a1.nd.kind, prT a1))))) := by
  obtain ⟨b, o, rfl, hka⟩ := hk (by simp)
  obtain ⟨W, hW⟩ : ∃ W, w.alloc (.cells #[.int .i64 49, .string ⟨nm.toArray⟩, vs, .int .i64 nk, .int .i64 nn, .bool ng, vm, .slice (some ⟨b, o, none⟩) 2 ck] 42) = W := ⟨_, rfl⟩
  have hb0 : Below w.heap.size w W := by rw [← hW]; exact (Below.refl _ _).alloc (Nat.le_refl _) _
  have hX1 : w.heap.size < W.heap.size := by rw [← hW]; simp
  have hXg : w.heap.size ≠ C.g := fun e => by have := hp.pn.lt; omega
  have hXv : v.ownBlock ≠ some w.heap.size := fun e => by have := (hp.pn.own.lt _ e).2; omega
  have x0 : W.cell? ⟨w.heap.size, 0, none⟩ = some (.int .i64 49) := by rw [← hW, World.cell?_alloc_at _ _ _ _ rfl]; rfl
  have x7 : W.cell? ⟨w.heap.size, 7, none⟩ = some (.slice (some ⟨b, o, none⟩) 2 ck) := by rw [← hW, World.cell?_alloc_at _ _ _ _ rfl]; rfl
  have x1 : W.cell? ⟨w.heap.size, 1, none⟩ = some (.string ⟨nm.toArray⟩) := by rw [← hW, World.cell?_alloc_at _ _ _ _ rfl]; rfl
  obtain ⟨p0, at0, bb0, cc0⟩ := (hka.below (hb0.mono (Nat.le_of_lt hp.blt))) 0 (by simp)
  have c0 : W.cell? ⟨b, o, none⟩ = some (.int .i64 (p0 : Int)) := cc0
  have AT0 : Hid (At C.ts p0 a0) := at0
  obtain ⟨p1, at1, bb1, cc1⟩ := (hka.below (hb0.mono (Nat.le_of_lt hp.blt))) 1 (by simp)
  have c1 : W.cell? ⟨b, o + 1, none⟩ = some (.int .i64 (p1 : Int)) := cc1
  have AT1 : Hid (At C.ts p1 a1) := at1
  have HP0 := hide (hp.below hb0)
  have HB0 := hide hb0
  have HN := hide hN
  obtain ⟨mm1, rr1⟩ := hm.two (b := prT a0) (c := [nm] ++ (partP (a1.nd.kind, prT a1))) rfl
  have M1 := hide mm1
  obtain ⟨mm2, rr2⟩ := rr1.two (b := [nm]) (c := partP (a1.nd.kind, prT a1)) rfl
  have M2 := hide mm2
  have M3 := hide rr2
  obtain ⟨X, hX⟩ : ∃ X, w.heap.size = X := ⟨_, rfl⟩
  go_enter Tryd.func71, Tryd.ntmps71
  go_upto_region 1 with (fail)
  clear hm hp hb0 hN hka mm1 rr1 mm2 rr2 at0 cc0 at1 cc1
  clear hW
  rw [hX] at x0
  rw [hX] at x7
  rw [hX] at x1
  rw [hX] at hX1 hXg hXv
  clear hX
  have C1 := hide (HN.out a0 p0 _ v W s0 AT0.out HP0.out M1.out)
  go_wp2_with fail
  refine C1.out.mono ?_
  rintro e1 w1 ⟨rfl, v1, hp1, hk1⟩
  have HP1 := hide hp1
  have HK1 := hide (hk1)
  have c1_1 := ((HP0.out.low HK1.out).cell (p := ⟨b, o + 1, none⟩) bb1).trans c1
  have x0_1 := (HK1.out.cell (p := ⟨X, 0, none⟩) hX1 hXg hXv).trans x0
  have x7_1 := (HK1.out.cell (p := ⟨X, 7, none⟩) hX1 hXg hXv).trans x7
  have x1_1 := (HK1.out.cell (p := ⟨X, 1, none⟩) hX1 hXg hXv).trans x1
  clear hp1 hk1
  have C2 := hide (put_lit HP1.out [nm] 1 rfl M2.out)
  go_wp2_with fail
  refine C2.out.mono ?_
  rintro e2 w2 ⟨rfl, v2, hp2, hk2⟩
  have HP2 := hide hp2
  have HK2 := hide (HK1.out.trans hk2)
  have c1_2 := ((HP0.out.low HK2.out).cell (p := ⟨b, o + 1, none⟩) bb1).trans c1
  have x0_2 := (HK2.out.cell (p := ⟨X, 0, none⟩) hX1 hXg hXv).trans x0
  have x7_2 := (HK2.out.cell (p := ⟨X, 7, none⟩) hX1 hXg hXv).trans x7
  have x1_2 := (HK2.out.cell (p := ⟨X, 1, none⟩) hX1 hXg hXv).trans x1
  clear hp2 hk2
  have C3 := hide (ppart_any HN.out s1 AT1.out HP2.out M3.out)
  go_wp2_with fail
  refine C3.out.mono ?_
  rintro e3 w3 ⟨rfl, v3, hp3, hk3⟩
  have HP3 := hide hp3
  have HK3 := hide (HK2.out.trans hk3)
  have x0_3 := (HK3.out.cell (p := ⟨X, 0, none⟩) hX1 hXg hXv).trans x0
  have x7_3 := (HK3.out.cell (p := ⟨X, 7, none⟩) hX1 hXg hXv).trans x7
  have x1_3 := (HK3.out.cell (p := ⟨X, 1, none⟩) hX1 hXg hXv).trans x1
  clear hp3 hk3
  go_wp2_with fail
  refine bodyPost_ret (v := .tuple #[]) (by simp [results, Tryd.results71, go_sem]) rfl ?_
  refine PutQ.back HB0.out ⟨rfl, v3, ?_, HK3.out⟩
  have := HP3.out
  simp only [← putA_app, List.append_assoc] at this
  exact this
set_option maxHeartbeats 4000000 in
set_option maxRecDepth 100000 in
theorem op_52 {C : Cx} {m ck : Nat} {Ak : Option Addr} {us : List UInt16} {v : Value} {w : World} (nm : List UInt8) (vs vm : Value) (nk nn : Int) (ng : Bool) {a0 : Tr} (hN : NodeC C m) (s0 : a0.size ≤ m) (hk : KidsS C w Ak [a0]) (hp : Pe C us v w) (hm : MayPut us ((partP (a0.nd.kind, prT a0)) ++ ([[46], nm]))) :
    Calls Tryd.prog 71 #[.pointer (some ⟨C.g, 0, none⟩), .agg #[.int .i64 52, .string ⟨nm.toArray⟩, vs, .int .i64 nk, .int .i64 nn, .bool ng, vm, .slice Ak 1 ck]] w (PutQ C us v w ((partP (a0.nd.kind, prT a0)) ++ ([[46], nm]))) := by
  obtain ⟨b, o, rfl, hka⟩ := hk (by simp)
  obtain ⟨W, hW⟩ : ∃ W, w.alloc (.cells #[.int .i64 52, .string ⟨nm.toArray⟩, vs, .int .i64 nk, .int .i64 nn, .bool ng, vm, .slice (some ⟨b, o, none⟩) 1 ck] 42) = W := ⟨_, rfl⟩
  have hb0 : Below w.heap.size w W := by rw [← hW]; exact (Below.refl _ _).alloc (Nat.le_refl _) _
  have hX1 : w.heap.size < W.heap.size := by rw [← hW]; simp
  have hXg : w.heap.size ≠ C.g := fun e => by have := hp.pn.lt; omega
  have hXv : v.ownBlock ≠ some w.heap.size := fun e => by have := (hp.pn.own.lt _ e).2; omega
  have x0 : W.cell? ⟨w.heap.size, 0, none⟩ = some (.int .i64 52) := by rw [← hW, World.cell?_alloc_at _ _ _ _ rfl]; rfl
  have x7 : W.cell? ⟨w.heap.size, 7, none⟩ = some (.slice (some ⟨b, o, none⟩) 1 ck) := by rw [← hW, World.cell?_alloc_at _ _ _ _ rfl]; rfl
  have x1 : W.cell? ⟨w.heap.size, 1, none⟩ = some (.string ⟨nm.toArray⟩) := by rw [← hW, World.cell?_alloc_at _ _ _ _ rfl]; rfl
  obtain ⟨p0, at0, bb0, cc0⟩ := (hka.below (hb0.mono (Nat.le_of_lt hp.blt))) 0 (by simp)
  have c0 : W.cell? ⟨b, o, none⟩ = some (.int .i64 (p0 : Int)) := cc0
  have AT0 : Hid (At C.ts p0 a0) := at0
  have HP0 := hide (hp.below hb0)
  have HB0 := hide hb0
  have HN := hide hN
  obtain ⟨mm1, rr1⟩ := hm.two (b := partP (a0.nd.kind, prT a0)) (c := [[46], nm]) rfl
  have M1 := hide mm1
  have M2 := hide rr1
  obtain ⟨X, hX⟩ : ∃ X, w.heap.size = X := ⟨_, rfl⟩
  go_enter Tryd.func71, Tryd.ntmps71
  go_upto_region 1 with (fail)
  clear hm hp hb0 hN hka mm1 rr1 at0 cc0
  clear hW
  rw [hX] at x0
  rw [hX] at x7
  rw [hX] at x1
  rw [hX] at hX1 hXg hXv
  clear hX
  have C1 := hide (ppart_any HN.out s0 AT0.out HP0.out M1.out)
  go_wp2_with fail
  refine C1.out.mono ?_
  rintro e1 w1 ⟨rfl, v1, hp1, hk1⟩
  have HP1 := hide hp1
  have HK1 := hide (hk1)
  have x0_1 := (HK1.out.cell (p := ⟨X, 0, none⟩) hX1 hXg hXv).trans x0
  have x7_1 := (HK1.out.cell (p := ⟨X, 7, none⟩) hX1 hXg hXv).trans x7
  have x1_1 := (HK1.out.cell (p := ⟨X, 1, none⟩) hX1 hXg hXv).trans x1
  clear hp1 hk1
  have C2 := hide (put_lit HP1.out [[46], nm] 2 rfl M2.out)
  go_wp2_with fail
  refine C2.out.mono ?_
  rintro e2 w2 ⟨rfl, v2, hp2, hk2⟩
  have HP2 := hide hp2
  have HK2 := hide (HK1.out.trans hk2)
  have x0_2 := (HK2.out.cell (p := ⟨X, 0, none⟩) hX1 hXg hXv).trans x0
  have x7_2 := (HK2.out.cell (p := ⟨X, 7, none⟩) hX1 hXg hXv).trans x7
  have x1_2 := (HK2.out.cell (p := ⟨X, 1, none⟩) hX1 hXg hXv).trans x1
  clear hp2 hk2
  go_wp2_with fail
  refine bodyPost_ret (v := .tuple #[]) (by simp [results, Tryd.results71, go_sem]) rfl ?_
  refine PutQ.back HB0.out ⟨rfl, v2, ?_, HK2.out⟩
  have := HP2.out
  simp only [← putA_app] at this
  exact this
set_option maxHeartbeats 4000000 in
set_option maxRecDepth 100000 in
theorem op_53 {C : Cx} {m ck : Nat} {Ak : Option Addr} {us : List UInt16} {v : Value} {w : World} (nm : List UInt8) (vs vm : Value) (nk nn : Int) (ng : Bool) {a0 a1 : Tr} (hN : NodeC C m) (s0 : a0.size ≤ m) (s1 : a1.size ≤ m) (hk : KidsS C w Ak [a0, a1]) (hp : Pe C us v w) (hm : MayPut us ((partP (a0.nd.kind, prT a0)) ++ ([[91]] ++ ((partP (a1.nd.kind, prT a1)) ++ ([[93]]))))) :
    Calls Tryd.prog 71 #[.pointer (some ⟨C.g, 0, none⟩), .agg #[.int .i64 53, .string ⟨nm.toArray⟩, vs, .int .i64 nk, .int .i64 nn, .bool ng, vm, .slice Ak 2 ck]] w (PutQ C us v w ((partP (a0.nd.kind, prT a0)) ++ ([[91]] ++ ((partP (a1.nd.kind, prT a1)) ++ ([[93]]))))) := by
  obtain ⟨b, o, rfl, hka⟩ := hk (by simp)
  obtain ⟨W, hW⟩ : ∃ W, w.alloc (.cells #[.int .i64 53, .string ⟨nm.toArray⟩, vs, .int .i64 nk, .int .i64 nn, .bool ng, vm, .slice (some ⟨b, o, none⟩) 2 ck] 42) = W := ⟨_, rfl⟩
  have hb0 : Below w.heap.size w W := by rw [← hW]; exact (Below.refl _ _).alloc (Nat.le_refl _) _
  have hX1 : w.heap.size < W.heap.size := by rw [← hW]; simp
  have hXg : w.heap.size ≠ C.g := fun e => by have := hp.pn.lt; omega
  have hXv : v.ownBlock ≠ some w.heap.size := fun e => by have := (hp.pn.own.lt _ e).2; omega
  have x0 : W.cell? ⟨w.heap.size, 0, none⟩ = some (.int .i64 53) := by rw [← hW, World.cell?_alloc_at _ _ _ _ rfl]; rfl
  have x7 : W.cell? ⟨w.heap.size, 7, none⟩ = some (.slice (some ⟨b, o, none⟩) 2 ck) := by rw [← hW, World.cell?_alloc_at _ _ _ _ rfl]; rfl
  obtain ⟨p0, at0, bb0, cc0⟩ := (hka.below (hb0.mono (Nat.le_of_lt hp.blt))) 0 (by simp)
  have c0 : W.cell? ⟨b, o, none⟩ = some (.int .i64 (p0 : Int)) := cc0
  have AT0 : Hid (At C.ts p0 a0) := at0
  obtain ⟨p1, at1, bb1, cc1⟩ := (hka.below (hb0.mono (Nat.le_of_lt hp.blt))) 1 (by simp)
  have c1 : W.cell? ⟨b, o + 1, none⟩ = some (.int .i64 (p1 : Int)) := cc1
  have AT1 : Hid (At C.ts p1 a1) := at1
  have HP0 := hide (hp.below hb0)
  have HB0 := hide hb0
  have HN := hide hN
  obtain ⟨mm1, rr1⟩ := hm.two (b := partP (a0.nd.kind, prT a0)) (c := [[91]] ++ ((partP (a1.nd.kind, prT a1)) ++ ([[93]]))) rfl
  have M1 := hide mm1
  obtain ⟨mm2, rr2⟩ := rr1.two (b := [[91]]) (c := (partP (a1.nd.kind, prT a1)) ++ ([[93]])) rfl
  have M2 := hide mm2
  obtain ⟨mm3, rr3⟩ := rr2.two (b := partP (a1.nd.kind, prT a1)) (c := [[93]]) rfl
  have M3 := hide mm3
  have M4 := hide rr3
  obtain ⟨X, hX⟩ : ∃ X, w.heap.size = X := ⟨_, rfl⟩
  go_enter Tryd.func71, Tryd.ntmps71
  go_upto_region 1 with (fail)
  clear hm hp hb0 hN hka mm1 rr1 mm2 rr2 mm3 rr3 at0 cc0 at1 cc1
  clear hW
  rw [hX] at x0
  rw [hX] at x7
  rw [hX] at hX1 hXg hXv
  clear hX
  have C1 := hide (ppart_any HN.out s0 AT0.out HP0.out M1.out)
  go_wp2_with fail
  refine C1.out.mono ?_
  rintro e1 w1 ⟨rfl, v1, hp1, hk1⟩
  have HP1 := hide hp1
  have HK1 := hide (hk1)
  have c1_1 := ((HP0.out.low HK1.out).cell (p := ⟨b, o + 1, none⟩) bb1).trans c1
  have x0_1 := (HK1.out.cell (p := ⟨X, 0, none⟩) hX1 hXg hXv).trans x0
  have x7_1 := (HK1.out.cell (p := ⟨X, 7, none⟩) hX1 hXg hXv).trans x7
  clear hp1 hk1
  have C2 := hide (put_lit HP1.out [[91]] 1 rfl M2.out)
  go_wp2_with fail
  refine C2.out.mono ?_
  rintro e2 w2 ⟨rfl, v2, hp2, hk2⟩
  have HP2 := hide hp2
  have HK2 := hide (HK1.out.trans hk2)
  have c1_2 := ((HP0.out.low HK2.out).cell (p := ⟨b, o + 1, none⟩) bb1).trans c1
  have x0_2 := (HK2.out.cell (p := ⟨X, 0, none⟩) hX1 hXg hXv).trans x0
  have x7_2 := (HK2.out.cell (p := ⟨X, 7, none⟩) hX1 hXg hXv).trans x7
  clear hp2 hk2
  have C3 := hide (ppart_any HN.out s1 AT1.out HP2.out M3.out)
  go_wp2_with fail
  refine C3.out.mono ?_
  rintro e3 w3 ⟨rfl, v3, hp3, hk3⟩
  have HP3 := hide hp3
  have HK3 := hide (HK2.out.trans hk3)
  have x0_3 := (HK3.out.cell (p := ⟨X, 0, none⟩) hX1 hXg hXv).trans x0
  have x7_3 := (HK3.out.cell (p := ⟨X, 7, none⟩) hX1 hXg hXv).trans x7
  clear hp3 hk3
  have C4 := hide (put_lit HP3.out [[93]] 1 rfl M4.out)
  go_wp2_with fail
  refine C4.out.mono ?_
  rintro e4 w4 ⟨rfl, v4, hp4, hk4⟩
  have HP4 := hide hp4
  have HK4 := hide (HK3.out.trans hk4)
  have x0_4 := (HK4.out.cell (p := ⟨X, 0, none⟩) hX1 hXg hXv).trans x0
  have x7_4 := (HK4.out.cell (p := ⟨X, 7, none⟩) hX1 hXg hXv).trans x7
  clear hp4 hk4
  go_wp2_with fail
  refine bodyPost_ret (v := .tuple #[]) (by simp [results, Tryd.results71, go_sem]) rfl ?_
  refine PutQ.back HB0.out ⟨rfl, v4, ?_, HK4.out⟩
  have := HP4.out
  simp only [← putA_app, List.append_assoc] at this
  exact this
end Go.Proofs.YtelcjdblnagdgaaDoor

namespace Go.Proofs.YtelcjdblnagdgaaDoor
open Go.RowKit

theorem fields30 {x : Nd} (h : fieldsF x = true) (hK : x.kind = 30) : x.nk = 0 ∧ 0 ≤ x.nn ∧ x.nn ≤ 9007199254740991 := by
  unfold fieldsF at h
  rw [hK] at h
  split at h
  · cases h
  · split at h
    · cases h
    · split at h
      · cases h
      · split at h
        · cases h
        · rw [if_neg (by omega), if_pos rfl] at h
          simp only [Bool.and_eq_true, beq_iff_eq, decide_eq_true_eq] at h
          obtain ⟨⟨⟨_, h1⟩, h2⟩, h3⟩ := h
          refine ⟨h1, h3, ?_⟩
          unfold numMay at h2
          rw [if_pos h1, Bool.and_eq_true] at h2
          exact of_decide_eq_true h2.2
theorem fields31 {x : Nd} (h : fieldsF x = true) (hK : x.kind = 31) : x.neg = false ∧ bigMay false x.mag = true := by
  unfold fieldsF at h
  rw [hK] at h
  split at h
  · cases h
  · split at h
    · cases h
    · split at h
      · cases h
      · split at h
        · cases h
        · rw [if_neg (by omega), if_neg (by omega), if_pos rfl] at h
          simp only [Bool.and_eq_true, Bool.not_eq_true', decide_eq_true_eq] at h
          obtain ⟨⟨_, h2⟩, h3⟩ := h
          rw [h3] at h2
          exact ⟨h3, h2⟩
theorem ed_30 {C : Cx} {m k : Nat} {x : Nd} {l : List Tr} {s : NdSl} {us : List UInt16} {v : Value} {w : World} (h : Nx C m k x l s w) (hK : x.kind = 30) (hp : Pe C us v w) (hm : MayPut us (exprP x (prs l))) :
    Calls Tryd.prog 47 #[.pointer (some ⟨C.g, 0, none⟩), ndA x l s] w (PutQ C us v w (exprP x (prs l))) := by
  obtain ⟨f1, f2, f3⟩ := fields30 h.fields hK
  have e : exprP x (prs l) = [decS x.nn.toNat] := by unfold exprP; rw [hK]; rfl
  rw [e] at hm ⊢
  unfold ndA
  rw [hK, f1]
  exact ex_30 _ _ _ _ _ f2 f3 hp hm
theorem ed_31 {C : Cx} {m k : Nat} {x : Nd} {l : List Tr} {s : NdSl} {us : List UInt16} {v : Value} {w : World} (h : Nx C m k x l s w) (hK : x.kind = 31) (hmg : Reads w C.B 1 s.Am x.mag.length (n32s x.mag)) (hlm : ∀ y ∈ x.mag, y < 4294967296) (hp : Pe C us v w) (hm : MayPut us (exprP x (prs l))) :
    Calls Tryd.prog 47 #[.pointer (some ⟨C.g, 0, none⟩), ndA x l s] w (PutQ C us v w (exprP x (prs l))) := by
  obtain ⟨f1, f2⟩ := fields31 h.fields hK
  have e : exprP x (prs l) = [decS (valM x.mag) ++ [110]] := by unfold exprP; rw [hK]; rfl
  rw [e] at hm ⊢
  unfold ndA
  rw [hK, f1]
  exact ex_31 _ _ _ _ rfl hmg hlm f2 (fields_short h.fields hlm).big hp hm
theorem ed_32 {C : Cx} {m k : Nat} {x : Nd} {l : List Tr} {s : NdSl} {us : List UInt16} {v : Value} {w : World} (h : Nx C m k x l s w) (hK : x.kind = 32) (hst : Reads w C.B 1 s.As x.str.length (u16s x.str)) (hlm : ∀ y ∈ x.mag, y < 4294967296) (hp : Pe C us v w) (hm : MayPut us (exprP x (prs l))) :
    Calls Tryd.prog 47 #[.pointer (some ⟨C.g, 0, none⟩), ndA x l s] w (PutQ C us v w (exprP x (prs l))) := by
  have e : exprP x (prs l) = [quoP x.str] := by unfold exprP; rw [hK]; rfl
  rw [e] at hm ⊢
  unfold ndA
  rw [hK]
  exact ex_32 _ _ _ _ _ rfl (by have := (fields_short h.fields hlm).str; omega) hst hp hm
theorem ed_33 {C : Cx} {m k : Nat} {x : Nd} {l : List Tr} {s : NdSl} {us : List UInt16} {v : Value} {w : World} (h : Nx C m k x l s w) (hK : x.kind = 33) (hp : Pe C us v w) (hm : MayPut us (exprP x (prs l))) :
    Calls Tryd.prog 47 #[.pointer (some ⟨C.g, 0, none⟩), ndA x l s] w (PutQ C us v w (exprP x (prs l))) := by
  obtain rfl := kids0 (h.cnt.none_ (by omega))
  have e : exprP x (prs []) = [x.name] := by unfold exprP; rw [hK, prs_nil]; rfl
  rw [e] at hm ⊢
  unfold ndA
  rw [hK]
  exact ex_33 x.name _ _ _ _ _ h.hN hp hm
theorem ed_34 {C : Cx} {m k : Nat} {x : Nd} {l : List Tr} {s : NdSl} {us : List UInt16} {v : Value} {w : World} (h : Nx C m k x l s w) (hK : x.kind = 34) (hp : Pe C us v w) (hm : MayPut us (exprP x (prs l))) :
    Calls Tryd.prog 47 #[.pointer (some ⟨C.g, 0, none⟩), ndA x l s] w (PutQ C us v w (exprP x (prs l))) := by
  obtain rfl := kids0 (h.cnt.none_ (by omega))
  have e : exprP x (prs []) = [[116, 114, 117, 101]] := by unfold exprP; rw [hK, prs_nil]; rfl
  rw [e] at hm ⊢
  unfold ndA
  rw [hK]
  exact ex_34 x.name _ _ _ _ _ h.hN hp hm
theorem ed_35 {C : Cx} {m k : Nat} {x : Nd} {l : List Tr} {s : NdSl} {us : List UInt16} {v : Value} {w : World} (h : Nx C m k x l s w) (hK : x.kind = 35) (hp : Pe C us v w) (hm : MayPut us (exprP x (prs l))) :
    Calls Tryd.prog 47 #[.pointer (some ⟨C.g, 0, none⟩), ndA x l s] w (PutQ C us v w (exprP x (prs l))) := by
  obtain rfl := kids0 (h.cnt.none_ (by omega))
  have e : exprP x (prs []) = [[102, 97, 108, 115, 101]] := by unfold exprP; rw [hK, prs_nil]; rfl
  rw [e] at hm ⊢
  unfold ndA
  rw [hK]
  exact ex_35 x.name _ _ _ _ _ h.hN hp hm
theorem ed_36 {C : Cx} {m k : Nat} {x : Nd} {l : List Tr} {s : NdSl} {us : List UInt16} {v : Value} {w : World} (h : Nx C m k x l s w) (hK : x.kind = 36) (hp : Pe C us v w) (hm : MayPut us (exprP x (prs l))) :
    Calls Tryd.prog 47 #[.pointer (some ⟨C.g, 0, none⟩), ndA x l s] w (PutQ C us v w (exprP x (prs l))) := by
  obtain rfl := kids0 (h.cnt.none_ (by omega))
  have e : exprP x (prs []) = [[110, 117, 108, 108]] := by unfold exprP; rw [hK, prs_nil]; rfl
  rw [e] at hm ⊢
  unfold ndA
  rw [hK]
  exact ex_36 x.name _ _ _ _ _ h.hN hp hm
theorem ed_37 {C : Cx} {m k : Nat} {x : Nd} {l : List Tr} {s : NdSl} {us : List UInt16} {v : Value} {w : World} (h : Nx C m k x l s w) (hK : x.kind = 37) (hp : Pe C us v w) (hm : MayPut us (exprP x (prs l))) :
    Calls Tryd.prog 47 #[.pointer (some ⟨C.g, 0, none⟩), ndA x l s] w (PutQ C us v w (exprP x (prs l))) := by
  obtain rfl := kids0 (h.cnt.none_ (by omega))
  have e : exprP x (prs []) = [[116, 104, 105, 115]] := by unfold exprP; rw [hK, prs_nil]; rfl
  rw [e] at hm ⊢
  unfold ndA
  rw [hK]
  exact ex_37 x.name _ _ _ _ _ h.hN hp hm
theorem ed_38 {C : Cx} {m k : Nat} {x : Nd} {l : List Tr} {s : NdSl} {us : List UInt16} {v : Value} {w : World} (h : Nx C m k x l s w) (hK : x.kind = 38) (hp : Pe C us v w) (hm : MayPut us (exprP x (prs l))) :
    Calls Tryd.prog 47 #[.pointer (some ⟨C.g, 0, none⟩), ndA x l s] w (PutQ C us v w (exprP x (prs l))) := by
  have e : exprP x (prs l) = [[91]] ++ (comP partP (prs l) ++ [[93]]) := by unfold exprP; rw [hK]; rfl
  rw [e] at hm ⊢
  unfold ndA
  rw [hK]
  exact ex_38 _ _ _ _ _ _ h.hN h.hs rfl h.h6 h.hk hp hm
theorem ed_39 {C : Cx} {m k : Nat} {x : Nd} {l : List Tr} {s : NdSl} {us : List UInt16} {v : Value} {w : World} (h : Nx C m k x l s w) (hK : x.kind = 39) (hp : Pe C us v w) (hm : MayPut us (exprP x (prs l))) :
    Calls Tryd.prog 47 #[.pointer (some ⟨C.g, 0, none⟩), ndA x l s] w (PutQ C us v w (exprP x (prs l))) := by
  have e : exprP x (prs l) = [[123]] ++ (comP (·.2) (prs l) ++ [[125]]) := by unfold exprP; rw [hK]; rfl
  rw [e] at hm ⊢
  unfold ndA
  rw [hK]
  exact ex_39 _ _ _ _ _ _ h.hN h.hs rfl h.h6 h.hk hp hm
theorem ed_40 {C : Cx} {m k : Nat} {x : Nd} {l : List Tr} {s : NdSl} {us : List UInt16} {v : Value} {w : World} (h : Nx C m k x l s w) (hK : x.kind = 40) (hst : Reads w C.B 1 s.As x.str.length (u16s x.str)) (hlm : ∀ y ∈ x.mag, y < 4294967296) (hp : Pe C us v w) (hm : MayPut us (exprP x (prs l))) :
    Calls Tryd.prog 47 #[.pointer (some ⟨C.g, 0, none⟩), ndA x l s] w (PutQ C us v w (exprP x (prs l))) := by
  obtain ⟨a0, rfl⟩ := kids1 (h.cnt.one (by omega))
  have e : exprP x (prs [a0]) = [quoP x.str, [58]] ++ partP (a0.nd.kind, prT a0) := by unfold exprP; rw [hK, prs_cons, prs_nil]; rfl
  rw [e] at hm ⊢
  unfold ndA
  rw [hK]
  exact ex_40 _ _ _ _ _ h.hN (h.hs a0 (by simp)) h.hk rfl (by have := (fields_short h.fields hlm).str; omega) hst hp hm
theorem ed_41 {C : Cx} {m k : Nat} {x : Nd} {l : List Tr} {s : NdSl} {us : List UInt16} {v : Value} {w : World} (h : Nx C m k x l s w) (hK : x.kind = 41) (hp : Pe C us v w) (hm : MayPut us (exprP x (prs l))) :
    Calls Tryd.prog 47 #[.pointer (some ⟨C.g, 0, none⟩), ndA x l s] w (PutQ C us v w (exprP x (prs l))) := by
  obtain ⟨r, a, rfl⟩ := kidsN (h.cnt.some_ (by omega))
  have e : exprP x (prs (r ++ [a])) = [[102, 117, 110, 99, 116, 105, 111, 110]] ++ (namedP x.name ++ (paramsP (prs r) ++ prT a)) := by
    have e1 : exprP x (prs (r ++ [a])) = funcP x (prs (r ++ [a])) := by unfold exprP; rw [hK]; rfl
    rw [e1]
    unfold funcP
    rw [(prs_snoc r a).1, (prs_snoc r a).2]
    rfl
  have hlen : (r ++ [a]).length = r.length + 1 := by simp
  have h6 := h.h6
  have hck := h.ck
  rw [hlen] at h6 hck
  rw [e] at hm ⊢
  unfold ndA
  rw [hK, hlen]
  exact dl_ex_41 _ _ _ _ _ _ _ fun W hb => pfunction 41 x.name _ _ _ _ _ h.hN (fun t ht => h.hs t (by simp [ht])) (h.hs a (by simp)) rfl h6 hck (h.below (hb.mono (Nat.le_of_lt hp.blt))).hk (hp.below hb) hm
theorem ed_42 {C : Cx} {m k : Nat} {x : Nd} {l : List Tr} {s : NdSl} {us : List UInt16} {v : Value} {w : World} (h : Nx C m k x l s w) (hK : x.kind = 42) (hp : Pe C us v w) (hm : MayPut us (exprP x (prs l))) :
    Calls Tryd.prog 47 #[.pointer (some ⟨C.g, 0, none⟩), ndA x l s] w (PutQ C us v w (exprP x (prs l))) := by
  obtain ⟨r, a, rfl⟩ := kidsN (h.cnt.some_ (by omega))
  have hlen : (r ++ [a]).length = r.length + 1 := by simp
  have h6 := h.h6
  have hck := h.ck
  rw [hlen] at h6 hck
  by_cases h4 : a.nd.kind = 4
  · have e : exprP x (prs (r ++ [a])) = paramsP (prs r) ++ ([[61, 62]] ++ prT a) := by
      have e1 : exprP x (prs (r ++ [a])) = arrowP (prs (r ++ [a])) := by unfold exprP; rw [hK]; rfl
      rw [e1]
      unfold arrowP
      rw [(prs_snoc r a).1, (prs_snoc r a).2]
      rw [if_pos h4]
      rfl
    rw [e] at hm ⊢
    unfold ndA
    rw [hK, hlen]
    exact dl_ex_42 _ _ _ _ _ _ _ fun W hb => parrow_block 42 x.name _ _ _ _ _ h.hN (fun t ht => h.hs t (by simp [ht])) (h.hs a (by simp)) rfl h6 hck (h.below (hb.mono (Nat.le_of_lt hp.blt))).hk (hp.below hb) h4 hm
  · have e : exprP x (prs (r ++ [a])) = paramsP (prs r) ++ ([[61, 62]] ++ inP (prT a)) := by
      have e1 : exprP x (prs (r ++ [a])) = arrowP (prs (r ++ [a])) := by unfold exprP; rw [hK]; rfl
      rw [e1]
      unfold arrowP
      rw [(prs_snoc r a).1, (prs_snoc r a).2]
      rw [if_neg h4]
      rfl
    rw [e] at hm ⊢
    unfold ndA
    rw [hK, hlen]
    exact dl_ex_42 _ _ _ _ _ _ _ fun W hb => parrow_in 42 x.name _ _ _ _ _ h.hN (fun t ht => h.hs t (by simp [ht])) (h.hs a (by simp)) rfl h6 hck (h.below (hb.mono (Nat.le_of_lt hp.blt))).hk (hp.below hb) rfl h4 hm
theorem ed_43 {C : Cx} {m k : Nat} {x : Nd} {l : List Tr} {s : NdSl} {us : List UInt16} {v : Value} {w : World} (h : Nx C m k x l s w) (hK : x.kind = 43) (hp : Pe C us v w) (hm : MayPut us (exprP x (prs l))) :
    Calls Tryd.prog 47 #[.pointer (some ⟨C.g, 0, none⟩), ndA x l s] w (PutQ C us v w (exprP x (prs l))) := by
  obtain ⟨a0, rfl⟩ := kids1 (h.cnt.one (by omega))
  have e : exprP x (prs [a0]) = [x.name] ++ (partP (a0.nd.kind, prT a0)) := by unfold exprP; rw [hK, prs_cons, prs_nil]; rfl
  rw [e] at hm ⊢
  unfold ndA
  rw [hK]
  exact dl_ex_43 _ _ _ _ _ _ _ fun W hb => op_43 x.name _ _ _ _ _ h.hN (h.hs a0 (by simp)) (h.below (hb.mono (Nat.le_of_lt hp.blt))).hk (hp.below hb) hm
theorem ed_44 {C : Cx} {m k : Nat} {x : Nd} {l : List Tr} {s : NdSl} {us : List UInt16} {v : Value} {w : World} (h : Nx C m k x l s w) (hK : x.kind = 44) (hp : Pe C us v w) (hm : MayPut us (exprP x (prs l))) :
    Calls Tryd.prog 47 #[.pointer (some ⟨C.g, 0, none⟩), ndA x l s] w (PutQ C us v w (exprP x (prs l))) := by
  obtain ⟨a0, rfl⟩ := kids1 (h.cnt.one (by omega))
  have e : exprP x (prs [a0]) = [x.name] ++ (prT a0) := by unfold exprP; rw [hK, prs_cons, prs_nil]; rfl
  rw [e] at hm ⊢
  unfold ndA
  rw [hK]
  exact dl_ex_44 _ _ _ _ _ _ _ fun W hb => op_44 x.name _ _ _ _ _ h.hN (h.hs a0 (by simp)) (h.below (hb.mono (Nat.le_of_lt hp.blt))).hk (hp.below hb) hm
theorem ed_45 {C : Cx} {m k : Nat} {x : Nd} {l : List Tr} {s : NdSl} {us : List UInt16} {v : Value} {w : World} (h : Nx C m k x l s w) (hK : x.kind = 45) (hp : Pe C us v w) (hm : MayPut us (exprP x (prs l))) :
    Calls Tryd.prog 47 #[.pointer (some ⟨C.g, 0, none⟩), ndA x l s] w (PutQ C us v w (exprP x (prs l))) := by
  obtain ⟨a0, rfl⟩ := kids1 (h.cnt.one (by omega))
  have e : exprP x (prs [a0]) = (prT a0) ++ ([x.name]) := by unfold exprP; rw [hK, prs_cons, prs_nil]; rfl
  rw [e] at hm ⊢
  unfold ndA
  rw [hK]
  exact dl_ex_45 _ _ _ _ _ _ _ fun W hb => op_45 x.name _ _ _ _ _ h.hN (h.hs a0 (by simp)) (h.below (hb.mono (Nat.le_of_lt hp.blt))).hk (hp.below hb) hm
theorem ed_46 {C : Cx} {m k : Nat} {x : Nd} {l : List Tr} {s : NdSl} {us : List UInt16} {v : Value} {w : World} (h : Nx C m k x l s w) (hK : x.kind = 46) (hp : Pe C us v w) (hm : MayPut us (exprP x (prs l))) :
    Calls Tryd.prog 47 #[.pointer (some ⟨C.g, 0, none⟩), ndA x l s] w (PutQ C us v w (exprP x (prs l))) := by
  obtain ⟨a0, a1, rfl⟩ := kids2 (h.cnt.two (by omega))
  have e : exprP x (prs [a0, a1]) = (partP (a0.nd.kind, prT a0)) ++ ([x.name] ++ (partP (a1.nd.kind, prT a1))) := by unfold exprP; rw [hK, prs_cons, prs_cons, prs_nil]; rfl
  rw [e] at hm ⊢
  unfold ndA
  rw [hK]
  exact dl_ex_46 _ _ _ _ _ _ _ fun W hb => op_46 x.name _ _ _ _ _ h.hN (h.hs a0 (by simp)) (h.hs a1 (by simp)) (h.below (hb.mono (Nat.le_of_lt hp.blt))).hk (hp.below hb) hm
theorem ed_47 {C : Cx} {m k : Nat} {x : Nd} {l : List Tr} {s : NdSl} {us : List UInt16} {v : Value} {w : World} (h : Nx C m k x l s w) (hK : x.kind = 47) (hp : Pe C us v w) (hm : MayPut us (exprP x (prs l))) :
    Calls Tryd.prog 47 #[.pointer (some ⟨C.g, 0, none⟩), ndA x l s] w (PutQ C us v w (exprP x (prs l))) := by
  obtain ⟨a0, a1, rfl⟩ := kids2 (h.cnt.two (by omega))
  have e : exprP x (prs [a0, a1]) = (partP (a0.nd.kind, prT a0)) ++ ([x.name] ++ (partP (a1.nd.kind, prT a1))) := by unfold exprP; rw [hK, prs_cons, prs_cons, prs_nil]; rfl
  rw [e] at hm ⊢
  unfold ndA
  rw [hK]
  exact dl_ex_47 _ _ _ _ _ _ _ fun W hb => op_47 x.name _ _ _ _ _ h.hN (h.hs a0 (by simp)) (h.hs a1 (by simp)) (h.below (hb.mono (Nat.le_of_lt hp.blt))).hk (hp.below hb) hm
theorem ed_48 {C : Cx} {m k : Nat} {x : Nd} {l : List Tr} {s : NdSl} {us : List UInt16} {v : Value} {w : World} (h : Nx C m k x l s w) (hK : x.kind = 48) (hp : Pe C us v w) (hm : MayPut us (exprP x (prs l))) :
    Calls Tryd.prog 47 #[.pointer (some ⟨C.g, 0, none⟩), ndA x l s] w (PutQ C us v w (exprP x (prs l))) := by
  obtain ⟨a0, a1, a2, rfl⟩ := kids3 (h.cnt.three (by omega))
  have e : exprP x (prs [a0, a1, a2]) = (partP (a0.nd.kind, prT a0)) ++ ([[63]] ++ ((partP (a1.nd.kind, prT a1)) ++ ([[58]] ++ (partP (a2.nd.kind, prT a2))))) := by unfold exprP; rw [hK, prs_cons, prs_cons, prs_cons, prs_nil]; rfl
  rw [e] at hm ⊢
  unfold ndA
  rw [hK]
  exact dl_ex_48 _ _ _ _ _ _ _ fun W hb => op_48 x.name _ _ _ _ _ h.hN (h.hs a0 (by simp)) (h.hs a1 (by simp)) (h.hs a2 (by simp)) (h.below (hb.mono (Nat.le_of_lt hp.blt))).hk (hp.below hb) hm
theorem ed_49 {C : Cx} {m k : Nat} {x : Nd} {l : List Tr} {s : NdSl} {us : List UInt16} {v : Value} {w : World} (h : Nx C m k x l s w) (hK : x.kind = 49) (hp : Pe C us v w) (hm : MayPut us (exprP x (prs l))) :
    Calls Tryd.prog 47 #[.pointer (some ⟨C.g, 0, none⟩), ndA x l s] w (PutQ C us v w (exprP x (prs l))) := by
  obtain ⟨a0, a1, rfl⟩ := kids2 (h.cnt.two (by omega))
  have e : exprP x (prs [a0, a1]) = (prT a0) ++ ([x.name] ++ (partP (a1.nd.kind, prT a1))) := by unfold exprP; rw [hK, prs_cons, prs_cons, prs_nil]; rfl
  rw [e] at hm ⊢
  unfold ndA
  rw [hK]
  exact dl_ex_49 _ _ _ _ _ _ _ fun W hb => op_49 x.name _ _ _ _ _ h.hN (h.hs a0 (by simp)) (h.hs a1 (by simp)) (h.below (hb.mono (Nat.le_of_lt hp.blt))).hk (hp.below hb) hm
theorem ed_50 {C : Cx} {m k : Nat} {x : Nd} {l : List Tr} {s : NdSl} {us : List UInt16} {v : Value} {w : World} (h : Nx C m k x l s w) (hK : x.kind = 50) (hp : Pe C us v w) (hm : MayPut us (exprP x (prs l))) :
    Calls Tryd.prog 47 #[.pointer (some ⟨C.g, 0, none⟩), ndA x l s] w (PutQ C us v w (exprP x (prs l))) := by
  have h1 := h.cnt.some_ (by omega)
  obtain ⟨a0, r, rfl⟩ : ∃ a r, l = a :: r := by
    cases l with
    | nil => simp at h1
    | cons a r => exact ⟨a, r, rfl⟩
  have e : exprP x (prs (a0 :: r)) = callP (prs (a0 :: r)) := by unfold exprP; rw [hK]; rfl
  have h6 := h.h6
  have hck := h.ck
  rw [List.length_cons] at h6 hck
  rw [e] at hm ⊢
  unfold ndA
  rw [hK, List.length_cons]
  exact dl_ex_50 _ _ _ _ _ _ _ fun W hb => op_50 _ _ _ _ _ _ h.hN (fun t ht => h.hs t (by simp [ht])) (h.hs a0 (by simp)) rfl h6 hck (h.below (hb.mono (Nat.le_of_lt hp.blt))).hk (hp.below hb) hm
theorem ed_51 {C : Cx} {m k : Nat} {x : Nd} {l : List Tr} {s : NdSl} {us : List UInt16} {v : Value} {w : World} (h : Nx C m k x l s w) (hK : x.kind = 51) (hp : Pe C us v w) (hm : MayPut us (exprP x (prs l))) :
    Calls Tryd.prog 47 #[.pointer (some ⟨C.g, 0, none⟩), ndA x l s] w (PutQ C us v w (exprP x (prs l))) := by
  have h1 := h.cnt.some_ (by omega)
  obtain ⟨a0, r, rfl⟩ : ∃ a r, l = a :: r := by
    cases l with
    | nil => simp at h1
    | cons a r => exact ⟨a, r, rfl⟩
  have e : exprP x (prs (a0 :: r)) = [[110, 101, 119]] ++ callP (prs (a0 :: r)) := by unfold exprP; rw [hK]; rfl
  have h6 := h.h6
  have hck := h.ck
  rw [List.length_cons] at h6 hck
  rw [e] at hm ⊢
  unfold ndA
  rw [hK, List.length_cons]
  exact dl_ex_51 _ _ _ _ _ _ _ fun W hb => op_51 _ _ _ _ _ _ h.hN (fun t ht => h.hs t (by simp [ht])) (h.hs a0 (by simp)) rfl h6 hck (h.below (hb.mono (Nat.le_of_lt hp.blt))).hk (hp.below hb) hm
theorem ed_52 {C : Cx} {m k : Nat} {x : Nd} {l : List Tr} {s : NdSl} {us : List UInt16} {v : Value} {w : World} (h : Nx C m k x l s w) (hK : x.kind = 52) (hp : Pe C us v w) (hm : MayPut us (exprP x (prs l))) :
    Calls Tryd.prog 47 #[.pointer (some ⟨C.g, 0, none⟩), ndA x l s] w (PutQ C us v w (exprP x (prs l))) := by
  obtain ⟨a0, rfl⟩ := kids1 (h.cnt.one (by omega))
  have e : exprP x (prs [a0]) = (partP (a0.nd.kind, prT a0)) ++ ([[46], x.name]) := by unfold exprP; rw [hK, prs_cons, prs_nil]; rfl
  rw [e] at hm ⊢
  unfold ndA
  rw [hK]
  exact dl_ex_52 _ _ _ _ _ _ _ fun W hb => op_52 x.name _ _ _ _ _ h.hN (h.hs a0 (by simp)) (h.below (hb.mono (Nat.le_of_lt hp.blt))).hk (hp.below hb) hm
theorem ed_53 {C : Cx} {m k : Nat} {x : Nd} {l : List Tr} {s : NdSl} {us : List UInt16} {v : Value} {w : World} (h : Nx C m k x l s w) (hK : x.kind = 53) (hp : Pe C us v w) (hm : MayPut us (exprP x (prs l))) :
    Calls Tryd.prog 47 #[.pointer (some ⟨C.g, 0, none⟩), ndA x l s] w (PutQ C us v w (exprP x (prs l))) := by
  obtain ⟨a0, a1, rfl⟩ := kids2 (h.cnt.two (by omega))
  have e : exprP x (prs [a0, a1]) = (partP (a0.nd.kind, prT a0)) ++ ([[91]] ++ ((partP (a1.nd.kind, prT a1)) ++ ([[93]]))) := by unfold exprP; rw [hK, prs_cons, prs_cons, prs_nil]; rfl
  rw [e] at hm ⊢
  unfold ndA
  rw [hK]
  exact dl_ex_53 _ _ _ _ _ _ _ fun W hb => op_53 x.name _ _ _ _ _ h.hN (h.hs a0 (by simp)) (h.hs a1 (by simp)) (h.below (hb.mono (Nat.le_of_lt hp.blt))).hk (hp.below hb) hm
theorem expression_any {C : Cx} {m k : Nat} {x : Nd} {l : List Tr} {s : NdSl} {us : List UInt16} {v : Value} {w : World} (h : Nx C m k x l s w) (h30 : 30 ≤ x.kind) (h53 : x.kind ≤ 53) (hst : Reads w C.B 1 s.As x.str.length (u16s x.str)) (hmg : Reads w C.B 1 s.Am x.mag.length (n32s x.mag)) (hlm : ∀ y ∈ x.mag, y < 4294967296) (hp : Pe C us v w) (hm : MayPut us (exprP x (prs l))) :
    Calls Tryd.prog 47 #[.pointer (some ⟨C.g, 0, none⟩), ndA x l s] w (PutQ C us v w (exprP x (prs l))) := by
  have hc : x.kind = 30 ∨ x.kind = 31 ∨ x.kind = 32 ∨ x.kind = 33 ∨ x.kind = 34 ∨ x.kind = 35 ∨ x.kind = 36 ∨ x.kind = 37 ∨ x.kind = 38 ∨ x.kind = 39 ∨ x.kind = 40 ∨ x.kind = 41 ∨ x.kind = 42 ∨ x.kind = 43 ∨ x.kind = 44 ∨ x.kind = 45 ∨ x.kind = 46 ∨ x.kind = 47 ∨ x.kind = 48 ∨ x.kind = 49 ∨ x.kind = 50 ∨ x.kind = 51 ∨ x.kind = 52 ∨ x.kind = 53 := by omega
  rcases hc with c | c | c | c | c | c | c | c | c | c | c | c | c | c | c | c | c | c | c | c | c | c | c | c
  · exact ed_30 h c hp hm
  · exact ed_31 h c hmg hlm hp hm
  · exact ed_32 h c hst hlm hp hm
  · exact ed_33 h c hp hm
  · exact ed_34 h c hp hm
  · exact ed_35 h c hp hm
  · exact ed_36 h c hp hm
  · exact ed_37 h c hp hm
  · exact ed_38 h c hp hm
  · exact ed_39 h c hp hm
  · exact ed_40 h c hst hlm hp hm
  · exact ed_41 h c hp hm
  · exact ed_42 h c hp hm
  · exact ed_43 h c hp hm
  · exact ed_44 h c hp hm
  · exact ed_45 h c hp hm
  · exact ed_46 h c hp hm
  · exact ed_47 h c hp hm
  · exact ed_48 h c hp hm
  · exact ed_49 h c hp hm
  · exact ed_50 h c hp hm
  · exact ed_51 h c hp hm
  · exact ed_52 h c hp hm
  · exact ed_53 h c hp hm
end Go.Proofs.YtelcjdblnagdgaaDoor
