/- The law renlaw8.EarlyRefuses: for every input that can be read the call returns true, and each argument reads behind it as before. Its card, tied to the program's text. Condition: none beside the row's own (the tables of strconv and math/bits stand as their initialisers lay them). -/
import Derived.Test.YtlohaclgbfhijaaGreatDoorXR01
set_option maxHeartbeats 16000000
set_option maxRecDepth 1000000
namespace Go.Proofs.YtlohaclgbfhijaaGreatDoor.lawEarlyRefuses
open Go.ChangeShapes Go.WideShapes Go.ChangeAt Go.RowKit
theorem contract (H : Type) (enc : TypeId × Value → H) (W : World) (base : Nat) (args : Array Value) (ds gs : List (DataW H)) (before : List MemPlace)
 (hval : ∀ (j : Nat) t v, Tryz.f9.params[j]? = some t → args[j]? = some v → Value.okWide Tryz.prog W .any base t v)
 (hW : DataW.Whole enc Tryz.prog Tryz.f9.params.toList Rows.earlyRefusesSpec.vars false W args.toList ds gs before) (hL : laidMetH Tryz.prog Rows.earlyRefusesRow.laid W) :
 Calls Tryz.prog 9 args W fun e W' => ∃ v, e = .returned v ∧ Rows.earlyRefusesSpec.post enc Tryz.prog Tryz.f9 false true false false W args v W' := by
 have hW' := hW
 obtain ⟨p, q, hA0, hV, rfl, hfz, hnd⟩ := hW
 have hA : DataW.TrodAll enc Tryz.prog W 0 (fun _ => true) true Tryz.f9.params.toList args.toList ds p := hA0
 rw [Tryz.params9] at hA hval
 have hA1 := hA
 obtain ⟨v0, vs0, d0, ds0, p0, q0, hargs, rfl, rfl, h0, r0⟩ := trodAll_cons hA
 obtain ⟨v1, vs1, d1, ds1, p1, q1, rfl, rfl, rfl, h1, r1⟩ := trodAll_cons r0
 obtain ⟨rfl, rfl, rfl⟩ := trodAll_nil r1
 obtain rfl : args = #[v0, v1] := by cases args; simp_all
 obtain ⟨rfl, rfl⟩ := trodVars_none hV
 obtain ⟨A0, n0, c0, x0, rfl, hc0, hm0, hr0⟩ := zTA (hval 0 27 v0 rfl rfl) h0
 obtain ⟨x1, hx1, hd1, hp1, hs1⟩ := open_int Tryz.underlying3 (hval 1 3 v1 rfl rfl) h1
 subst hx1
 clear hA0
 have hlt := hW'.lt
 refine (zSM A0 n0 c0 x0 hc0 hm0 x1 (bounds_i64 hs1) W hr0 (zMT hL)).mono fun e W' ⟨he, hb⟩ => ?_
 subst he
 exact ⟨_, rfl, zSX (pv := []) hW' (fun _ _ _ => trodAll_cons_mk (shut_bool Tryz.underlying4 _) trodAll_mk0)
  (fun sp hsp => by
   rw [Tryz.params9]
   exact zSW (fun t ht => by
    have : t ∈ [27, 3] := ht
    simp only [List.mem_cons, List.mem_nil_iff, or_false] at this
    rcases this with rfl | rfl <;> exact ⟨by kernel_rfl, of_decide_eq_true (by kernel_rfl)⟩) hA1 hb (fun x hx => hlt x (by simpa using hx)) (fun x hx => hsp x (by simpa using hx)))
  (fun _ _ => rfl) rfl hb (ok_one (by kernel_rfl) rfl (okWide_bool_mk Tryz.underlying4 _))⟩
theorem laid_met (os : Os) : laidMet Tryz.prog Rows.earlyRefusesRow.laid ((zSH os).forCall (fun _ _ => 0) ⟨#[], #[.agg #[.slice none 0 0], .int .i64 0], []⟩).memory :=
 laidMet_of_run' 8 (by kernel_rfl) (by kernel_rfl)
theorem reads (os : Os) {H : Type} (enc : TypeId × Value → H) : ∃ zAM, DataW.whole enc Tryz.prog ((zSH os).forCall (fun _ _ => 0) ⟨#[], #[.agg #[.slice none 0 0], .int .i64 0], []⟩).memory Tryz.f9.params.toList Rows.earlyRefusesSpec.vars false (#[.agg #[.slice none 0 0], .int .i64 0] : Array Value).toList 8 = some ([.agg [.nil], .lit (.int .i64 0)], [], zAM) :=
 ⟨[], by kernel_rfl⟩
theorem lifted (os : Os) (started : os.Started) (H : Type) (enc : TypeId × Value → H) (F : Stop.Interp) :
 ReturnsInHanded {} Tryz.checked os 9 .any ((OpenSpec.ofChange Rows.earlyRefusesSpec).preRow enc Tryz.prog Tryz.f9 Rows.earlyRefusesRow.domain false Rows.earlyRefusesRow.laid) (((OpenSpec.ofChange Rows.earlyRefusesSpec).at F).post enc Tryz.prog Tryz.f9 false true false false) := by
 obtain ⟨zAM, hx⟩ := reads os enc
 refine returnsInHanded_of_row (C := Tryz.checked) (s := OpenSpec.ofChange Rows.earlyRefusesSpec) own started (by kernel_rfl) Tryz.func9
  (witness_row_at (enc := enc) (C := Tryz.checked) false (zSH os) #[.agg #[.slice none 0 0], .int .i64 0] rfl (by kernel_rfl) (by kernel_rfl) (by kernel_rfl)
   (OpenSpec.preRow_of_cond 8 hx (by kernel_rfl) (fun k hk => by cases hk) (by kernel_rfl) (laid_met os))) ?_
 intro W base args ds gs before hval hW _ _ _ hL _ _
 exact contract H enc W base args ds gs before hval hW hL
theorem said : Rows.EarlyRefusesSaid :=
 OpenClaim.holds_of_cond 9 Tryz.f9 rfl rfl rfl rfl rfl rfl rfl ⟨rfl, rfl, rfl, rfl, rfl⟩ rfl rfl rfl rfl rfl (by kernel_rfl) Tryz.func9 (by kernel_rfl)
  (of_decide_eq_true (by kernel_rfl)) (by unfold Func.isWrapper; first | (rw [if_pos (by decide +kernel)]; kernel_rfl) | (rw [if_neg (by decide +kernel)]; exact ⟨rfl, rfl⟩))
  (fun os started H enc _ F => by rw [OpenClaim.pre_eq_preRow]; exact lifted os started H enc F)
theorem plain (f : FuncId) (fn : Func) (hf : Tryz.pinned.checked.prog.funcNamed "rendezvous/renlaw8.EarlyRefuses" = some f) (hfn : Tryz.pinned.checked.prog.funcs[f]? = some fn) :
 false = Tryz.pinned.checked.prog.looks [] ∧ ∀ (j : Nat) t, fn.params[j]? = some t → Tryz.pinned.checked.prog.wantsStandIn t = false := by
 obtain rfl : f = 9 := Option.some.inj ((show Tryz.prog.funcNamed "rendezvous/renlaw8.EarlyRefuses" = some 9 by kernel_rfl).symm.trans hf) |>.symm
 obtain rfl : fn = Tryz.f9 := (Option.some.inj (Tryz.func9.symm.trans hfn)).symm
 refine ⟨by kernel_rfl, fun j t ht => ?_⟩
 rw [Tryz.params9] at ht
 have hin : t ∈ [27, 3] := Array.mem_toList_iff.2 (Array.mem_of_getElem? ht)
 have hall : ([27, 3].all fun u => !Tryz.pinned.checked.prog.wantsStandIn u) = true := by kernel_rfl
 simpa using List.all_eq_true.1 hall t hin
theorem card : Rows.EarlyRefusesCardSaid :=
 Claim7.holds_tied_plain_at .later [] _ _ _ _ said (fun _ h => by cases h) (by kernel_rfl) (fun _ h => by cases h) earlyRefuses_row_tie rfl ⟨rfl, rfl⟩ (by kernel_rfl) rfl plain (by kernel_rfl)
end Go.Proofs.YtlohaclgbfhijaaGreatDoor.lawEarlyRefuses
