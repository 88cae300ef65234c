/- Joined for a claim: R5Split. -/
import Derived.Test.YtbljbmeifmpfoaaK10
namespace Go.Proofs.Ytbljbmeifmpfoaa
open Go.RowKit

theorem Try.info_str : (Try.prog.info? 9).map (fun i => (i.zero, i.size, i.bytes)) = some (some (.string ⟨#[]⟩), 1, 16) := by kernel_rfl
def strs (l : List (List UInt8)) : List Value := l.map fun x => Value.string ⟨x.toArray⟩
theorem strs_len (l : List (List UInt8)) : (strs l).length = l.length := by simp [strs]
theorem strs_snoc (l : List (List UInt8)) (x : List UInt8) : strs l ++ [.string ⟨x.toArray⟩] = strs (l ++ [x]) := by simp [strs]
/-- parts between blanks -/
def splitGo (cur : List UInt8) : List UInt8 → List (List UInt8)
  | [] => [cur]
  | c :: r => if c = 32 then cur :: splitGo [] r else splitGo (cur ++ [c]) r
def splitF (l : List UInt8) : List (List UInt8) := splitGo [] l
structure AtSplit (l : List UInt8) (k a : Nat) (outs : List (List UInt8)) : Prop where
  mid : k ≤ l.length → a ≤ k ∧ splitF l = outs ++ splitGo ((l.take k).drop a) (l.drop k)
  out : k = l.length + 1 → splitF l = outs
  len : outs.length ≤ k
theorem AtSplit.start (l : List UInt8) : AtSplit l 0 0 [] := ⟨fun _ => ⟨Nat.le_refl _, by simp [splitF]⟩, fun h => by omega, Nat.le_refl _⟩
theorem AtSplit.step {l : List UInt8} {k a : Nat} {outs : List (List UInt8)} (h : AtSplit l k a outs) (hk : k < l.length) (hc : l[k] ≠ 32) : AtSplit l (k + 1) a outs := by
  obtain ⟨h1, h2⟩ := h.mid (by omega)
  refine ⟨fun _ => ⟨by omega, ?_⟩, fun e => by omega, by have := h.len; omega⟩
  rw [h2, List.drop_eq_getElem_cons hk, splitGo, if_neg hc, List.take_succ_eq_append_getElem hk, List.drop_append_of_le_length (by rw [List.length_take]; omega)]
theorem AtSplit.cut {l : List UInt8} {k a : Nat} {outs : List (List UInt8)} (h : AtSplit l k a outs) (hk : k < l.length) (hc : l[k] = 32) : AtSplit l (k + 1) (k + 1) (outs ++ [(l.take k).drop a]) := by
  obtain ⟨h1, h2⟩ := h.mid (by omega)
  refine ⟨fun _ => ⟨Nat.le_refl _, ?_⟩, fun e => by omega, by have := h.len; simp; omega⟩
  rw [h2, List.drop_eq_getElem_cons hk, splitGo, if_pos hc, List.drop_of_length_le (l := l.take (k + 1)) (by rw [List.length_take]; omega)]
  simp
theorem AtSplit.last {l : List UInt8} {a : Nat} {outs : List (List UInt8)} (h : AtSplit l l.length a outs) : AtSplit l (l.length + 1) (l.length + 1) (outs ++ [(l.take l.length).drop a]) := by
  obtain ⟨h1, h2⟩ := h.mid (by omega)
  refine ⟨fun e => by omega, fun _ => ?_, by have := h.len; simp; omega⟩
  rw [h2, List.drop_length]; rfl
theorem cut_str (s : ByteArray) (a k : Nat) : Value.string (s.extract a k) = .string ⟨((s.data.toList.take k).drop a).toArray⟩ := by
  congr 1
  refine ByteArray.ext ?_
  apply Array.toList_inj.1
  simp [List.drop_take]
set_option maxHeartbeats 2000000 in
set_option maxRecDepth 100000 in
theorem split_any (s : ByteArray) (w : World) (hs : s.size ≤ 4096) :
    Calls Try.prog 71 #[.string s] w fun e w' => ∃ v, e = .returned v ∧ Made w w' 9 v (strs (splitF s.data.toList)) := by
  obtain ⟨i0, hi0, hz0, hz1, hz2⟩ := info_parts Try.info_str
  have hsz : s.data.toList.length = s.size := by simp
  have HSZ := hide hsz
  clear hsz
  go_enter Try.func71, Try.ntmps71
  go_wp2_with fail
  go_loopw [3, 4, 5] (fun v f i wr => ∃ (k a : Nat) (outs : List (List UInt8)), k ≤ s.size + 1 ∧ a ≤ k ∧ i = .int .i64 k ∧ f = .int .i64 a ∧ Hid (Made w wr 9 v (strs outs)) ∧ Hid (AtSplit s.data.toList k a outs)) (fun _ _ i _ => s.size + 1 - (intOf i).toNat)
  case atStart => exact ⟨0, 0, [], Nat.zero_le _, Nat.le_refl _, rfl, rfl, Made.nil _ _, AtSplit.start _⟩
  case round =>
    obtain ⟨k, a, outs, hk, hak, rfl, rfl, hm, hat⟩ := hrel
    have hlo := hat.out.len
    obtain ⟨Av, cv, hv, _, _⟩ := own_shape hm.out.own
    subst hv
    have hbase : w.heap.size ≤ wr.heap.size := hm.out.below.size
    by_cases hle : k ≤ s.size
    · by_cases hlt : k < s.size
      · have e0 : ((k : Int) == (s.size : Int)) = false := beq_eq_false_iff_ne.2 (by omega)
        by_cases h32 : s[k].toNat = 32
        · have e1 : ((s[k].toNat : Int) == 32) = true := by rw [h32]; rfl
          have hn := hide (hat.out.cut (by rw [HSZ.out]; exact hlt) (UInt8.toNat_inj.1 (by rw [byte_at s k hlt]; exact h32)))
          clear h32
          go_wp2_with (at_builtin; refine wpList_litG rfl _ _ 90 rfl 9 i0 _ 1 16 Try.underlying90 hi0 hz0 hz1 hz2 rfl (by decide) w.heap.size hbase (.slice Av (strs outs).length cv) (strs outs) (strs outs).length rfl hm.out.own [.string (s.extract a k)] 1 1 rfl rfl rfl (by rw [strs_len]; omega) (by rw [strs_len]; omega) ?_; intro v' w' ho hgr)
          go_roundw
          case measure => simp [intOf]; omega
          case rel =>
            have hmn : Made w w' 9 v' (strs (outs ++ [(s.data.toList.take k).drop a])) := by
              rw [cut_str, strs_snoc] at ho
              exact ⟨by rw [strs_len] at ho ⊢; rw [List.length_append]; exact ho, hm.out.below.grown hgr hbase (fun j hj => (hm.out.own.lt j hj).1)⟩
            exact ⟨k + 1, k + 1, _, by omega, Nat.le_refl _, by go_num, by go_num, hmn, hn.out⟩
        · have e1 : ((s[k].toNat : Int) == 32) = false := beq_eq_false_iff_ne.2 (by omega)
          have hn := hide (hat.out.step (by rw [HSZ.out]; exact hlt) (fun h => h32 (by have := congrArg UInt8.toNat h; rw [byte_at s k hlt] at this; exact this)))
          clear h32
          go_wp2_with fail
          go_roundw
          case measure => simp [intOf]; omega
          case rel => exact ⟨k + 1, a, outs, by omega, by omega, by go_num, rfl, hm.out, hn.out⟩
      · have hke : k = s.size := by omega
        have e0 : ((k : Int) == (s.size : Int)) = true := by rw [hke]; simp
        have hn := hide (show AtSplit s.data.toList (k + 1) (k + 1) (outs ++ [(s.data.toList.take k).drop a]) by
          have h1 := hat.out
          have h2 : k = s.data.toList.length := by rw [HSZ.out]; exact hke
          rw [h2] at h1 ⊢
          exact h1.last)
        clear hke
        go_wp2_with (at_builtin; refine wpList_litG rfl _ _ 90 rfl 9 i0 _ 1 16 Try.underlying90 hi0 hz0 hz1 hz2 rfl (by decide) w.heap.size hbase (.slice Av (strs outs).length cv) (strs outs) (strs outs).length rfl hm.out.own [.string (s.extract a k)] 1 1 rfl rfl rfl (by rw [strs_len]; omega) (by rw [strs_len]; omega) ?_; intro v' w' ho hgr)
        go_roundw
        case measure => simp [intOf]; omega
        case rel =>
          have hmn : Made w w' 9 v' (strs (outs ++ [(s.data.toList.take k).drop a])) := by
            rw [cut_str, strs_snoc] at ho
            exact ⟨by rw [strs_len] at ho ⊢; rw [List.length_append]; exact ho, hm.out.below.grown hgr hbase (fun j hj => (hm.out.own.lt j hj).1)⟩
          exact ⟨k + 1, k + 1, _, by omega, Nat.le_refl _, by go_num, by go_num, hmn, hn.out⟩
    · have hn := hide (hat.out.out (by rw [HSZ.out]; omega))
      go_wp2_with fail
      go_ret
      rw [hn.out]
      exact ⟨_, rfl, hm.out⟩

set_option maxHeartbeats 2000000 in
set_option maxRecDepth 100000 in
theorem rhas_any {A : Option Addr} {B n c : Nat} {xs : List (List UInt8)} (s : ByteArray) {w : World} (hn : xs.length = n) (ha : Reads w B 1 A n (strs xs)) (hl : n ≤ 4096) :
    Calls Try.prog 70 #[.slice A n c, .string s] w fun e w' => e = .returned (.bool (decide (s.data.toList ∈ xs))) ∧ w = w' := by
  have HN := hide hn
  have HA := hide ha
  clear hn ha
  go_enter Try.func70, Try.ntmps70
  go_wp2_with fail
  go_loop [5] (fun i => ∃ k : Nat, k ≤ n ∧ i = .int .i64 k ∧ Hid (s.data.toList ∉ xs.take k)) (fun i => n - (intOf i).toNat)
  case atStart => exact ⟨0, Nat.zero_le _, rfl, by simp [Hid]⟩
  case round =>
    obtain ⟨k, hk, rfl, hno⟩ := hrel
    by_cases hlt : k < n
    · have hx : k < xs.length := by rw [HN.out]; exact hlt
      obtain ⟨b, off, rfl, _, hcell⟩ := HA.out.spotV (by omega)
      have hca := hcell k (.string ⟨xs[k].toArray⟩) (by simp [strs, List.getElem?_eq_getElem hx])
      have HM := hide (show xs[k] ∈ xs from List.getElem_mem hx)
      have HT := hide (show xs.take (k + 1) = xs.take k ++ [xs[k]] from List.take_succ_eq_append_getElem hx)
      obtain ⟨x, hxx⟩ : ∃ x, xs[k] = x := ⟨_, rfl⟩
      rw [hxx] at hca HM HT
      clear hcell hxx hx
      by_cases hxs : x = s.data.toList
      · have es : (⟨x.toArray⟩ : ByteArray) = s := by rw [hxs]
        have HR := hide (show decide (s.data.toList ∈ xs) = true from decide_eq_true (by rw [← hxs]; exact HM.out))
        rw [es] at hca
        clear hxs es
        go_wp2_with fail
        (try rw [Exit.noGoto_ret])
        go_ret
        exact ⟨ret_bool HR.out.symm, rfl⟩
      · have e1 : ((⟨x.toArray⟩ : ByteArray).toList == s.toList) = false := by
          rw [beq_eq_false_iff_ne, ByteArray.toList_eq, ByteArray.toList_eq]
          exact hxs
        have hn2 := hide (show s.data.toList ∉ xs.take (k + 1) by
          rw [HT.out, List.mem_append, List.mem_singleton]
          rintro (h | h)
          · exact hno.out h
          · exact hxs h.symm)
        obtain ⟨y, hy⟩ : ∃ y : ByteArray, ⟨x.toArray⟩ = y := ⟨_, rfl⟩
        rw [hy] at hca e1
        clear hxs hy
        go_wp2_with fail
        go_round
        case rel => exact ⟨k + 1, by omega, by go_num, hn2.out⟩
        case measure => simp [intOf]; omega
    · have HR := hide (show decide (s.data.toList ∈ xs) = false from decide_eq_false (by
        have := hno.out
        rwa [List.take_of_length_le (by rw [HN.out]; omega)] at this))
      go_wp2_with fail
      go_ret
      exact ⟨ret_bool HR.out.symm, rfl⟩
theorem split_is (s : ByteArray) (l : List (List UInt8)) (n : Nat) (hl : splitF s.data.toList = l) (hn : l.length = n) (hs : s.size ≤ 4096) (w : World) :
    Calls Try.prog 71 #[.string s] w fun e w' => ∃ A c, e = .returned (.slice A n c) ∧ Reads w' w'.heap.size 1 A n (strs l) ∧ Below w.heap.size w w' := by
  subst hn
  refine (split_any s w hs).mono ?_
  rintro e w' ⟨v, rfl, hm⟩
  rw [hl] at hm
  obtain ⟨A, c, rfl, _, _, hr⟩ := hm.shape
  rw [strs_len] at hr ⊢
  exact ⟨A, c, rfl, hr, hm.below⟩
theorem rhas_is {A : Option Addr} {B n c : Nat} {xs : List (List UInt8)} (s : ByteArray) {w : World} (hn : xs.length = n) (ha : Reads w B 1 A n (strs xs)) (hl : n ≤ 4096) {q : Bool} (hq : decide (s.data.toList ∈ xs) = q) :
    Calls Try.prog 70 #[.slice A n c, .string s] w fun e w' => e = .returned (.bool q) ∧ w = w' := by
  subst hq
  exact rhas_any s hn ha hl
theorem rword_in : splitF ([98, 114, 101, 97, 107, 32, 99, 97, 116, 99, 104, 32, 99, 111, 110, 115, 116, 32, 99, 111, 110, 116, 105, 110, 117, 101, 32, 101, 108, 115, 101, 32, 102, 97, 108, 115, 101, 32, 102, 105, 110, 97, 108, 108, 121, 32, 102, 111, 114, 32, 102, 117, 110, 99, 116, 105, 111, 110, 32, 105, 102, 32, 105, 110, 32, 108, 101, 116, 32, 110, 101, 119, 32, 110, 117, 108, 108, 32, 114, 101, 116, 117, 114, 110, 32, 116, 104, 105, 115, 32, 116, 104, 114, 111, 119, 32, 116, 114, 117, 101, 32, 116, 114, 121, 32, 116, 121, 112, 101, 111, 102, 32, 118, 111, 105, 100, 32, 119, 104, 105, 108, 101]) = wordsIn := by decide +kernel
theorem rword_out : splitF ([97, 114, 103, 117, 109, 101, 110, 116, 115, 32, 97, 115, 121, 110, 99, 32, 97, 119, 97, 105, 116, 32, 99, 97, 115, 101, 32, 99, 108, 97, 115, 115, 32, 100, 101, 98, 117, 103, 103, 101, 114, 32, 100, 101, 102, 97, 117, 108, 116, 32, 100, 101, 108, 101, 116, 101, 32, 100, 111, 32, 101, 110, 117, 109, 32, 101, 118, 97, 108, 32, 101, 120, 112, 111, 114, 116, 32, 101, 120, 116, 101, 110, 100, 115, 32, 105, 109, 112, 108, 101, 109, 101, 110, 116, 115, 32, 105, 109, 112, 111, 114, 116, 32, 105, 110, 115, 116, 97, 110, 99, 101, 111, 102, 32, 105, 110, 116, 101, 114, 102, 97, 99, 101, 32, 112, 97, 99, 107, 97, 103, 101, 32, 112, 114, 105, 118, 97, 116, 101, 32, 112, 114, 111, 116, 101, 99, 116, 101, 100, 32, 112, 117, 98, 108, 105, 99, 32, 115, 116, 97, 116, 105, 99, 32, 115, 117, 112, 101, 114, 32, 115, 119, 105, 116, 99, 104, 32, 118, 97, 114, 32, 119, 105, 116, 104, 32, 121, 105, 101, 108, 100]) = wordsOut := by decide +kernel
set_option maxHeartbeats 2000000 in
set_option maxRecDepth 100000 in
theorem rword_any (s : ByteArray) (w : World) {n : Nat} (hn : wordF s.data.toList = n) :
    Calls Try.prog 51 #[.string s] w fun e w' => e = .returned (.int .i64 (n : Int)) ∧ Below w.heap.size w w' := by
  obtain ⟨q1, h1⟩ : ∃ q, decide (s.data.toList ∈ wordsIn) = q := ⟨_, rfl⟩
  obtain ⟨q2, h2⟩ : ∃ q, decide (s.data.toList ∈ wordsOut) = q := ⟨_, rfl⟩
  have HQ := hide (show n = if q1 = true then 1 else if q2 = true then 2 else 0 by
    rw [← hn, ← h1, ← h2]; unfold wordF; simp)
  have H1 := hide h1
  have H2 := hide h2
  clear h1 h2 hn
  go_enter Try.func51, Try.ntmps51
  go_wp2_with fail
  refine (split_is _ wordsIn 22 rword_in rfl (by decide) _).mono ?_
  rintro e1 w1 ⟨A1, c1, rfl, hr1, hb1⟩
  cases q1 with
  | true =>
    go_wp2_with (go_at_call 70; refine (rhas_is s (n := 22) rfl hr1 (by omega) H1.out).mono ?_; rintro e2 w2 ⟨rfl, rfl⟩)
    go_ret
    obtain rfl := HQ.out
    exact ⟨rfl, hb1⟩
  | false =>
    go_wp2_with (go_at_call 70; refine (rhas_is s (n := 22) rfl hr1 (by omega) H1.out).mono ?_; rintro e2 w2 ⟨rfl, rfl⟩)
    refine (split_is _ wordsOut 27 rword_out rfl (by decide) _).mono ?_
    rintro e3 w3 ⟨A3, c3, rfl, hr3, hb3⟩
    cases q2 with
    | true =>
      go_wp2_with (go_at_call 70; refine (rhas_is s (n := 27) rfl hr3 (by omega) H2.out).mono ?_; rintro e2 w2 ⟨rfl, rfl⟩)
      go_ret
      obtain rfl := HQ.out
      exact ⟨rfl, hb1.trans (hb3.mono hb1.size)⟩
    | false =>
      go_wp2_with (go_at_call 70; refine (rhas_is s (n := 27) rfl hr3 (by omega) H2.out).mono ?_; rintro e2 w2 ⟨rfl, rfl⟩)
      go_ret
      obtain rfl := HQ.out
      exact ⟨rfl, hb1.trans (hb3.mono hb1.size)⟩
theorem rsign_in : splitF ([123, 32, 125, 32, 40, 32, 41, 32, 91, 32, 93, 32, 59, 32, 44, 32, 46, 32, 63, 32, 58, 32, 126, 32, 60, 32, 62, 32, 60, 61, 32, 62, 61, 32, 61, 61, 32, 33, 61, 32, 61, 61, 61, 32, 33, 61, 61, 32, 43, 32, 45, 32, 42, 32, 47, 32, 37, 32, 38, 32, 124, 32, 94, 32, 33, 32, 38, 38, 32, 124, 124, 32, 63, 63, 32, 61, 32, 43, 61, 32, 45, 61, 32, 42, 61, 32, 47, 61, 32, 37, 61, 32, 38, 61, 32, 124, 61, 32, 94, 61, 32, 60, 60, 61, 32, 62, 62, 61, 32, 62, 62, 62, 61, 32, 43, 43, 32, 45, 45, 32, 60, 60, 32, 62, 62, 32, 62, 62, 62, 32, 61, 62]) = signsIn := by decide +kernel
theorem rsign_out : splitF ([46, 46, 46, 32, 63, 46, 32, 42, 42, 32, 42, 42, 61, 32, 38, 38, 61, 32, 124, 124, 61, 32, 63, 63, 61]) = signsOut := by decide +kernel
set_option maxHeartbeats 2000000 in
set_option maxRecDepth 100000 in
theorem rsign_any (s : ByteArray) (w : World) {n : Nat} (hn : signF s.data.toList = n) :
    Calls Try.prog 56 #[.string s] w fun e w' => e = .returned (.int .i64 (n : Int)) ∧ Below w.heap.size w w' := by
  obtain ⟨q1, h1⟩ : ∃ q, decide (s.data.toList ∈ signsIn) = q := ⟨_, rfl⟩
  obtain ⟨q2, h2⟩ : ∃ q, decide (s.data.toList ∈ signsOut) = q := ⟨_, rfl⟩
  have HQ := hide (show n = if q1 = true then 1 else if q2 = true then 2 else 0 by
    rw [← hn, ← h1, ← h2]; unfold signF; simp)
  have H1 := hide h1
  have H2 := hide h2
  clear h1 h2 hn
  go_enter Try.func56, Try.ntmps56
  go_wp2_with fail
  refine (split_is _ signsIn 50 rsign_in rfl (by decide) _).mono ?_
  rintro e1 w1 ⟨A1, c1, rfl, hr1, hb1⟩
  cases q1 with
  | true =>
    go_wp2_with (go_at_call 70; refine (rhas_is s (n := 50) rfl hr1 (by omega) H1.out).mono ?_; rintro e2 w2 ⟨rfl, rfl⟩)
    go_ret
    obtain rfl := HQ.out
    exact ⟨rfl, hb1⟩
  | false =>
    go_wp2_with (go_at_call 70; refine (rhas_is s (n := 50) rfl hr1 (by omega) H1.out).mono ?_; rintro e2 w2 ⟨rfl, rfl⟩)
    refine (split_is _ signsOut 7 rsign_out rfl (by decide) _).mono ?_
    rintro e3 w3 ⟨A3, c3, rfl, hr3, hb3⟩
    cases q2 with
    | true =>
      go_wp2_with (go_at_call 70; refine (rhas_is s (n := 7) rfl hr3 (by omega) H2.out).mono ?_; rintro e2 w2 ⟨rfl, rfl⟩)
      go_ret
      obtain rfl := HQ.out
      exact ⟨rfl, hb1.trans (hb3.mono hb1.size)⟩
    | false =>
      go_wp2_with (go_at_call 70; refine (rhas_is s (n := 7) rfl hr3 (by omega) H2.out).mono ?_; rintro e2 w2 ⟨rfl, rfl⟩)
      go_ret
      obtain rfl := HQ.out
      exact ⟨rfl, hb1.trans (hb3.mono hb1.size)⟩
end Go.Proofs.Ytbljbmeifmpfoaa
