/- Joined for the claim ParseLines: the parser, the lexer and the trees as they are walked, made short by a program of mine. -/
import Derived.Deep.RegionHeld3
import Derived.Deep.CutBlock
import Derived.Deep.DeepCutAuto
import Derived.Deep.LoopGhost
import Derived.Lib.SliceRun
import Derived.Test.YtlohaclgbfhijaaGreatDoorS01
import Derived.Test.YtlohaclgbfhijaaGreatDoorS02
import Derived.Test.YtlohaclgbfhijaaGreatDoorS03
import Derived.Test.YtlohaclgbfhijaaGreatDoorS04
import Derived.Test.YtlohaclgbfhijaaGreatDoorS05
import Derived.Test.YtlohaclgbfhijaaGreatDoorS06
import Derived.Test.YtlohaclgbfhijaaGreatDoorS07
import Derived.Test.YtlohaclgbfhijaaGreatDoorS08
import Derived.Test.YtlohaclgbfhijaaGreatDoorS09
import Derived.Test.YtlohaclgbfhijaaGreatDoorS10
import Derived.Test.YtlohaclgbfhijaaGreatDoorS11
import Derived.Test.YtlohaclgbfhijaaGreatDoorS12
import Derived.Test.YtlohaclgbfhijaaGreatDoorS13
import Derived.Test.YtlohaclgbfhijaaGreatDoorS14
import Derived.Test.YtlohaclgbfhijaaGreatDoorS15
import Derived.Test.YtlohaclgbfhijaaGreatDoorS16
import Derived.Test.YtlohaclgbfhijaaGreatDoorS17
import Derived.Test.YtlohaclgbfhijaaGreatDoorS18
import Derived.Test.YtlohaclgbfhijaaGreatDoorS19
import Derived.Test.YtlohaclgbfhijaaGreatDoorS20
import Derived.Test.YtlohaclgbfhijaaGreatDoorS21
import Derived.Test.YtlohaclgbfhijaaGreatDoorS22
import Derived.Test.YtlohaclgbfhijaaGreatDoorS23
import Derived.Test.YtlohaclgbfhijaaGreatDoorS24
import Derived.Test.YtlohaclgbfhijaaGreatDoorS25
set_option maxHeartbeats 16000000
set_option maxRecDepth 1000000
namespace Go.Proofs.YtlohaclgbfhijaaGreatDoor
open Go.Proofs.Tryz
open Go.RowKit
theorem TokL.below {w w':World} {base:Nat} {ts:List Tok} {v:Value} (h:TokL w base ts v) (hb:Below w.heap.size w w'):TokL w' base ts v:=
 h.new ⟨hb.os,hb.tape,hb.output,hb.size,fun k hk _=>hb.block k hk⟩
theorem TokL.shape {w:World} {base:Nat} {ts:List Tok} {v:Value} (h:TokL w base ts v):∃A c,v=.slice A ts.length c∧ts.length≤c∧c≤maxLen:=by
 obtain⟨cs,ho,_⟩:=h;exact zZ ho
theorem zVg {t:Tok} (h:t.kind=0):Stop t:=by
 have hT:∀w,isT t w=false:=fun w=>by unfold isT;rw[h];simp
 refine⟨by omega,?_,fun w _=>hT w,fun h5=>by omega,fun h5=>by omega⟩;unfold zA9;rw[if_neg];rintro(h5 | h5)
 · omega
 · rw[hT]at h5;cases h5
section
variable {L L1 L2:List Tok} {a d m:Nat} {lo:Bool} {s:Ps}
theorem Path.app {s s2 e:Ps} {i1 i2:List Tr} (h:Path L s i1 s2) (k:Path L s2 i2 e):Path L s (i1++i2) e:=by
 induction h with
 | nil=>exact k
 | cons h _ ih=>exact .cons h (ih k)
end
theorem zVY {t:Tok} (h:isT t [59]=true) (hk:t.kind=5):Stop t:=by
 obtain⟨ht,_⟩:=zCh h;refine⟨by omega,?_,fun w hw=>zCE h (by revert w;decide),fun _=>?_,fun _ hp=>?_⟩
 · unfold zA9;rw[if_pos (.inl hk),ht];decide
 · rw[ht];decide
 · rw[ht]at hp;exact absurd hp (by decide)
theorem zVZ {L:List Tok} (hL:Lst L) {s:Ps} (hs:s.k≤L.length - 1) (h:isT (zH L s.k) [59]=true) (hk:(zH L s.k).kind=5):zG L .item s=(trK 2 [],zB s):=by
 have h1:zG L .statement s=(trK 2 [],zB s):=by
  rw[zt hL ⟨hs,trivial⟩];unfold zF;dsimp only;rw[if_neg (by omega),if_neg (by omega),if_pos (show onP L [59] s=true from h)]
 rw[zt hL ⟨hs,trivial⟩];unfold zF;dsimp only;rw[if_neg (by unfold onP;rw[zCE h (by decide),zCE h (by decide)];decide),if_neg (by unfold onP;rw[zCE h (by decide)];decide)];exact h1
theorem zVM {t:Tok} (h:t.kind=0) (w:List UInt8):isT t w=false:=by
 cases hh:isT t w with
 | false=>rfl
 | true=>exact absurd h (zDz hh)
section
variable {L1 L2 L3:List Tok}
theorem zVh (h2:Lst L2) (h3:Lst L3) {d:Nat} (hlen:L3.length=d+L2.length) (hB:∀i,i < L2.length - 1→zS5 (zH L2 i) (zH L3 (i+d))∧(0 < i→(zH L2 i).nl=(zH L3 (i+d)).nl)):Sim L2 L3 0 d (L2.length - 1) true:=by
 have hp:=h2.pos;have e:L2.length - 1+d=L3.length - 1:=by omega
 refine⟨h2,h3,yAD _,by omega,fun i _ hi=>(hB i hi).1,fun i h0 hi=>(hB i hi).2 h0,zVg (by rw[e];exact h3.last),fun h=>?_,fun _=>.inr ⟨by rw[e];exact zVM h3.last _,.inr (.inl (by rw[e];exact h3.last))⟩⟩;rw[e,zVM h3.last]at h;cases h
theorem zVa (h2:Lst L2) (h3:Lst L3) {d:Nat} (hlen:L3.length=d+L2.length) (hB:∀i,i < L2.length - 1→zS5 (zH L2 i) (zH L3 (i+d))∧(0 < i→(zH L2 i).nl=(zH L3 (i+d)).nl)) {items:List Tr} {e:Ps} (p:Path L2 s0 items e) (he:e.k=L2.length - 1) (hb:e.bad=0):Path L3 (shP d s0) items (shP d e):=by
 have hp:=h2.pos;have S:=zVh h2 h3 hlen hB;rcases zQs S rfl p (yAF _) ⟨hb,by omega⟩ (yAF _)with h | ⟨_,h,_⟩
 · exact h
 · rw[show L2.length - 1+d=L3.length - 1 by omega,zVM h3.last]at h;cases h
theorem zVi (h1:Lst L1) (h2:Lst L2) (h3:Lst L3) (hlen:L3.length=L1.length+L2.length)
 (hA:∀i,i < L1.length - 1→zS5 (zH L1 i) (zH L3 i)∧(0 < i→(zH L1 i).nl=(zH L3 i).nl))
 (hs:isT (zH L3 (L1.length - 1)) [59]=true) (hk:(zH L3 (L1.length - 1)).kind=5)
 (hB:∀i,i < L2.length - 1→zS5 (zH L2 i) (zH L3 (i+L1.length))∧(0 < i→(zH L2 i).nl=(zH L3 (i+L1.length)).nl))
 (r1:(zG L1 (.program []) s0).2.bad=0) (r2:(zG L2 (.program []) s0).2.bad=0):
 ∃IA IB more,(zG L1 (.program []) s0).1=trK 1 IA∧(zG L2 (.program []) s0).1=trK 1 IB∧(more=[]∨more=[trK 2 []])∧(zG L3 (.program []) s0).1=trK 1 (IA++more++IB)∧(zG L3 (.program []) s0).2.bad=0:=by
 have hp1:=h1.pos;have hp2:=h2.pos;obtain⟨IA,e1,p1,k1,b1,g1⟩:=zN0 h1 (L1.length+1) [] s0 (by show L1.length - 0 < _;omega) (yAF _) r1;obtain⟨IB,e2,p2,k2,b2,g2⟩:=zN0 h2 (L2.length+1) [] s0 (by show L2.length - 0 < _;omega) (yAF _) r2;have hne:isT (zH L3 (L1.length - 1+0+1)) [101,108,115,101]=false:=by
  rw[show L1.length - 1+0+1=L1.length by omega];rcases Nat.eq_zero_or_pos (L2.length - 1)with h0 | h0
  · have:=h3.last;rw[show L3.length - 1=L1.length by omega]at this;exact zVM this _
  · have:=zLO (w:=[101,108,115,101]) h2 p2 (yAF _) b2 (by rw[k2];show 0≠_;omega) (by decide);have h4:=zBc (hB 0 h0).1 [101,108,115,101];rw[Nat.zero_add]at h4;rw[h4];exact this
 have S1:Sim L1 L3 0 0 (L1.length - 1) true:=⟨h1,h3,yAD _,by omega,fun i _ hi=>(hA i hi).1,fun i h0 hi=>(hA i hi).2 h0,zVY hs hk,fun h=>by
  have h5:=(zCh hs).1;have h6:=(zCh h).1;rw[show L1.length - 1+0=L1.length - 1 from rfl,h5]at h6;exact absurd h6 (by decide),fun _=>.inl ⟨hs,hne⟩⟩
 have f1:e1.far=0:=(p1.adv h1 (yAF _)).far b1;have tail:=zVa h2 h3 (d:=L1.length) (by omega) hB p2 k2 b2;have est:(⟨L1.length,0,0⟩:Ps)=shP L1.length s0:=by unfold shP s0;simp
 have hend:(zH L3 (shP L1.length e2).k).kind=0:=by
  show(zH L3 (e2.k+L1.length)).kind=0;rw[k2,show L2.length - 1+L1.length=L3.length - 1 by omega];exact h3.last
 have hz:shP 0 s0=s0:=rfl;have e1eq:e1=⟨L1.length - 1,0,0⟩:=by cases e1;simp only at k1 b1 f1;rw[k1,b1,f1]
 rcases zQs S1 rfl p1 (yAF _) ⟨b1,by omega⟩ (yAF _)with h | ⟨_,_,h⟩
 · rw[hz]at h;have hse:shP 0 e1=⟨L1.length - 1,0,0⟩:=by rw[e1eq];rfl
   rw[hse]at h;have hsi:=zVZ h3 (s:=⟨L1.length - 1,0,0⟩) (by show L1.length - 1≤_;omega) hs hk;have h6:Path L3 ⟨L1.length - 1,0,0⟩ ([trK 2 []]++IB) (shP L1.length e2):=by
    have h7:Path L3 (zG L3 .item ⟨L1.length - 1,0,0⟩).2 IB (shP L1.length e2):=by
     rw[hsi];have:zB ⟨L1.length - 1,0,0⟩=(⟨L1.length,0,0⟩:Ps):=by unfold zB;simp only[Ps.mk.injEq,and_true];omega
     rw[this,est];exact tail
    have h8:=Path.cons (L:=L3) (s:=⟨L1.length - 1,0,0⟩) (by show(zH L3 (L1.length - 1)).kind≠0;omega) h7;rw[hsi]at h8;exact h8
   have h9:=(h.app h6).prog h3 (yAF _) hend [];refine⟨IA,IB,[trK 2 []],by rw[g1];rfl,by rw[g2];rfl,.inr rfl,?_,?_⟩
   · rw[h9,List.nil_append,List.append_assoc]
   · rw[h9];exact b2
 · rw[hz]at h;have hse:zB (shP 0 e1)=⟨L1.length,0,0⟩:=by rw[e1eq];unfold zB shP;simp only[Ps.mk.injEq,and_true];omega
   rw[hse,est]at h;have h9:=(h.app tail).prog h3 (yAF _) hend [];refine⟨IA,IB,[],by rw[g1];rfl,by rw[g2];rfl,.inl rfl,?_,?_⟩
   · rw[h9,List.nil_append,List.append_nil]
   · rw[h9];exact b2
end
theorem zAn {a b c:World} (h:Below a.heap.size a b) (k:Below b.heap.size b c):Below a.heap.size a c:=h.trans (k.mono h.size)
theorem zGN (u:List UInt16):(zAg u).1.length≤4096:=by
 unfold zAg;simp only;split
 · simp
 · split
   · simp
   · split
     · simp
     · split
       · simp
       · rw[flatT_len];omega
theorem zVr {A:Option Addr} {c B n N a e:Nat} {u:List UInt16} {ts:List Tok} {w:World} (hB:B≤w.heap.size) (hn:u.length=n) (ha:Reads w B 1 A n (zAM u)) (hc:n≤c) (hc2:c≤maxLen) (hq:zCk u=(ts,a,e)) (hN:ts.length=N):
 Calls prog 19 #[.slice A n c] w fun ev w'=>∃A' c',ev=.returned (.tuple #[.slice A' N c',.int .i64 (a:Int),.int .i64 (e:Int)])∧TokL w' w.heap.size ts (.slice A' N c')∧N≤c'∧c'≤maxLen∧Below w.heap.size w w':=by
 subst hN;refine(zIU hB hn ha hc hc2).mono ?_;rintro ev w' ⟨v,rfl,ht,hb⟩;rw[hq]at ht⊢;obtain⟨A',c',rfl,h1,h2⟩:=ht.shape;exact⟨A',c',rfl,ht,h1,h2,hb⟩
theorem zVJ {p:UInt16→Bool}:∀(l:List UInt16) (i:Nat),(l.takeWhile p).length≤i→(l.take i).takeWhile p=l.takeWhile p:=by
 intro l
 induction l with
 | nil=>intro i _;simp
 | cons c r ih=>
  intro i h
  by_cases hc:p c=true
  · rw[List.takeWhile_cons_of_pos hc]at h⊢;cases i with
    | zero=>simp at h
    | succ i=>rw[List.take_succ_cons,List.takeWhile_cons_of_pos hc,ih i (by simpa using h)]
  · rw[List.takeWhile_cons_of_neg hc];cases i with
    | zero=>rfl
    | succ i=>rw[List.take_succ_cons,List.takeWhile_cons_of_neg hc]
theorem zVF {k i:Nat} {p:UInt16→Bool} {l:List UInt16} (h:zBF k p l=false):zBF k p (l.take i)=false:=by
 unfold zBF at h⊢;rw[List.getElem?_take];split
 · exact h
 · rfl
theorem zVG {s:List UInt8} {i:Nat} {l:List UInt16} (h:zg s l=false):zg s (l.take i)=false:=by
 cases hh:zg s (l.take i)with
 | false=>rfl
 | true=>
  unfold zg at h hh;rw[List.isPrefixOf_iff_prefix]at hh;rw[List.isPrefixOf_iff_prefix.2 (hh.trans (List.take_prefix i l))]at h;cases h
theorem zVH {s:List UInt8} {i:Nat} {l:List UInt16} (hi:s.length≤i):zg s (l.take i)=zg s l:=by
 cases hh:zg s l with
 | false=>exact zVG hh
 | true=>
  unfold zg at hh⊢;rw[List.isPrefixOf_iff_prefix]at hh⊢;exact List.prefix_take_iff.2 ⟨hh,by simpa using hi⟩
theorem zVb {l:List UInt16} {i:Nat} (h:(zDg l).1=0) (hi:(zDg l).2.2≤i):zDg (l.take i)=zDg l:=by
 unfold zDg at h hi⊢
 by_cases c:zg [92] (l.drop (l.takeWhile zAw).length)=true
 · rw[if_pos c]at h;cases h
 · rw[if_neg c]at h hi⊢;rw[zVJ _ _ hi,List.drop_take,if_neg (by rw[zVG (by simpa using c)];simp)]
theorem zVj {d r:List UInt16} {i:Nat} (h:(zB7 d r).1=0) (hi:(zB7 d r).2.2≤d.length+i):zB7 d (r.take i)=zB7 d r:=by
 unfold zB7 at h hi⊢
 by_cases c1:(zBF 0 (fun x=>x.toNat==48) d&& !decide (d=[48]))=true
 · rw[if_pos c1]at h;cases h
 simp only[if_neg c1]at h hi⊢
 by_cases c2:zg [110] r=true
 · simp only[if_pos c2]at h hi⊢;unfold zH6 at h hi⊢
   by_cases c3:zFi≤zr d
   · rw[if_pos c3]at h;cases h
   simp only[if_neg c3]at h hi⊢
   by_cases c4:(zBF 0 zA4 (r.drop 1) || zBF 0 zP (r.drop 1))=true
   · rw[if_pos c4]at h;cases h
   simp only[if_neg c4]at h hi⊢;have hi':1≤i:=by omega
   rw[Bool.or_eq_true,not_or,Bool.not_eq_true,Bool.not_eq_true]at c4;rw[if_pos (by rw[zVH (by simpa using hi')];exact c2),List.drop_take,if_neg (by rw[zVF c4.1,zVF c4.2];decide)]
 · simp only[if_neg c2]at h hi⊢;rw[if_neg (by rw[zVG (by simpa using c2)];decide)]
   by_cases c3:zBF 0 (zu (decide (d=[48]))) r=true
   · rw[if_pos c3]at h;cases h
   simp only[if_neg c3]at h hi⊢;rw[if_neg (by rw[zVF (by simpa using c3)];decide)]
   by_cases c4:zBF 0 zA4 r=true
   · rw[if_pos c4]at h;cases h
   rw[if_neg c4,if_neg (by rw[zVF (by simpa using c4)];decide)]
theorem zVP {l:List UInt16} {i:Nat} (h:(zBw l).1=0) (hi:(zBw l).2.2≤i):zBw (l.take i)=zBw l:=by
 unfold zBw at h hi⊢;have hd:(l.takeWhile zP).length≤(zB7 (l.takeWhile zP) (l.drop (l.takeWhile zP).length)).2.2:=by
  unfold zB7 at h⊢;split
  · rename_i c;rw[if_pos c]at h;cases h
  rename_i c;rw[if_neg c]at h
  split
  · rename_i c;rw[if_pos c]at h
    unfold zH6 at h⊢;split
    · rename_i c;rw[if_pos c]at h;cases h
    rename_i c;rw[if_neg c]at h
    split
    · rename_i c;rw[if_pos c]at h;cases h
    · exact Nat.le_succ _
  rename_i c;rw[if_neg c]at h
  split
  · rename_i c;rw[if_pos c]at h;cases h
  rename_i c;rw[if_neg c]at h
  split
  · rename_i c;rw[if_pos c]at h;cases h
  rename_i c;rw[if_neg c]at h
  split
  · rename_i c;rw[if_pos c]at h;cases h
  · exact yAD _
 rw[zVJ _ _ (by omega),List.drop_take];exact zVj h (by omega)
theorem zVN {n i:Nat} {l:List UInt16} (h:(zB8 n l).1=0) (hi:n≤i):zB8 n (l.take i)=zB8 n l:=by
 have hl:=zJJ h;unfold zB8;rw[List.take_take,Nat.min_eq_left hi,decide_eq_true hl.2,decide_eq_true (by rw[List.length_take];omega)]
theorem zVR {n m:Nat} {r:List UInt16} (h:(more n (zB8 m r)).1=0):(zB8 m r).1=0∧(more n (zB8 m r)).2.2=n+m:=by
 unfold more at h⊢
 by_cases h0:(zB8 m r).1=0
 · rw[if_pos h0];refine⟨h0,?_⟩;have:=(zJJ h0).1;simp only;omega
 · rw[if_neg h0]at h;exact absurd h h0
theorem zVk {l:List UInt16} {i:Nat} (h:(zDb l).1=0) (hi:(zDb l).2.2≤i):zDb (l.take i)=zDb l:=by
 cases l with
 | nil=>cases h
 | cons c r=>
  have h1:=(zEO h).1;obtain⟨i,rfl⟩:∃j,i=j+1:=⟨i - 1,by omega⟩;rw[List.take_succ_cons,zD3,zD3];rw[zD3]at h hi
  by_cases hs:(zB9 c).isSome=true
  · rw[if_pos hs,if_pos hs]
  · rw[if_neg hs]at h hi⊢;rw[if_neg hs];unfold zR2 at h hi⊢
    by_cases c1:(c.toNat==48&& !zBF 0 zP r)=true
    · rw[Bool.and_eq_true,Bool.not_eq_true']at c1;rw[zVF c1.2,c1.1,c1.2];rfl
    rw[if_neg c1]at h hi⊢
    by_cases c2:zP c=true
    · rw[if_pos c2]at h;cases h
    have c0:(c.toNat==48)=false:=by
     unfold zP at c2;rw[yA];intro e;rw[e]at c2;exact c2 rfl
    rw[if_neg c2]at h hi⊢;rw[c0,Bool.false_and,if_neg (by decide),if_neg c2]
    by_cases c3:(zw c || zGP c || (c.toNat==117&&zg [123] r))=true
    · rw[if_pos c3]at h;cases h
    rw[if_neg c3]at h hi⊢;rw[if_neg (by
     rw[Bool.or_eq_true,not_or]at c3⊢;refine⟨c3.1,?_⟩;rw[Bool.and_eq_true,not_and,Bool.not_eq_true]at c3⊢;exact fun e=>zVG (by simpa using c3.2 e))]
    by_cases c4:c.toNat=120
    · rw[if_pos c4]at h hi⊢;obtain⟨m1,m2⟩:=zVR h;rw[if_pos c4,zVN m1 (by omega)]
    rw[if_neg c4]at h hi⊢;rw[if_neg c4]
    by_cases c5:c.toNat=117
    · rw[if_pos c5]at h hi⊢;obtain⟨m1,m2⟩:=zVR h;rw[if_pos c5,zVN m1 (by omega)]
    rw[if_neg c5,if_neg c5]
theorem zVl (q:UInt16):∀(f i:Nat) (l acc:List UInt16),(zCz q f l acc).1=0→(zCz q f l acc).2.2≤i→zCz q f (l.take i) acc=zCz q f l acc:=by
 intro f
 induction f with
 | zero=>intro i l acc h;cases h
 | succ f ih=>
  intro i l acc;cases l with
  | nil=>intro h;cases h
  | cons c r=>
   rw[zCz]
   by_cases h1:zw c=true
   · rw[if_pos h1];intro h;cases h
   rw[if_neg h1]
   by_cases h2:c=q
   · rw[if_pos h2];intro _ hi;obtain⟨i,rfl⟩:∃j,i=j+1:=⟨i - 1,by simp only at hi;omega⟩;rw[List.take_succ_cons,zCz,if_neg h1,if_pos h2]
   rw[if_neg h2]
   by_cases h3:c.toNat=92
   · rw[if_pos h3]
     by_cases h4:(zDb r).1≠0
     · rw[if_pos h4];intro h;exact absurd h h4
     · have h5:=yAL.1 h4;rw[if_neg h4];intro h hi;simp only at h hi;obtain⟨i,rfl⟩:∃j,i=j+1:=⟨i - 1,by omega⟩;have h6:=zEO h5;rw[List.take_succ_cons,zCz,if_neg h1,if_neg h2,if_pos h3,zVk h5 (by omega),if_neg h4,List.drop_take,ih _ _ _ h (by omega)]
   · rw[if_neg h3];intro h hi;simp only at h hi;obtain⟨i,rfl⟩:∃j,i=j+1:=⟨i - 1,by omega⟩;rw[List.take_succ_cons,zCz,if_neg h1,if_neg h2,if_neg h3,ih _ _ _ h (by omega)]
theorem zVQ {q:UInt16} {l:List UInt16} {i:Nat} (h:(zA5 q l).1=0) (hi:(zA5 q l).2.2≤i+1):zA5 q (l.take i)=zA5 q l:=by
 have h1:(zJz q l).1=0:=by
  unfold zA5 at h
  by_cases h2:(zJz q l).1≠0
  · rw[if_pos h2]at h;exact absurd h h2
  · exact yAL.1 h2
 have h3:zJz q (l.take i)=zJz q l:=by
  unfold zA5 at hi;rw[if_neg (by rw[h1];simp)]at hi;simp only at hi;unfold zJz at h1 hi⊢;have h4:=zVl q (l.length+1) i l [] h1 (by omega);rw[zPM q _ (l.length+1) _ _ (yAG _) (by rw[List.length_take];omega),h4]
 unfold zA5;rw[h3]
theorem zVI {l:List UInt16} {n i:Nat} (hn:n≤i) (hq:¬(zg [63,46] l=true∧zBF 2 zP l=true)):zAc (l.take i) n=zAc l n:=by
 unfold zAc;rw[List.take_take,Nat.min_eq_left hn]
 by_cases hl:n≤l.length
 · rw[decide_eq_true hl,decide_eq_true (by rw[List.length_take];omega)]
   by_cases ha:asc (l.take n)=[63,46]∧(l.take n).all (fun x=>decide (x.toNat≤127))=true
   · have hs:zg [63,46] l=true:=by
      obtain⟨ha,hb⟩:=ha;have h2:=zJo (d:=l.take n) fun x hx=>by have:=List.all_eq_true.1 hb x hx;simp only[decide_eq_true_eq]at this;omega
      rw[ha]at h2;unfold zg;rw[List.isPrefixOf_iff_prefix];show zAo [63,46] <+:l;rw[h2];exact List.take_prefix n l
     have hd:zBF 2 zP l=false:=by
      cases hh:zBF 2 zP l with
      | false=>rfl
      | true=>exact absurd ⟨hs,hh⟩ hq
     rw[hd,zVF hd]
   · rw[not_and]at ha
     by_cases hb:asc (l.take n)=[63,46]
     · rw[Bool.not_eq_true _ |>.mp (ha hb)];simp
     · rw[yAJ hb];simp
 · rw[yAJ hl,yAJ (by rw[List.length_take];omega)];simp
theorem zVU {l:List UInt16} {n i:Nat} (hn:i < n):zAc (l.take i) n=0:=by
 unfold zAc;rw[yAJ (by rw[List.length_take];omega)];simp
theorem zVc {l:List UInt16} {i n:Nat} (hq:¬(zg [63,46] l=true∧zBF 2 zP l=true)) (hi:n≤i):∀m,zA6 l m=some n→zA6 (l.take i) m=some n:=by
 intro m
 induction m with
 | zero=>intro h;cases h
 | succ m ih=>
  rw[zA6,zA6]
  by_cases h:zAc l (m+1)≠0
  · rw[if_pos h];intro e;cases e;rw[if_pos (by rw[zVI hi hq];exact h)]
  · rw[if_neg h];intro e;rw[if_neg,ih e];rcases Nat.lt_or_ge i (m+1)with h2 | h2
    · rw[zVU h2];simp
    · rw[zVI h2 hq];exact h
theorem zVd {z:Bool} {l:List UInt16} {i:Nat} (h:(zBp z l).1=0) (hi:(zBp z l).2.2≤i) (hq:¬(zg [63,46] l=true∧zBF 2 zP l=true)):zBp z (l.take i)=zBp z l:=by
 unfold zBp at h hi⊢;cases hs:zA6 l 4 with
 | none=>
  rw[hs]at h;simp only at h;split at h<;>cases h
 | some n=>
  rw[hs]at h hi;simp only at h hi⊢
  by_cases h2:zAc l n=2
  · rw[if_pos h2]at h;cases h
  rw[if_neg h2]at h hi;have hni:n≤i:=hi;rw[zVc hq hni 4 hs];simp only;rw[zVI hni hq,if_neg h2,if_neg h2,List.take_take,Nat.min_eq_left hni]
theorem zVV {z:Bool} {l:List UInt16} {i:Nat} (h:(zA2 z l).1=0) (hi:(zA2 z l).2.2≤i) (hq:¬(zg [63,46] l=true∧zBF 2 zP l=true)):zA2 z (l.take i)=zA2 z l:=by
 have hp:=(zHD h).1;cases l with
 | nil=>cases h
 | cons c r=>
  obtain⟨i,rfl⟩:∃j,i=j+1:=⟨i - 1,by omega⟩;rw[zAj]at h hi;rw[List.take_succ_cons,zAj,zAj,←List.take_succ_cons]
  by_cases c1:zA4 c=true
  · rw[if_pos c1]at h hi⊢;rw[if_pos c1,zVb h hi]
  rw[if_neg c1]at h hi⊢;rw[if_neg c1]
  by_cases c2:zP c=true
  · rw[if_pos c2]at h hi⊢;rw[if_pos c2,zVP h hi]
  rw[if_neg c2]at h hi⊢;rw[if_neg c2]
  by_cases c3:(c.toNat==39 || c.toNat==34)=true
  · rw[if_pos c3]at h hi⊢;rw[if_pos c3,zVQ h hi]
  rw[if_neg c3]at h hi⊢;rw[if_neg c3]
  by_cases c4:(c.toNat==46&&zBF 0 zP r)=true
  · rw[if_pos c4]at h;cases h
  rw[if_neg c4]at h hi⊢;rw[if_neg (by
   rw[Bool.and_eq_true,not_and,Bool.not_eq_true]at c4⊢;exact fun e=>zVF (c4 e)),zVd h hi hq]
theorem zVs {z:Bool} {l:List UInt16} {k:Nat} (h:(zA2 z l).1=0) (h2:(zBh k (l.drop (zA2 z l).2.2)).2.2=0):¬(zg [63,46] l=true∧zBF 2 zP l=true):=by
 rintro⟨hs,hd⟩;obtain⟨d,r,rfl,hdd⟩:∃d r,l=63::46::d::r∧zP d=true:=by
  match l,hs,hd with
  | [],hs,_=>cases hs
  | [_],hs,_=>simp[zg,List.isPrefixOf]at hs
  | [_,_],_,hd=>cases hd
  | a::b::d::r,hs,hd=>
   refine⟨d,r,?_,hd⟩;simp only[zg,List.map,List.isPrefixOf,Bool.and_true,Bool.and_eq_true,beq_iff_eq]at hs;rw[←hs.1,←hs.2];rfl
 have hd1:d.toNat≤127:=by unfold zP at hdd;simp only[Bool.and_eq_true,decide_eq_true_eq]at hdd;omega
 have e4:zAc (63::46::d::r) 4=0:=by
  unfold zAc;split
  · cases r with
    | nil=>rename_i c;simp at c
    | cons e r=>simp[asc,zBY,zBv,zBl]
  · rfl
 have e3:zAc (63::46::d::r) 3=0:=by
  unfold zAc;split
  · simp[asc,zBY,zBv,zBl]
  · rfl
 have e2:zAc (63::46::d::r) 2=0:=by
  unfold zAc;rw[if_neg];rw[hd];simp[asc]
 have e1:zAc (63::46::d::r) 1=1:=by
  unfold zAc;simp[asc,zBY,zBv]
 have hN:zA6 (63::46::d::r) 4=some 1:=by
  rw[zA6,if_neg (by rw[e4];simp),zA6,if_neg (by rw[e3];simp),zA6,if_neg (by rw[e2];simp),zA6,if_pos (by rw[e1];simp)]
 have hT:(zA2 z (63::46::d::r)).2.2=1:=by
  rw[zAj,if_neg (by decide),if_neg (by decide),if_neg (by decide),if_neg (by simp)];unfold zBp;rw[hN];simp only;rw[e1,if_neg (by decide)]
 rw[hT,show(63::46::d::r).drop 1=46::d::r from rfl]at h2;have hp:za (46::d::r)=(0,false,0):=zDS (by decide) (by
  cases hh:zg [47,47] (46::d::r) || zg [47,42] (46::d::r)with
  | false=>rfl
  | true=>simp[zg,List.isPrefixOf]at hh) false
 have ht:(zz k (46::d::r)).1=6:=by
  unfold zz;rw[hp];show(zA2 _ (46::d::r)).1=6;rw[zAj,if_neg (by decide),if_neg (by decide),if_neg (by decide),if_pos (by rw[show zBF 0 zP (d::r)=zP d from rfl,hdd];decide)];rfl
 rw[zEv (by rw[hp]) (by rw[hp];simp) (by rw[ht];decide)]at h2;rw[ht]at h2;cases h2
def Yb (y:List UInt16):Prop:=y=[]∨∃v,y=32::v
theorem zVD {s:List UInt8} {l y:List UInt16} {i:Nat} (hs:s.length≤i) (hi:i≤l.length):zg s (l.take i++y)=zg s l:=by
 rw[←zVH (l:=l.take i++y) (i:=s.length) (yAD _),List.take_append_of_le_length (by rw[List.length_take];omega),List.take_take,Nat.min_eq_left hs,zVH (yAD _)]
theorem zVO {a:UInt8} (ha:a=47∨a=42) {c:UInt16} {y:List UInt16} (hy:Yb y):zg [47,a] (c::y)=false:=by
 rcases hy with rfl | ⟨v,rfl⟩
 · simp[zg,List.isPrefixOf]
 · rcases ha with rfl | rfl<;>simp[zg,List.isPrefixOf]
theorem zVm:∀(l:List UInt16) (nl st:Bool),(zBe false l nl st).1 < l.length→∃x r,l.drop (zBe false l nl st).1=x::r∧zw x=true:=by
 intro l
 induction l with
 | nil=>intro nl st h;exact absurd h (Nat.not_lt_zero _)
 | cons c r ih=>
  intro nl st;rw[zBe];simp only[Bool.false_and,Bool.false_eq_true,if_false,Bool.not_false,Bool.true_and]
  by_cases h:zw c=true
  · rw[if_pos h];intro _;exact⟨c,r,rfl,h⟩
  · rw[if_neg h];intro h2;simp only[zCi,List.length_cons]at h2;obtain⟨x,q,e,hx⟩:=ih (nl || zw c) (st || zGP c) (by omega);refine⟨x,q,?_,hx⟩;simp only[zCi];rw[Nat.add_comm,List.drop_succ_cons];exact e
theorem zVt:∀(l:List UInt16) (nl st:Bool),(zBe true l nl st).2.2=0→2≤(zBe true l nl st).1:=by
 intro l
 induction l with
 | nil=>intro nl st h;cases h
 | cons c r ih=>
  intro nl st;rw[zBe]
  by_cases h:(true&&zg [42,47] (c::r))=true
  · rw[if_pos h];intro _;exact yAD _
  · rw[if_neg h,if_neg (by simp)];intro h0;have:=ih _ _ h0;simp only[zCi];omega
theorem zVu {long:Bool} {y:List UInt16}:∀(l:List UInt16) (nl st:Bool) (j:Nat),(zBe long l nl st).2.2=0→(zBe long l nl st).1≤j→(long=false→(zBe long l nl st).1 < j)→j≤l.length→zBe long (l.take j++y) nl st=zBe long l nl st:=by
 intro l
 induction l with
 | nil=>
  intro nl st j h h1 h2 h3;cases long with
  | true=>cases h
  | false=>exact absurd (h2 rfl) (by simp only[List.length_nil]at h3;omega)
 | cons c r ih=>
  intro nl st j;rw[zBe]
  by_cases h:(long&&zg [42,47] (c::r))=true
  · rw[if_pos h];intro _ h1 _ h3;simp only at h1;obtain⟨i,rfl⟩:∃i,j=i+2:=⟨j - 2,by omega⟩;have:=zVD (s:=[42,47]) (y:=y) (show 2≤i+2 by omega) h3;rw[List.take_succ_cons,List.cons_append]at this⊢;rw[zBe,this,if_pos h]
  · rw[if_neg h]
    by_cases hl:(!long &&zw c)=true
    · rw[if_pos hl];intro _ _ h2 h3;have hlong:long=false:=by cases long<;>simp_all
      have:=h2 hlong;obtain⟨i,rfl⟩:∃i,j=i+1:=⟨j - 1,by omega⟩;rw[List.take_succ_cons,List.cons_append,zBe,if_neg (by rw[hlong];simp),if_pos hl]
    · rw[if_neg hl];intro h0 h1 h2 h3;simp only[zCi]at h0 h1 h2;obtain⟨i,rfl⟩:∃i,j=i+1:=⟨j - 1,by omega⟩;have h4:=ih (nl || zw c) (st || zGP c) i h0 (by omega) (fun e=>by have:=h2 e;omega) (by simp only[List.length_cons]at h3;omega);have h5:¬(long&&zg [42,47] (c::(r.take i++y)))=true:=by
       cases long with
       | false=>simp
       | true=>
        have hi2:1≤i:=by
         have:=zVt r (nl || zw c) (st || zGP c) h0;omega
        have:=zVD (s:=[42,47]) (l:=c::r) (y:=y) (show 2≤i+1 by omega) h3;rw[List.take_succ_cons,List.cons_append]at this;rw[this];exact h
      rw[List.take_succ_cons,List.cons_append,zBe,if_neg h5,if_neg hl,h4]
theorem zVW {l y:List UInt16} {i:Nat} (hs:(zg [47,47] l || zg [47,42] l)=true) (h:(zq l).2.2=0) (hi:(zq l).1≤i) (hl:zg [47,42] l=false→(zq l).1 < i) (hi2:i≤l.length):zq (l.take i++y)=zq l:=by
 have h2:=(zDC (zB4 hs)).1;unfold zq at h hi hl h2⊢;simp only[zCi]at h hi hl h2;rw[zVD (s:=[47,42]) (by show 2≤i;omega) hi2,List.drop_append_of_le_length (by rw[List.length_take];omega),List.drop_take];rw[zVu (l.drop 2) false false (i - 2) h (by omega) (fun e=>by have:=hl e;omega) (by rw[List.length_drop];omega)]
theorem zVS:∀(n:Nat) (l:List UInt16) (b:Bool) (i:Nat) (y:List UInt16),l.length < n→Yb y→(zBJ l b).2.2=0→(zBJ l b).1 < l.length→(zBJ l b).1≤i→i≤l.length→
 zBJ (l.take i++y) b=if(zBJ l b).1 < i then zBJ l b else zCi (zBJ l b).1 (zBJ y (zBJ l b).2.1):=by
 intro n
 induction n with
 | zero=>intro l b i y h;omega
 | succ n ih=>
  intro l b i y hn hy;cases l with
  | nil=>intro _ h;exact absurd h (Nat.not_lt_zero _)
  | cons c r=>
   simp only[List.length_cons]at hn
   by_cases h1:(zGO c || zw c)=true
   · rw[zCm h1];intro h0 h2 h3 h4;simp only[zCi,List.length_cons]at h0 h2 h3 h4;obtain⟨i,rfl⟩:∃j,i=j+1:=⟨i - 1,by omega⟩;rw[List.take_succ_cons,List.cons_append,zCm h1,ih r (b || zw c) i y (by omega) hy h0 (by omega) (by omega) (by omega)]
     by_cases h5:(zBJ r (b || zw c)).1 < i
     · rw[if_pos h5,if_pos (show(zCi 1 (zBJ r (b || zw c))).1 < i+1 by simp only[zCi];omega)]
     · rw[if_neg h5,if_neg (show¬(zCi 1 (zBJ r (b || zw c))).1 < i+1 by simp only[zCi];omega)];simp only[zCi,Nat.add_assoc]
   · have h1':(zGO c || zw c)=false:=by simpa using h1
     by_cases h2:(zg [47,47] (c::r) || zg [47,42] (c::r))=true
     · have hrl:=zDC (zB4 h2);rw[zCO h1' h2]
       by_cases h3:(zq (c::r)).2.2≠0
       · rw[if_pos h3];intro h;exact absurd h h3
       rw[if_neg h3];have h3':=yAL.1 h3;obtain⟨m,hm⟩:∃m,(zq (c::r)).1=m:=⟨_,rfl⟩;obtain⟨b',hb'⟩:∃b',(b || (zq (c::r)).2.1)=b':=⟨_,rfl⟩;rw[hb'];rw[hm]at hrl⊢;intro h0 h4 h5 h6;simp only[zCi]at h0 h4 h5;have hd:((c::r).drop m).length=(c::r).length - m:=List.length_drop;have hml:zg [47,42] (c::r)=false→m < i:=by
        intro hf;have hmm:m=2+(zBe false ((c::r).drop 2) false false).1:=by
         rw[←hm];unfold zq;rw[hf];rfl
        obtain⟨x,q,hx,hxl⟩:=zVm ((c::r).drop 2) false false (by rw[List.length_drop];omega);rw[List.drop_drop,←hmm]at hx;have:(zBJ ((c::r).drop m) b').1=1+(zBJ q (b' || zw x)).1:=by
         rw[hx,zCm (by rw[hxl];simp)];rfl
        omega
       have hrc:=zVW (y:=y) h2 h3' (by rw[hm];omega) (by rw[hm];exact hml) h6;obtain⟨j,rfl⟩:∃j,i=j+1:=⟨i - 1,by omega⟩;have e1:(zg [47,47] (c::(r.take j++y)) || zg [47,42] (c::(r.take j++y)))=true:=by
        have a1:=zVD (s:=[47,47]) (l:=c::r) (y:=y) (show 2≤j+1 by omega) h6;have a2:=zVD (s:=[47,42]) (l:=c::r) (y:=y) (show 2≤j+1 by omega) h6;rw[List.take_succ_cons,List.cons_append]at a1 a2;rw[a1,a2];exact h2
       have e2:((c::r).take (j+1)++y).drop m=((c::r).drop m).take (j+1 - m)++y:=by
        rw[List.drop_append_of_le_length (by rw[List.length_take];omega),List.drop_take]
       have e3:=zCO h1' e1 b;rw[←List.cons_append,←List.take_succ_cons,hrc,if_neg h3,hm,hb',e2,ih ((c::r).drop m) b' (j+1 - m) y (by rw[hd];simp only[List.length_cons]at *;omega) hy h0 (by omega) (by omega) (by omega)]at e3;rw[e3]
       by_cases h7:(zBJ ((c::r).drop m) b').1 < j+1 - m
       · rw[if_pos h7,if_pos (show(zCi m (zBJ ((c::r).drop m) b')).1 < j+1 by simp only[zCi];omega)]
       · rw[if_neg h7,if_neg (show¬(zCi m (zBJ ((c::r).drop m) b')).1 < j+1 by simp only[zCi];omega)];simp only[zCi,Nat.add_assoc]
     · have h2':(zg [47,47] (c::r) || zg [47,42] (c::r))=false:=by simpa using h2
       rw[zDS h1' h2'];intro _ _ _ h4;cases i with
       | zero=>
        rw[if_neg (by simp)];simp[zCi]
       | succ i=>
        rw[if_pos (by simp),List.take_succ_cons,List.cons_append];refine zDS h1' ?_ b;cases i with
        | zero=>rw[List.take_zero,List.nil_append,zVO (.inl rfl) hy,zVO (.inr rfl) hy];rfl
        | succ i=>
         have a1:=zVD (s:=[47,47]) (l:=c::r) (y:=y) (show 2≤i+2 by omega) h4;have a2:=zVD (s:=[47,42]) (l:=c::r) (y:=y) (show 2≤i+2 by omega) h4;rw[List.take_succ_cons,List.cons_append]at a1 a2;rw[a1,a2];exact h2'
theorem zVK {k:Nat} {l:List UInt16} (h:(zBh k l).2.2=0):(za l).2.2=0∧((za l).1=l.length∧zBh k l=([setAt zm (k+(za l).1) (za l).2.1],0,0)∨
 (za l).1 < l.length∧(zz k l).1=0∧(zBh (k+(za l).1+(zz k l).2.2) (l.drop ((za l).1+(zz k l).2.2))).2.2=0∧
  zBh k l=zBq (setAt (zz k l).2.1 (k+(za l).1) (za l).2.1) (zBh (k+(za l).1+(zz k l).2.2) (l.drop ((za l).1+(zz k l).2.2)))):=by
 have hpe:(za l).2.2=0:=by
  by_cases h1:(za l).2.2≠0
  · rw[zD5 h1]at h;exact absurd h h1
  · exact yAL.1 h1
 have hpl:=zFA l;refine⟨hpe,?_⟩
 by_cases h2:l.drop (za l).1=[]
 · have hpn:(za l).1=l.length:=by
    have:=congrArg List.length h2;rw[List.length_drop]at this;simp at this;omega
   exact .inl ⟨hpn,zD6 hpe h2⟩
 · have hpn:(za l).1 < l.length:=by
    rcases Nat.lt_or_ge (za l).1 l.length with h3 | h3
    · exact h3
    · exact absurd (List.drop_of_length_le h3) h2
   have hte:(zz k l).1=0:=by
    by_cases h3:(zz k l).1≠0
    · rw[zEv hpe h2 h3]at h;exact absurd h h3
    · exact yAL.1 h3
   have hm:=zCd hpe h2 hte;refine .inr ⟨hpn,hte,?_,hm⟩;rw[hm]at h;unfold zBq at h
   by_cases h5:(zBh (k+(za l).1+(zz k l).2.2) (l.drop ((za l).1+(zz k l).2.2))).2.2≠0
   · rw[if_pos h5]at h;exact absurd h h5
   · exact yAL.1 h5
theorem zVn {k:Nat} {l:List UInt16} (h:(zBh k l).2.2=0) (hn:(za l).1 < l.length) (ht:(zz k l).1=0) (h2:(zBh (k+(za l).1+(zz k l).2.2) (l.drop ((za l).1+(zz k l).2.2))).2.2=0)
 {i:Nat} (hi:(za l).1+(zz k l).2.2≤i) (hi2:i≤l.length) {y:List UInt16} (hy:Yb y):
 zBh k (l.take i++y)=zBq (setAt (zz k l).2.1 (k+(za l).1) (za l).2.1) (zBh (k+(za l).1+(zz k l).2.2) ((l.drop ((za l).1+(zz k l).2.2)).take (i - ((za l).1+(zz k l).2.2))++y)):=by
 have hpe:=(zVK h).1;have hlen:=zCc ht;have hp:za (l.take i++y)=za l:=by
  have:=zVS (l.length+1) l false i y (yAG _) hy hpe hn (show(za l).1≤i by omega) hi2;rw[show zBJ l false=za l from rfl,if_pos (by omega)]at this;exact this
 have hte:zz k (l.take i++y)=zz k l:=by
  unfold zz at ht h2 hi hlen⊢;rw[hp,List.drop_append_of_le_length (by rw[List.length_take];omega),List.drop_take];have hc:=zVV (i:=i - (za l).1) ht (by omega) (zVs ht (k:=k+(za l).1+(zA2 (k+(za l).1==0) (l.drop (za l).1)).2.2) (by rw[List.drop_drop];exact h2));rcases hy with rfl | ⟨v,rfl⟩
  · rw[List.append_nil];exact hc
  · rw[zLc (.inr rfl) (by rw[hc];exact ht),hc]
 have hd:(l.take i++y).drop (za (l.take i++y)).1≠[]:=by
  intro e;have:=congrArg List.length e;rw[hp,List.length_drop,List.length_append,List.length_take]at this;simp only[List.length_nil]at this;omega
 rw[zCd (by rw[hp];exact hpe) hd (by rw[hte];exact ht),hp,hte,List.drop_append_of_le_length (by rw[List.length_take];omega),List.drop_take]
theorem zVE {t:Tok} {q:List Tok×Nat×Nat} (h:q.2.2=0):zBq t q=(t::q.1,0,0):=by
 unfold zBq;rw[if_neg (by rw[h];simp)]
theorem zVv:∀(j k:Nat) (l:List UInt16) (t:Tok),(zBh k l).2.2=0→(zBh k l).1[j]? =some t→k≤t.pos∧t.pos≤k+l.length∧zBh k (l.take (t.pos - k))=((zBh k l).1.take j++[setAt zm t.pos t.nl],0,0):=by
 intro j
 induction j with
 | zero=>
  intro k l t h ht;obtain⟨hpe,h1⟩:=zVK h;rcases h1 with⟨h1,h2⟩ | ⟨h1,h2,h3,h4⟩
  · rw[h2]at ht;simp only[List.getElem?_cons_zero,Option.some.injEq]at ht;subst ht;simp only[setAt];refine⟨by omega,by omega,?_⟩;rw[Nat.add_sub_cancel_left,h1,List.take_length,h2,List.take_zero,List.nil_append,←h1];rfl
  · rw[h4,zVE h3]at ht⊢;simp only[List.getElem?_cons_zero,Option.some.injEq]at ht;subst ht;simp only[setAt];refine⟨by omega,by omega,?_⟩;have hp:za (l.take (za l).1)=((za l).1,(za l).2.1,0):=by
     have:=zVS (l.length+1) l false (za l).1 [] (yAG _) (.inl rfl) hpe h1 (yAD _) (by omega);rw[show zBJ l false=za l from rfl,if_neg (by omega),List.append_nil,zHC]at this;exact this
    rw[Nat.add_sub_cancel_left,zD6 (by rw[hp]) (by rw[hp];exact List.drop_of_length_le (by rw[List.length_take];omega)),hp,List.take_zero,List.nil_append];rfl
 | succ j ih=>
  intro k l t h ht;obtain⟨hpe,h1⟩:=zVK h;rcases h1 with⟨h1,h2⟩ | ⟨h1,h2,h3,h4⟩
  · rw[h2]at ht;simp at ht
  · have hlen:=zCc h2;have ht':=ht;rw[h4,zVE h3,List.getElem?_cons_succ]at ht';obtain⟨g1,g2,g3⟩:=ih _ _ t h3 ht';rw[List.length_drop]at g2;refine⟨by omega,by omega,?_⟩
    have hh:=zVn h h1 h2 h3 (i:=t.pos - k) (by omega) (by omega) (.inl rfl);rw[List.append_nil,List.append_nil,show t.pos - k - ((za l).1+(zz k l).2.2)=t.pos - (k+(za l).1+(zz k l).2.2) by omega,g3,zVE rfl]at hh;rw[hh,h4,zVE h3];rfl
def z0 (t:Tok):Tok:={t with pos:=0}
theorem zV0:∀(j k:Nat) (l:List UInt16) (t:Tok),(zBh k l).2.2=0→(zBh k l).1[j]? =some t→k≤t.pos∧(t.pos < k+l.length→∃z nl,(zA2 z (l.drop (t.pos - k))).1=0∧t=setAt (zA2 z (l.drop (t.pos - k))).2.1 t.pos nl):=by
 intro j
 induction j with
 | zero=>
  intro k l t h ht;obtain⟨hpe,h1⟩:=zVK h;rcases h1 with⟨h1,h2⟩ | ⟨h1,h2,h3,h4⟩
  · rw[h2]at ht;simp only[List.getElem?_cons_zero,Option.some.injEq]at ht;subst ht;simp only[setAt];exact⟨by omega,fun hh=>by omega⟩
  · rw[h4,zVE h3]at ht;simp only[List.getElem?_cons_zero,Option.some.injEq]at ht;subst ht;simp only[setAt];refine⟨by omega,fun _=>⟨k+(za l).1==0,(za l).2.1,?_,?_⟩⟩
    · rw[Nat.add_sub_cancel_left];exact h2
    · rw[Nat.add_sub_cancel_left];rfl
 | succ j ih=>
  intro k l t h ht;obtain⟨hpe,h1⟩:=zVK h;rcases h1 with⟨h1,h2⟩ | ⟨h1,h2,h3,h4⟩
  · rw[h2]at ht;simp at ht
  · have hlen:=zCc h2;rw[h4,zVE h3,List.getElem?_cons_succ]at ht;obtain⟨g1,g2⟩:=ih _ _ t h3 ht;rw[List.length_drop,List.drop_drop]at g2;refine⟨by omega,fun hh=>?_⟩;obtain⟨z,nl,e1,e2⟩:=g2 (by omega);refine⟨z,nl,?_⟩;rw[show(za l).1+(zz k l).2.2+(t.pos - (k+(za l).1+(zz k l).2.2))=t.pos - k by omega]at e1 e2;exact⟨e1,e2⟩
theorem zVe {v:List UInt16} {ta tb:List Nd} {a1 a2:Nat} {L:List Tok} {t:Tok} (hl:v.length+1≤4000) (hu:zAg (v++[59])=(ta,a1,0)) (hv:zAg v=(tb,a2,0)) (hL:zCk (v++[59])=(L,0,0)) (h2:2≤L.length) (ht:L[L.length - 2]? =some t) (hp:t.pos=v.length):
 ta=tb∨ta.length=tb.length+1∧(atN ta (ta.length - 1:Nat)).kind=2:=by
 obtain⟨L3,g1,g2,g3,g4,g5,g6,_⟩:=zJt hu;obtain⟨L1,k1,k2,k3,k4,k5,k6,_⟩:=zJt hv;rw[hL]at g1;obtain rfl:L=L3:=congrArg Prod.fst g1;rw[zBU (by simp;omega)]at hL;obtain⟨m,hm⟩:∃m,L.length=m+2:=⟨L.length - 2,by omega⟩;rw[hm,Nat.add_sub_cancel]at ht;have hcut:=zVv m 0 (v++[59]) t (by rw[hL]) (by rw[hL];exact ht);have hat:=zV0 m 0 (v++[59]) t (by rw[hL]) (by rw[hL];exact ht);obtain⟨_,hat⟩:=hat
 obtain⟨z,nl,e1,e2⟩:=hat (by simp;omega);obtain⟨_,_,hcut⟩:=hcut;rw[Nat.sub_zero,hp,List.take_left,hL]at hcut;rw[Nat.sub_zero,hp,List.drop_left]at e2;have ht5:t.kind=5∧t.text=[59]:=by
  have:=zQ8 (c:=59) (by decide) z [];rw[show(59:UInt8).toUInt16=59 from rfl]at this;rw[this]at e2;rw[e2];exact⟨rfl,rfl⟩
 rw[zBU (by omega)]at k1;rw[hcut]at k1;obtain rfl:L.take m++[setAt zm v.length t.nl]=L1:=congrArg Prod.fst k1;have hl1:(L.take m++[setAt zm v.length t.nl]).length=m+1:=by simp;omega
 have hE:Lst [zm]:=⟨by simp,rfl,fun i hi=>by simp at hi⟩;have hrE:zG [zm] (.program []) s0=(trK 1 [],s0):=by
  rw[zt hE ⟨yAF _,trivial⟩];unfold zF;dsimp only;rw[if_pos (show(zH [zm] s0.k).kind=0 from rfl)]
 have hti:zH L m=t:=by
  unfold zH;rw[yAH,ht];rfl
 obtain⟨IA,IB,more,m1,m2,m3,m4,m5⟩:=zVi k2 hE g2 (by rw[hl1,hm];rfl) (fun i hi=>by
  rw[hl1]at hi;rw[zH1 (by simp;omega)];have:zH (L.take m) i=zH L i:=by
   unfold zH;rw[yAH,yAH,List.getElem?_take,if_pos (by omega)]
  rw[this];exact⟨⟨rfl,rfl,rfl,rfl,rfl,rfl⟩,fun _=>rfl⟩) (by rw[hl1,Nat.add_sub_cancel,hti];unfold isT;rw[ht5.1,ht5.2];decide) (by rw[hl1,Nat.add_sub_cancel,hti];exact ht5.1)
  (fun i hi=>by simp at hi) k3 (by rw[hrE];rfl)
 rw[hrE]at m2;obtain rfl:IB=[]:=by
  have:trK 1 []=trK 1 IB:=m2;unfold trK at this;simp only[Tr.mk.injEq,true_and]at this;exact this.symm
 rw[List.append_nil]at m4;rw[m4]at g6;rw[m1]at k6;rcases m3 with rfl | rfl
 · rw[List.append_nil]at g6;exact .inl (by rw[g6,k6])
 · refine .inr ?_;have hta:ta.length=2+sizes IA:=by rw[g6,flatT_len];unfold trK;rw[zd,zc,zL,zd,zO];omega
   have htb:tb.length=1+sizes IA:=by rw[k6,flatT_len];unfold trK;rw[zd]
   refine⟨by omega,?_⟩;rw[hta,show 2+sizes IA - 1=sizes IA+1 by omega,g6];unfold atN trK;rw[zAZ,zLK,Int.toNat_natCast,List.getD_cons_succ,yAH,List.getElem?_append_right (by rw[flatL_len];omega),flatL_len,Nat.sub_self,zAZ];rfl
theorem zVw {A A':Option Addr} {c d B n:Nat} {xs:List UInt16} {w:World} (hB:B≤w.heap.size) (hn:xs.length=n) (ha:Reads w B 1 A n (zAM xs)) (hb:Reads w B 1 A' n (zAM xs)) (hl:n≤maxLen):
 Calls prog 43 #[.slice A n c,.slice A' n d] w fun e w'=>e=.returned (.bool true)∧Below w.heap.size w w':=by
 have HN:=zD hn;have HA:=zD ha;have HB:=zD hb;have hl2:n≤9223372036854775807:=hl;have e2:((n:Int) !=(n:Int))=false:=by simp
 clear hn ha hb hl;go_enter func43,ntmps43;go_wp2_with fail
 go_loopw [13] (fun i wr=>∃k:Nat,k≤n∧i=.int .i64 k∧Hid (Below w.heap.size w wr)) (fun i _=>n - (intOf i).toNat)
 case atStart=>exact⟨0,yAF _,rfl,Below.refl _ _⟩
 case round=>
  obtain⟨k,hk,rfl,hnx⟩:=hrel
  by_cases hlt:k < n
  · have hx:k < xs.length:=by rw[HN.out];exact hlt
    obtain⟨ba,oa,rfl,_,hca1⟩:=(HA.out.below (hnx.out.mono hB)).spotR (by omega);have hca:=hca1 k (.int .u16 (xs[k].toNat:Int)) (by simp[zAM,zTl,yAC hx]);obtain⟨bb,ob,rfl,_,hcb1⟩:=(HB.out.below (hnx.out.mono hB)).spotR (by omega);have hcb:=hcb1 k (.int .u16 (xs[k].toNat:Int)) (by simp[zAM,zTl,yAC hx]);obtain⟨x,hxk⟩:∃z:Int,(xs[k].toNat:Int)=z:=⟨_,rfl⟩;rw[hxk]at hca hcb;have e3:(x !=x)=false:=by simp
    have h3:(k:Int) < (n:Int):=by omega
    clear hca1 hcb1 hxk hx;go_wp2_with fail;go_region
    all_goals go_wp2_with fail
    all_goals go_roundw
    case rel=>exact⟨k+1,by omega,by go_num,by first | exact hnx.out | exact hnx.out.drew | exact zAa hnx.out _⟩
    case measure=>simp[intOf];omega
  · go_wp2_with fail;go_ret;exact⟨rfl,hnx.out⟩
theorem zVx {A A':Option Addr} {c d B n:Nat} {xs:List Nat} {w:World} (hB:B≤w.heap.size) (hn:xs.length=n) (ha:Reads w B 1 A n (zUe xs)) (hb:Reads w B 1 A' n (zUe xs)) (hl:n≤maxLen):
 Calls prog 44 #[.slice A n c,.slice A' n d] w fun e w'=>e=.returned (.bool true)∧Below w.heap.size w w':=by
 have HN:=zD hn;have HA:=zD ha;have HB:=zD hb;have hl2:n≤9223372036854775807:=hl;have e2:((n:Int) !=(n:Int))=false:=by simp
 clear hn ha hb hl;go_enter func44,ntmps44;go_wp2_with fail
 go_loopw [13] (fun i wr=>∃k:Nat,k≤n∧i=.int .i64 k∧Hid (Below w.heap.size w wr)) (fun i _=>n - (intOf i).toNat)
 case atStart=>exact⟨0,yAF _,rfl,Below.refl _ _⟩
 case round=>
  obtain⟨k,hk,rfl,hnx⟩:=hrel
  by_cases hlt:k < n
  · have hx:k < xs.length:=by rw[HN.out];exact hlt
    obtain⟨ba,oa,rfl,_,hca1⟩:=(HA.out.below (hnx.out.mono hB)).spotR (by omega);have hca:=hca1 k (.int .u32 (xs[k]:Int)) (by simp[zUe,yAC hx]);obtain⟨bb,ob,rfl,_,hcb1⟩:=(HB.out.below (hnx.out.mono hB)).spotR (by omega);have hcb:=hcb1 k (.int .u32 (xs[k]:Int)) (by simp[zUe,yAC hx]);obtain⟨x,hxk⟩:∃z:Int,(xs[k]:Int)=z:=⟨_,rfl⟩;rw[hxk]at hca hcb;have e3:(x !=x)=false:=by simp
    have h3:(k:Int) < (n:Int):=by omega
    clear hca1 hcb1 hxk hx;go_wp2_with fail;go_region
    all_goals go_wp2_with fail
    all_goals go_roundw
    case rel=>exact⟨k+1,by omega,by go_num,by first | exact hnx.out | exact hnx.out.drew | exact zAa hnx.out _⟩
    case measure=>simp[intOf];omega
  · go_wp2_with fail;go_ret;exact⟨rfl,hnx.out⟩
theorem zVy {A A':Option Addr} {c d B n:Nat} {xs:List Int} {w:World} (hB:B≤w.heap.size) (hn:xs.length=n) (ha:Reads w B 1 A n (zDY xs)) (hb:Reads w B 1 A' n (zDY xs)) (hl:n≤maxLen):
 Calls prog 45 #[.slice A n c,.slice A' n d] w fun e w'=>e=.returned (.bool true)∧Below w.heap.size w w':=by
 have HN:=zD hn;have HA:=zD ha;have HB:=zD hb;have hl2:n≤9223372036854775807:=hl;have e2:((n:Int) !=(n:Int))=false:=by simp
 clear hn ha hb hl;go_enter func45,ntmps45;go_wp2_with fail
 go_loopw [13] (fun i wr=>∃k:Nat,k≤n∧i=.int .i64 k∧Hid (Below w.heap.size w wr)) (fun i _=>n - (intOf i).toNat)
 case atStart=>exact⟨0,yAF _,rfl,Below.refl _ _⟩
 case round=>
  obtain⟨k,hk,rfl,hnx⟩:=hrel
  by_cases hlt:k < n
  · have hx:k < xs.length:=by rw[HN.out];exact hlt
    obtain⟨ba,oa,rfl,_,hca1⟩:=(HA.out.below (hnx.out.mono hB)).spotR (by omega);have hca:=hca1 k (.int .i64 xs[k]) (by simp[zDY,yAC hx]);obtain⟨bb,ob,rfl,_,hcb1⟩:=(HB.out.below (hnx.out.mono hB)).spotR (by omega);have hcb:=hcb1 k (.int .i64 xs[k]) (by simp[zDY,yAC hx]);obtain⟨x,hxk⟩:∃z:Int,xs[k]=z:=⟨_,rfl⟩;rw[hxk]at hca hcb;have e3:(x !=x)=false:=by simp
    have h3:(k:Int) < (n:Int):=by omega
    clear hca1 hcb1 hxk hx;go_wp2_with fail;go_region
    all_goals go_wp2_with fail
    all_goals go_roundw
    case rel=>exact⟨k+1,by omega,by go_num,by first | exact hnx.out | exact hnx.out.drew | exact zAa hnx.out _⟩
    case measure=>simp[intOf];omega
  · go_wp2_with fail;go_ret;exact⟨rfl,hnx.out⟩
def E8 (w:World) (N:Nat) (v0 v1 v2 v3 v4 v5 v6 v7:Value):Prop:=w.cell? ⟨N,0,none⟩=some v0∧w.cell? ⟨N,1,none⟩=some v1∧w.cell? ⟨N,2,none⟩=some v2∧w.cell? ⟨N,3,none⟩=some v3∧w.cell? ⟨N,4,none⟩=some v4∧w.cell? ⟨N,5,none⟩=some v5∧w.cell? ⟨N,6,none⟩=some v6∧w.cell? ⟨N,7,none⟩=some v7
theorem E8.below {w w':World} {N D:Nat} {v0 v1 v2 v3 v4 v5 v6 v7:Value} (h:E8 w N v0 v1 v2 v3 v4 v5 v6 v7) (hb:Below D w w') (hd:N < D):E8 w' N v0 v1 v2 v3 v4 v5 v6 v7:=by
 have hc:∀j,w'.cell? ⟨N,j,none⟩=w.cell? ⟨N,j,none⟩:=fun j=>hb.cell (p:=⟨N,j,none⟩) hd;unfold E8;rw[hc,hc,hc,hc,hc,hc,hc,hc];exact h
theorem E8.new (w:World) (e:TypeId) (v0 v1 v2 v3 v4 v5 v6 v7:Value):E8 (w.alloc (.cells #[v0,v1,v2,v3,v4,v5,v6,v7] e)) w.heap.size v0 v1 v2 v3 v4 v5 v6 v7:=by
 refine⟨?_,?_,?_,?_,?_,?_,?_,?_⟩
 all_goals
  rw[World.cell?_alloc_at _ _ _ _ rfl];rfl
theorem zVo {A A2 Am Am2 Ak Ak2:Option Addr} {n c c2 m cm cm2 l ck ck2:Nat} {K k1 n1:Int} {b1:Bool} {nx:ByteArray} {w:World} (CU:∀W,Below w.heap.size w W→Calls prog 43 #[.slice A n c,.slice A2 n c2] W fun e w'=>e=.returned (.bool true)∧Below W.heap.size W w') (CM:∀W,Below w.heap.size w W→Calls prog 44 #[.slice Am m cm,.slice Am2 m cm2] W fun e w'=>e=.returned (.bool true)∧Below W.heap.size W w') (CK:∀W,Below w.heap.size w W→Calls prog 45 #[.slice Ak l ck,.slice Ak2 l ck2] W fun e w'=>e=.returned (.bool true)∧Below W.heap.size W w'):
 Calls prog 42 #[.agg #[.int .i64 K,.string nx,.slice A n c,.int .i64 k1,.int .i64 n1,.bool b1,.slice Am m cm,.slice Ak l ck],.agg #[.int .i64 K,.string nx,.slice A2 n c2,.int .i64 k1,.int .i64 n1,.bool b1,.slice Am2 m cm2,.slice Ak2 l ck2]] w fun e w'=>e=.returned (.bool true)∧Below w.heap.size w w':=by
 obtain⟨V,hV⟩:∃V,w.alloc (.cells #[.int .i64 K,.string nx,.slice A n c,.int .i64 k1,.int .i64 n1,.bool b1,.slice Am m cm,.slice Ak l ck] 48)=V:=⟨_,rfl⟩;obtain⟨W,hW⟩:∃W,V.alloc (.cells #[.int .i64 K,.string nx,.slice A2 n c2,.int .i64 k1,.int .i64 n1,.bool b1,.slice Am2 m cm2,.slice Ak2 l ck2] 48)=W:=⟨_,rfl⟩;have b1':Below w.heap.size w V:=by rw[←hV];exact(Below.refl _ _).alloc (yAD _) _
 have b2':Below V.heap.size V W:=by rw[←hW];exact(Below.refl _ _).alloc (yAD _) _
 have sV:V.heap.size=w.heap.size+1:=by rw[←hV];simp
 have sW:W.heap.size=V.heap.size+1:=by rw[←hW];simp
 have HB0:=zD (b1'.trans (b2'.mono b1'.size));have ex:=(show E8 V w.heap.size (.int .i64 K) (.string nx) (.slice A n c) (.int .i64 k1) (.int .i64 n1) (.bool b1) (.slice Am m cm) (.slice Ak l ck) by rw[←hV];exact E8.new _ _ _ _ _ _ _ _ _ _).below b2' (by omega);have ey:E8 W (w.heap.size+1) (.int .i64 K) (.string nx) (.slice A2 n c2) (.int .i64 k1) (.int .i64 n1) (.bool b1) (.slice Am2 m cm2) (.slice Ak2 l ck2):=by rw[←hW,←sV];exact E8.new _ _ _ _ _ _ _ _ _ _
 have hX0:w.heap.size < W.heap.size:=by omega
 have hY0:w.heap.size+1 < W.heap.size:=by omega
 have hWW:(w.alloc (.cells #[.int .i64 K,.string nx,.slice A n c,.int .i64 k1,.int .i64 n1,.bool b1,.slice Am m cm,.slice Ak l ck] 48)).alloc (.cells #[.int .i64 K,.string nx,.slice A2 n c2,.int .i64 k1,.int .i64 n1,.bool b1,.slice Am2 m cm2,.slice Ak2 l ck2] 48)=W:=by rw[hV];exact hW
 clear hV hW b1' b2' sV sW;have CU':=zD CU;have CM':=zD CM;have CK':=zD CK;clear CU CM CK;have EX0:=zD ex;have EY0:=zD ey;obtain⟨p0,p1,p2,p3,p4,p5,p6,p7⟩:=ex;obtain⟨q0,q1,q2,q3,q4,q5,q6,q7⟩:=ey;obtain⟨X,hX⟩:∃X,w.heap.size=X:=⟨_,rfl⟩;cases b1
 all_goals
  go_enter func42,ntmps42;go_upto_region 1 with(fail);clear hWW;rw[hX]at p0 p1 p2 p3 p4 p5 p6 p7 q0 q1 q2 q3 q4 q5 q6 q7 EX0 EY0 hX0 hY0;clear hX;go_wp2_with fail;refine(CU'.out W HB0.out).mono ?_;rintro e1 w1 ⟨rfl,hb1⟩;have HB1:=zD (HB0.out.trans (hb1.mono HB0.out.size));have EX1:=zD (EX0.out.below hb1 hX0);have EY1:=zD (EY0.out.below hb1 hY0);have hX1:=yAA hX0 hb1.size;have hY1:=yAA hY0 hb1.size;obtain⟨p0,p1,p2,p3,p4,p5,p6,p7⟩:=EX1.out;obtain⟨q0,q1,q2,q3,q4,q5,q6,q7⟩:=EY1.out;clear hb1;go_wp2_with fail;refine(CM'.out w1 HB1.out).mono ?_;rintro e2 w2 ⟨rfl,hb2⟩;have HB2:=zD (HB1.out.trans (hb2.mono HB1.out.size));have EX2:=zD (EX1.out.below hb2 hX1);have EY2:=zD (EY1.out.below hb2 hY1);have hX2:=yAA hX1 hb2.size;have hY2:=yAA hY1 hb2.size;obtain⟨p0,p1,p2,p3,p4,p5,p6,p7⟩:=EX2.out;obtain⟨q0,q1,q2,q3,q4,q5,q6,q7⟩:=EY2.out;clear hb2;go_wp2_with fail;refine(CK'.out w2 HB2.out).mono ?_;rintro e3 w3 ⟨rfl,hb3⟩;have HB3:=zD (HB2.out.trans (hb3.mono HB2.out.size));clear hb3;go_wp2_with fail;go_ret;exact⟨rfl,HB3.out⟩
theorem zVX {x:Nd} {s r:NdSl} {B:Nat} {w:World} (hB:B≤w.heap.size) (hx:NdR w B x s) (hy:NdR w B x r):
 Calls prog 42 #[.agg #[.int .i64 x.kind,.string ⟨x.name.toArray⟩,.slice s.As x.str.length s.cs,.int .i64 x.nk,.int .i64 x.nn,.bool x.neg,.slice s.Am x.mag.length s.cm,.slice s.Ak x.kids.length s.ck],.agg #[.int .i64 x.kind,.string ⟨x.name.toArray⟩,.slice r.As x.str.length r.cs,.int .i64 x.nk,.int .i64 x.nn,.bool x.neg,.slice r.Am x.mag.length r.cm,.slice r.Ak x.kids.length r.ck]] w fun e w'=>e=.returned (.bool true)∧Below w.heap.size w w':=
 zVo (fun _ hb=>zVw (yAE hB hb.size) rfl (hx.str.below (hb.mono hB)) (hy.str.below (hb.mono hB)) (yAE hx.cs.1 hx.cs.2)) (fun _ hb=>zVx (yAE hB hb.size) rfl (hx.mag.below (hb.mono hB)) (hy.mag.below (hb.mono hB)) (yAE hx.cm.1 hx.cm.2))
  (fun _ hb=>zVy (yAE hB hb.size) rfl (hx.kids.below (hb.mono hB)) (hy.kids.below (hb.mono hB)) (yAE hx.ck.1 hx.ck.2))
theorem zVf {A A2:Option Addr} {c c2 B n:Nat} {ts:List Nd} {w:World} (hN:NdsR w B A n ts) (hM:NdsR w B A2 n ts) (hB:B≤w.heap.size) (hn:n≤4096):
 Calls prog 41 #[.slice A n c,.slice A2 n c2,.func (.func 42) #[] #[]] w fun e w'=>e=.returned (.bool true)∧Below w.heap.size w w':=by
 have HN:=zD hN;have HM:=zD hM;have HB:=zD hB;have e2:((n:Int) !=(n:Int))=false:=by simp
 clear hN hM hB;go_enter func41,ntmps41;go_wp2_with fail
 go_loopw [17] (fun i wr=>∃k:Nat,k≤n∧i=.int .i64 (k:Int)∧Hid (Below w.heap.size w wr)) (fun i _=>n - (intOf i).toNat)
 case atStart=>exact⟨0,yAF _,rfl,Below.refl _ _⟩
 case round=>
  obtain⟨k,hk,rfl,hbr⟩:=hrel
  by_cases hlt:k < n
  · have h1:(k:Int) < (n:Int):=by omega
    have hwB:=HB.out;have hsz:=hbr.out.size;obtain⟨b,o,x,s,rfl,hbB,hx,hC,hR⟩:=(HN.out.below (hbr.out.mono hwB)).get hlt;obtain⟨kc0,kc1,kc2,kc3,kc4,kc5,kc6,kc7⟩:=hC;obtain⟨b',o',y,r,rfl,hbB',hy,hC',hR'⟩:=(HM.out.below (hbr.out.mono hwB)).get hlt;obtain rfl:x=y:=Option.some.inj (hx.symm.trans hy);have HC':=zD hC';have C:=zD (fun(W:World) (hb:Below wr.heap.size wr W)=>zVX (yAE (yAE hwB hsz) hb.size) (hR.below (hb.mono (yAE hwB hsz))) (hR'.below (hb.mono (yAE hwB hsz))));clear hx hy hC' hR hR';go_upto_region 6 with(fail);obtain⟨W1,hW1⟩:∃W1,wr.alloc (.cells #[.int .i64 x.kind,.string ⟨x.name.toArray⟩,.slice s.As x.str.length s.cs,.int .i64 x.nk,.int .i64 x.nn,.bool x.neg,.slice s.Am x.mag.length s.cm,.slice s.Ak x.kids.length s.ck] 48)=W1:=⟨_,rfl⟩;rw[hW1];have b1:Below wr.heap.size wr W1:=by rw[←hW1];exact(Below.refl _ _).alloc (yAD _) _
    have s1:W1.heap.size=wr.heap.size+1:=by rw[←hW1];simp
    have nx:=zD (show E8 W1 wr.heap.size _ _ _ _ _ _ _ _ from by rw[←hW1];exact E8.new wr _ _ _ _ _ _ _ _ _);obtain⟨d0,d1,d2,d3,d4,d5,d6,d7⟩:=HC'.out.below b1 (show b' < wr.heap.size by omega);clear kc0 kc1 kc2 kc3 kc4 kc5 kc6 kc7 hW1 HC';go_upto_region 7 with(fail);obtain⟨W2,hW2⟩:∃W2,W1.alloc (.cells #[.int .i64 x.kind,.string ⟨x.name.toArray⟩,.slice r.As x.str.length r.cs,.int .i64 x.nk,.int .i64 x.nn,.bool x.neg,.slice r.Am x.mag.length r.cm,.slice r.Ak x.kids.length r.ck] 48)=W2:=⟨_,rfl⟩;rw[hW2];have b2:Below W1.heap.size W1 W2:=by rw[←hW2];exact(Below.refl _ _).alloc (yAD _) _
    have ny:=zD (show E8 W2 W1.heap.size _ _ _ _ _ _ _ _ from by rw[←hW2];exact E8.new W1 _ _ _ _ _ _ _ _ _);have nx2:=zD (nx.out.below b2 (show wr.heap.size < W1.heap.size by omega));have BW:=zD (b1.trans (b2.mono (by omega)));have CC:=zD (C.out W2 BW.out);have HBR:=zD (hbr.out.trans (BW.out.mono hsz));rw[s1]at ny;obtain⟨p0,p1,p2,p3,p4,p5,p6,p7⟩:=nx2.out;obtain⟨v0,v1,v2,v3,v4,v5,v6,v7⟩:=ny.out;obtain⟨X,hX⟩:∃X,wr.heap.size=X:=⟨_,rfl⟩;rw[hX]at p0 p1 p2 p3 p4 p5 p6 p7 v0 v1 v2 v3 v4 v5 v6 v7;rw[hX];clear hW2 d0 d1 d2 d3 d4 d5 d6 d7 b1 s1 b2 nx ny nx2 hX C hsz hbr hbB hbB';go_wp2_with fail;refine CC.out.mono ?_;rintro e3 W3 ⟨rfl,hb3⟩;have HB3:=zD (HBR.out.trans (hb3.mono HBR.out.size));clear hb3;go_wp2_with fail
    go_roundw
    case rel=>exact⟨k+1,by omega,by go_num,HB3.out⟩
    case measure=>simp[intOf];omega
  · have h2:decide ((k:Int) < (n:Int))=false:=yAJ (by omega);obtain rfl:k=n:=by omega
    go_wp2_with fail;go_ret;exact⟨rfl,hbr.out⟩
theorem zVp {A A2:Option Addr} {c c2 n n2:Nat} {w:World} (hn:n≠n2):
 Calls prog 41 #[.slice A n c,.slice A2 n2 c2,.func (.func 42) #[] #[]] w fun e w'=>e=.returned (.bool false)∧Below w.heap.size w w':=by
 have h1:((n:Int) !=(n2:Int))=true:=by simp;omega
 clear hn;go_enter func41,ntmps41;go_wp2_with fail;go_ret;exact⟨rfl,Below.refl _ _⟩
theorem zVT {A A2:Option Addr} {c c2 n n2:Nat} {w:World} {q:Bool} (C:∀W,Below w.heap.size w W→Calls prog 41 #[.slice A n c,.slice A2 n2 c2,.func (.func 42) #[] #[]] W fun e w'=>e=.returned (.bool q)∧Below W.heap.size W w'):
 Calls prog 20 #[.agg #[.slice A n c],.agg #[.slice A2 n2 c2]] w fun e w'=>e=.returned (.bool q)∧Below w.heap.size w w':=by
 have hb0:Below w.heap.size w ((w.alloc (.cells #[.slice A n c] 27)).alloc (.cells #[.slice A2 n2 c2] 27)):=((Below.refl _ _).alloc (yAD _) _).alloc (by simp) _;have HB0:=zD hb0;have C0:=zD (C _ hb0);clear hb0 C;go_enter func20,ntmps20;go_wp2_with fail;refine C0.out.mono ?_;rintro e1 w1 ⟨rfl,hb1⟩;have HB1:=zD (HB0.out.trans (hb1.mono HB0.out.size));clear hb1;go_wp2_with fail;go_ret;exact⟨rfl,HB1.out⟩
theorem zVq {A A2:Option Addr} {c c2 B n:Nat} {ts:List Nd} {w:World} (hN:NdsR w B A n ts) (hM:NdsR w B A2 n ts) (hB:B≤w.heap.size) (hn:n≤4096):
 Calls prog 20 #[.agg #[.slice A n c],.agg #[.slice A2 n c2]] w fun e w'=>e=.returned (.bool true)∧Below w.heap.size w w':=
 zVT fun _ hb=>zVf (hN.below (hb.mono hB)) (hM.below (hb.mono hB)) (yAE hB hb.size) hn
theorem zVz {A A2:Option Addr} {c c2 n n2:Nat} {w:World} (hn:n≠n2):
 Calls prog 20 #[.agg #[.slice A n c],.agg #[.slice A2 n2 c2]] w fun e w'=>e=.returned (.bool false)∧Below w.heap.size w w':=
 zVT fun _ _=>zVp hn
end Go.Proofs.YtlohaclgbfhijaaGreatDoor
