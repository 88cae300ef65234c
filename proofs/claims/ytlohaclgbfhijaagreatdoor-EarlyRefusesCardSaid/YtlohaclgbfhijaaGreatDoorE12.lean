/- Joined for the claim EarlyRoot: the parser, the lexer and the trees as they are walked, made short by a program of mine. -/
import Derived.Deep.CutBlock
import Derived.Deep.DeepCutAuto
import Derived.Deep.RegionHeld3
import Derived.Test.YtlohaclgbfhijaaGreatDoorE11
import Derived.Deep.RegionWith
import Derived.Test.YtlohaclgbfhijaaGreatDoorE09
import Derived.Test.YtlohaclgbfhijaaGreatDoorE01
import Derived.Test.YtlohaclgbfhijaaGreatDoorE10
set_option maxHeartbeats 16000000
set_option maxRecDepth 1000000
namespace Go.Proofs.YtlohaclgbfhijaaGreatDoor
open Go.Proofs.Tryz
open Go.RowKit
def Sl (w:World) (B:Nat) (v:Value) (ys:List UInt16):Prop:=∃A c,v=.slice A ys.length c∧ys.length≤c∧c≤maxLen∧Reads w B 1 A ys.length (zAD ys)
def lenOf:Value→Nat | .slice _ n _=>n | _=>0
theorem Sl.cut1 {w:World} {B c:Nat} {ad:Addr} {ys:List UInt16} (hr:Reads w B 1 (some ad) ys.length (zAD ys)) (h0:0 < ys.length) (hc:ys.length≤c) (hc2:c≤maxLen):
 Sl w B (.slice (if c=1 then some ad else some ⟨ad.block,ad.off+1,none⟩) (ys.length - 1) (c - 1)) (ys.drop 1):=by
 have hl:(ys.drop 1).length=ys.length - 1:=List.length_drop;refine⟨_,c - 1,by rw[hl],by rw[hl];omega,by omega,?_⟩;exact hr.cut16 (k:=1) h0 hc
theorem Sl.less1 {w:World} {B c:Nat} {A:Option Addr} {ys:List UInt16} (hr:Reads w B 1 A ys.length (zAD ys)) (hc:ys.length≤c) (hc2:c≤maxLen):
 Sl w B (.slice A (ys.length - 1) c) (ys.take (ys.length - 1)):=by
 have hl:(ys.take (ys.length - 1)).length=ys.length - 1:=by rw[List.length_take];omega
 exact⟨A,c,by rw[hl],by rw[hl];omega,hc2,hr.take16 (by omega)⟩
theorem zLY {ts:List UInt16} (h:0 < ts.length):zBa ts=((ts[0].toNat:Int)==45):=by
 cases ts with
 | nil=>simp at h
 | cons x r=>
  rw[Bool.eq_iff_iff,zBa];simp only[List.headD_cons,beq_iff_eq,List.getElem_cons_zero,←UInt16.toNat_inj];simp;omega
def zDG (ts:List UInt16):Bool:=zBa ts || ts.headD 0==43
theorem zHV {ts:List UInt16} (h:0 < ts.length):zDG ts=(zBa ts || ((ts[0].toNat:Int)==43)):=by
 cases ts with
 | nil=>simp at h
 | cons x r=>
  rw[zDG];congr 1;rw[Bool.eq_iff_iff];simp only[List.headD_cons,beq_iff_eq,List.getElem_cons_zero,←UInt16.toNat_inj];simp;omega
theorem zGd (ts:List UInt16):zz ts=if zDG ts=true then ts.drop 1 else ts:=by
 simp[zz,zDG,zBa]
theorem zHW {ys:List UInt16} (h:0 < ys.length) (hb:zAQ (ys[ys.length - 1]'(by omega))=true):zD3 ys=zD3 (ys.take (ys.length - 1)):=by
 have e:ys=ys.take (ys.length - 1)++[ys[ys.length - 1]'(by omega)]:=by
  rw[←yAK (by omega),List.take_of_length_le (by omega)]
 conv=>lhs;rw[e]
 rw[zD3,List.reverse_append];show(List.dropWhile zAQ (_::(ys.take (ys.length - 1)).reverse)).reverse=_;rw[List.dropWhile_cons_of_pos hb];rfl
theorem zJR {ys:List UInt16} (h:0 < ys.length) (hb:zAQ (ys[ys.length - 1]'(by omega))=false):zD3 ys=ys:=by
 have e:ys=ys.take (ys.length - 1)++[ys[ys.length - 1]'(by omega)]:=by
  rw[←yAK (by omega),List.take_of_length_le (by omega)]
 have e2:zD3 (ys.take (ys.length - 1)++[ys[ys.length - 1]'(by omega)])=ys.take (ys.length - 1)++[ys[ys.length - 1]'(by omega)]:=by
  rw[zD3,List.reverse_append];show(List.dropWhile zAQ (_::(ys.take (ys.length - 1)).reverse)).reverse=_;rw[List.dropWhile_cons_of_neg (by simp[hb])];simp only[List.reverse_cons,List.reverse_reverse]
 rw[←e]at e2;exact e2
theorem zRf {ys:List UInt16} (h:0 < ys.length) (hb:zAQ ys[0]=true):ys.dropWhile zAQ=(ys.drop 1).dropWhile zAQ:=by
 cases ys with
 | nil=>simp at h
 | cons y ys=>simp only[List.getElem_cons_zero]at hb;rw[List.dropWhile_cons_of_pos hb];rfl
theorem zRg {ys:List UInt16} (h:0 < ys.length) (hb:zAQ ys[0]=false):ys.dropWhile zAQ=ys:=by
 cases ys with
 | nil=>simp at h
 | cons y ys=>simp only[List.getElem_cons_zero]at hb;rw[List.dropWhile_cons_of_neg (by simp[hb])]
theorem zJS {A:Option Addr} {c B D:Nat} {xs:List UInt16} {W w:World} (hb:Below D W w) (hBD:B≤D) (hD:D≤W.heap.size) (ha:Reads W B 1 A xs.length (zAD xs)) (hl:xs.length≤70368744177664):
 Calls prog 152 #[.slice A xs.length c] w fun e w'=>e=.returned (.bool (zA8 xs))∧Below w.heap.size w w'∧Below D W w':=by
 have hs:=hb.size;refine(zHU (B:=B) (by omega) (ha.below (hb.mono hBD)) hl).mono ?_;rintro e w' ⟨rfl,hb'⟩;exact⟨rfl,hb',hb.trans (hb'.mono (by omega))⟩
def NumAt (w:World) (g:Nat) (k n:Int):Prop:=
 w.cell? ⟨g,0,none⟩=some (.int .i64 k)∧w.cell? ⟨g,1,none⟩=some (.int .i64 n)∧w.frozen? ⟨g,0,none⟩=false∧w.frozen? ⟨g,1,none⟩=false
theorem NumAt.below {D g:Nat} {k n:Int} {w w':World} (h:NumAt w g k n) (hb:Below D w w') (hg:g < D):NumAt w' g k n:=
 ⟨(hb.cell (p:=⟨g,0,none⟩) hg).trans h.1,(hb.cell (p:=⟨g,1,none⟩) hg).trans h.2.1,(hb.frozen (p:=⟨g,0,none⟩) hg).trans h.2.2.1,(hb.frozen (p:=⟨g,1,none⟩) hg).trans h.2.2.2⟩
theorem zLZ {W w2:World} {a b:Value} {T:TypeId} (hb:Below (W.drew.alloc (.cells #[a,b] T)).heap.size (W.drew.alloc (.cells #[a,b] T)) w2):
 w2.cell? ⟨W.heap.size,0,none⟩=some a∧w2.cell? ⟨W.heap.size,1,none⟩=some b∧w2.frozen? ⟨W.heap.size,0,none⟩=false∧w2.frozen? ⟨W.heap.size,1,none⟩=false:=by
 have h:W.heap.size < (W.drew.alloc (.cells #[a,b] T)).heap.size:=by simp
 refine⟨(hb.cell (p:=⟨W.heap.size,0,none⟩) h).trans ?_,(hb.cell (p:=⟨W.heap.size,1,none⟩) h).trans ?_,(hb.frozen (p:=⟨W.heap.size,0,none⟩) h).trans ?_,(hb.frozen (p:=⟨W.heap.size,1,none⟩) h).trans ?_⟩
 all_goals go_simp
theorem zBp {D:Nat} {W w':World} (hDW:D≤W.heap.size) (hb:Below D W w') (o:Obj):Below D W (w'.alloc o):=hb.alloc (yAD hDW hb.size) o
theorem zFL {D:Nat} {W w':World} (hDW:D≤W.heap.size) (hb:Below D W w') (a b:Value):Below D W ((w'.setCell ⟨W.heap.size,0,none⟩ a).setCell ⟨W.heap.size,1,none⟩ b):=
 (hb.setCell (p:=⟨W.heap.size,0,none⟩) hDW a).setCell (p:=⟨W.heap.size,1,none⟩) hDW b
theorem NumAt.new (w:World) (k n:Int) (T:TypeId):NumAt (w.alloc (.cells #[.int .i64 k,.int .i64 n] T)) w.heap.size k n:=⟨by go_simp,by go_simp,by go_simp,by go_simp⟩
theorem NumAt.set {w:World} {g:Nat} {a b:Value} (h0:w.cell? ⟨g,0,none⟩=some a) (h1:w.cell? ⟨g,1,none⟩=some b) (f0:w.frozen? ⟨g,0,none⟩=false) (f1:w.frozen? ⟨g,1,none⟩=false) (k n:Int):
 NumAt ((w.setCell ⟨g,0,none⟩ (.int .i64 k)).setCell ⟨g,1,none⟩ (.int .i64 n)) g k n:=⟨by go_simp,by go_simp,by go_simp,by go_simp⟩
theorem zGe (w:World) (a b:Addr) (x y:Value):((w.setCell a x).setCell b y).heap.size=w.heap.size:=by simp
theorem zEZ {D g:Nat} {k n:Int} {W w':World} (h:NumAt W g k n) (hg:g < D) (hb:Below D W w'):w'.cell? ⟨g,0,none⟩=some (.int .i64 k)∧w'.cell? ⟨g,1,none⟩=some (.int .i64 n)∧Below D W w':=
 ⟨(h.below hb hg).1,(h.below hb hg).2.1,hb⟩
theorem zCM (w:World):Calls prog 32 #[.string ⟨#[73,110,102,105,110,105,116,121]⟩] w fun e w'=>∃A c,e=.returned (.slice A zAr.length c)∧Reads w' w'.heap.size 1 A zAr.length (zAD zAr)∧Below w.heap.size w w':=by
 refine(zCz _ w (by decide)).mono ?_;rintro e w' ⟨v,rfl,hm⟩;have hm':Made w w' 24 v (zAD zAr):=hm;obtain⟨A,c,rfl,_,_,hr⟩:=hm'.u16;exact⟨A,c,rfl,hr,hm'.below⟩
def BaseOk (ts:List UInt16) (k n:Int) (ok:Bool):Prop:=zDJ ts=(⟨k,n⟩,ok)∧((k=2∧n=0)∨(k=3∧n=0)∨(k=0∧0≤n∧n≤9007199254740991))
theorem BaseOk.inf {ts:List UInt16} (h:zz ts=zAr):BaseOk ts 3 0 (!zA8 ts):=by
 refine⟨?_,Or.inr (Or.inl ⟨rfl,rfl⟩)⟩;rw[zG2 h,zDJ,if_pos h];rfl
theorem BaseOk.dig {ts:List UInt16} (h:¬zz ts=zAr) (hd:zz ts≠[]∧(zz ts).all zO=true) (hf:zg (zz ts)≤9007199254740991):BaseOk ts 0 (zg (zz ts)) true:=
 ⟨by rw[zDJ,if_neg h,if_pos hd,if_pos hf],Or.inr (Or.inr ⟨rfl,by omega,by omega⟩)⟩
theorem BaseOk.odd {ts:List UInt16} (h:¬zz ts=zAr) (hd:¬(zz ts≠[]∧(zz ts).all zO=true)):BaseOk ts 2 0 (!zA8 ts):=
 ⟨by rw[zDJ,if_neg h,if_neg hd],Or.inl ⟨rfl,rfl⟩⟩
theorem zHX {ts:List UInt16} (h0:0 < ts.length):zMY ts=(if zBa ts=true then zDK (zDJ ts).1 else(zDJ ts).1,(zDJ ts).2):=by
 rw[zMY,if_neg (List.ne_nil_of_length_pos h0)]
theorem zNe {ts:List UInt16} (h0:0 < ts.length) (h:¬zz ts=zAr) (hd:zz ts≠[]∧(zz ts).all zO=true) (hf:¬zg (zz ts)≤9007199254740991):zMY ts=(⟨2,0⟩,false):=by
 rw[zHX h0,zDJ,if_neg h,if_pos hd,if_neg hf]
 by_cases hs:zBa ts=true
 · rw[if_pos hs];rfl
 · rw[if_neg hs]
theorem zNf {ts:List UInt16} {k n:Int} {ok:Bool} (h0:0 < ts.length) (hs:false=zBa ts) (hb:BaseOk ts k n ok):zMY ts=(⟨k,n⟩,ok):=by
 rw[zHX h0,hb.1,if_neg (by rw[←hs];simp)]
theorem zNg {ts:List UInt16} {k n:Int} {ok:Bool} (h0:0 < ts.length) (hs:true=zBa ts) (hb:BaseOk ts k n ok):zMY ts=(zDK ⟨k,n⟩,ok):=by
 rw[zHX h0,hb.1,if_pos hs.symm]
theorem zNh {ts:List UInt16} {k n:Int} {ok:Bool} (hb:BaseOk ts k n ok) (w:World):
 Calls prog 158 #[.agg #[.int .i64 k,.int .i64 n]] w fun e w'=>e=.returned (.agg #[.int .i64 (zDK ⟨k,n⟩).kind,.int .i64 (zDK ⟨k,n⟩).n])∧Below w.heap.size w w':=by
 rcases hb.2 with⟨rfl,rfl⟩ | ⟨rfl,rfl⟩ | ⟨rfl,h1,h2⟩
 · exact zPz w
 · exact zP0 w
 · by_cases h3:n=0
   · subst h3;exact zJG w
   · have e:zDK ⟨0,n⟩=⟨0, -n⟩:=by simp[zDK,h3]
     rw[e];exact zLE n (by omega) h2 w
theorem zCN {D:Nat} {wc w3 w4:World} (h3:Below wc.heap.size wc w3) (h4:Below w3.heap.size w3 w4) (hD:D≤wc.heap.size):Below D wc w4:=
 (h3.mono hD).trans (h4.mono (yAD hD h3.size))
theorem zBy {D g:Nat} {W w':World} (hD:D≤g) (hb:Below D W w') (a b:Value):Below D W ((w'.setCell ⟨g,0,none⟩ a).setCell ⟨g,1,none⟩ b):=
 (hb.setCell (p:=⟨g,0,none⟩) hD a).setCell (p:=⟨g,1,none⟩) hD b
theorem zLa {ts:List UInt16} {D b g:Nat} {w wc w4:World} {x y:Value} (hN0:NumAt wc b 0 0) (hbel:Below b w wc) (hb:Below D wc w4) (hbD:b < D) (hDg:D≤g)
 (q0:w4.cell? ⟨g,0,none⟩=some x) (q1:w4.cell? ⟨g,1,none⟩=some y) (q2:w4.frozen? ⟨g,0,none⟩=false) (q3:w4.frozen? ⟨g,1,none⟩=false) (k n:Int) {ok:Bool} (h:BaseOk ts k n ok):
 NumAt ((w4.setCell ⟨g,0,none⟩ (.int .i64 k)).setCell ⟨g,1,none⟩ (.int .i64 n)) g k n∧NumAt ((w4.setCell ⟨g,0,none⟩ (.int .i64 k)).setCell ⟨g,1,none⟩ (.int .i64 n)) b 0 0∧
  Below b w ((w4.setCell ⟨g,0,none⟩ (.int .i64 k)).setCell ⟨g,1,none⟩ (.int .i64 n))∧g < ((w4.setCell ⟨g,0,none⟩ (.int .i64 k)).setCell ⟨g,1,none⟩ (.int .i64 n)).heap.size∧BaseOk ts k n ok:=by
 have h1:=zBy hDg hb (.int .i64 k) (.int .i64 n);exact⟨NumAt.set q0 q1 q2 q3 k n,hN0.below h1 hbD,hbel.trans (h1.mono (by omega)),by rw[zGe];exact World.block_lt_of_cell? w4 _ q0,h⟩
theorem zIO {ts:List UInt16} {D b g:Nat} {w wc w4:World} (hN0:NumAt wc b 0 0) (hbel:Below b w wc) (hb:Below D wc w4) (hbD:b < D)
 {k n:Int} (q:NumAt w4 g k n) {ok:Bool} (h:BaseOk ts k n ok):
 NumAt w4 g k n∧NumAt w4 b 0 0∧Below b w w4∧g < w4.heap.size∧BaseOk ts k n ok:=
 ⟨q,hN0.below hb hbD,hbel.trans (hb.mono (by omega)),World.block_lt_of_cell? w4 _ q.1,h⟩
theorem zJT {A:Option Addr} {c B:Nat} {xs:List UInt16} {w:World} (hB:B≤w.heap.size) (ha:Reads w B 1 A xs.length (zAD xs)) (hc:xs.length≤c) (hc2:c≤maxLen) (hl:xs.length≤70368744177664):
 Calls prog 106 #[.slice A xs.length c] w fun e w'=>e=.returned (.tuple #[.agg #[.int .i64 (zJ7 xs).1.kind,.int .i64 (zJ7 xs).1.n],.bool (zJ7 xs).2])∧Below w.heap.size w w':=by
 go_enter func106,ntmps106
 go_upto_block 0 with(fail)
 go_cut [0] (fun v wx=>wx=w.alloc (.cells #[.int .i64 0,.int .i64 0] 39)∧∃ys,Sl w B v ys∧Hid (ys=xs.dropWhile zAQ)∧ys.length≤xs.length)
 case first=>
  go_wp2_with fail
  go_loop [0] (fun v=>∃ys,Sl w B v ys∧Hid (ys.dropWhile zAQ=xs.dropWhile zAQ)∧ys.length≤xs.length) (fun v=>lenOf v)
  case atStart=>exact⟨xs,⟨A,c,rfl,hc,hc2,ha⟩,rfl,yAC _⟩
  case round=>
   obtain⟨ys,⟨A',c',rfl,hc1,hc3,hr⟩,heq,hle⟩:=hrel
   by_cases h0:0 < ys.length
   · obtain⟨ad,hA,hlt,hca⟩:=(hr.alloc hB (.cells #[.int .i64 0,.int .i64 0] 39)).u16_0 h0;subst hA;have hz:(0:Int) < (ys.length:Int):=by omega
     cases hb:zAQ ys[0]with
     | true=>
      have HB:=zA (zRf h0 hb);have HC:=zA (Sl.cut1 hr h0 hc1 hc3);go_wp2_with (go_at_call 151;refine(zDD _ _).mono ?_;rintro e w' ⟨rfl,rfl⟩);go_round
      case rel=>exact⟨ys.drop 1,HC.out,HB.out.symm.trans heq.out,by rw[List.length_drop];omega⟩
      case measure=>simp[lenOf];omega
     | false=>
      have HB:=zA (zRg h0 hb);go_wp2_with (go_at_call 151;refine(zDD _ _).mono ?_;rintro e w' ⟨rfl,rfl⟩);go_meet;exact⟨rfl,ys,⟨some ad,c',rfl,hc1,hc3,hr⟩,HB.out.symm.trans heq.out,hle⟩
   · go_wp2;go_meet;have h1:ys=[]:=List.eq_nil_of_length_eq_zero (by omega);exact⟨rfl,ys,⟨A',c',rfl,hc1,hc3,hr⟩,by have:=heq.out;rw[h1]at this⊢;exact this,hle⟩
 case rest=>
  obtain⟨hw,ys,hys,hyl,hyle⟩:=hcut;subst hw
  go_upto_block 2 with(fail)
  go_cut [0] (fun v wx=>wx=w.alloc (.cells #[.int .i64 0,.int .i64 0] 39)∧∃ts,Sl w B v ts∧Hid (ts=zJ6 xs)∧ts.length≤xs.length)
  case first=>
   go_wp2_with fail
   go_loop [0] (fun v=>∃zs,Sl w B v zs∧Hid (zD3 zs=zD3 ys)∧zs.length≤xs.length) (fun v=>lenOf v)
   case atStart=>exact⟨ys,hys,rfl,hyle⟩
   case round=>
    obtain⟨zs,⟨A',c',rfl,hc1,hc3,hr⟩,heq,hle⟩:=hrel
    by_cases h0:0 < zs.length
    · obtain⟨ad,hA,hlt,hca⟩:=(hr.alloc hB (.cells #[.int .i64 0,.int .i64 0] 39)).u16 (k:=zs.length - 1) (by omega);subst hA;have hz:(0:Int) < (zs.length:Int):=by omega
      have hca':(w.alloc (.cells #[.int .i64 0,.int .i64 0] 39)).cell? (ad.add ((zs.length:Int) - 1).toNat)=some (.int .u16 ((zs[zs.length - 1]'(by omega)).toNat:Int)):=by
       rw[show((zs.length:Int) - 1).toNat=zs.length - 1 from by omega];exact hca
      cases hb:zAQ (zs[zs.length - 1]'(by omega))with
      | true=>
       have HB:=zA (zHW h0 hb);have HC:=zA (Sl.less1 hr hc1 hc3);go_wp2_with (go_at_call 151;refine(zDD _ _).mono ?_;rintro e w' ⟨rfl,rfl⟩);go_round
       case rel=>exact⟨zs.take (zs.length - 1),HC.out,HB.out.symm.trans heq.out,by rw[List.length_take];omega⟩
       case measure=>simp[lenOf];omega
      | false=>
       have HB:=zA (zJR h0 hb);go_wp2_with (go_at_call 151;refine(zDD _ _).mono ?_;rintro e w' ⟨rfl,rfl⟩);go_meet;exact⟨rfl,zs,⟨some ad,c',rfl,hc1,hc3,hr⟩,HB.out.symm.trans (heq.out.trans (by rw[hyl.out];rfl)),hle⟩
    · go_wp2;go_meet;have h1:zs=[]:=List.eq_nil_of_length_eq_zero (by omega);have h2:zD3 zs=zJ6 xs:=heq.out.trans (by rw[hyl.out];rfl);exact⟨rfl,zs,⟨A',c',rfl,hc1,hc3,hr⟩,by rw[h1]at h2⊢;exact h2,hle⟩
  case rest=>
   obtain⟨hw,ts,⟨A1,c1,hv,hc1,hc3,hr⟩,htl,htle⟩:=hcut;subst hw;subst hv;clear hyl hys hyle ys;have hN:=zA (show zJ7 xs=zMY ts by rw[zJ7,htl.out]);clear htl
   by_cases h0:ts.length=0
   · have h1:ts=[]:=List.eq_nil_of_length_eq_zero h0;have hN2:=zA (show zJ7 xs=(⟨0,0⟩,true) by rw[hN.out,h1];rfl);clear hN;subst h1;go_wp2
     go_returns
     rw[hN2.out];exact⟨rfl,by go_grown⟩
   have e0:((ts.length:Int)==0)=false:=yA.2 (by omega);have hpos:0 < ts.length:=by omega
   clear h0;have hz:(0:Int) < (ts.length:Int):=by omega
   have hb0:=zA (hr.u16_0 hpos);go_upto_region 8 with(fail)
   go_cut [5,6] (fun d s wx=>d=.slice A1 ts.length c1∧(∃sg,s=.bool sg∧Hid (sg=zBa ts))∧∃n,wx=((w.alloc (.cells #[.int .i64 0,.int .i64 0] 39)).alloc (.cells #[.int .i64 2,.int .i64 0] 39)).drewN n)
   case first=>
    obtain⟨ad,hA,_,hca⟩:=((hr.alloc hB (.cells #[.int .i64 0,.int .i64 0] 39)).alloc (yAD hB (by simp)) (.cells #[.int .i64 2,.int .i64 0] 39)).u16_0 hpos;subst hA
    go_quiet (fail)
    go_wp2_with fail;go_meet;exact⟨rfl,⟨_,rfl,(zLY hpos).symm⟩,_,rfl⟩
   case rest=>
    obtain⟨hd,⟨sg,hs,hsg⟩,n,hw⟩:=hcut;subst hd hs hw;go_upto_region 9 with(fail)
    go_cut [55] (fun s wx=>(∃si,s=.bool si∧Hid (si=zDG ts))∧wx=((w.alloc (.cells #[.int .i64 0,.int .i64 0] 39)).alloc (.cells #[.int .i64 2,.int .i64 0] 39)).drewN n)
    case first=>
     obtain⟨ad,hA,_,hca⟩:=(((hr.alloc hB (.cells #[.int .i64 0,.int .i64 0] 39)).alloc (yAD hB (by simp)) (.cells #[.int .i64 2,.int .i64 0] 39)).drewN n).u16_0 hpos;subst hA;have HI:=zA (zHV hpos);cases sg
     · go_wp2_with fail;go_meet;exact⟨⟨_,rfl,by rw[HI.out,←hsg.out];rfl⟩,rfl⟩
     · go_wp2_with fail;go_meet;exact⟨⟨_,rfl,by rw[HI.out,←hsg.out];rfl⟩,rfl⟩
    case rest=>
     obtain⟨⟨si,hs,hsi⟩,hw⟩:=hcut;subst hs hw
     go_upto_if 55 with(fail)
     go_cut [5] (fun d wx=>Sl w B d (zz ts)∧wx=((w.alloc (.cells #[.int .i64 0,.int .i64 0] 39)).alloc (.cells #[.int .i64 2,.int .i64 0] 39)).drewN n)
     case first=>
      obtain⟨ad,hA,_,hca⟩:=hr.u16_0 hpos;subst hA;have HR:=zA (zGd ts);cases si
      · go_wp2_with fail;go_meet;exact⟨by rw[HR.out,if_neg (by rw[←hsi.out];simp)];exact⟨_,c1,rfl,hc1,hc3,hr⟩,rfl⟩
      · have HC:=zA (Sl.cut1 hr hpos hc1 hc3)
        by_cases hcc:c1=1
        · subst hcc;go_wp2_with fail;go_meet;have hz2:ts.length - 1=0:=by omega
          exact⟨by rw[HR.out,if_pos hsi.out.symm];have h:=HC.out;rw[hz2]at h;exact h,rfl⟩
        · rw[if_neg hcc]at HC;go_wp2_with fail;go_meet;exact⟨by rw[HR.out,if_pos hsi.out.symm];exact HC.out,rfl⟩
     case rest=>
      obtain⟨⟨A2,c2,hd,hd1,hd3,hd4⟩,hw⟩:=hcut;subst hd hw;clear hsi;go_upto_region 11 with(fail);have hWs:(((w.alloc (.cells #[.int .i64 0,.int .i64 0] 39)).alloc (.cells #[.int .i64 2,.int .i64 0] 39)).drewN n).heap.size=w.heap.size+2:=by simp
      have hWb:Below w.heap.size w (((w.alloc (.cells #[.int .i64 0,.int .i64 0] 39)).alloc (.cells #[.int .i64 2,.int .i64 0] 39)).drewN n):=zk (by go_grown) n;have hW1:NumAt (((w.alloc (.cells #[.int .i64 0,.int .i64 0] 39)).alloc (.cells #[.int .i64 2,.int .i64 0] 39)).drewN n) w.heap.size 0 0:=⟨by go_simp,by go_simp,by go_simp,by go_simp⟩;have hW2:NumAt (((w.alloc (.cells #[.int .i64 0,.int .i64 0] 39)).alloc (.cells #[.int .i64 2,.int .i64 0] 39)).drewN n) (w.heap.size+1) 2 0:=⟨by go_simp,by go_simp,by go_simp,by go_simp⟩;have hr':Reads (((w.alloc (.cells #[.int .i64 0,.int .i64 0] 39)).alloc (.cells #[.int .i64 2,.int .i64 0] 39)).drewN n) B 1 A1 ts.length (zAD ts):=hr.below (hWb.mono hB);have hd4':Reads (((w.alloc (.cells #[.int .i64 0,.int .i64 0] 39)).alloc (.cells #[.int .i64 2,.int .i64 0] 39)).drewN n) B 1 A2 (zz ts).length (zAD (zz ts)):=hd4.below (hWb.mono hB);have htle':ts.length≤70368744177664:=by omega
      generalize (((w.alloc (.cells #[.int .i64 0,.int .i64 0] 39)).alloc (.cells #[.int .i64 2,.int .i64 0] 39)).drewN n)=W at *;have hr0:=hr';have hDlt:w.heap.size+1 < w.heap.size+2:=by omega
      have hBD:B≤w.heap.size+2:=by omega
      have hDW:w.heap.size+2≤W.heap.size:=by omega
      have HWS:=zA hWs;clear hWs;have hc0:=hW2.1;have hc1':=hW2.2.1;have hbW:Below (w.heap.size+2) W W:=Below.refl _ _;have HR0:=zA hr0;clear hr0
      go_cut [7,8] (fun p s wx=>(∃g,p=.pointer (some ⟨g,0,none⟩)∧w.heap.size+2≤g∧NumAt wx g 2 0∧g < wx.heap.size)∧s=.bool (!zA8 ts)∧Below (w.heap.size+2) W wx)
      case first=>
       go_region_held3 (fun w'=>w'.cell? ⟨w.heap.size+1,0,none⟩=some (.int .i64 2)∧w'.cell? ⟨w.heap.size+1,1,none⟩=some (.int .i64 0)∧Below (w.heap.size+2) W w')
        (first
         | (exact zEZ hW2 hDlt (by assumption))
         | (exact zEZ hW2 hDlt (Below.refl _ _).drew)
         | (exact zEZ hW2 hDlt (zBp hDW (by assumption) _))
         | (exact zEZ hW2 hDlt (zBp hDW (Below.refl _ _).drew _))
         | (exact zEZ hW2 hDlt (zFL hDW (by assumption) _ _))
         | go_keep)
        (first
         | (go_at_call 152;go_split_ands;refine(zJS (D:=w.heap.size+2) (W:=W) ?_ hBD hDW HR0.out htle').mono ?_;(first | assumption | exact(Below.refl _ _).drew | exact zBp hDW (Below.refl _ _).drew _);rintro e w2 ⟨rfl,hb2,hb3⟩;(try (have hnew:=zLZ hb2;have n0:=hnew.1;have n1:=hnew.2.1;have n2:=hnew.2.2.1;have n3:=hnew.2.2.2;clear hnew))))
       all_goals have hs3:=hb3.size
       all_goals (go_wp2_with fail;go_meet)
       · exact⟨⟨_,rfl,by omega,NumAt.new _ _ _ _,by simp⟩,rfl,zBp hDW hb3 _⟩
       · exact⟨⟨_,rfl,hDW,NumAt.set n0 n1 n2 n3 _ _,by rw[zGe];exact World.block_lt_of_cell? w2 _ n0⟩,rfl,zFL hDW hb3 _ _⟩
      case rest=>
       obtain⟨⟨g,hp,hDg,hg,hgl⟩,hs,hbw⟩:=hcut;subst hp hs;have hNum:=zA hg;have hN0:=zA (hW1.below hbw (show w.heap.size < w.heap.size+2 by omega));have hN1:=zA (hW2.below hbw hDlt);have hrd:=zA (hd4'.below (hbw.mono hBD));have hbel:=zA (hWb.trans (hbw.mono (show w.heap.size≤w.heap.size+2 by omega)));have hsz:=hbw.size;have hDs:w.heap.size+2≤wc.heap.size:=by omega
       have hDlt0:w.heap.size < w.heap.size+2:=by omega
       have hDg:=hDg;clear hg hW1 hW2 hd4' hWb hc0 hc1' hbW;have hrlen:(zz ts).length≤70368744177664:=by
        have h:(zz ts).length≤ts.length:=by
         rw[zGd];split
         · rw[List.length_drop];omega
         · exact yAC _
        omega
       go_upto_block 4 with(fail)
       go_cut [8] (fun ok wx=>∃k n okb,ok=.bool okb∧NumAt wx g k n∧NumAt wx w.heap.size 0 0∧Below w.heap.size w wx∧g < wx.heap.size∧BaseOk ts k n okb)
       case first=>
        by_cases hinf:zz ts=zAr
        · have HB:=zA (BaseOk.inf hinf);have HI:=zA hinf;clear hinf;go_wp2_with (first | (go_at_call 32;refine(zCM _).mono ?_;rintro e w3 ⟨A3,c3,rfl,hr3,hb3⟩;have hs3:=hb3.size) | (go_at_call 153;refine(zDE (yAC _) ((hrd.out.below (hb3.mono (by omega))).more (by omega)) hr3 hrlen (by decide)).mono ?_;rintro e w4 ⟨rfl,hb4⟩;rw[decide_eq_true HI.out];have hb34:=zCN hb3 hb4 hDs;obtain⟨q0,q1,q2,q3⟩:=(hNum.out.below hb3 hgl).below hb4 (by omega);obtain⟨p0,p1,p2,p3⟩:=hN0.out.below hb34 hDlt0;obtain⟨r0,r1,r2,r3⟩:=hN1.out.below hb34 hDlt));go_meet;exact⟨3,0,_,rfl,zLa hN0.out hbel.out hb34 hDlt0 hDg q0 q1 q2 q3 3 0 HB.out⟩
        · have HI:=zA hinf;clear hinf
          by_cases hdig:zz ts≠[]∧(zz ts).all zO=true
          · have hlz:(0:Int) < ((zz ts).length:Int):=by have:=List.length_pos_iff.2 hdig.1;omega
            have HA:=zA hdig.2;have HDG:=zA (List.all_eq_true.1 hdig.2);have HDD:=zA hdig;clear hdig
            by_cases hfit:zg (zz ts)≤9007199254740991
            · have HF:=zA hfit;clear hfit;go_wp2_with (first | (go_at_call 32;refine(zCM _).mono ?_;rintro e w3 ⟨A3,c3,rfl,hr3,hb3⟩;have hs3:=hb3.size) | (go_at_call 153;refine(zDE (yAC _) ((hrd.out.below (hb3.mono (by omega))).more (by omega)) hr3 hrlen (by decide)).mono ?_;rintro e w4 ⟨rfl,hb4⟩;rw[yAI HI.out];have hb34:=zCN hb3 hb4 hDs;obtain⟨q0,q1,q2,q3⟩:=(hNum.out.below hb3 hgl).below hb4 (by omega);obtain⟨p0,p1,p2,p3⟩:=hN0.out.below hb34 hDlt0;obtain⟨r0,r1,r2,r3⟩:=hN1.out.below hb34 hDlt) | (go_at_call 154;refine(zBH ((hrd.out.below (hb34.mono hBD))) hrlen).mono ?_;rintro e w5 ⟨rfl,rfl⟩;rw[HA.out]) | (go_at_call 157;refine(zGb ((hrd.out.below (hb34.mono hBD))) hrlen HDG.out).mono ?_;rintro e w5 ⟨nv,rfl,hnv,rfl⟩;have HNV:=zA hnv;clear hnv;rw[decide_eq_true HF.out]));go_meet;have hnv:=HNV.out HF.out;subst hnv;exact⟨0,_,_,rfl,zLa hN0.out hbel.out hb34 hDlt0 hDg q0 q1 q2 q3 0 _ (BaseOk.dig HI.out HDD.out HF.out)⟩
            · have HF:=zA hfit;clear hfit;have HN2:=zA (hN.out.trans (zNe hpos HI.out HDD.out HF.out));go_wp2_with (first | (go_at_call 32;refine(zCM _).mono ?_;rintro e w3 ⟨A3,c3,rfl,hr3,hb3⟩;have hs3:=hb3.size) | (go_at_call 153;refine(zDE (yAC _) ((hrd.out.below (hb3.mono (by omega))).more (by omega)) hr3 hrlen (by decide)).mono ?_;rintro e w4 ⟨rfl,hb4⟩;rw[yAI HI.out];have hb34:=zCN hb3 hb4 hDs;obtain⟨q0,q1,q2,q3⟩:=(hNum.out.below hb3 hgl).below hb4 (by omega);obtain⟨p0,p1,p2,p3⟩:=hN0.out.below hb34 hDlt0;obtain⟨r0,r1,r2,r3⟩:=hN1.out.below hb34 hDlt) | (go_at_call 154;refine(zBH ((hrd.out.below (hb34.mono hBD))) hrlen).mono ?_;rintro e w5 ⟨rfl,rfl⟩;rw[HA.out]) | (go_at_call 157;refine(zGb ((hrd.out.below (hb34.mono hBD))) hrlen HDG.out).mono ?_;rintro e w5 ⟨nv,rfl,hnv,rfl⟩;have HNV:=zA hnv;clear hnv;rw[yAI HF.out]));obtain⟨f0,f1,_,_⟩:=NumAt.set p0 p1 p2 p3 2 0;refine bodyPost_ret (v:=.tuple #[.agg #[.int .i64 2,.int .i64 0],.bool false]) (by simp[results,results106,go_sem,f0,f1]) rfl ?_;rw[HN2.out];exact⟨rfl,hbel.out.trans ((zBy (yAC _) (hb34.mono (by omega)) _ _))⟩
          · have HDD:=zA hdig
            by_cases hnil:(zz ts).length=0
            · clear hdig;have hlz:¬(0:Int) < ((zz ts).length:Int):=by omega
              have HNIL:=zA hnil;clear hnil;go_wp2_with (first | (go_at_call 32;refine(zCM _).mono ?_;rintro e w3 ⟨A3,c3,rfl,hr3,hb3⟩;have hs3:=hb3.size) | (go_at_call 153;refine(zDE (yAC _) ((hrd.out.below (hb3.mono (by omega))).more (by omega)) hr3 hrlen (by decide)).mono ?_;rintro e w4 ⟨rfl,hb4⟩;rw[yAI HI.out];have hb34:=zCN hb3 hb4 hDs;obtain⟨q0,q1,q2,q3⟩:=(hNum.out.below hb3 hgl).below hb4 (by omega);obtain⟨p0,p1,p2,p3⟩:=hN0.out.below hb34 hDlt0;obtain⟨r0,r1,r2,r3⟩:=hN1.out.below hb34 hDlt));go_meet;exact⟨2,0,_,rfl,zIO hN0.out hbel.out hb34 hDlt0 ⟨q0,q1,q2,q3⟩ (BaseOk.odd HI.out HDD.out)⟩
            · have hlz:(0:Int) < ((zz ts).length:Int):=by omega
              have hal:(zz ts).all zO=false:=by
               cases h:(zz ts).all zO with
               | false=>rfl
               | true=>exact absurd ⟨fun h2=>hnil (by rw[h2];rfl),h⟩ hdig
              have HA:=zA hal;clear hdig hnil hal;go_wp2_with (first | (go_at_call 32;refine(zCM _).mono ?_;rintro e w3 ⟨A3,c3,rfl,hr3,hb3⟩;have hs3:=hb3.size) | (go_at_call 153;refine(zDE (yAC _) ((hrd.out.below (hb3.mono (by omega))).more (by omega)) hr3 hrlen (by decide)).mono ?_;rintro e w4 ⟨rfl,hb4⟩;rw[yAI HI.out];have hb34:=zCN hb3 hb4 hDs;obtain⟨q0,q1,q2,q3⟩:=(hNum.out.below hb3 hgl).below hb4 (by omega);obtain⟨p0,p1,p2,p3⟩:=hN0.out.below hb34 hDlt0;obtain⟨r0,r1,r2,r3⟩:=hN1.out.below hb34 hDlt) | (go_at_call 154;refine(zBH ((hrd.out.below (hb34.mono hBD))) hrlen).mono ?_;rintro e w5 ⟨rfl,rfl⟩;rw[HA.out]));go_meet;exact⟨2,0,_,rfl,zIO hN0.out hbel.out hb34 hDlt0 ⟨q0,q1,q2,q3⟩ (BaseOk.odd HI.out HDD.out)⟩
       case rest=>
        obtain⟨k,nn,okb,hok,hg,hz0,hbf,hgl2,hbase⟩:=hcut;subst hok;have HBS:=zA hbase;clear hbase;have HG:=zA hg;have HZ:=zA hz0;obtain⟨q0,q1,q2,q3⟩:=hg;obtain⟨p0,p1,p2,p3⟩:=hz0;have hgw:w.heap.size < g:=by omega
        cases sg with
        | false=>
         have HN2:=zA (hN.out.trans (zNf hpos hsg.out HBS.out));go_wp2;obtain⟨f0,f1,_,_⟩:=NumAt.set p0 p1 p2 p3 k nn;refine bodyPost_ret (v:=.tuple #[.agg #[.int .i64 k,.int .i64 nn],.bool okb]) (by simp[results,results106,go_sem,f0,f1]) rfl ?_;rw[HN2.out];exact⟨rfl,zBy (yAC _) hbf _ _⟩
        | true=>
         have HN2:=zA (hN.out.trans (zNg hpos hsg.out HBS.out));go_wp2_with (go_at_call 158;refine(zNh HBS.out _).mono ?_;rintro e w6 ⟨rfl,hb6⟩;obtain⟨t0,t1,t2,t3⟩:=HG.out.below hb6 hgl2;obtain⟨s0,s1,s2,s3⟩:=HZ.out.below hb6 (by omega);have hs6:=hb6.size);have hbz:=zBy (D:=w.heap.size+1) (g:=g) (by omega) (Below.refl _ w6) (.int .i64 (zDK ⟨k,nn⟩).kind) (.int .i64 (zDK ⟨k,nn⟩).n);obtain⟨z0,z1,z2,z3⟩:=(HZ.out.below hb6 (by omega)).below hbz (by omega);obtain⟨f0,f1,_,_⟩:=NumAt.set z0 z1 z2 z3 (zDK ⟨k,nn⟩).kind (zDK ⟨k,nn⟩).n;refine bodyPost_ret (v:=.tuple #[.agg #[.int .i64 (zDK ⟨k,nn⟩).kind,.int .i64 (zDK ⟨k,nn⟩).n],.bool okb]) (by simp[results,results106,go_sem,f0,f1]) rfl ?_;rw[HN2.out];exact⟨rfl,zBy (yAC _) ((hbf.trans (hb6.mono (by omega))).trans (hbz.mono (by omega))) _ _⟩
theorem zCO {x:UInt16} (h:zO x=true):zAQ x=false:=by
 have:=zA4.1 h;simp[zAQ];omega
theorem zFM {u:List UInt16} (h:∀x∈u,zAQ x=false):u.dropWhile zAQ=u:=by
 cases u with
 | nil=>rfl
 | cons x r=>simp[List.dropWhile,h x (by simp)]
theorem zFN {u:List UInt16} (h:∀x∈u,zAQ x=false):zJ6 u=u:=by
 unfold zJ6 zD3;rw[zFM h,zFM (fun x hx=>h x (by simpa using hx)),List.reverse_reverse]
theorem zJU {u:List UInt16} (h0:0 < u.length) (hd:∀x∈u,zO x=true) (hf:zg u≤9007199254740991):zJ7 u=(⟨0,zg u⟩,true):=by
 have hx:=zA4.1 (hd _ (List.getElem_mem h0));have hne:u≠[]:=List.ne_nil_of_length_pos h0;obtain⟨x,r,rfl⟩:=List.exists_cons_of_ne_nil hne;simp only[List.getElem_cons_zero]at hx;have hs:zBa (x::r)=false:=by
  simp only[zBa,List.headD_cons,yA];rintro rfl;simp at hx
 have hr:zz (x::r)=x::r:=by
  unfold zz;rw[if_neg];simp only[List.headD_cons];rintro(rfl | rfl)<;>simp at hx
 have hi:x::r≠zAr:=by
  intro h;have h73:x=73:=by injection h
  rw[h73]at hx;simp at hx
 unfold zJ7;rw[zFN (fun x hx=>zCO (hd x hx))];unfold zMY;rw[if_neg hne,hs];unfold zDJ;have hall:=List.all_eq_true.2 hd;simp only[hr,hi,hf,hall,ne_eq,hne,not_false_eq_true,and_self,if_true,if_false,Bool.false_eq_true]
theorem zHY {k:Nat}:∀{n:Nat},n < 10^(k+1)→(zG6 n).length≤k+1:=by
 induction k with
 | zero=>intro n h;rw[zG7 (by simpa using h)];simp
 | succ k ih=>
  intro n h
  by_cases h1:n < 10
  · rw[zG7 h1];simp
  · rw[zKB h1];have:=@ih (n / 10) (by rw[Nat.pow_succ]at h;omega);simp;omega
theorem zEs {u:List UInt16} (h0:0 < u.length) (hd:∀x∈u,zO x=true) (hf:¬zg u≤9007199254740991):zJ7 u=(⟨2,0⟩,false):=by
 have hx:=zA4.1 (hd _ (List.getElem_mem h0));have hne:u≠[]:=List.ne_nil_of_length_pos h0;obtain⟨x,r,rfl⟩:=List.exists_cons_of_ne_nil hne;simp only[List.getElem_cons_zero]at hx;have hs:zBa (x::r)=false:=by
  simp only[zBa,List.headD_cons,yA];rintro rfl;simp at hx
 have hr:zz (x::r)=x::r:=by
  unfold zz;rw[if_neg];simp only[List.headD_cons];rintro(rfl | rfl)<;>simp at hx
 have hi:x::r≠zAr:=by
  intro h;have h73:x=73:=by injection h
  rw[h73]at hx;simp at hx
 unfold zJ7;rw[zFN (fun x hx=>zCO (hd x hx))];unfold zMY;rw[if_neg hne,hs];unfold zDJ;have hall:=List.all_eq_true.2 hd;simp only[hr,hi,hf,hall,ne_eq,hne,not_false_eq_true,and_self,if_true,if_false,Bool.false_eq_true]
theorem zLb {A:Option Addr} {c B m:Nat} {xs:List UInt16} {w:World} (hB:B≤w.heap.size) (hm:xs.length=m) (ha:Reads w B 1 A m (zAD xs)) (hc:m≤c) (hc2:c≤maxLen) (hl:m≤70368744177664) {k n:Int} {ok:Bool} (h:zJ7 xs=(⟨k,n⟩,ok)):
 Calls prog 106 #[.slice A m c] w fun e w'=>e=.returned (.tuple #[.agg #[.int .i64 k,.int .i64 n],.bool ok])∧Below w.heap.size w w':=by
 subst hm;have:=zJT hB ha hc hc2 hl;rw[h]at this;exact this
theorem zFh {A:Option Addr} {c g B k n:Nat} {u:List UInt16} {w:World} {sv:ByteArray} (hr:Rd w g A n c k) (hn:u.length=n) (ha:Reads w B 1 A n (zAD u)) (hB:B≤g) (hk:k≤n) (hl:n≤4096) {l:List UInt16} (hq:(u.drop k).takeWhile zO=l) (hs:sv=⟨(asc l).toArray⟩):
 Calls prog 101 #[.pointer (some ⟨g,0,none⟩),.func (.func 68) #[] #[]] w fun e w'=>e=.returned (.string sv)∧Mv w w' g A n c (k+l.length):=by
 subst hs;exact zJK hr hn ha hB hk hl hq
theorem zGf {d:List UInt16} (hd:∀x∈d,zO x=true):zAt (asc d)=d:=by
 unfold zAt asc;rw[List.map_map]
 conv=>rhs;rw[←List.map_id d]
 refine List.map_congr_left fun x hx=>?_;have h:=zA4.1 (hd x hx);refine UInt16.toNat_inj.1 ?_;show x.toNat % 256=x.toNat
 omega
theorem zLc {s:ByteArray} {d:List UInt16} (hs:s.data.toList=asc d) (hd:∀x∈d,zO x=true) (hl:d.length≤4096) (w:World):
 Calls prog 32 #[.string s] w fun e w'=>∃A c,e=.returned (.slice A d.length c)∧Reads w' w'.heap.size 1 A d.length (zAD d)∧d.length≤c∧c≤maxLen∧Below w.heap.size w w':=by
 have hsz:s.size=d.length:=by
  have:=congrArg List.length hs;simpa [asc]using this
 refine(zCz s w (by omega)).mono ?_;rintro e w' ⟨v,rfl,hm⟩;have hb:=hm.below;rw[hs,zGf hd]at hm;obtain⟨A,c,rfl,h1,h2,h3⟩:=hm.u16;exact⟨A,c,rfl,h3,h1,h2,hb⟩
theorem zLd {d r:List UInt16} {e m:Nat} {t:Tok} (h:(zAy 0 (fun x=>x.toNat==48) d&& !decide (d=[48]))=true) (hq:zBt d r=(e,t,m)):5=e∧zj=t∧0=m:=by
 unfold zBt at hq;rw[if_pos h]at hq;exact zBS hq
theorem zQx {d r:List UInt16} {e m:Nat} {t:Tok} (h:(zAy 0 (fun x=>x.toNat==48) d&& !decide (d=[48]))=false) (h2:zq [110] r=true) (hq:zBt d r=(e,t,m)):zIi (zg d) d.length (r.drop 1)=(e,t,m):=by
 unfold zBt at hq;rw[if_neg (by rw[h];simp),if_pos h2]at hq;exact hq
theorem zNi {d r:List UInt16} {e m:Nat} {t:Tok} (h:(zAy 0 (fun x=>x.toNat==48) d&& !decide (d=[48]))=false) (h2:zq [110] r=false) (h3:zAy 0 (zl (decide (d=[48]))) r=true) (hq:zBt d r=(e,t,m)):6=e∧zj=t∧0=m:=by
 unfold zBt at hq;rw[if_neg (by rw[h];simp),if_neg (by rw[h2];simp),if_pos h3]at hq;exact zBS hq
theorem zNj {d r:List UInt16} {e m:Nat} {t:Tok} (h:(zAy 0 (fun x=>x.toNat==48) d&& !decide (d=[48]))=false) (h2:zq [110] r=false) (h3:zAy 0 (zl (decide (d=[48]))) r=false) (h4:zAy 0 zAs r=true) (hq:zBt d r=(e,t,m)):5=e∧zj=t∧0=m:=by
 unfold zBt at hq;rw[if_neg (by rw[h];simp),if_neg (by rw[h2];simp),if_neg (by rw[h3];simp),if_pos h4]at hq;exact zBS hq
theorem zLe {d r:List UInt16} {e m:Nat} {t:Tok} (h:(zAy 0 (fun x=>x.toNat==48) d&& !decide (d=[48]))=false) (h2:zq [110] r=false) (h3:zAy 0 (zl (decide (d=[48]))) r=false) (h4:zAy 0 zAs r=false) (h5:¬zg d≤9007199254740991) (hq:zBt d r=(e,t,m)):6=e∧zj=t∧0=m:=by
 unfold zBt at hq;rw[if_neg (by rw[h];simp),if_neg (by rw[h2];simp),if_neg (by rw[h3];simp),if_neg (by rw[h4];simp),if_pos (by omega)]at hq;exact zBS hq
theorem zLf {d r:List UInt16} {e m:Nat} {t:Tok} (h:(zAy 0 (fun x=>x.toNat==48) d&& !decide (d=[48]))=false) (h2:zq [110] r=false) (h3:zAy 0 (zl (decide (d=[48]))) r=false) (h4:zAy 0 zAs r=false) (h5:zg d≤9007199254740991) (hq:zBt d r=(e,t,m)):0=e∧{zj with kind:=2,nn:=zg d}=t∧d.length=m:=by
 unfold zBt at hq;rw[if_neg (by rw[h];simp),if_neg (by rw[h2];simp),if_neg (by rw[h3];simp),if_neg (by rw[h4];simp),if_neg (by omega)]at hq;exact zES hq
theorem zHZ {A:Option Addr} {c g B k n:Nat} {u:List UInt16} {w:World} (hr:Rd w g A n c k) (hn:u.length=n) (ha:Reads w B 1 A n (zAD u)) (hB:B≤g) (hk:k < u.length) (hdk:zO u[k]=true) (hl:n≤4096) {m e:Nat} {t:Tok} (hq:zB1 (u.drop k)=(e,t,m)):
 Calls prog 69 #[.pointer (some ⟨g,0,none⟩)] w fun ev w'=>∃v,ev=.returned (.tuple #[v,.int .i64 (e:Int)])∧(e≠0→v=noV)∧(e=0→zQo w' w.heap.size t v∧Mv w w' g A n c (k+m))∧w.grownBy w' (some g):=by
 subst hn;have hg:=hr.lt;obtain⟨d,hdd⟩:∃d,(u.drop k).takeWhile zO=d:=⟨_,rfl⟩;have hd:∀x∈d,zO x=true:=by
  rw[←hdd];exact List.all_eq_true.1 List.all_takeWhile
 have hd0:d=u[k]::(u.drop (k+1)).takeWhile zO:=by rw[←hdd,yAH hk,List.takeWhile_cons_of_pos hdk]
 have h0:0 < d.length:=by rw[hd0];simp
 have hle:k+d.length≤u.length:=by
  have h1:=zBL zO (u.drop k);rw[hdd,List.length_drop]at h1;omega
 unfold zB1 at hq;rw[hdd,List.drop_drop]at hq;obtain⟨sv,hsv⟩:∃sv:ByteArray,sv=⟨(asc d).toArray⟩:=⟨_,rfl⟩;have hsd:sv.data.toList=asc d:=by rw[hsv]
 obtain⟨hsz,hget⟩:=zLG hsd hd;have hs0:0 < sv.size:=by omega
 obtain⟨q,hqq⟩:∃q,((sv[0].toNat:Int)==48)=q:=⟨_,rfl⟩;obtain⟨z,hzz⟩:∃z,decide (d=[48])=z:=⟨_,rfl⟩;have hlead:(zAy 0 (fun x=>x.toNat==48) d&& !decide (d=[48]))=(q&& !z):=by
  rw[hzz];congr 1;have h1:=(hget 0 hs0 h0).1;have h2:zAy 0 (fun x=>x.toNat==48) d=(d[0].toNat==48):=by
   unfold zAy;rw[yAB h0];rfl
  rw[h2,←h1,←hqq,Bool.eq_iff_iff,beq_iff_eq,beq_iff_eq];omega
 have hst:(sv.toList==[48])=z:=by
  rw[zKJ,hsd,←hzz,Bool.eq_iff_iff,decide_eq_true_eq,decide_eq_true_eq];constructor
  · intro h;rw[←zGf hd,h];rfl
  · intro h;rw[h];rfl
 have hnl:(q&& !z)=false→d[0]≠48∨d=[48]:=by
  intro h;cases hzc:z with
  | true=>right;exact of_decide_eq_true (by rw[hzz,hzc])
  | false=>
   left;intro h3;rw[hzc]at h;have h4:q=false:=by simpa using h
   rw[h4,yA]at hqq;have h1:=(hget 0 hs0 h0).1;rw[h3]at h1;exact hqq (by rw[h1];rfl)
 obtain⟨b,hb⟩:∃b,zq [110] (u.drop (k+d.length))=b:=⟨_,rfl⟩;obtain⟨bo,hbo⟩:∃b,zAy 0 (zl z) (u.drop (k+d.length))=b:=⟨_,rfl⟩;obtain⟨bl,hbl⟩:∃b,zAy 0 zAs (u.drop (k+d.length))=b:=⟨_,rfl⟩;have HL:=zA hdd;have HD:=zA hd;have HSV:=zA hsv;have HSD:=zA hsd;have HQ:=zA hq;have HLEAD:=zA hlead;have HNL:=zA hnl;have HB:=zA hb;have HBO:=zA hbo;have HBL:=zA hbl;have HZ:=zA hzz;have HA:=zA ha;have hR:=zA (hr.alloc (.cells zAp.toArray 44));have hAl:=zA (ha.alloc (yAD hB (Nat.le_of_lt hg)) (.cells zAp.toArray 44));have HZ0:=zA (Blk.new w zAp 44);have hG0:=zA (zG w (.cells zAp.toArray 44) (some g));have hdl:d.length≤4096:=by omega
 clear hdd hd hd0 hsv hsd hq hlead hnl hb hbo hbl hzz ha hr hget hsz;go_enter func69,ntmps69;go_wp2_with fail;refine(zFh hR.out rfl hAl.out hB (Nat.le_of_lt hk) hl HL.out HSV.out).mono ?_;rintro e1 w1 ⟨rfl,hM1⟩;have hS1:=zA (show SgS w w1 g A u.length c (k+d.length)from⟨⟨hM1.rd,zC hG0.out hM1.grown⟩,HZ0.out.grown hM1.grown (by omega)⟩);clear hM1 hR hAl HZ0 hG0;go_upto_region 3 with(fail)
 go_cut [12] (fun v wx=>v=.bool (q&& !z)∧wx=w1)
 case first=>
  cases q<;>cases z
  all_goals
   go_wp2_with fail;go_meet;exact⟨rfl,rfl⟩
 case rest=>
  obtain⟨hv,hwx⟩:=hcut;subst hv hwx;obtain⟨ld,hld⟩:∃b,(q&& !z)=b:=⟨_,rfl⟩;rw[hld]at HLEAD HNL⊢;clear hld hqq hst;cases ld with
  | true=>
   obtain⟨b0',fb0⟩:=hS1.out.zero.2 0 (by decide);obtain⟨b1',fb1⟩:=hS1.out.zero.2 1 (by decide);obtain⟨b2',fb2⟩:=hS1.out.zero.2 2 (by decide);obtain⟨b3',fb3⟩:=hS1.out.zero.2 3 (by decide);obtain⟨b4',fb4⟩:=hS1.out.zero.2 4 (by decide);obtain⟨b5',fb5⟩:=hS1.out.zero.2 5 (by decide);obtain⟨b6',fb6⟩:=hS1.out.zero.2 6 (by decide);obtain⟨b7',fb7⟩:=hS1.out.zero.2 7 (by decide);obtain⟨b8',fb8⟩:=hS1.out.zero.2 8 (by decide);go_wp2_with fail;obtain⟨q0,q1,q2,q3,q4,q5,q6,q7,q8⟩:=zS (v0:=.int .i64 0) (v1:=.string ⟨#[]⟩) (v2:=.slice none 0 0) (v3:=.int .i64 0) (v4:=.int .i64 0) (v5:=.bool false) (v6:=.slice none 0 0) (v7:=.int .i64 0) (v8:=.bool false) hS1.out.zero rfl;refine bodyPost_ret (v:=.tuple #[.agg #[.int .i64 0,.string ⟨#[]⟩,.slice none 0 0,.int .i64 0,.int .i64 0,.bool false,.slice none 0 0,.int .i64 0,.bool false],.int .i64 5]) (by simp[results,results69,go_sem,q0,q1,q2,q3,q4,q5,q6,q7,q8]) rfl ?_;obtain⟨z1,z2,z3⟩:=zLd HLEAD.out HQ.out;subst z1;exact⟨_,rfl,fun _=>rfl,fun h=>absurd h (by decide),(zn hS1.out.mv (yAC _) hg).grown⟩
  | false=>
   have HNZ:=zA (HNL.out rfl);clear HNL;go_wp2_with fail;refine(zAP ⟨#[110]⟩ hS1.out.mv.rd rfl (HA.out.grown hS1.out.mv.grown hB (Nat.le_of_lt hg)) hle hl (by decide) HB.out).mono ?_;rintro e2 w2 ⟨rfl,m2,hw2⟩;have hS2:=zA (show SgS w w2 g A u.length c (k+d.length) by rw[hw2];exact hS1.out.drewN hg m2);clear hw2 m2 hS1;cases b with
   | true=>
    have hkd:k+d.length+1≤u.length:=by
     have:=zBv HB.out;rw[List.length_drop]at this;simp at this;omega
    have HQB:=zA (zQx HLEAD.out HB.out HQ.out);rw[List.drop_drop]at HQB;have hc1:=hS2.out.mv.rd.c1;have hf1:=hS2.out.mv.rd.f1;have hM3:=zA (Mv.step hS2.out.mv (k':=k+d.length+1) (z:=(((k+d.length:Nat):Int)+1)) (by omega));have hz3:=zA (hS2.out.zero.setOther (S:=g) (i:=1) (by omega) (.int .i64 (((k+d.length:Nat):Int)+1)));obtain⟨p,hp⟩:∃p,k+d.length=p:=⟨_,rfl⟩;rw[hp]at hc1 hM3 hz3;go_wp2_with fail;refine(zHR (m:=m) (e:=e) (t:=t) HSD.out HD.out h0 HNZ.out hdl (by exact hM3.out.rd) rfl (HA.out.grown hM3.out.grown hB (Nat.le_of_lt hg)) hB (by omega) hl (by rw[←hp];exact HQB.out)).mono ?_;rintro e4 w4 ⟨v,rfl,hbad,hgood,hG4⟩;have hz4:=zA (hz3.out.grown hG4 (by omega));have HBAD:=zA hbad;have HGOOD:=zA hgood;have HG4:=zA (zC hM3.out.grown hG4);have hsz4:w.heap.size < w2.heap.size:=hS2.out.zero.1;have hszs:(w2.setCell ⟨g,1,none⟩ (.int .i64 ((p:Int)+1))).heap.size=w2.heap.size:=by simp
    have HSZ:=zA hszs;clear hbad hgood hG4 hszs hc1 hf1;obtain⟨b0',fb0⟩:=hz4.out.2 0 (by decide);obtain⟨b1',fb1⟩:=hz4.out.2 1 (by decide);obtain⟨b2',fb2⟩:=hz4.out.2 2 (by decide);obtain⟨b3',fb3⟩:=hz4.out.2 3 (by decide);obtain⟨b4',fb4⟩:=hz4.out.2 4 (by decide);obtain⟨b5',fb5⟩:=hz4.out.2 5 (by decide);obtain⟨b6',fb6⟩:=hz4.out.2 6 (by decide);obtain⟨b7',fb7⟩:=hz4.out.2 7 (by decide);obtain⟨b8',fb8⟩:=hz4.out.2 8 (by decide)
    by_cases he:e=0
    · obtain⟨⟨vs,vm,hv,ho1,ho2⟩,hM4,hm4⟩:=HGOOD.out he;subst hv;obtain⟨As,cs,rfl,_,_⟩:=zR ho1;obtain⟨Am,cm,rfl,_,_⟩:=zR ho2;rw[HSZ.out]at ho1 ho2;have HO1:=zA ho1;have HO2:=zA ho2;have HM4:=zA (Mv.then hM3.out hM4);have HE:=zA he;have Hm4:=zA hm4;obtain⟨ls,hls⟩:∃l,t.str.length=l:=⟨_,rfl⟩;obtain⟨lm,hlm⟩:∃l,t.mag.length=l:=⟨_,rfl⟩;rw[hls,hlm];rw[hls]at HO1;rw[hlm]at HO2;have HLS:=zA hls;have HLM:=zA hlm;clear ho1 ho2 hM4 hm4 he hls hlm;go_wp2_with fail;obtain⟨q0,q1,q2,q3,q4,q5,q6,q7,q8⟩:=zS (v0:=.int .i64 (t.kind:Int)) (v1:=.string ⟨t.text.toArray⟩) (v2:=.slice As ls cs) (v3:=.int .i64 t.nk) (v4:=.int .i64 t.nn) (v5:=.bool false) (v6:=.slice Am lm cm) (v7:=.int .i64 (t.pos:Int)) (v8:=.bool t.nl) hz4.out rfl;refine bodyPost_ret (v:=.tuple #[.agg #[.int .i64 (t.kind:Int),.string ⟨t.text.toArray⟩,.slice As ls cs,.int .i64 t.nk,.int .i64 t.nn,.bool false,.slice Am lm cm,.int .i64 (t.pos:Int),.bool t.nl],.int .i64 (e:Int)]) (by simp[results,results69,go_sem,q0,q1,q2,q3,q4,q5,q6,q7,q8]) rfl ?_;refine⟨_,rfl,fun h=>absurd HE.out h,fun _=>⟨⟨_,_,rfl,?_,?_⟩,?_⟩,zAC HG4.out (yAC _)⟩
      · rw[HLS.out];exact zAG (zAZ HO1.out hsz4) (by omega)
      · rw[HLM.out];exact zAG (zAZ HO2.out hsz4) (by omega)
      · rw[Hm4.out,show k+(d.length+1)=p+1 by omega];exact zn HM4.out (yAC _) hg
    · obtain rfl:=HBAD.out he;unfold noV;go_wp2_with fail;obtain⟨q0,q1,q2,q3,q4,q5,q6,q7,q8⟩:=zS (v0:=.int .i64 0) (v1:=.string ⟨#[]⟩) (v2:=.slice none 0 0) (v3:=.int .i64 0) (v4:=.int .i64 0) (v5:=.bool false) (v6:=.slice none 0 0) (v7:=.int .i64 0) (v8:=.bool false) hz4.out rfl;refine bodyPost_ret (v:=.tuple #[.agg #[.int .i64 0,.string ⟨#[]⟩,.slice none 0 0,.int .i64 0,.int .i64 0,.bool false,.slice none 0 0,.int .i64 0,.bool false],.int .i64 (e:Int)]) (by simp[results,results69,go_sem,q0,q1,q2,q3,q4,q5,q6,q7,q8]) rfl ?_;exact⟨_,rfl,fun _=>rfl,fun h=>absurd h he,zAC HG4.out (yAC _)⟩
   | false=>
    go_wp2_with fail;refine(zGa hS2.out.mv.rd rfl (HA.out.grown hS2.out.mv.grown hB (Nat.le_of_lt hg)) hB hle hl HBO.out).mono ?_;rintro e3 w3 ⟨rfl,hb3⟩;have hS3:=zA (hS2.out.below hg hb3);clear hb3 hS2;cases bo with
    | true=>
     obtain⟨b0',fb0⟩:=hS3.out.zero.2 0 (by decide);obtain⟨b1',fb1⟩:=hS3.out.zero.2 1 (by decide);obtain⟨b2',fb2⟩:=hS3.out.zero.2 2 (by decide);obtain⟨b3',fb3⟩:=hS3.out.zero.2 3 (by decide);obtain⟨b4',fb4⟩:=hS3.out.zero.2 4 (by decide);obtain⟨b5',fb5⟩:=hS3.out.zero.2 5 (by decide);obtain⟨b6',fb6⟩:=hS3.out.zero.2 6 (by decide);obtain⟨b7',fb7⟩:=hS3.out.zero.2 7 (by decide);obtain⟨b8',fb8⟩:=hS3.out.zero.2 8 (by decide);go_wp2_with fail;obtain⟨q0,q1,q2,q3,q4,q5,q6,q7,q8⟩:=zS (v0:=.int .i64 0) (v1:=.string ⟨#[]⟩) (v2:=.slice none 0 0) (v3:=.int .i64 0) (v4:=.int .i64 0) (v5:=.bool false) (v6:=.slice none 0 0) (v7:=.int .i64 0) (v8:=.bool false) hS3.out.zero rfl;refine bodyPost_ret (v:=.tuple #[.agg #[.int .i64 0,.string ⟨#[]⟩,.slice none 0 0,.int .i64 0,.int .i64 0,.bool false,.slice none 0 0,.int .i64 0,.bool false],.int .i64 6]) (by simp[results,results69,go_sem,q0,q1,q2,q3,q4,q5,q6,q7,q8]) rfl ?_;obtain⟨z1,z2,z3⟩:=zNi HLEAD.out HB.out (by rw[HZ.out];exact HBO.out) HQ.out;subst z1;exact⟨_,rfl,fun _=>rfl,fun h=>absurd h (by decide),(zn hS3.out.mv (yAC _) hg).grown⟩
    | false=>
     go_wp2_with fail;refine(zFH (j:=0) hS3.out.mv.rd rfl (HA.out.grown hS3.out.mv.grown hB (Nat.le_of_lt hg)) hle hl (by omega) HBL.out).mono ?_;rintro e4 w4 ⟨rfl,m4,hw4⟩;have hS4:=zA (show SgS w w4 g A u.length c (k+d.length) by rw[hw4];exact hS3.out.drewN hg m4);clear hw4 m4 hS3;cases bl with
     | true=>
      obtain⟨b0',fb0⟩:=hS4.out.zero.2 0 (by decide);obtain⟨b1',fb1⟩:=hS4.out.zero.2 1 (by decide);obtain⟨b2',fb2⟩:=hS4.out.zero.2 2 (by decide);obtain⟨b3',fb3⟩:=hS4.out.zero.2 3 (by decide);obtain⟨b4',fb4⟩:=hS4.out.zero.2 4 (by decide);obtain⟨b5',fb5⟩:=hS4.out.zero.2 5 (by decide);obtain⟨b6',fb6⟩:=hS4.out.zero.2 6 (by decide);obtain⟨b7',fb7⟩:=hS4.out.zero.2 7 (by decide);obtain⟨b8',fb8⟩:=hS4.out.zero.2 8 (by decide);go_wp2_with fail;obtain⟨q0,q1,q2,q3,q4,q5,q6,q7,q8⟩:=zS (v0:=.int .i64 0) (v1:=.string ⟨#[]⟩) (v2:=.slice none 0 0) (v3:=.int .i64 0) (v4:=.int .i64 0) (v5:=.bool false) (v6:=.slice none 0 0) (v7:=.int .i64 0) (v8:=.bool false) hS4.out.zero rfl;refine bodyPost_ret (v:=.tuple #[.agg #[.int .i64 0,.string ⟨#[]⟩,.slice none 0 0,.int .i64 0,.int .i64 0,.bool false,.slice none 0 0,.int .i64 0,.bool false],.int .i64 5]) (by simp[results,results69,go_sem,q0,q1,q2,q3,q4,q5,q6,q7,q8]) rfl ?_;obtain⟨z1,z2,z3⟩:=zNj HLEAD.out HB.out (by rw[HZ.out];exact HBO.out) HBL.out HQ.out;subst z1;exact⟨_,rfl,fun _=>rfl,fun h=>absurd h (by decide),(zn hS4.out.mv (yAC _) hg).grown⟩
     | false=>
      go_wp2_with fail;refine(zLc HSD.out HD.out hdl _).mono ?_;rintro e5 w5 ⟨Aa,ca,rfl,hra,hca1,hca2,hb5⟩;have hS5:=zA (hS4.out.below hg hb5);have HRA:=zA hra;clear hb5 hS4 hra
      by_cases hbig:zg d≤9007199254740991
      · have HN:=zA (zJU h0 HD.out hbig);have HBIG:=zA hbig;clear hbig;go_wp2_with fail;refine(zLb (yAC _) rfl HRA.out hca1 hca2 (by omega) HN.out).mono ?_;rintro e6 w6 ⟨rfl,hb6⟩;have hS6:=zA (show SgS w (w6.alloc (.cells #[.int .i64 0,.int .i64 (zg d:Int)] 39)) g A u.length c (k+d.length)from((hS5.out.below hg hb6).below hg ((Below.refl _ _).alloc (yAC _) _)));obtain⟨dv,hdv⟩:∃dv,zg d=dv:=⟨_,rfl⟩;rw[hdv]at hS6⊢;have HDV:=zA hdv;clear hb6 hS5 hdv;obtain⟨b0',fb0⟩:=hS6.out.zero.2 0 (by decide);obtain⟨b1',fb1⟩:=hS6.out.zero.2 1 (by decide);obtain⟨b2',fb2⟩:=hS6.out.zero.2 2 (by decide);obtain⟨b3',fb3⟩:=hS6.out.zero.2 3 (by decide);obtain⟨b4',fb4⟩:=hS6.out.zero.2 4 (by decide);obtain⟨b5',fb5⟩:=hS6.out.zero.2 5 (by decide);obtain⟨b6',fb6⟩:=hS6.out.zero.2 6 (by decide);obtain⟨b7',fb7⟩:=hS6.out.zero.2 7 (by decide);obtain⟨b8',fb8⟩:=hS6.out.zero.2 8 (by decide);go_wp2_with fail;obtain⟨q0,q1,q2,q3,q4,q5,q6,q7,q8⟩:=zS (v0:=.int .i64 2) (v1:=.string ⟨#[]⟩) (v2:=.slice none 0 0) (v3:=.int .i64 0) (v4:=.int .i64 (dv:Int)) (v5:=.bool false) (v6:=.slice none 0 0) (v7:=.int .i64 0) (v8:=.bool false) hS6.out.zero rfl;refine bodyPost_ret (v:=.tuple #[.agg #[.int .i64 2,.string ⟨#[]⟩,.slice none 0 0,.int .i64 0,.int .i64 (dv:Int),.bool false,.slice none 0 0,.int .i64 0,.bool false],.int .i64 0]) (by simp[results,results69,go_sem,q0,q1,q2,q3,q4,q5,q6,q7,q8]) rfl ?_;obtain⟨z1,z2,z3⟩:=zLf HLEAD.out HB.out (by rw[HZ.out];exact HBO.out) HBL.out HBIG.out HQ.out;subst z1 z2 z3;exact⟨_,rfl,fun h=>absurd rfl h,fun _=>⟨⟨_,_,by rw[HDV.out];rfl,yAJ _ _ _ _,yAJ _ _ _ _⟩,zn hS6.out.mv (yAC _) hg⟩,(zn hS6.out.mv (yAC _) hg).grown⟩
      · have HN:=zA (zEs h0 HD.out hbig);have HBIG:=zA hbig;clear hbig;go_wp2_with fail;refine(zLb (yAC _) rfl HRA.out hca1 hca2 (by omega) HN.out).mono ?_;rintro e6 w6 ⟨rfl,hb6⟩;have hS6:=zA (show SgS w (w6.alloc (.cells #[.int .i64 2,.int .i64 0] 39)) g A u.length c (k+d.length)from((hS5.out.below hg hb6).below hg ((Below.refl _ _).alloc (yAC _) _)));clear hb6 hS5;obtain⟨b0',fb0⟩:=hS6.out.zero.2 0 (by decide);obtain⟨b1',fb1⟩:=hS6.out.zero.2 1 (by decide);obtain⟨b2',fb2⟩:=hS6.out.zero.2 2 (by decide);obtain⟨b3',fb3⟩:=hS6.out.zero.2 3 (by decide);obtain⟨b4',fb4⟩:=hS6.out.zero.2 4 (by decide);obtain⟨b5',fb5⟩:=hS6.out.zero.2 5 (by decide);obtain⟨b6',fb6⟩:=hS6.out.zero.2 6 (by decide);obtain⟨b7',fb7⟩:=hS6.out.zero.2 7 (by decide);obtain⟨b8',fb8⟩:=hS6.out.zero.2 8 (by decide);go_wp2_with fail;obtain⟨q0,q1,q2,q3,q4,q5,q6,q7,q8⟩:=zS (v0:=.int .i64 0) (v1:=.string ⟨#[]⟩) (v2:=.slice none 0 0) (v3:=.int .i64 0) (v4:=.int .i64 0) (v5:=.bool false) (v6:=.slice none 0 0) (v7:=.int .i64 0) (v8:=.bool false) hS6.out.zero rfl;refine bodyPost_ret (v:=.tuple #[.agg #[.int .i64 0,.string ⟨#[]⟩,.slice none 0 0,.int .i64 0,.int .i64 0,.bool false,.slice none 0 0,.int .i64 0,.bool false],.int .i64 6]) (by simp[results,results69,go_sem,q0,q1,q2,q3,q4,q5,q6,q7,q8]) rfl ?_;obtain⟨z1,z2,z3⟩:=zLe HLEAD.out HB.out (by rw[HZ.out];exact HBO.out) HBL.out HBIG.out HQ.out;subst z1;exact⟨_,rfl,fun _=>rfl,fun h=>absurd h (by decide),(zn hS6.out.mv (yAC _) hg).grown⟩
end Go.Proofs.YtlohaclgbfhijaaGreatDoor
