/- Joined for the claim ParseBrackets: the parser, the lexer and the trees as they are walked, made short by a program of mine. -/
import Derived.Deep.RegionHeld3
import Derived.Deep.DeepCutAuto
import Derived.Test.YtlohaclgbfhijaaGreatDoorXK01
import Derived.Test.YtlohaclgbfhijaaGreatDoorS01
import Derived.Test.YtlohaclgbfhijaaGreatDoorS02
import Derived.Test.YtlohaclgbfhijaaGreatDoorS03
import Derived.Test.YtlohaclgbfhijaaGreatDoorS04
import Derived.Test.YtlohaclgbfhijaaGreatDoorS05
import Derived.Test.YtlohaclgbfhijaaGreatDoorS06
import Derived.Test.YtlohaclgbfhijaaGreatDoorS07
import Derived.Test.YtlohaclgbfhijaaGreatDoorS08
import Derived.Test.YtlohaclgbfhijaaGreatDoorS09
import Derived.Test.YtlohaclgbfhijaaGreatDoorS10
import Derived.Test.YtlohaclgbfhijaaGreatDoorS11
import Derived.Test.YtlohaclgbfhijaaGreatDoorS12
import Derived.Test.YtlohaclgbfhijaaGreatDoorS13
import Derived.Test.YtlohaclgbfhijaaGreatDoorS14
import Derived.Test.YtlohaclgbfhijaaGreatDoorS15
import Derived.Test.YtlohaclgbfhijaaGreatDoorS16
import Derived.Test.YtlohaclgbfhijaaGreatDoorS17
import Derived.Test.YtlohaclgbfhijaaGreatDoorS18
import Derived.Test.YtlohaclgbfhijaaGreatDoorS19
import Derived.Test.YtlohaclgbfhijaaGreatDoorS20
import Derived.Test.YtlohaclgbfhijaaGreatDoorS21
import Derived.Test.YtlohaclgbfhijaaGreatDoorS22
import Derived.Test.YtlohaclgbfhijaaGreatDoorS23
import Derived.Test.YtlohaclgbfhijaaGreatDoorS24
import Derived.Test.YtlohaclgbfhijaaGreatDoorS25
set_option maxHeartbeats 16000000
set_option maxRecDepth 1000000
namespace Go.Proofs.YtlohaclgbfhijaaGreatDoor
open Go.Proofs.Tryz
open Go.RowKit
theorem zWA {A A':Option Addr} {c d B n:Nat} {xs:List UInt16} {w:World} (hB:B≤w.heap.size) (hn:xs.length=n) (ha:Reads w B 1 A n (zAM xs)) (hb:Reads w B 1 A' n (zAM xs)) (hl:n≤maxLen):
 Calls prog 43 #[.slice A n c,.slice A' n d] w fun e w'=>e=.returned (.bool true)∧Below w.heap.size w w':=by
 have HN:=zD hn;have HA:=zD ha;have HB:=zD hb;have hl2:n≤9223372036854775807:=hl;have e2:((n:Int) !=(n:Int))=false:=by simp
 clear hn ha hb hl;go_enter func43,ntmps43;go_wp2_with fail
 go_loopw [13] (fun i wr=>∃k:Nat,k≤n∧i=.int .i64 k∧Hid (Below w.heap.size w wr)) (fun i _=>n - (intOf i).toNat)
 case atStart=>exact⟨0,yAF _,rfl,Below.refl _ _⟩
 case round=>
  obtain⟨k,hk,rfl,hnx⟩:=hrel
  by_cases hlt:k < n
  · have hx:k < xs.length:=by rw[HN.out];exact hlt
    obtain⟨ba,oa,rfl,_,hca1⟩:=(HA.out.below (hnx.out.mono hB)).spotR (by omega);have hca:=hca1 k (.int .u16 (xs[k].toNat:Int)) (by simp[zAM,zTl,yAC hx]);obtain⟨bb,ob,rfl,_,hcb1⟩:=(HB.out.below (hnx.out.mono hB)).spotR (by omega);have hcb:=hcb1 k (.int .u16 (xs[k].toNat:Int)) (by simp[zAM,zTl,yAC hx]);obtain⟨x,hxk⟩:∃z:Int,(xs[k].toNat:Int)=z:=⟨_,rfl⟩;rw[hxk]at hca hcb;have e3:(x !=x)=false:=by simp
    have h3:(k:Int) < (n:Int):=by omega
    clear hca1 hcb1 hxk hx;go_wp2_with fail;go_region
    all_goals go_wp2_with fail
    all_goals go_roundw
    case rel=>exact⟨k+1,by omega,by go_num,by first | exact hnx.out | exact hnx.out.drew | exact zAa hnx.out _⟩
    case measure=>simp[intOf];omega
  · go_wp2_with fail;go_ret;exact⟨rfl,hnx.out⟩
theorem zWB {A A':Option Addr} {c d B n:Nat} {xs:List Nat} {w:World} (hB:B≤w.heap.size) (hn:xs.length=n) (ha:Reads w B 1 A n (zUe xs)) (hb:Reads w B 1 A' n (zUe xs)) (hl:n≤maxLen):
 Calls prog 44 #[.slice A n c,.slice A' n d] w fun e w'=>e=.returned (.bool true)∧Below w.heap.size w w':=by
 have HN:=zD hn;have HA:=zD ha;have HB:=zD hb;have hl2:n≤9223372036854775807:=hl;have e2:((n:Int) !=(n:Int))=false:=by simp
 clear hn ha hb hl;go_enter func44,ntmps44;go_wp2_with fail
 go_loopw [13] (fun i wr=>∃k:Nat,k≤n∧i=.int .i64 k∧Hid (Below w.heap.size w wr)) (fun i _=>n - (intOf i).toNat)
 case atStart=>exact⟨0,yAF _,rfl,Below.refl _ _⟩
 case round=>
  obtain⟨k,hk,rfl,hnx⟩:=hrel
  by_cases hlt:k < n
  · have hx:k < xs.length:=by rw[HN.out];exact hlt
    obtain⟨ba,oa,rfl,_,hca1⟩:=(HA.out.below (hnx.out.mono hB)).spotR (by omega);have hca:=hca1 k (.int .u32 (xs[k]:Int)) (by simp[zUe,yAC hx]);obtain⟨bb,ob,rfl,_,hcb1⟩:=(HB.out.below (hnx.out.mono hB)).spotR (by omega);have hcb:=hcb1 k (.int .u32 (xs[k]:Int)) (by simp[zUe,yAC hx]);obtain⟨x,hxk⟩:∃z:Int,(xs[k]:Int)=z:=⟨_,rfl⟩;rw[hxk]at hca hcb;have e3:(x !=x)=false:=by simp
    have h3:(k:Int) < (n:Int):=by omega
    clear hca1 hcb1 hxk hx;go_wp2_with fail;go_region
    all_goals go_wp2_with fail
    all_goals go_roundw
    case rel=>exact⟨k+1,by omega,by go_num,by first | exact hnx.out | exact hnx.out.drew | exact zAa hnx.out _⟩
    case measure=>simp[intOf];omega
  · go_wp2_with fail;go_ret;exact⟨rfl,hnx.out⟩
theorem zWC {A A':Option Addr} {c d B n:Nat} {xs:List Int} {w:World} (hB:B≤w.heap.size) (hn:xs.length=n) (ha:Reads w B 1 A n (zDY xs)) (hb:Reads w B 1 A' n (zDY xs)) (hl:n≤maxLen):
 Calls prog 45 #[.slice A n c,.slice A' n d] w fun e w'=>e=.returned (.bool true)∧Below w.heap.size w w':=by
 have HN:=zD hn;have HA:=zD ha;have HB:=zD hb;have hl2:n≤9223372036854775807:=hl;have e2:((n:Int) !=(n:Int))=false:=by simp
 clear hn ha hb hl;go_enter func45,ntmps45;go_wp2_with fail
 go_loopw [13] (fun i wr=>∃k:Nat,k≤n∧i=.int .i64 k∧Hid (Below w.heap.size w wr)) (fun i _=>n - (intOf i).toNat)
 case atStart=>exact⟨0,yAF _,rfl,Below.refl _ _⟩
 case round=>
  obtain⟨k,hk,rfl,hnx⟩:=hrel
  by_cases hlt:k < n
  · have hx:k < xs.length:=by rw[HN.out];exact hlt
    obtain⟨ba,oa,rfl,_,hca1⟩:=(HA.out.below (hnx.out.mono hB)).spotR (by omega);have hca:=hca1 k (.int .i64 xs[k]) (by simp[zDY,yAC hx]);obtain⟨bb,ob,rfl,_,hcb1⟩:=(HB.out.below (hnx.out.mono hB)).spotR (by omega);have hcb:=hcb1 k (.int .i64 xs[k]) (by simp[zDY,yAC hx]);obtain⟨x,hxk⟩:∃z:Int,xs[k]=z:=⟨_,rfl⟩;rw[hxk]at hca hcb;have e3:(x !=x)=false:=by simp
    have h3:(k:Int) < (n:Int):=by omega
    clear hca1 hcb1 hxk hx;go_wp2_with fail;go_region
    all_goals go_wp2_with fail
    all_goals go_roundw
    case rel=>exact⟨k+1,by omega,by go_num,by first | exact hnx.out | exact hnx.out.drew | exact zAa hnx.out _⟩
    case measure=>simp[intOf];omega
  · go_wp2_with fail;go_ret;exact⟨rfl,hnx.out⟩
def E8 (w:World) (N:Nat) (v0 v1 v2 v3 v4 v5 v6 v7:Value):Prop:=w.cell? ⟨N,0,none⟩=some v0∧w.cell? ⟨N,1,none⟩=some v1∧w.cell? ⟨N,2,none⟩=some v2∧w.cell? ⟨N,3,none⟩=some v3∧w.cell? ⟨N,4,none⟩=some v4∧w.cell? ⟨N,5,none⟩=some v5∧w.cell? ⟨N,6,none⟩=some v6∧w.cell? ⟨N,7,none⟩=some v7
theorem E8.below {w w':World} {N D:Nat} {v0 v1 v2 v3 v4 v5 v6 v7:Value} (h:E8 w N v0 v1 v2 v3 v4 v5 v6 v7) (hb:Below D w w') (hd:N < D):E8 w' N v0 v1 v2 v3 v4 v5 v6 v7:=by
 have hc:∀j,w'.cell? ⟨N,j,none⟩=w.cell? ⟨N,j,none⟩:=fun j=>hb.cell (p:=⟨N,j,none⟩) hd;unfold E8;rw[hc,hc,hc,hc,hc,hc,hc,hc];exact h
theorem E8.new (w:World) (e:TypeId) (v0 v1 v2 v3 v4 v5 v6 v7:Value):E8 (w.alloc (.cells #[v0,v1,v2,v3,v4,v5,v6,v7] e)) w.heap.size v0 v1 v2 v3 v4 v5 v6 v7:=by
 refine⟨?_,?_,?_,?_,?_,?_,?_,?_⟩
 all_goals
  rw[World.cell?_alloc_at _ _ _ _ rfl];rfl
theorem zVv {A A2 Am Am2 Ak Ak2:Option Addr} {n c c2 m cm cm2 l ck ck2:Nat} {K k1 n1:Int} {b1:Bool} {nx:ByteArray} {w:World} (CU:∀W,Below w.heap.size w W→Calls prog 43 #[.slice A n c,.slice A2 n c2] W fun e w'=>e=.returned (.bool true)∧Below W.heap.size W w') (CM:∀W,Below w.heap.size w W→Calls prog 44 #[.slice Am m cm,.slice Am2 m cm2] W fun e w'=>e=.returned (.bool true)∧Below W.heap.size W w') (CK:∀W,Below w.heap.size w W→Calls prog 45 #[.slice Ak l ck,.slice Ak2 l ck2] W fun e w'=>e=.returned (.bool true)∧Below W.heap.size W w'):
 Calls prog 42 #[.agg #[.int .i64 K,.string nx,.slice A n c,.int .i64 k1,.int .i64 n1,.bool b1,.slice Am m cm,.slice Ak l ck],.agg #[.int .i64 K,.string nx,.slice A2 n c2,.int .i64 k1,.int .i64 n1,.bool b1,.slice Am2 m cm2,.slice Ak2 l ck2]] w fun e w'=>e=.returned (.bool true)∧Below w.heap.size w w':=by
 obtain⟨V,hV⟩:∃V,w.alloc (.cells #[.int .i64 K,.string nx,.slice A n c,.int .i64 k1,.int .i64 n1,.bool b1,.slice Am m cm,.slice Ak l ck] 48)=V:=⟨_,rfl⟩;obtain⟨W,hW⟩:∃W,V.alloc (.cells #[.int .i64 K,.string nx,.slice A2 n c2,.int .i64 k1,.int .i64 n1,.bool b1,.slice Am2 m cm2,.slice Ak2 l ck2] 48)=W:=⟨_,rfl⟩;have b1':Below w.heap.size w V:=by rw[←hV];exact(Below.refl _ _).alloc (yAD _) _
 have b2':Below V.heap.size V W:=by rw[←hW];exact(Below.refl _ _).alloc (yAD _) _
 have sV:V.heap.size=w.heap.size+1:=by rw[←hV];simp
 have sW:W.heap.size=V.heap.size+1:=by rw[←hW];simp
 have HB0:=zD (b1'.trans (b2'.mono b1'.size));have ex:=(show E8 V w.heap.size (.int .i64 K) (.string nx) (.slice A n c) (.int .i64 k1) (.int .i64 n1) (.bool b1) (.slice Am m cm) (.slice Ak l ck) by rw[←hV];exact E8.new _ _ _ _ _ _ _ _ _ _).below b2' (by omega);have ey:E8 W (w.heap.size+1) (.int .i64 K) (.string nx) (.slice A2 n c2) (.int .i64 k1) (.int .i64 n1) (.bool b1) (.slice Am2 m cm2) (.slice Ak2 l ck2):=by rw[←hW,←sV];exact E8.new _ _ _ _ _ _ _ _ _ _
 have hX0:w.heap.size < W.heap.size:=by omega
 have hY0:w.heap.size+1 < W.heap.size:=by omega
 have hWW:(w.alloc (.cells #[.int .i64 K,.string nx,.slice A n c,.int .i64 k1,.int .i64 n1,.bool b1,.slice Am m cm,.slice Ak l ck] 48)).alloc (.cells #[.int .i64 K,.string nx,.slice A2 n c2,.int .i64 k1,.int .i64 n1,.bool b1,.slice Am2 m cm2,.slice Ak2 l ck2] 48)=W:=by rw[hV];exact hW
 clear hV hW b1' b2' sV sW;have CU':=zD CU;have CM':=zD CM;have CK':=zD CK;clear CU CM CK;have EX0:=zD ex;have EY0:=zD ey;obtain⟨p0,p1,p2,p3,p4,p5,p6,p7⟩:=ex;obtain⟨q0,q1,q2,q3,q4,q5,q6,q7⟩:=ey;obtain⟨X,hX⟩:∃X,w.heap.size=X:=⟨_,rfl⟩;cases b1
 all_goals
  go_enter func42,ntmps42;go_upto_region 1 with(fail);clear hWW;rw[hX]at p0 p1 p2 p3 p4 p5 p6 p7 q0 q1 q2 q3 q4 q5 q6 q7 EX0 EY0 hX0 hY0;clear hX;go_wp2_with fail;refine(CU'.out W HB0.out).mono ?_;rintro e1 w1 ⟨rfl,hb1⟩;have HB1:=zD (HB0.out.trans (hb1.mono HB0.out.size));have EX1:=zD (EX0.out.below hb1 hX0);have EY1:=zD (EY0.out.below hb1 hY0);have hX1:=yAA hX0 hb1.size;have hY1:=yAA hY0 hb1.size;obtain⟨p0,p1,p2,p3,p4,p5,p6,p7⟩:=EX1.out;obtain⟨q0,q1,q2,q3,q4,q5,q6,q7⟩:=EY1.out;clear hb1;go_wp2_with fail;refine(CM'.out w1 HB1.out).mono ?_;rintro e2 w2 ⟨rfl,hb2⟩;have HB2:=zD (HB1.out.trans (hb2.mono HB1.out.size));have EX2:=zD (EX1.out.below hb2 hX1);have EY2:=zD (EY1.out.below hb2 hY1);have hX2:=yAA hX1 hb2.size;have hY2:=yAA hY1 hb2.size;obtain⟨p0,p1,p2,p3,p4,p5,p6,p7⟩:=EX2.out;obtain⟨q0,q1,q2,q3,q4,q5,q6,q7⟩:=EY2.out;clear hb2;go_wp2_with fail;refine(CK'.out w2 HB2.out).mono ?_;rintro e3 w3 ⟨rfl,hb3⟩;have HB3:=zD (HB2.out.trans (hb3.mono HB2.out.size));clear hb3;go_wp2_with fail;go_ret;exact⟨rfl,HB3.out⟩
theorem zVS {x:Nd} {s r:NdSl} {B:Nat} {w:World} (hB:B≤w.heap.size) (hx:NdR w B x s) (hy:NdR w B x r):
 Calls prog 42 #[.agg #[.int .i64 x.kind,.string ⟨x.name.toArray⟩,.slice s.As x.str.length s.cs,.int .i64 x.nk,.int .i64 x.nn,.bool x.neg,.slice s.Am x.mag.length s.cm,.slice s.Ak x.kids.length s.ck],.agg #[.int .i64 x.kind,.string ⟨x.name.toArray⟩,.slice r.As x.str.length r.cs,.int .i64 x.nk,.int .i64 x.nn,.bool x.neg,.slice r.Am x.mag.length r.cm,.slice r.Ak x.kids.length r.ck]] w fun e w'=>e=.returned (.bool true)∧Below w.heap.size w w':=
 zVv (fun _ hb=>zWA (yAE hB hb.size) rfl (hx.str.below (hb.mono hB)) (hy.str.below (hb.mono hB)) (yAE hx.cs.1 hx.cs.2)) (fun _ hb=>zWB (yAE hB hb.size) rfl (hx.mag.below (hb.mono hB)) (hy.mag.below (hb.mono hB)) (yAE hx.cm.1 hx.cm.2))
  (fun _ hb=>zWC (yAE hB hb.size) rfl (hx.kids.below (hb.mono hB)) (hy.kids.below (hb.mono hB)) (yAE hx.ck.1 hx.ck.2))
theorem zVe {A A2:Option Addr} {c c2 B n:Nat} {ts:List Nd} {w:World} (hN:NdsR w B A n ts) (hM:NdsR w B A2 n ts) (hB:B≤w.heap.size) (hn:n≤4096):
 Calls prog 41 #[.slice A n c,.slice A2 n c2,.func (.func 42) #[] #[]] w fun e w'=>e=.returned (.bool true)∧Below w.heap.size w w':=by
 have HN:=zD hN;have HM:=zD hM;have HB:=zD hB;have e2:((n:Int) !=(n:Int))=false:=by simp
 clear hN hM hB;go_enter func41,ntmps41;go_wp2_with fail
 go_loopw [17] (fun i wr=>∃k:Nat,k≤n∧i=.int .i64 (k:Int)∧Hid (Below w.heap.size w wr)) (fun i _=>n - (intOf i).toNat)
 case atStart=>exact⟨0,yAF _,rfl,Below.refl _ _⟩
 case round=>
  obtain⟨k,hk,rfl,hbr⟩:=hrel
  by_cases hlt:k < n
  · have h1:(k:Int) < (n:Int):=by omega
    have hwB:=HB.out;have hsz:=hbr.out.size;obtain⟨b,o,x,s,rfl,hbB,hx,hC,hR⟩:=(HN.out.below (hbr.out.mono hwB)).get hlt;obtain⟨kc0,kc1,kc2,kc3,kc4,kc5,kc6,kc7⟩:=hC;obtain⟨b',o',y,r,rfl,hbB',hy,hC',hR'⟩:=(HM.out.below (hbr.out.mono hwB)).get hlt;obtain rfl:x=y:=Option.some.inj (hx.symm.trans hy);have HC':=zD hC';have C:=zD (fun(W:World) (hb:Below wr.heap.size wr W)=>zVS (yAE (yAE hwB hsz) hb.size) (hR.below (hb.mono (yAE hwB hsz))) (hR'.below (hb.mono (yAE hwB hsz))));clear hx hy hC' hR hR';go_upto_region 6 with(fail);obtain⟨W1,hW1⟩:∃W1,wr.alloc (.cells #[.int .i64 x.kind,.string ⟨x.name.toArray⟩,.slice s.As x.str.length s.cs,.int .i64 x.nk,.int .i64 x.nn,.bool x.neg,.slice s.Am x.mag.length s.cm,.slice s.Ak x.kids.length s.ck] 48)=W1:=⟨_,rfl⟩;rw[hW1];have b1:Below wr.heap.size wr W1:=by rw[←hW1];exact(Below.refl _ _).alloc (yAD _) _
    have s1:W1.heap.size=wr.heap.size+1:=by rw[←hW1];simp
    have nx:=zD (show E8 W1 wr.heap.size _ _ _ _ _ _ _ _ from by rw[←hW1];exact E8.new wr _ _ _ _ _ _ _ _ _);obtain⟨d0,d1,d2,d3,d4,d5,d6,d7⟩:=HC'.out.below b1 (show b' < wr.heap.size by omega);clear kc0 kc1 kc2 kc3 kc4 kc5 kc6 kc7 hW1 HC';go_upto_region 7 with(fail);obtain⟨W2,hW2⟩:∃W2,W1.alloc (.cells #[.int .i64 x.kind,.string ⟨x.name.toArray⟩,.slice r.As x.str.length r.cs,.int .i64 x.nk,.int .i64 x.nn,.bool x.neg,.slice r.Am x.mag.length r.cm,.slice r.Ak x.kids.length r.ck] 48)=W2:=⟨_,rfl⟩;rw[hW2];have b2:Below W1.heap.size W1 W2:=by rw[←hW2];exact(Below.refl _ _).alloc (yAD _) _
    have ny:=zD (show E8 W2 W1.heap.size _ _ _ _ _ _ _ _ from by rw[←hW2];exact E8.new W1 _ _ _ _ _ _ _ _ _);have nx2:=zD (nx.out.below b2 (show wr.heap.size < W1.heap.size by omega));have BW:=zD (b1.trans (b2.mono (by omega)));have CC:=zD (C.out W2 BW.out);have HBR:=zD (hbr.out.trans (BW.out.mono hsz));rw[s1]at ny;obtain⟨p0,p1,p2,p3,p4,p5,p6,p7⟩:=nx2.out;obtain⟨v0,v1,v2,v3,v4,v5,v6,v7⟩:=ny.out;obtain⟨X,hX⟩:∃X,wr.heap.size=X:=⟨_,rfl⟩;rw[hX]at p0 p1 p2 p3 p4 p5 p6 p7 v0 v1 v2 v3 v4 v5 v6 v7;rw[hX];clear hW2 d0 d1 d2 d3 d4 d5 d6 d7 b1 s1 b2 nx ny nx2 hX C hsz hbr hbB hbB';go_wp2_with fail;refine CC.out.mono ?_;rintro e3 W3 ⟨rfl,hb3⟩;have HB3:=zD (HBR.out.trans (hb3.mono HBR.out.size));clear hb3;go_wp2_with fail
    go_roundw
    case rel=>exact⟨k+1,by omega,by go_num,HB3.out⟩
    case measure=>simp[intOf];omega
  · have h2:decide ((k:Int) < (n:Int))=false:=yAJ (by omega);obtain rfl:k=n:=by omega
    go_wp2_with fail;go_ret;exact⟨rfl,hbr.out⟩
theorem zVw {A A2:Option Addr} {c c2 n n2:Nat} {w:World} {q:Bool} (C:∀W,Below w.heap.size w W→Calls prog 41 #[.slice A n c,.slice A2 n2 c2,.func (.func 42) #[] #[]] W fun e w'=>e=.returned (.bool q)∧Below W.heap.size W w'):
 Calls prog 20 #[.agg #[.slice A n c],.agg #[.slice A2 n2 c2]] w fun e w'=>e=.returned (.bool q)∧Below w.heap.size w w':=by
 have hb0:Below w.heap.size w ((w.alloc (.cells #[.slice A n c] 27)).alloc (.cells #[.slice A2 n2 c2] 27)):=((Below.refl _ _).alloc (yAD _) _).alloc (by simp) _;have HB0:=zD hb0;have C0:=zD (C _ hb0);clear hb0 C;go_enter func20,ntmps20;go_wp2_with fail;refine C0.out.mono ?_;rintro e1 w1 ⟨rfl,hb1⟩;have HB1:=zD (HB0.out.trans (hb1.mono HB0.out.size));clear hb1;go_wp2_with fail;go_ret;exact⟨rfl,HB1.out⟩
theorem zVx {A A2:Option Addr} {c c2 B n:Nat} {ts:List Nd} {w:World} (hN:NdsR w B A n ts) (hM:NdsR w B A2 n ts) (hB:B≤w.heap.size) (hn:n≤4096):
 Calls prog 20 #[.agg #[.slice A n c],.agg #[.slice A2 n c2]] w fun e w'=>e=.returned (.bool true)∧Below w.heap.size w w':=
 zVw fun _ hb=>zVe (hN.below (hb.mono hB)) (hM.below (hb.mono hB)) (yAE hB hb.size) hn
theorem zVf {u:List UInt16} {ts:List Nd} {a:Nat} (h:zAg u=(ts,a,0)):0 < ts.length:=by
 obtain⟨L,_,_,_,_,_,g,_⟩:=zJt h;rw[g,flatT_len];generalize (zG L (.program []) s0).1=t;obtain⟨x,l⟩:=t;rw[zd];omega
theorem zVO (c:UInt16) (k:Nat):zAM (List.replicate k c)++[Value.int .u16 (c.toNat:Int)]=zAM (List.replicate (k+1) c):=by
 rw[List.replicate_succ'];simp[zAM,zTl]
theorem zVE (A:Option Addr) (c:Nat) (u:List UInt16) (_hc:u.length≤c) (_hm:c≤maxLen) (p:Int) (_hp: -9223372036854775808≤p∧p≤9223372036854775807) (w:World) (hr:Reads w w.heap.size 1 A u.length (zAM u)) (hT:Tab w):
 Calls prog 6 #[.slice A u.length c,.int .i64 p] w fun e w'=>e=.returned (.bool true)∧Below w.heap.size w w':=by
 have HT:=zD hT;have CF:=zD (fun(x:World) (hb:Below w.heap.size w x)=>zLj (HT.out.below HT.out.lt hb));have HR:=zD hr;clear hT hr;go_enter func6,ntmps6;go_wp2_with fail;refine(CF.out w (Below.refl _ _)).mono ?_;rintro e w1 ⟨rfl,hb1⟩;have HB1:=zD hb1;have HR1:=zD (HR.out.below hb1);have hs1:w.heap.size≤w1.heap.size:=hb1.size;clear hb1 HR;go_upto_region 3 with(fail)
 go_cut [27] (fun v wx=>∃q:Bool,v=.bool q∧w1=wx∧Hid (q=false→u.length≤1000∧0≤p∧p≤20))
 case first=>
  by_cases hlong:1000 < u.length
  · have h2:(1000:Int) < (u.length:Int):=by omega
    go_wp2_with fail;go_meet;exact⟨true,rfl,rfl,fun h=>by cases h⟩
  have h3u:decide ((1000:Int) < (u.length:Int))=false:=yAJ (by omega)
  by_cases h0:p < 0
  · have e0:decide (p < 0)=true:=decide_eq_true h0;go_wp2_with fail;go_meet;exact⟨true,by first | rfl | simp,rfl,fun h=>by cases h⟩
  have e0:decide (p < 0)=false:=yAJ h0
  by_cases h20:20 < p
  · have e20:decide (20 < p)=true:=decide_eq_true h20;go_wp2_with fail;go_meet;exact⟨true,by first | rfl | simp,rfl,fun h=>by cases h⟩
  have e20:decide (20 < p)=false:=yAJ h20;have HH:=zD (show u.length≤1000∧0≤p∧p≤20 by omega);go_wp2_with fail;go_meet;exact⟨false,by first | rfl | (simp only[h3u,e0,e20];rfl) | simp,rfl,fun _=>HH.out⟩
 case rest=>
  obtain⟨q,hv,hwx,hq⟩:=hcut;subst hv hwx;cases q with
  | true=>
   clear hq;go_wp2_with fail;refine(CF.out w1 HB1.out).mono ?_;rintro e w2 ⟨rfl,hb2⟩;have HB2:=zD hb2;clear hb2;go_wp2_with fail;go_ret;exact⟨rfl,zAn HB1.out HB2.out⟩
  | false=>
   obtain⟨hl,hp0,hp20⟩:=hq.out rfl;obtain⟨m,rfl⟩:∃m:Nat,p=(m:Int):=⟨p.toNat,by omega⟩;have hm20:m≤20:=by omega
   obtain⟨V,hV⟩:∃V,40::(u++[10,41,59])=V:=⟨_,rfl⟩;obtain⟨X,hX⟩:∃X,List.replicate m 40++40::(u++10::41::(List.replicate m 41++[59]))=X:=⟨_,rfl⟩;obtain⟨⟨ta,p1,e1⟩,hq1⟩:∃q,zAg V=q:=⟨_,rfl⟩;obtain⟨⟨tb,p2,e2⟩,hq2⟩:∃q,zAg X=q:=⟨_,rfl⟩;have hln:=zGN V;have hln2:=zGN X;have hkn:=zI7 V;rw[hq1]at hln hkn;rw[hq2]at hln2;have hpos:e1=0→0 < ta.length:=fun h1=>zVf (u:=V) (a:=p1) (by rw[hq1,h1]);have hM:e1=0→zJu ta=1→e2=0∧tb=ta:=by
    intro h1 h2;have:=zVL (n:=m) hl hm20 (by rw[hV,hq1,h1]) h2;rw[hX,hq2]at this;simp only[Prod.mk.injEq]at this;exact⟨this.2.2,this.1⟩
   obtain⟨na,hna⟩:∃N,ta.length=N:=⟨_,rfl⟩;obtain⟨nb,hnb⟩:∃N,tb.length=N:=⟨_,rfl⟩;obtain⟨kk,hkk⟩:∃N,zJu ta=N:=⟨_,rfl⟩;simp only at hln hln2 hkn;rw[hna]at hln hpos;rw[hnb]at hln2;rw[hkk]at hkn hM;have hVl:V.length=u.length+4:=by rw[←hV];simp
   obtain⟨nv,hnv⟩:∃N,V.length=N+1:=⟨u.length+3,by omega⟩;have hnv2:nv≤1003:=by omega
   have hVt:V.take nv=40::(u++[10,41]):=by
    have e:nv=u.length+3:=by omega
    rw[←hV,e,show u.length+3=(u++[10,41]).length+1 by simp,List.take_succ_cons,show u++[10,41,59]=(u++[10,41])++[59] by simp,List.take_left]
   have hXe:zAM (List.replicate m 40)++zAM (V.take nv)++zAM (List.replicate m 41)++[Value.int .u16 59]=zAM X:=by
    rw[hVt,←hX];simp[zAM,zTl]
   have HM:=zD hM;have HPOS:=zD hpos;have HQ1:=zD hq1;have HQ2:=zD hq2;have HNA:=zD hna;have HNB:=zD hnb;have HKK:=zD hkk;have HV:=zD hV;have HVL:=zD hnv;have HXE:=zD hXe;have HLU:=zD (show u.length≤1000 from hl);obtain⟨i0,hi0,hz0,hz1,hz2⟩:=info_parts Tryz.info_u16;have hml:=zD (show Made w1 (w1.alloc (.cells #[.int .u16 40] 24)) 24 (.slice (some ⟨w1.heap.size,0,none⟩) 1 1) (zAM [40])from Made.lit w1 24 [.int .u16 40] (by decide));have hra:=zD (HR1.out.alloc hs1 (.cells #[.int .u16 40] 24));clear hM hpos hq1 hq2 hna hnb hkk hV hX hVl hnv hVt hXe hq hp0 hp20 HR1;go_upto_region 6 with(first | (at_builtin;refine zKJ rfl _ _ 22 rfl 24 i0 _ 2 underlying22 hi0 hz0 hz1 hz2 rfl (.slice (some ⟨w1.heap.size,0,none⟩) 1 1) (zAM [40]) rfl hml.out w.heap.size A u.length c (zAM u) rfl hra.out (zOk _) (by simp[zAM];omega) (by omega) ?_;intro v4 w4 hm4;have H4:=zD hm4;clear hm4) | (at_builtin;refine zEH rfl _ _ 22 rfl 24 i0 _ 2 underlying22 hi0 hz0 hz1 hz2 rfl v4 (zAM [40]++zAM u) rfl H4.out [.int .u16 10,.int .u16 41,.int .u16 59] 3 3 rfl rfl rfl (by simp[zAM];omega) (by omega) ?_;intro v5 w5 hm5;have H5:=zD (show Made w1 w5 24 v5 (zAM V)from hm5.cells (by rw[←HV.out];simp[zAM,zTl]));clear hm5));obtain⟨A5,c5,rfl,hl5,hx5,hr5⟩:=H5.out.u16;have HB5:=zD (zAn HB1.out H5.out.below);have HR5:=zD hr5;clear H4 hml hra hr5 H5;have hVn:=HVL.out;rw[hVn]at hl5 HR5⊢;clear hVn;have M0:=zD (Made.empty w5 24);have HS5:=zD (show Reads w5 w5.heap.size 1 A5 nv (zAM (V.take nv)) by
    have:=HR5.out.take16 (k:=nv) (by rw[HVL.out];omega);rw[List.length_take,HVL.out,Nat.min_eq_left (Nat.le_succ nv)]at this;exact this)
   have hnc:(nv:Int)≤(c5:Int):=by omega
   go_wp2_with fail
   go_loopw [6,7] (fun v i wr=>∃k:Nat,k≤m∧i=.int .i64 (k:Int)∧Hid (Made w5 wr 24 v (zAM (List.replicate k 40)))) (fun _ i _=>m - (intOf i).toNat)
   case atStart=>exact⟨0,yAF _,rfl,M0.out⟩
   case round=>
    obtain⟨k,hk,rfl,hmk⟩:=hrel
    by_cases hlt:k < m
    · have h1:(k:Int) < (m:Int):=by omega
      have h2:decide ((k:Int) < (m:Int))=true:=decide_eq_true h1;go_wp2_with (at_builtin;refine zEH rfl _ _ 22 rfl 24 i0 _ 2 underlying22 hi0 hz0 hz1 hz2 rfl u6 (zAM (List.replicate k 40)) rfl hmk.out [.int .u16 40] 1 1 rfl rfl rfl (by rw[zCH,List.length_replicate];omega) (by omega) ?_;intro v7 w7 hm7;have H7:=zD (show Made w5 w7 24 v7 (zAM (List.replicate (k+1) 40))from hm7.cells (zVO 40 k));clear hm7)
      go_roundw
      case rel=>exact⟨k+1,by omega,by go_num,H7.out⟩
      case measure=>simp[intOf];omega
    · obtain rfl:k=m:=by omega
      have h2:decide ((k:Int) < (k:Int))=false:=yAJ (by omega);have HSr:=zD (HS5.out.below hmk.out.below);clear HS5;go_upto_region 12 with(at_builtin;refine zKJ rfl _ _ 22 rfl 24 i0 _ 2 underlying22 hi0 hz0 hz1 hz2 rfl u6 (zAM (List.replicate k 40)) rfl hmk.out w5.heap.size A5 nv _ (zAM (V.take nv)) rfl HSr.out (zOk _) (by rw[zCH,List.length_replicate];omega) (by omega) ?_;intro v9 w9 hm9;have H9:=zD hm9;clear hm9);obtain⟨PRE,hPRE⟩:∃P,zAM (List.replicate k 40)++zAM (V.take nv)=P:=⟨_,rfl⟩;have hpl:PRE.length≤1100:=by
       rw[←hPRE,List.length_append,zCH,zCH,List.length_replicate,List.length_take];omega
      have HXE2:=zD (show PRE++zAM (List.replicate k 41)++[Value.int .u16 59]=zAM X by rw[←hPRE];exact HXE.out);rw[hPRE]at H9;clear hPRE HXE HSr hmk h2 hlt;go_wp2_with fail
      go_loopw [6,8] (fun v i wq=>∃j:Nat,j≤k∧i=.int .i64 (j:Int)∧Hid (Made w5 wq 24 v (PRE++zAM (List.replicate j 41)))) (fun _ i _=>k - (intOf i).toNat)
      case atStart=>exact⟨0,yAF _,rfl,by have:=H9.out;simpa [Hid,zAM]using this⟩
      case round=>
       obtain⟨j,hj,rfl,hmj⟩:=hrel
       by_cases hlt:j < k
       · have h1:(j:Int) < (k:Int):=by omega
         have h2:decide ((j:Int) < (k:Int))=true:=decide_eq_true h1;go_wp2_with (at_builtin;refine zEH rfl _ _ 22 rfl 24 i0 _ 2 underlying22 hi0 hz0 hz1 hz2 rfl u6 (PRE++zAM (List.replicate j 41)) rfl hmj.out [.int .u16 41] 1 1 rfl rfl rfl (by rw[List.length_append,zCH,List.length_replicate];omega) (by omega) ?_;intro v7 w7 hm7;have H7:=zD (show Made w5 w7 24 v7 (PRE++zAM (List.replicate (j+1) 41))from hm7.cells (by rw[List.append_assoc];exact congrArg (PRE++·) (zVO 41 j)));clear hm7)
         go_roundw
         case rel=>exact⟨j+1,by omega,by go_num,H7.out⟩
         case measure=>simp[intOf];omega
       · obtain rfl:j=k:=by omega
         have h2:decide ((j:Int) < (j:Int))=false:=yAJ (by omega);go_upto_region 17 with(at_builtin;refine zEH rfl _ _ 22 rfl 24 i0 _ 2 underlying22 hi0 hz0 hz1 hz2 rfl u6 (PRE++zAM (List.replicate j 41)) rfl hmj.out [.int .u16 59] 1 1 rfl rfl rfl (by rw[List.length_append,zCH,List.length_replicate];omega) (by omega) ?_;intro v7 w7 hm7;have H7:=zD (show Made w5 w7 24 v7 (zAM X)from hm7.cells HXE2.out);clear hm7);obtain⟨AX,cX,rfl,hlX,hxX,hrX⟩:=H7.out.u16;obtain⟨nx,hnx⟩:∃N,X.length=N:=⟨_,rfl⟩;rw[hnx]at hlX hrX⊢;have HNX:=zD hnx;have HB7:=zD (zAn HB5.out H7.out.below);have HRX:=zD hrX;have HRV:=zD (HR5.out.below H7.out.below);have hs57:w5.heap.size≤w7.heap.size:=H7.out.below.size;clear hnx hrX HR5 H7 hmj HXE2 H9 HB5 h2;go_wp2_with fail;refine(zE0 (w:=w7) (B:=w5.heap.size) hs57 HVL.out HRV.out hl5 hx5 (HT.out.below HT.out.lt HB7.out) HQ1.out HNA.out).mono ?_;rintro e w8 ⟨A8,c8,rfl,hN8,hc8,hm8,hb8⟩;obtain⟨W8,hW8⟩:∃W8,w8.alloc (.cells #[.slice A8 na c8] 27)=W8:=⟨_,rfl⟩;have hg8:Below w8.heap.size w8 W8:=by rw[←hW8];exact(Below.refl _ _).alloc (yAD _) _
         obtain⟨T,hTt⟩:∃T,w8.heap.size=T:=⟨_,rfl⟩;have HBT:=zD (show Bx W8 T 27 [.slice A8 na c8] by rw[←hW8,←hTt];exact Bx.new w8 _ _);have hb78:Below w7.heap.size w7 W8:=zAn hb8 hg8;have HB8:=zD (zAn HB7.out hb78);have HRX8:=zD (HRX.out.below hb78);have hs78:w7.heap.size≤W8.heap.size:=hb78.size;have HN8:=zD ((hN8.below hg8).more hg8.size);have HTlt:=zD (show T < W8.heap.size from HBT.out.lt);clear hb8 hN8 hg8 hb78 HB7 HRX HRV;go_upto_region 18 with(fail);clear hW8 hTt;go_wp2_with fail;refine(zE0 (w:=W8) (B:=w7.heap.size) hs78 HNX.out HRX8.out hlX hxX (HT.out.below HT.out.lt HB8.out) HQ2.out HNB.out).mono ?_;rintro e w9' ⟨A9,c9,rfl,hN9,hc9,hm9,hb9⟩;obtain⟨W9,hW9⟩:∃W9,w9'.alloc (.cells #[.slice A9 nb c9] 27)=W9:=⟨_,rfl⟩;have hg9:Below w9'.heap.size w9' W9:=by rw[←hW9];exact(Below.refl _ _).alloc (yAD _) _
         obtain⟨T9,hTt9⟩:∃T,w9'.heap.size=T:=⟨_,rfl⟩;have HBT9:=zD (show Bx W9 T9 27 [.slice A9 nb c9] by rw[←hW9,←hTt9];exact Bx.new w9' _ _);have hb89:Below W8.heap.size W8 W9:=zAn hb9 hg9;have HB9:=zD (zAn HB8.out hb89);have HNA9:=zD ((HN8.out.below hb89).more hb89.size);have HNB9:=zD ((hN9.below hg9).more hg9.size);have hzA:W9.cell? ⟨T,0,none⟩=some (.slice A8 na c8):=(hb89.cell (p:=⟨T,0,none⟩) HTlt.out).trans (HBT.out.cell 0);have hzC:W9.cell? ⟨T9,0,none⟩=some (.slice A9 nb c9):=HBT9.out.cell 0;have hd1:T < W9.heap.size:=yAA HTlt.out hb89.size;have hd3:T9 < W9.heap.size:=HBT9.out.lt;have HZA:=zD hzA;have HZC:=zD hzC;clear hzA hzC hN9 hb9 hg9 hb89 HBT HBT9 HN8 HTlt HB8 HRX8 hc8 hm8 hc9 hm9;go_upto_region 19 with(fail);clear hW9 hTt9;have hzA:=HZA.out
         by_cases h1:e1=0
         rotate_left
         · have eE1:((e1:Int) !=0)=true:=by rw[bne_iff_ne];omega
           go_wp2_with fail;refine(CF.out W9 HB9.out).mono ?_;rintro e w10 ⟨rfl,hb10⟩;have HB10:=zD hb10;clear hb10;go_wp2_with fail;go_ret;exact⟨rfl,zAn HB9.out HB10.out⟩
         have hpos:=HPOS.out h1;have HM2:=zD (HM.out h1);subst h1;have e00:(((0:Nat):Int) !=0)=false:=rfl;have CK:=zD (zVq (c:=c8) HNA9.out (yAD _) hpos HKK.out (by omega));clear hpos HM HPOS;go_wp2_with fail;refine CK.out.mono ?_;rintro e w10 ⟨AK,cK,rfl,hb10⟩;have HB10:=zD (zAn HB9.out hb10);have hd110:T < w10.heap.size:=yAA hd1 hb10.size;have hd310:T9 < w10.heap.size:=yAA hd3 hb10.size;have hzA10:w10.cell? ⟨T,0,none⟩=some (.slice A8 na c8):=(hb10.cell (p:=⟨T,0,none⟩) hd1).trans hzA;have hzC10:w10.cell? ⟨T9,0,none⟩=some (.slice A9 nb c9):=(hb10.cell (p:=⟨T9,0,none⟩) hd3).trans HZC.out;have HZA10:=zD hzA10;have HZC10:=zD hzC10;have HNA10:=zD ((HNA9.out.below hb10).more hb10.size);have HNB10:=zD ((HNB9.out.below hb10).more hb10.size);clear hzA hb10 HNA9 HNB9 HZA HZC hzA10 hzC10 CK
         by_cases hk1:kk=1
         rotate_left
         · have eK:((kk:Int) !=1)=true:=by rw[bne_iff_ne];omega
           clear hk1;go_wp2_with fail;refine(CF.out w10 HB10.out).mono ?_;rintro e w11 ⟨rfl,hb11⟩;have HB11:=zD hb11;clear hb11;go_wp2_with fail;go_ret;exact⟨rfl,zAn HB10.out HB11.out⟩
         obtain⟨he2,htb⟩:=HM2.out hk1;subst hk1 he2;have e11:(((1:Nat):Int) !=1)=false:=rfl;obtain rfl:na=nb:=by rw[←HNA.out,←HNB.out,htb]
         rw[htb]at HNB10;clear htb HM2;go_wp2_with fail;refine(CF.out w10 HB10.out).mono ?_;rintro e w11 ⟨rfl,hb11⟩;have HB11:=zD (zAn HB10.out hb11);have hzA11:w11.cell? ⟨T,0,none⟩=some (.slice A8 na c8):=(hb11.cell (p:=⟨T,0,none⟩) hd110).trans HZA10.out;have hzC11:w11.cell? ⟨T9,0,none⟩=some (.slice A9 na c9):=(hb11.cell (p:=⟨T9,0,none⟩) hd310).trans HZC10.out;have CS:=zD (zVx (c:=c8) (c2:=c9) (w:=w11) ((HNA10.out.below hb11).more hb11.size) ((HNB10.out.below hb11).more hb11.size) (yAD _) hln);clear hb11;go_wp2_with fail;refine CS.out.mono ?_;rintro e w12 ⟨rfl,hb12⟩;have HB12:=zD hb12;clear hb12;go_wp2_with fail;go_ret;exact⟨rfl,zAn HB11.out HB12.out⟩
end Go.Proofs.YtlohaclgbfhijaaGreatDoor
