/- Joined for the claim ParseLines: the parser, the lexer and the trees as they are walked, made short by a program of mine. -/
import Derived.Test.YtlohaclgbfhijaaGreatDoorXL01
import Derived.Test.YtlohaclgbfhijaaGreatDoorS01
import Derived.Test.YtlohaclgbfhijaaGreatDoorS02
import Derived.Test.YtlohaclgbfhijaaGreatDoorS03
import Derived.Test.YtlohaclgbfhijaaGreatDoorS04
import Derived.Test.YtlohaclgbfhijaaGreatDoorS05
import Derived.Test.YtlohaclgbfhijaaGreatDoorS06
import Derived.Test.YtlohaclgbfhijaaGreatDoorS07
import Derived.Test.YtlohaclgbfhijaaGreatDoorS08
import Derived.Test.YtlohaclgbfhijaaGreatDoorS09
import Derived.Test.YtlohaclgbfhijaaGreatDoorS10
import Derived.Test.YtlohaclgbfhijaaGreatDoorS11
import Derived.Test.YtlohaclgbfhijaaGreatDoorS12
import Derived.Test.YtlohaclgbfhijaaGreatDoorS13
import Derived.Test.YtlohaclgbfhijaaGreatDoorS14
import Derived.Test.YtlohaclgbfhijaaGreatDoorS15
import Derived.Test.YtlohaclgbfhijaaGreatDoorS16
import Derived.Test.YtlohaclgbfhijaaGreatDoorS17
import Derived.Test.YtlohaclgbfhijaaGreatDoorS18
import Derived.Test.YtlohaclgbfhijaaGreatDoorS19
import Derived.Test.YtlohaclgbfhijaaGreatDoorS20
import Derived.Test.YtlohaclgbfhijaaGreatDoorS21
import Derived.Test.YtlohaclgbfhijaaGreatDoorS22
import Derived.Test.YtlohaclgbfhijaaGreatDoorS23
import Derived.Test.YtlohaclgbfhijaaGreatDoorS24
import Derived.Test.YtlohaclgbfhijaaGreatDoorS25
set_option maxHeartbeats 16000000
set_option maxRecDepth 1000000
namespace Go.Proofs.YtlohaclgbfhijaaGreatDoor
open Go.Proofs.Tryz
open Go.RowKit
theorem zVL (A:Option Addr) (c:Nat) (u:List UInt16) (hc:u.length≤c) (hm:c≤maxLen) (w:World) (hr:Reads w w.heap.size 1 A u.length (zAM u)) (hT:Tab w):
 Calls prog 5 #[.slice A u.length c] w fun e w'=>e=.returned (.bool true)∧Below w.heap.size w w':=by
 have HT:=zD hT;have CF:=zD (fun(x:World) (hb:Below w.heap.size w x)=>zLj (HT.out.below HT.out.lt hb));obtain⟨N,hN⟩:∃N,u.length=N:=⟨_,rfl⟩;rw[hN]at hr hc⊢;have HR:=zD hr;have HNU:=zD hN;clear hT hr hN;go_enter func5,ntmps5;go_wp2_with fail;refine(CF.out w (Below.refl _ _)).mono ?_;rintro e w1 ⟨rfl,hb1⟩;have HB1:=zD hb1;have HR1:=zD (HR.out.below hb1);have hs1:w.heap.size≤w1.heap.size:=hb1.size;clear hb1 HR;go_upto_region 3 with(fail)
 go_cut [32] (fun v wx=>∃q:Bool,v=.bool q∧w1=wx∧Hid (q=false→∃v,u=v++[59]∧u.length≤4000))
 case first=>
  by_cases hlong:4000 < N
  · have h2:(4000:Int) < (N:Int):=by omega
    go_wp2_with fail;go_meet;exact⟨true,rfl,rfl,fun h=>by cases h⟩
  have h3u:decide ((4000:Int) < (N:Int))=false:=yAJ (by omega);have h4u:¬(4000:Int) < (N:Int):=by omega
  by_cases h0:N=0
  · subst h0;go_wp2_with fail;go_meet;exact⟨true,rfl,rfl,fun h=>by cases h⟩
  obtain⟨n,rfl⟩:∃n,N=n+1:=⟨N - 1,by omega⟩;have e0:((n:Int)+1==0)=false:=yA.2 (by omega);have hn:=HNU.out;obtain⟨blk,off,rfl,_,hcell⟩:=(show Reads w1 w.heap.size 1 A u.length (zAM u) by rw[hn];exact HR1.out).spotL (show 0 < u.length by omega);have hca:=hcell n (by omega);have hun:u=u.take n++[u[n]]:=by rw[←yAM (by omega:n < u.length),←hn,List.take_length]
  obtain⟨x,hx⟩:∃x,u[n]=x:=⟨_,rfl⟩;rw[hx]at hca hun;have HUN:=zD hun;have HLE:=zD (show u.length≤4000 by omega);have hn9:n < 4000:=by omega
  clear hcell hx hun hn h0 HR1 hlong HNU
  by_cases h59:x=59
  · have e59:((x.toNat:Int) !=59)=false:=by rw[h59];rfl
    have H59:=zD h59;clear h59;go_wp2_with fail;go_meet;exact⟨false,by rw[yAJ (show¬(4000:Int) < (n:Int)+1 by omega)],rfl,fun _=>⟨_,by rw[←H59.out];exact HUN.out,HLE.out⟩⟩
  · have e59:((x.toNat:Int) !=59)=true:=by
     rw[bne_iff_ne];intro h;exact h59 (UInt16.toNat_inj.1 (show x.toNat=59 by omega))
    clear h59;go_wp2_with fail;go_meet;exact⟨true,rfl,rfl,fun h=>by cases h⟩
 case rest=>
  obtain⟨q,hv,hwx,hq⟩:=hcut;subst hv hwx;cases q with
  | true=>
   clear hq;go_wp2_with fail;refine(CF.out w1 HB1.out).mono ?_;rintro e w2 ⟨rfl,hb2⟩;have HB2:=zD hb2;clear hb2;go_wp2_with fail;go_ret;exact⟨rfl,zAn HB1.out HB2.out⟩
  | false=>
   obtain⟨v,rfl,hl⟩:=hq.out rfl;have hun:(v++[59]).length=v.length+1:=by simp
   have hNv:=HNU.out;obtain⟨⟨ta,p1,e1⟩,hq1⟩:∃q,zAg (v++[59])=q:=⟨_,rfl⟩;obtain⟨⟨tb,p2,e2⟩,hq2⟩:∃q,zAg v=q:=⟨_,rfl⟩;obtain⟨⟨L,la,le⟩,hqL⟩:∃q,zCk (v++[59])=q:=⟨_,rfl⟩;have hln:=zGN (v++[59]);have hln2:=zGN v;rw[hq1]at hln;rw[hq2]at hln2;have hcnt:L.length≤4097:=by
    have h1:=zHy (u:=v++[59]) (by omega);rw[hqL]at h1;exact yAE h1 (by omega)
   have hE:e1=0→le=0:=by
    intro h1;rw[h1]at hq1;obtain⟨L',g1,g2,_⟩:=zJt hq1;rw[hqL]at g1;simp only[Prod.mk.injEq]at g1;exact g1.2.2
   have hM:e1=0→e2=0→2≤L.length→∀t,L[L.length - 2]? =some t→t.pos=v.length→ta=tb∨ta.length=tb.length+1∧(atN ta (ta.length - 1:Nat)).kind=2:=by
    intro h1 h2 h3 t ht hp;have h4:=hE h1;rw[h1]at hq1;rw[h2]at hq2;rw[h4]at hqL;have h5:la=0:=by
     rw[zBU (by omega)]at hqL;have h6:(zBh 0 (v++[59])).2.1=0:=zFO _ _ _ (show(zBh 0 (v++[59])).2.2=0 by rw[hqL]);rw[hqL]at h6;exact h6
    rw[h5]at hqL;exact zVe (by omega) hq1 hq2 hqL h3 ht hp
   obtain⟨na,hna⟩:∃N,ta.length=N:=⟨_,rfl⟩;obtain⟨nb,hnb⟩:∃N,tb.length=N:=⟨_,rfl⟩;obtain⟨nl,hnl⟩:∃N,L.length=N:=⟨_,rfl⟩;obtain⟨n,hn⟩:∃N,v.length=N:=⟨_,rfl⟩;obtain⟨U,hU⟩:∃U,v++[59]=U:=⟨_,rfl⟩;simp only at hln hln2;rw[hna]at hln;rw[hnb]at hln2;rw[hnl]at hcnt;rw[hna,hnb,hnl,hn]at hM;rw[hn]at hun;rw[hun]at hNv hl;subst hNv;have HRV:=zD (show Reads w1 w.heap.size 1 A n (zAM v) by
    have:=HR1.out.take16 (k:=n) (by rw[List.length_append,List.length_singleton];omega);rw[←hn,List.take_left]at this;rw[←hn];exact this)
   rw[hU]at hq1 hqL HR1;have HUN:=zD (show U.length=n+1 by rw[←hU,hun]);have HE:=zD hE;have HM:=zD hM;have HQ1:=zD hq1;have HQ2:=zD hq2;have HQL:=zD hqL;have HNA:=zD hna;have HNB:=zD hnb;have HNL:=zD hnl;have HN:=zD hn;clear hE hM hq1 hq2 hqL hna hnb hnl hn hun hU hq HNU;go_wp2_with fail;refine(zE0 (w:=w1) (B:=w.heap.size) hs1 (by rw[HUN.out]) HR1.out hc hm (HT.out.below HT.out.lt HB1.out) HQ1.out HNA.out).mono ?_;rintro e w2 ⟨A2,c2,rfl,hN2,hc2,hm2,hb2⟩;have HB2:=zD (zAn HB1.out hb2);have HR2:=zD (HR1.out.below (hb2.mono hs1));have HV2:=zD (HRV.out.below (hb2.mono hs1));obtain⟨W2,hW2⟩:∃W2,w2.alloc (.cells #[.slice A2 na c2] 27)=W2:=⟨_,rfl⟩;have hg2:Below w2.heap.size w2 W2:=by rw[←hW2];exact(Below.refl _ _).alloc (yAD _) _
   obtain⟨T,hTt⟩:∃T,w2.heap.size=T:=⟨_,rfl⟩;have HBT:=zD (show Bx W2 T 27 [.slice A2 na c2] by rw[←hW2,←hTt];exact Bx.new w2 _ _);have HBW2:=zD (zAn HB2.out hg2);have HRW2:=zD (HR2.out.below (hg2.mono HB2.out.size));have HVW2:=zD (HV2.out.below (hg2.mono HB2.out.size));have HN2:=zD ((hN2.below hg2).more hg2.size);have hsW2:w.heap.size≤W2.heap.size:=HBW2.out.size;have HTlt:=zD (show T < W2.heap.size from HBT.out.lt);clear hb2 hN2 HR1 HRV hg2 HB2 HR2 HV2;go_upto_region 6 with(fail);clear hW2 hTt;go_wp2_with fail;refine(zVr (w:=W2) (B:=w.heap.size) hsW2 (by rw[HUN.out]) HRW2.out hc hm HQL.out HNL.out).mono ?_;rintro e w3 ⟨A3,c3,rfl,hL3,hc3,hm3,hb3⟩;have HB3:=zD (zAn HBW2.out hb3);have HV3:=zD (HVW2.out.below (hb3.mono hsW2));have HN3:=zD ((HN2.out.below hb3).more hb3.size);have HL3:=zD hL3;have hs3:w.heap.size≤w3.heap.size:=HB3.out.size;have HZT:=zD ((hb3.cell (p:=⟨T,0,none⟩) HTlt.out).trans (HBT.out.cell 0));have HTl3:=zD (show T < w3.heap.size from yAA HTlt.out hb3.size);have hcn:(n:Int)≤(c:Int):=by omega
   clear hb3 hL3 HBT HTlt HN2 HRW2 HVW2 HBW2;go_upto_region 7 with(fail);go_wp2_with fail;refine(zE0 (w:=w3) (B:=w.heap.size) hs3 HN.out HV3.out (by omega) hm (HT.out.below HT.out.lt HB3.out) HQ2.out HNB.out).mono ?_;rintro e w4 ⟨A4,c4,rfl,hN4,hc4,hm4,hb4⟩;obtain⟨W4,hW4⟩:∃W4,w4.alloc (.cells #[.slice A4 nb c4] 27)=W4:=⟨_,rfl⟩;have hg4:Below w4.heap.size w4 W4:=by rw[←hW4];exact(Below.refl _ _).alloc (yAD _) _
   obtain⟨T4,hTt4⟩:∃T,w4.heap.size=T:=⟨_,rfl⟩;have HBT4:=zD (show Bx W4 T4 27 [.slice A4 nb c4] by rw[←hW4,←hTt4];exact Bx.new w4 _ _);have hb34:Below w3.heap.size w3 W4:=zAn hb4 hg4;have HBW4:=zD (zAn HB3.out hb34);have HNA4:=zD ((HN3.out.below hb34).more hb34.size);have HNB4:=zD ((hN4.below hg4).more hg4.size);have HL4:=zD (HL3.out.below hb34);have hzA:W4.cell? ⟨T,0,none⟩=some (.slice A2 na c2):=(hb34.cell (p:=⟨T,0,none⟩) HTl3.out).trans HZT.out;have hzC:W4.cell? ⟨T4,0,none⟩=some (.slice A4 nb c4):=HBT4.out.cell 0;have hd1:T < W4.heap.size:=yAA HTl3.out hb34.size;have hd3:T4 < W4.heap.size:=HBT4.out.lt;have HZA:=zD hzA;have HZC:=zD hzC;clear hzA hzC hN4 hb4 hg4 hb34 HBT4 HN3 HZT HTl3 HB3 HV3 HL3;go_upto_region 8 with(fail);clear hW4 hTt4
   go_cut [93] (fun v wx=>∃q:Bool,v=.bool q∧W4=wx∧Hid (q=false→e1=0∧e2=0∧(ta=tb∨na=nb+1∧(atN ta (na - 1:Nat)).kind=2)))
   case first=>
    by_cases h1:e1=0
    rotate_left
    · have eE1:((e1:Int) !=0)=true:=by rw[bne_iff_ne];omega
      go_wp2_with fail;go_meet;exact⟨true,rfl,rfl,fun h=>by cases h⟩
    have hle:=HE.out h1;subst h1 hle;have e00:(((0:Nat):Int) !=0)=false:=rfl
    by_cases h2:nl < 2
    · have d2:decide ((nl:Int) < 2)=true:=decide_eq_true (by omega);have d2':(nl:Int) < 2:=by omega
      go_wp2_with fail;go_meet;exact⟨true,by first | rfl | simp,rfl,fun h=>by cases h⟩
    obtain⟨m,rfl⟩:∃m,nl=m+2:=⟨nl - 2,by omega⟩;have d2:decide ((m:Int)+2 < 2)=false:=yAJ (by omega);obtain⟨g3,rfl,hg3a,hg3b,hat⟩:=HL4.out.at_ (by rw[HNL.out];omega);have hml:m < L.length:=by rw[HNL.out];omega
    obtain⟨As,Am,d1,d3,hTA⟩:=hat m hml;obtain⟨t,ht⟩:∃t,L[m]=t:=⟨_,rfl⟩;have k1:=hTA.k1;have k7:=hTA.k7;rw[ht]at k1 k7;have HLM:=zD (show L[m]? =some t by rw[yAC hml,ht]);obtain⟨P,hP⟩:∃P,t.pos=P:=⟨_,rfl⟩;obtain⟨sv,hsv⟩:∃s:ByteArray,(⟨t.text.toArray⟩:ByteArray)=s:=⟨_,rfl⟩;rw[hsv]at k1;rw[hP]at k7;have HP:=zD hP;have hm4:m < 4097:=by omega
    clear hat hTA ht hP hsv hml h2
    by_cases hs:sv.toList=[59]
    · have es:(sv.toList !=[59])=false:=by rw[hs];rfl
      have es2:(sv.toList==[59])=true:=by rw[hs];rfl
      clear hs
      by_cases hp:P=n
      · subst hp;have ep:((P:Int) !=(P:Int))=false:=by simp
        by_cases h4:e2=0
        · subst h4;have HF:=zD (HM.out rfl rfl (by omega) t (by rw[Nat.add_sub_cancel];exact HLM.out) HP.out);go_wp2_with fail;go_meet;exact⟨false,by first | rfl | simp,rfl,fun _=>⟨by simp,by simp,HF.out⟩⟩
        · have e4:((e2:Int) !=0)=true:=by rw[bne_iff_ne];omega
          go_wp2_with fail;go_meet;exact⟨true,by first | rfl | simp,rfl,fun h=>by cases h⟩
      · have ep:((P:Int) !=(n:Int))=true:=by rw[bne_iff_ne];omega
        go_wp2_with fail;go_meet;exact⟨true,by first | rfl | simp,rfl,fun h=>by cases h⟩
    · have es:(sv.toList !=[59])=true:=by rw[bne_iff_ne];exact hs
      have es2:(sv.toList==[59])=false:=by rw[yA];exact hs
      clear hs;go_wp2_with fail;go_meet;exact⟨true,by first | rfl | simp,rfl,fun h=>by cases h⟩
   case rest=>
    obtain⟨q,hv,hwx,hq⟩:=hcut;subst hv hwx;cases q with
    | true=>
     clear hq;go_wp2_with fail;refine(CF.out W4 HBW4.out).mono ?_;rintro e w5 ⟨rfl,hb5⟩;have HB5:=zD hb5;clear hb5;go_wp2_with fail;go_ret;exact⟨rfl,zAn HBW4.out HB5.out⟩
    | false=>
     obtain⟨rfl,rfl,hor⟩:=hq.out rfl;have HOR:=zD hor;clear hq hor HE HM HL4;have hzA:=HZA.out;have hzC:=HZC.out;go_upto_region 10 with(fail)
     go_quiet (fail)
     obtain⟨w5,hw5⟩:∃w5,W4.drewN nq=w5:=⟨_,rfl⟩;rw[hw5];have hb5:Below W4.heap.size W4 w5:=by rw[←hw5];exact zAa (Below.refl _ _) _
     have HB5:=zD hb5;have HBW5:=zD (zAn HBW4.out hb5);have hd15:T < w5.heap.size:=yAA hd1 hb5.size;have hd35:T4 < w5.heap.size:=yAA hd3 hb5.size;have hzA5:w5.cell? ⟨T,0,none⟩=some (.slice A2 na c2):=(hb5.cell (p:=⟨T,0,none⟩) hd1).trans hzA;have hzC5:w5.cell? ⟨T4,0,none⟩=some (.slice A4 nb c4):=(hb5.cell (p:=⟨T4,0,none⟩) hd3).trans hzC;have HZA5:=zD hzA5;have HZC5:=zD hzC5;have HNA5:=zD ((HNA4.out.below hb5).more hb5.size);have HNB5:=zD ((HNB4.out.below hb5).more hb5.size);clear hw5 hb5 hzA hzC hzA5 hzC5 HZA HZC HNA4 HNB4 hd1 hd3 HBW4 HB5;go_upto_region 11 with(fail);go_wp2_with fail;refine(CF.out w5 HBW5.out).mono ?_;rintro e w6 ⟨rfl,hb6⟩;have HB6:=zD (zAn HBW5.out hb6);have hzA6:w6.cell? ⟨T,0,none⟩=some (.slice A2 na c2):=(hb6.cell (p:=⟨T,0,none⟩) hd15).trans HZA5.out;have hzC6:w6.cell? ⟨T4,0,none⟩=some (.slice A4 nb c4):=(hb6.cell (p:=⟨T4,0,none⟩) hd35).trans HZC5.out;have HZA6:=zD hzA6;have hd16:T < w6.heap.size:=yAA hd15 hb6.size;have HNA6:=zD ((HNA5.out.below hb6).more hb6.size);have HNB6:=zD ((HNB5.out.below hb6).more hb6.size);clear hb6 HZA5 HZC5 HNA5 HNB5 hd15 hd35 HBW5;rcases HOR.out with h | ⟨h,hk⟩
     · obtain rfl:na=nb:=by rw[←HNA.out,←HNB.out,h]
       have CS:=zD (zVq (c:=c2) (c2:=c4) (w:=w6) (ts:=ta) HNA6.out (by rw[h];exact HNB6.out) (yAD _) hln);clear h;go_wp2_with fail;refine CS.out.mono ?_;rintro e w7 ⟨rfl,hb7⟩;have HB7:=zD hb7;clear hb7;go_wp2_with fail;go_ret;exact⟨rfl,zAn HB6.out HB7.out⟩
     · subst h;have CS:=zD (zVz (A:=A2) (A2:=A4) (c:=c2) (c2:=c4) (w:=w6) (show nb+1≠nb by omega));obtain⟨b,o,x,s,rfl,hbB,hx,hC,_⟩:=HNA6.out.get (i:=nb) (by omega);have hk0:=hC.k0;have hxk:x.kind=2:=by
        have:atN ta (nb:Int)=x:=by unfold atN;rw[yAH,Int.toNat_natCast,hx];rfl
        rw[←this];rw[Nat.add_sub_cancel]at hk;exact hk
       rw[hxk]at hk0;have HK0:=zD hk0;have hee:((nb:Int)+1==(nb:Int)+1)=true:=by simp
       clear hk hx hC hk0 hxk;go_wp2_with fail;refine CS.out.mono ?_;rintro e w7 ⟨rfl,hb7⟩;have HB7:=zD hb7;have hzA7:w7.cell? ⟨T,0,none⟩=some (.slice (some ⟨b,o,none⟩) (nb+1) c2):=(hb7.cell (p:=⟨T,0,none⟩) hd16).trans HZA6.out;have hk7:w7.cell? ⟨b,o+nb*8,none⟩=some (.int .i64 2):=(hb7.cell (p:=⟨b,o+nb*8,none⟩) hbB).trans HK0.out;clear hb7;go_wp2_with fail;go_ret;exact⟨rfl,zAn HB6.out HB7.out⟩
end Go.Proofs.YtlohaclgbfhijaaGreatDoor
