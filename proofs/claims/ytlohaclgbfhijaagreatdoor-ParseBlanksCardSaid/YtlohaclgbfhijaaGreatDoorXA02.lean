/- Joined for the claim ParseBlanks: the parser, the lexer and the trees as they are walked, made short by a program of mine. -/
import Derived.Test.YtlohaclgbfhijaaGreatDoorXA01
import Derived.Test.YtlohaclgbfhijaaGreatDoorS01
import Derived.Test.YtlohaclgbfhijaaGreatDoorS02
import Derived.Test.YtlohaclgbfhijaaGreatDoorS03
import Derived.Test.YtlohaclgbfhijaaGreatDoorS04
import Derived.Test.YtlohaclgbfhijaaGreatDoorS05
import Derived.Test.YtlohaclgbfhijaaGreatDoorS06
import Derived.Test.YtlohaclgbfhijaaGreatDoorS07
import Derived.Test.YtlohaclgbfhijaaGreatDoorS08
import Derived.Test.YtlohaclgbfhijaaGreatDoorS09
import Derived.Test.YtlohaclgbfhijaaGreatDoorS10
import Derived.Test.YtlohaclgbfhijaaGreatDoorS11
import Derived.Test.YtlohaclgbfhijaaGreatDoorS12
import Derived.Test.YtlohaclgbfhijaaGreatDoorS13
import Derived.Test.YtlohaclgbfhijaaGreatDoorS14
import Derived.Test.YtlohaclgbfhijaaGreatDoorS15
import Derived.Test.YtlohaclgbfhijaaGreatDoorS16
import Derived.Test.YtlohaclgbfhijaaGreatDoorS17
import Derived.Test.YtlohaclgbfhijaaGreatDoorS18
import Derived.Test.YtlohaclgbfhijaaGreatDoorS19
import Derived.Test.YtlohaclgbfhijaaGreatDoorS20
import Derived.Test.YtlohaclgbfhijaaGreatDoorS21
import Derived.Test.YtlohaclgbfhijaaGreatDoorS22
import Derived.Test.YtlohaclgbfhijaaGreatDoorS23
import Derived.Test.YtlohaclgbfhijaaGreatDoorS24
import Derived.Test.YtlohaclgbfhijaaGreatDoorS25
set_option maxHeartbeats 16000000
set_option maxRecDepth 1000000
namespace Go.Proofs.YtlohaclgbfhijaaGreatDoor
open Go.Proofs.Tryz
open Go.RowKit
theorem zVM (A:Option Addr) (c:Nat) (u:List UInt16) (hc:u.length≤c) (hm:c≤maxLen) (p:Int) (_hp: -9223372036854775808≤p∧p≤9223372036854775807) (w:World) (hr:Reads w w.heap.size 1 A u.length (zAM u)) (hT:Tab w):
 Calls prog 4 #[.slice A u.length c,.int .i64 p] w fun e w'=>e=.returned (.bool true)∧Below w.heap.size w w':=by
 have HT:=zD hT;have CF:=zD (fun(x:World) (hb:Below w.heap.size w x)=>zLj (HT.out.below HT.out.lt hb));clear hT
 by_cases hlong:4000 < u.length
 · have h2:(4000:Int) < (u.length:Int):=by omega
   go_enter func4,ntmps4;go_wp2_with fail;refine(CF.out w (Below.refl _ _)).mono ?_;rintro e w1 ⟨rfl,hb1⟩;have HB1:=zD hb1;clear hb1;go_wp2_with fail;refine(CF.out w1 HB1.out).mono ?_;rintro e w2 ⟨rfl,hb2⟩;have HB2:=zD hb2;clear hb2;go_wp2_with fail;go_ret;exact⟨rfl,zAn HB1.out HB2.out⟩
 have hl:u.length≤4000:=by omega
 have h3u:decide ((4000:Int) < (u.length:Int))=false:=yAJ (by omega)
 by_cases hash:∃x r,u=x::r∧x.toNat=35
 · obtain⟨x,r,rfl,hx⟩:=hash;have h0l:0 < (x::r).length:=by simp
   obtain⟨blk,off,rfl,hblk,hcell⟩:=hr.spotL h0l;have hca:=hcell 0 h0l;simp only[List.getElem_cons_zero,Nat.add_zero]at hca;have e35:((x.toNat:Int)==35)=true:=by rw[hx];rfl
   have hlen:0 < (x::r).length:=by simp
   obtain⟨n,hn⟩:∃n,(x::r).length=n:=⟨_,rfl⟩;rw[hn]at hl hlen h3u⊢;clear hr hcell hx hlong hc hn;go_enter func4,ntmps4;go_wp2_with fail;refine(CF.out w (Below.refl _ _)).mono ?_;rintro e w1 ⟨rfl,hb1⟩;have hcb:w1.cell? ⟨blk,off,none⟩=some (.int .u16 (x.toNat:Int)):=(hb1.cell (p:=⟨blk,off,none⟩) hblk).trans hca;have HB1:=zD hb1;clear hb1;go_wp2_with fail;refine(CF.out w1 HB1.out).mono ?_;rintro e w2 ⟨rfl,hb2⟩;have HB2:=zD hb2;clear hb2;go_wp2_with fail;go_ret;exact⟨rfl,zAn HB1.out HB2.out⟩
 obtain⟨i0,hi0,hz0,hz1,hz2⟩:=info_parts Tryz.info_u16;have hno:∀x r,u=x::r→x.toNat≠35:=fun x r h h2=>hash ⟨x,r,h,h2⟩;obtain⟨⟨ta,p1,e1⟩,hq⟩:∃q,zAg u=q:=⟨_,rfl⟩;obtain⟨⟨L,la,le⟩,hqL⟩:∃q,zCk u=q:=⟨_,rfl⟩;have hln:=zGN u;rw[hq]at hln;have hcnt:L.length≤4097:=by
  have h1:=zHy (u:=u) (by omega);rw[hqL]at h1;exact yAE h1 (by omega)
 have hE:e1=0→le=0∧0 < L.length∧∀(j:Nat) (t:Tok),L[j]? =some t→t.pos≤u.length∧zAg (u.take t.pos++32::u.drop t.pos)=(ta,0,0):=by
  intro h1;rw[h1]at hq;obtain⟨L',g1,g2,_⟩:=zJt hq;rw[hqL]at g1;simp only[Prod.mk.injEq]at g1;obtain⟨rfl,rfl,rfl⟩:=g1;exact⟨rfl,g2.pos,fun j t ht=>zVg hno hl hq hqL ht⟩
 obtain⟨na,hna⟩:∃N,ta.length=N:=⟨_,rfl⟩;obtain⟨nl,hnl⟩:∃N,L.length=N:=⟨_,rfl⟩;simp only at hln;rw[hna]at hln;rw[hnl]at hE hcnt;have HCNT:=zD hcnt;have HE:=zD hE;have HQ:=zD hq;have HQL:=zD hqL;have HNA:=zD hna;have HNL:=zD hnl;have HR:=zD hr;have hx0:∀(h:0 < u.length),((u[0].toNat:Int)==35)=false:=fun h=>yA.2 (by
  have:=hno u[0] (u.drop 1) (by rw[←yAI h];rfl);omega)
 have HX0:=zD hx0;clear hcnt hlong hash hno hq hqL hE hna hnl hr hx0;go_enter func4,ntmps4;go_wp2_with fail;refine(CF.out w (Below.refl _ _)).mono ?_;rintro e w1 ⟨rfl,hb1⟩;have HB1:=zD hb1;have HR1:=zD (HR.out.below hb1);have hs1:w.heap.size≤w1.heap.size:=hb1.size;clear hb1 HR;go_upto_region 3 with(fail)
 go_cut [31] (fun v wx=>v=.bool false∧w1=wx)
 case first=>
  by_cases h0:0 < u.length
  · obtain⟨blk,off,rfl,_,hcell⟩:=HR1.out.spotL h0;have hca:=hcell 0 h0;simp only[Nat.add_zero]at hca;have e35:=HX0.out h0;obtain⟨x,hx⟩:∃x,u[0]=x:=⟨_,rfl⟩;rw[hx]at hca e35;clear hcell hx;go_wp2_with fail;go_meet;exact⟨by first | rfl | (simp only[h3u];rfl),rfl⟩
  · have hz:u.length=0:=by omega
    have HZ:=zD hz;clear hz;go_wp2_with fail;go_meet;exact⟨by first | rfl | (simp only[h3u];rfl),rfl⟩
 case rest=>
  obtain⟨hv,hwx⟩:=hcut;subst hv hwx;go_wp2_with fail;refine(zE0 (w:=w1) (B:=w.heap.size) hs1 rfl HR1.out hc hm (HT.out.below HT.out.lt HB1.out) HQ.out HNA.out).mono ?_;rintro e w2 ⟨A2,c2,rfl,hN2,hc2,hm2,hb2⟩;have HB2:=zD (zAn HB1.out hb2);have HR2:=zD (HR1.out.below (hb2.mono hs1));obtain⟨W2,hW2⟩:∃W2,w2.alloc (.cells #[.slice A2 na c2] 27)=W2:=⟨_,rfl⟩;have hg2:Below w2.heap.size w2 W2:=by rw[←hW2];exact(Below.refl _ _).alloc (yAD _) _
  obtain⟨T,hTt⟩:∃T,w2.heap.size=T:=⟨_,rfl⟩;have HBT:=zD (show Bx W2 T 27 [.slice A2 na c2] by rw[←hW2,←hTt];exact Bx.new w2 _ _);have HBW2:=zD (zAn HB2.out hg2);have HRW2:=zD (HR2.out.below (hg2.mono HB2.out.size));have HN2:=zD ((hN2.below hg2).more hg2.size);have hsW2:w.heap.size≤W2.heap.size:=HBW2.out.size;have HTlt:=zD (show T < W2.heap.size from HBT.out.lt);clear hb2 hN2 HR1 hg2 HB2 HR2;go_upto_region 6 with(fail);clear hW2 hTt;go_wp2_with fail;refine(zVy (w:=W2) (B:=w.heap.size) hsW2 rfl HRW2.out hc hm HQL.out HNL.out).mono ?_;rintro e w3 ⟨A3,c3,rfl,hL3,hc3,hm3,hb3⟩;have HB3:=zD (zAn HBW2.out hb3);have HR3:=zD (HRW2.out.below (hb3.mono hsW2));have HN3:=zD ((HN2.out.below hb3).more hb3.size);have HL3:=zD hL3;have hs3:w.heap.size≤w3.heap.size:=HB3.out.size;have zT:w3.cell? ⟨T,0,none⟩=some (.slice A2 na c2):=(hb3.cell (p:=⟨T,0,none⟩) HTlt.out).trans (HBT.out.cell 0);have HZT:=zD zT;have HTl3:=zD (show T < w3.heap.size from yAA HTlt.out hb3.size);clear hb3 hL3 zT HBT HTlt HN2 HRW2 HBW2;go_upto_region 7 with(fail)
  by_cases h1:e1=0
  rotate_left
  · have eE1:((e1:Int) !=0)=true:=by rw[bne_iff_ne];omega
    go_wp2_with fail;refine(CF.out w3 HB3.out).mono ?_;rintro e w8 ⟨rfl,hb8⟩;have HB8:=zD hb8;clear hb8;go_wp2_with fail;go_ret;exact⟨rfl,zAn HB3.out HB8.out⟩
  obtain⟨hle,hnl0,hall⟩:=HE.out h1;subst hle h1;have eE1:(((0:Nat):Int) !=0)=false:=rfl;have eN0:((nl:Int)==0)=false:=yA.2 (by omega);obtain⟨g3,rfl,hg3a,hg3b,hat⟩:=HL3.out.at_ (by rw[HNL.out];exact hnl0);obtain⟨k,hk,hke⟩:=zVi p nl hnl0;have hkl:k < L.length:=by rw[HNL.out];exact hk
  obtain⟨As,Am,d1,d2,hTA⟩:=hat k hkl;obtain⟨t,ht⟩:∃t,L[k]=t:=⟨_,rfl⟩;have k7:=hTA.k7;rw[ht]at k7;obtain⟨hp,hpar⟩:=hall k t (by rw[yAC hkl,ht]);obtain⟨P,hP⟩:∃P,t.pos=P:=⟨_,rfl⟩;rw[hP]at k7 hp hpar;have lz:¬(nl:Int)=0:=by omega
  have lb1: -(nl:Int) < p.tmod nl:=Int.lt_tmod_of_pos p (by omega);have lb2:p.tmod nl < nl:=Int.tmod_lt_of_pos p (by omega);have hnlm:nl≤4097:=HCNT.out;have hkw:(wrap64 (p.tmod nl+nl)).tmod nl=(k:Int):=by
   rw[show wrap64 (p.tmod nl+nl)=p.tmod nl+nl by unfold wrap64;omega];exact hke
  obtain⟨J,hJ⟩:∃J,u.take P++32::u.drop P=J:=⟨_,rfl⟩;rw[hJ]at hpar;have hJl:J.length=u.length+1:=by rw[←hJ,List.length_append,List.length_cons,List.length_take,List.length_drop];omega
  have HPAR:=zD hpar;have HJ:=zD hJ;have HKE:=zD hke;have hPu:(P:Int)≤(u.length:Int):=by omega
  have hPc:(P:Int)≤(c:Int):=by omega
  have huc:(u.length:Int)≤(c:Int):=by omega
  have h0P:(0:Int)≤(P:Int):=by omega
  have HRa:=zD (HR3.out.take16 (k:=P) (by omega));have HRb:=zD (HR3.out.cut16 (k:=P) (c:=c) (by omega) (by omega));have hlt1:(u.take P).length=P:=by rw[List.length_take];omega
  have hld1:(u.drop P).length=u.length - P:=List.length_drop;clear hat hTA hall hpar hJ HR3 ht hP HQL;go_upto_region 10 with(fail);rw[hlt1]at HRa;rw[hld1]at HRb;obtain⟨AB,hAB⟩:∃AB,(if c=P then A else A.map (·.add P))=AB:=⟨_,rfl⟩;rw[hAB]at HRb;have CC:=zD (fun(x:World) (hb:Below w3.heap.size w3 x)=>(show Calls prog 17 #[.slice A P c] x fun e w'=>∃v,e=.returned v∧Made x w' 24 v (zAM (u.take P)) by
   have:=zVN (A:=A) (c:=c) (xs:=u.take P) (w:=x) (B:=w.heap.size) (yAE hs3 hb.size) (by rw[hlt1];exact HRa.out.below (hb.mono hs3)) (by omega);rw[hlt1]at this;exact this))
  clear hke hkw k7 lz lb1 lb2 hnlm eN0 hk hkl hg3b HKE HRa hJl
  go_cut [12] (fun v wx=>∃A6 c6,v=.slice A6 J.length c6∧Hid (Reads wx wx.heap.size 1 A6 J.length (zAM J))∧Hid (J.length≤c6∧c6≤maxLen)∧Hid (Below w3.heap.size w3 wx))
  case first=>
   have BA:=zD ((Below.refl w3.heap.size w3).drew);have BB:=zD (show Below w3.heap.size w3 (w3.alloc (.cells #[.int .u16 32] 24)).drew from((Below.refl _ w3).alloc (yAD _) _).drew);have RL:=zD (Reads.of_own (Made.lit w3 24 [.int .u16 32] (by decide)).own);go_region_law (first | (go_simp;go_at_call 17;(with_reducible refine(CC.out w3.drew BA.out).mono ?_);rintro e4 w4 ⟨v4,rfl,hm4⟩;have HM4:=zD hm4;have B0:=BA;clear hm4) | (go_simp;go_at_call 17;(with_reducible refine(CC.out _ BB.out).mono ?_);rintro e4 w4 ⟨v4,rfl,hm4⟩;have HM4:=zD hm4;have B0:=BB;clear hm4) | (refine zVK rfl _ _ 22 rfl 24 i0 _ 2 underlying22 hi0 hz0 hz1 hz2 rfl v4 (zAM (u.take P)) rfl (HM4.out.alloc _) _ _ 1 1 [.int .u16 32] rfl (Reads.of_own (Made.lit w4 24 [.int .u16 32] (by decide)).own) (zOk [32]) (by rw[zCH];omega) (by omega) ?_;intro v5 w5 hm5;have H5:=zD hm5;clear hm5) | (refine zVK rfl _ _ 22 rfl 24 i0 _ 2 underlying22 hi0 hz0 hz1 hz2 rfl v4 (zAM (u.take P)) rfl HM4.out _ _ 1 1 [.int .u16 32] rfl (RL.out.drew.below HM4.out.below) (zOk [32]) (by rw[zCH];omega) (by omega) ?_;intro v5 w5 hm5;have H5:=zD hm5;clear hm5) | (refine zVK rfl _ _ 22 rfl 24 i0 _ 2 underlying22 hi0 hz0 hz1 hz2 rfl v5 (zAM (u.take P)++[.int .u16 32]) rfl H5.out w.heap.size _ _ _ (zAM (u.drop P)) rfl (HRb.out.below ((zAn B0.out H5.out.below).mono hs3)) (zOk _) (by rw[List.length_append,zCH,List.length_singleton];omega) (by omega) ?_;intro v6 w6 hm6;have H6:=zD (show Made _ w6 24 v6 (zAM J)from hm6.cells (by rw[←HJ.out];simp[zAM,zTl]));clear hm6))
   all_goals
    go_wp2_with fail;go_meet;obtain⟨A6,c6,rfl,hl6,hx6,hr6⟩:=H6.out.u16;exact⟨A6,c6,rfl,hr6,⟨hl6,hx6⟩,zAn B0.out H6.out.below⟩
  case rest=>
   obtain⟨A6,c6,rfl,HR6,HC6,HB6⟩:=hcut;obtain⟨V,rfl⟩:∃x,x=wc:=⟨_,rfl⟩;have HBV:=zD (zAn HB3.out HB6.out);have HN6:=zD ((HN3.out.below HB6.out).more HB6.out.size);have hzT6:=(HB6.out.cell (p:=⟨T,0,none⟩) HTl3.out).trans HZT.out;have HZ6:=zD hzT6;have HTl6:=zD (show T < V.heap.size from yAA HTl3.out HB6.out.size);clear hzT6 HB6 HN3 HZT HTl3 HB3 CC HRb HL3;go_wp2_with fail;refine(zE0 (w:=V) (yAD _) rfl HR6.out HC6.out.1 HC6.out.2 (HT.out.below HT.out.lt HBV.out) HPAR.out HNA.out).mono ?_;rintro e w7 ⟨A7,c7,rfl,hN7,hc7,hm7,hb7⟩;obtain⟨W7,hW7⟩:∃W7,w7.alloc (.cells #[.slice A7 na c7] 27)=W7:=⟨_,rfl⟩;have hg7:Below w7.heap.size w7 W7:=by rw[←hW7];exact(Below.refl _ _).alloc (yAD _) _
   obtain⟨T7,hTt7⟩:∃T,w7.heap.size=T:=⟨_,rfl⟩;have HBT7:=zD (show Bx W7 T7 27 [.slice A7 na c7] by rw[←hW7,←hTt7];exact Bx.new w7 _ _);have hb67:Below V.heap.size V W7:=zAn hb7 hg7;have HBW7:=zD (zAn HBV.out hb67);have HNA7:=zD ((HN6.out.below hb67).more hb67.size);have HNC7:=zD ((hN7.below hg7).more hg7.size);have hzA:W7.cell? ⟨T,0,none⟩=some (.slice A2 na c2):=(hb67.cell (p:=⟨T,0,none⟩) HTl6.out).trans HZ6.out;have hzC:W7.cell? ⟨T7,0,none⟩=some (.slice A7 na c7):=HBT7.out.cell 0;have hd1:T < W7.heap.size:=yAA HTl6.out hb67.size;have hd3:T7 < W7.heap.size:=HBT7.out.lt;have HZA:=zD hzA;have HZC:=zD hzC;clear hzA hzC hN7 hb7 hg7 hb67 HBT7 HN6 HZ6 HTl6 hc7 hm7 HBV HR6 HC6;go_upto_region 12 with(fail);clear hW7 hTt7;go_wp2_with fail;refine(CF.out W7 HBW7.out).mono ?_;rintro e w8 ⟨rfl,hb8⟩;have HB8:=zD (zAn HBW7.out hb8);have hzA8:w8.cell? ⟨T,0,none⟩=some (.slice A2 na c2):=(hb8.cell (p:=⟨T,0,none⟩) hd1).trans HZA.out;have hzC8:w8.cell? ⟨T7,0,none⟩=some (.slice A7 na c7):=(hb8.cell (p:=⟨T7,0,none⟩) hd3).trans HZC.out;have CS:=zD (zVw (c:=c7) (c2:=c2) (w:=w8) ((HNC7.out.below hb8).more hb8.size) ((HNA7.out.below hb8).more hb8.size) (yAD _) hln);clear hb8;go_wp2_with fail;refine CS.out.mono ?_;rintro e w9 ⟨rfl,hb9⟩;have HB9:=zD hb9;clear hb9;go_wp2_with fail;go_ret;exact⟨rfl,zAn HB8.out HB9.out⟩
end Go.Proofs.YtlohaclgbfhijaaGreatDoor
