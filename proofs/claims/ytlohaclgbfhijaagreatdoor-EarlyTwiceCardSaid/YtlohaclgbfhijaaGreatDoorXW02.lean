/- Joined for the claim EarlyTwice: the parser, the lexer and the trees as they are walked, made short by a program of mine. -/
import Derived.Test.YtlohaclgbfhijaaGreatDoorXW01
import Derived.Test.YtlohaclgbfhijaaGreatDoorE01
import Derived.Test.YtlohaclgbfhijaaGreatDoorE02
import Derived.Test.YtlohaclgbfhijaaGreatDoorE03
import Derived.Test.YtlohaclgbfhijaaGreatDoorE04
import Derived.Test.YtlohaclgbfhijaaGreatDoorE05
import Derived.Test.YtlohaclgbfhijaaGreatDoorE06
import Derived.Test.YtlohaclgbfhijaaGreatDoorE07
import Derived.Test.YtlohaclgbfhijaaGreatDoorE08
import Derived.Test.YtlohaclgbfhijaaGreatDoorE09
import Derived.Test.YtlohaclgbfhijaaGreatDoorE10
import Derived.Test.YtlohaclgbfhijaaGreatDoorE11
import Derived.Test.YtlohaclgbfhijaaGreatDoorE12
import Derived.Test.YtlohaclgbfhijaaGreatDoorE13
import Derived.Test.YtlohaclgbfhijaaGreatDoorE14
import Derived.Test.YtlohaclgbfhijaaGreatDoorE15
import Derived.Test.YtlohaclgbfhijaaGreatDoorE16
import Derived.Test.YtlohaclgbfhijaaGreatDoorE17
import Derived.Test.YtlohaclgbfhijaaGreatDoorE18
import Derived.Test.YtlohaclgbfhijaaGreatDoorE19
import Derived.Test.YtlohaclgbfhijaaGreatDoorE20
import Derived.Test.YtlohaclgbfhijaaGreatDoorE21
import Derived.Test.YtlohaclgbfhijaaGreatDoorE22
import Derived.Test.YtlohaclgbfhijaaGreatDoorE23
import Derived.Test.YtlohaclgbfhijaaGreatDoorE24
import Derived.Test.YtlohaclgbfhijaaGreatDoorE25
set_option maxHeartbeats 16000000
set_option maxRecDepth 1000000
namespace Go.Proofs.YtlohaclgbfhijaaGreatDoor
open Go.Proofs.Tryz
open Go.RowKit
theorem FewP.allE {ts:List Nd} (h:FewP ts):(zAI ts).length≤1000000:=by have:=h.all;omega
theorem zS8 {w:World} {B n:Nat} {b o:Nat} {l:List Int} (h:Reads w B 1 (some ⟨b,o,none⟩) n (zBC l)) {q:Nat} (hq:q < l.length) (hn:l.length=n):w.cell? ⟨b,o+q,none⟩=some (.int .i64 l[q]):=by
 obtain⟨b',o',e,_,hc⟩:=h.spotV (by omega);injection e with e;injection e with e1 e2 _;subst e1 e2;exact zDT (x:={zBg with kids:=l}) hc hq
theorem zR9 (A:Option Addr) (n c:Nat) (ts:List Nd) (hc:n≤c) (_hm:c≤maxLen) (w:World) (hN:NdsR w w.heap.size A n ts) (hT:Tab w∧Tabs w):
 Calls prog 11 #[.agg #[.slice A n c]] w fun e w'=>e=.returned (.bool true)∧Below w.heap.size w w':=by
 obtain⟨W,hW⟩:∃W,w.alloc (.cells #[.slice A n c] 27)=W:=⟨_,rfl⟩;have hbW:Below w.heap.size w W:=by rw[←hW];exact(Below.refl _ _).alloc (yAC _) _
 have hX1:w.heap.size < W.heap.size:=by rw[←hW];simp
 have x0:W.cell? ⟨w.heap.size,0,none⟩=some (.slice A n c):=by rw[←hW,World.cell?_alloc_at _ _ _ _ rfl];rfl
 obtain⟨X,hX⟩:∃X,w.heap.size=X:=⟨_,rfl⟩;have HBW:=zA hbW;have HNW:=zA ((hN.below hbW).more hbW.size);have HLN:=zA hN.1;have HTW:=zA (hT.1.below hT.1.lt hbW);have HT8:=zA (hT.2.grow hbW);have CF:=zA (fun(x:World) (hb:Below W.heap.size W x)=>zJ2 (HTW.out.below HTW.out.lt hb) (HT8.out.grow hb));have CW:=zA (fun(x:World) (hb:Below W.heap.size W x)=>zSw (c:=c) (HNW.out.below hb) hb.size);have CE:=zA (fun(x:World) (hb:Below W.heap.size W x) (hf:FewP ts)=>zKv (c:=c) (HNW.out.below hb) hb.size hc hf.allE);have CM:=zA (fun(x:World) (hb:Below W.heap.size W x) (hf:FewP ts) (q:Bool) (hq:zO3 ts=q)=>zKs (c:=c) (HNW.out.below hb) hb.size hc hf.allE hq);have CN:=zA (fun(x:World) (hb:Below W.heap.size W x) (hm:zO3 ts=true) (j:Nat) (hj:j < n)=>zS6 (c:=c) (HNW.out.below hb) hb.size hc hm hj);have CK:=zA (fun(x:World) (hb:Below W.heap.size W x) (j:Nat) (y:Nd) (hj:j < n) (hy:ts[j]? =some y) (hl:y.kids.length≤1000000)=>zSp (c:=c) (HNW.out.below hb) hb.size hj hy hl);go_enter func11,ntmps11;go_upto_region 1 with(fail);clear hN hbW hT hW;rw[hX]at x0 hX1;have HCX:=zA (fun(x:World) (hb:Below W.heap.size W x)=>(hb.cell (p:=⟨X,0,none⟩) hX1).trans x0);clear hX x0;go_wp2_with fail;refine(CF.out W (Below.refl _ _)).mono ?_;rintro e1 w1 ⟨rfl,hb1⟩;have HB1:=zA hb1;have y1:=HCX.out w1 hb1;clear hb1;go_wp2_with fail;refine(CW.out w1 HB1.out).mono ?_;rintro e2 w2 ⟨q,rfl,hf,hb2⟩;have HB2:=zA (zDh HB1.out hb2);have y2:=HCX.out w2 HB2.out;clear hb2 y1 HB1;cases q with
 | false=>
  clear hf;go_wp2_with fail;refine(CF.out w2 HB2.out).mono ?_;rintro e3 w3 ⟨rfl,hb3⟩;have HB3:=zA (zDh HB2.out hb3);clear hb3;go_wp2_with fail;go_ret;exact⟨rfl,HBW.out.trans (HB3.out.mono HBW.out.size)⟩
 | true=>
  have HF:=zA (hf rfl);clear hf;obtain⟨⟨ca,ce⟩,hch⟩:∃q,chN ts=q:=⟨_,rfl⟩;have CC:=zA (by have h:=CE.out w2 HB2.out HF.out;rw[hch]at h;exact h);have HCH:=zA hch;clear hch;go_wp2_with fail;refine CC.out.mono ?_;rintro e3 w3 ⟨rfl,hb3⟩;have HB3:=zA (zDh HB2.out hb3);have y3:=HCX.out w3 HB3.out;clear hb3 y2 HB2 CC;have hcc:=zS5 ts;rw[HCH.out]at hcc;rcases hcc with⟨hch,hm⟩ | ⟨hce,hm⟩ | ⟨hce,hm⟩
  · simp only[Prod.mk.injEq]at hch;obtain⟨rfl,rfl⟩:=hch;have HL:=zA (zSa HCH.out);have hn4:n≤4096:=by rw[←HLN.out];exact(zKu hm).1.len
    have HM:=zA hm;clear hm y3;go_wp2_with fail
    go_loopw [5] (fun i wr=>∃q:Nat,q≤n∧i=.int .i64 (q:Int)∧Hid (Below W.heap.size W wr)) (fun i _=>n - (intOf i).toNat)
    case atStart=>exact⟨0,yAE _,rfl,HB3.out⟩
    case round=>
     obtain⟨q,hq,rfl,hb⟩:=hrel;have y:=HCX.out wr hb.out
     by_cases hlt:q < n
     · have hno:=HL.out.2.1 q (by rw[HLN.out];exact hlt);have CQ:=zA (CN.out wr hb.out HM.out q hlt);obtain⟨l,hl⟩:∃l,zAj ts (q:Int)=l:=⟨_,rfl⟩;rw[hl]at CQ hno;have HNO:=zA hno;clear hl hno;go_wp2_with fail;refine CQ.out.mono ?_;rintro e4 w4 ⟨v,rfl,hv⟩;obtain⟨Al,cl,rfl,hlc,hlm,hlr⟩:=hv.form;have HB4:=zA (zDh hb.out hv.below);have HLR:=zA hlr;have hlm2:cl≤9223372036854775807:=hlm;clear hv hlr CQ hlm;obtain⟨m,hm⟩:∃m,l.length=m:=⟨_,rfl⟩;rw[hm]at hlc;have HMM:=zA hm;simp only[hm];clear hm;go_wp2_with fail
       go_loopw [7] (fun i wq=>∃p:Nat,p≤m∧i=.int .i64 (p:Int)∧Hid (Below w4.heap.size w4 wq)) (fun i _=>m - (intOf i).toNat)
       case atStart=>exact⟨0,yAE _,rfl,Below.refl _ _⟩
       case round=>
        obtain⟨p,hp,rfl,hbp⟩:=hrel
        by_cases hlp:p < m
        · have hpl:p < l.length:=by rw[HMM.out];exact hlp
          obtain⟨bl,ol,rfl,hbl,hcell⟩:=HLR.out.spotV (by omega);have hca:=(hbp.out.cell (p:=⟨bl,ol+p,none⟩) hbl).trans (hcell p (.string ⟨l[p].toArray⟩) (by simp[zBQ,yAB hpl]))
          have hh:=HNO.out p hpl;obtain⟨x,hx⟩:∃x,l[p]=x:=⟨_,rfl⟩;rw[hx]at hca hh;have CH:=zA (fun(v:World) (hb:Below w4.heap.size w4 v)=>by
           have h:=zSl (xs:=l.take p) (n:=p) (c:=cl) (B:=w4.heap.size) (A:=some ⟨bl,ol,none⟩) ⟨x.toArray⟩ (w:=v) (by rw[List.length_take];omega) (by
            have h:=(HLR.out.below hb).take (k:=p) (by omega);rw[Nat.mul_one,show(zBQ l).take p=zBQ (l.take p) by simp[zBQ,List.map_take]]at h;exact h) (by omega)
           rw[show decide ((⟨x.toArray⟩:ByteArray).data.toList∈l.take p)=false from yAI hh]at h;exact h)
          have hpc:p≤cl:=by omega
          clear hcell hx hh;go_wp2_with fail;go_region_law (go_simp;go_at_call 30;(with_reducible refine(CH.out _ hbp.out.drew).mono ?_);rintro e6 w6 ⟨rfl,rfl⟩)
          all_goals
           go_wp2_with fail
           go_roundw
           case rel=>exact⟨p+1,by omega,by go_num,hbp.out.drew⟩
           case measure=>simp[intOf];omega
        · obtain rfl:p=m:=by omega
          have HB5:=zA (zDh HB4.out hbp.out);have y5:=HCX.out _ HB5.out;obtain⟨b,o,x,s,rfl,hbB,hx,hC,_⟩:=(HNW.out.below HB5.out).get hlt;have k0:=hC.k0;have HX:=zA hx;have hxl:x.kids.length≤1000000:=yAD (zKt ts x (List.mem_of_getElem? hx)) HF.out.allE;clear hC hx y
          by_cases h6:x.kind=6
          · have CX:=zA (CK.out _ HB5.out q x hlt HX.out hxl);have HK:=zA (HL.out.2.2 q x HX.out h6);rw[h6]at k0;go_wp2_with fail;refine CX.out.mono ?_;rintro e6 w6 ⟨v6,rfl,hv6⟩;obtain⟨Ak,ck,rfl,hkc,hkm,hkr⟩:=hv6.shape;have HB6:=zA (zDh HB5.out hv6.below);rw[zFV]at hkc hkr⊢;have HKR:=zA hkr;obtain⟨L,hL⟩:∃L,x.kids.length=L:=⟨_,rfl⟩;rw[hL]at hkc hxl⊢;have HLL:=zA hL;clear hv6 hkr CX hL k0 y5;go_wp2_with fail
            go_loopw [9] (fun i wz=>∃r:Nat,r≤L∧i=.int .i64 (r:Int)∧Hid (Below w6.heap.size w6 wz)) (fun i _=>L - (intOf i).toNat)
            case atStart=>exact⟨0,yAE _,rfl,Below.refl _ _⟩
            case round=>
             obtain⟨r,hr,rfl,hbr⟩:=hrel
             by_cases hlr:r < L
             · have hrl:r < x.kids.length:=by rw[HLL.out];exact hlr
               obtain⟨mk,yk,hmk,hml,hyk,hyl⟩:=HK.out _ (List.getElem_mem hrl);have hkr2:=HKR.out;obtain⟨bk,ok,rfl,hbk,_⟩:=hkr2.spotV (by omega);have hca:=(hbr.out.cell (p:=⟨bk,ok+r,none⟩) hbk).trans (zS8 hkr2 hrl rfl);rw[hmk]at hca;have y7:=HCX.out _ (zDh HB6.out hbr.out);have C2:=zA (fun(v:World) (hb:Below W.heap.size W v)=>(CK.out v hb mk yk (by rw[←HLN.out];exact hml) hyk (by omega)).mono (R':=fun e w'=>∃A c,e=.returned (.slice A 1 c)∧Below v.heap.size v w') (by
                rintro e w' ⟨v',rfl,hv'⟩;obtain⟨A',c',rfl,_,_,_⟩:=hv'.shape;rw[zFV,hyl];exact⟨A',c',rfl,hv'.below⟩))
               have HBR:=zA (zDh HB6.out hbr.out);clear hmk hml hyk hyl hkr2;go_wp2_with fail;go_region_law (go_simp;go_at_call 18;(with_reducible refine(C2.out _ HBR.out.drew).mono ?_);rintro e7 w7 ⟨A7,c7,rfl,hb7⟩;have HB7:=zA (zDh hbr.out.drew hb7))
               all_goals
                go_wp2_with fail
                go_roundw
                case rel=>exact⟨r+1,by omega,by go_num,HB7.out⟩
                case measure=>simp[intOf];omega
             · obtain rfl:r=L:=by omega
               go_wp2_with fail
               go_roundw
               case rel=>exact⟨q+1,by omega,by go_num,zDh HB6.out hbr.out⟩
               case measure=>simp[intOf];omega
          · have e6:(x.kind==6)=false:=yA.2 h6;go_wp2_with fail
            go_roundw
            case rel=>exact⟨q+1,by omega,by go_num,HB5.out⟩
            case measure=>simp[intOf];omega
     · obtain rfl:q=n:=by omega
       go_wp2_with fail;refine(CF.out wr hb.out).mono ?_;rintro e4 w4 ⟨rfl,hb4⟩;have HB4:=zA (zDh hb.out hb4);clear hb4;go_wp2_with fail;go_ret;exact⟨rfl,HBW.out.trans (HB4.out.mono HBW.out.size)⟩
  all_goals
   obtain rfl:=hce;have HM:=zA hm;clear hm;go_wp2_with fail;refine(CF.out w3 HB3.out).mono ?_;rintro e4 w4 ⟨rfl,hb4⟩;have HB4:=zA (zDh HB3.out hb4);have y4:=HCX.out w4 HB4.out;clear hb4 y3 HB3;go_wp2_with fail;refine(CM.out w4 HB4.out HF.out _ HM.out).mono ?_;rintro e5 w5 ⟨rfl,hb5⟩;have HB5:=zA (zDh HB4.out hb5);clear hb5 y4 HB4;go_wp2_with fail;go_ret;exact⟨by simp,HBW.out.trans (HB5.out.mono HBW.out.size)⟩
end Go.Proofs.YtlohaclgbfhijaaGreatDoor
