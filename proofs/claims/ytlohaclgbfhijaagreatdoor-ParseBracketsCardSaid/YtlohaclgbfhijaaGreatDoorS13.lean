/- Joined for the claim ParseBlocks: the parser, the lexer and the trees as they are walked, made short by a program of mine. -/
import Derived.Deep.RegionLaw
import Derived.Deep.LoopGhost
import Derived.Test.YtlohaclgbfhijaaGreatDoorS11
import Derived.Test.YtlohaclgbfhijaaGreatDoorS03
import Derived.Test.YtlohaclgbfhijaaGreatDoorS01
set_option maxHeartbeats 16000000
set_option maxRecDepth 1000000
namespace Go.Proofs.YtlohaclgbfhijaaGreatDoor
open Go.Proofs.Tryz
open Go.RowKit
theorem zNA {m n:Nat} (hn:n < 8) (h:m=n):(zHZ m==(n:Int))=true:=by
 subst h;unfold zHZ;rw[if_neg (by omega)];simp
theorem zNB {m n:Nat} (h:¬m=n):(zHZ m==(n:Int))=false:=by
 rw[yA];unfold zHZ;split<;>omega
theorem zNC {C:Pc} {n:Nat} {s:Ps} {w:World} (hp:Pre C.L (.level n) s) (K:KP C (zf C.L (.level n) s)) (h:Pa C s w):zk C s w (.level n):=by
 refine zA0 hp h fun HL hlen hsk r W X HR hW hX F0=>?_;have HK:=zD K;have hn9:n≤8:=hp.2;clear K h hp;go_enter func201,ntmps201;go_upto_region 1 with(fail);clear hW hX
 by_cases hn:n=8
 · subst hn;go_wp2_with fail;refine F0.kD (HK.out.rank (q:=.unary) ⟨F0.P.hi,trivial⟩ F0.P (yAD _) (by simp[zn])) fun w1 d1_0 d1_1 d1_2 d1_3 d1_4 d1_5 d1_6 d1_7 d1_8 F1=>?_;obtain⟨_,_,_,_,_,_,_,_,_⟩:=F1.sto 1;obtain⟨_,_,_,_,_,_,_,_,_⟩:=F1.c 0;obtain⟨_,_,_,_,_,_,_,_,_⟩:=F1.f 0;go_wp2_with fail;refine zQ (F1.put 0 1) fun V2 F2=>?_;have q:=F2.c 0;exact F2.ret 1 rfl (by simp[results,results201,go_sem,q]) rfl (HR.out.symm.trans (by
    unfold zF;dsimp only;rw[if_pos rfl])) (fun _ h=>h)
 · have hn8:n < 8:=by omega
   have hwr:IntKind.i64.wrap ((n:Int)+1)=(n:Int)+1:=by rw[IntKind.wrap_i64];omega
   have e8:((n:Int)==8)=false:=by rw[yA];omega
   have HN:=zD hn;clear hn;have HRK:=zD (show zn (.level (n+1)) s < zn (.level n) s by simp only[zn];omega);go_wp2_with fail;refine F0.kD (HK.out.rank (q:=.level (n+1)) ⟨F0.P.hi,hn8⟩ F0.P (yAD _) HRK.out) fun w3 d3_0 d3_1 d3_2 d3_3 d3_4 d3_5 d3_6 d3_7 d3_8 F3=>?_;obtain⟨_,_,_,_,_,_,_,_,_⟩:=F3.sto 1;have F4:=F3.bt 1 72 rfl;have HA1:=zD (zS HL.out (p:=.level (n+1)) (s:=s) ⟨hsk,hn8⟩).adv.le;have HR1:=zD (show zG C.L (.levelL n ((zG C.L (.level (n+1)) (s)).1)) ((zG C.L (.level (n+1)) (s)).2)=r by
    refine Eq.trans ?_ HR.out;unfold zF;dsimp only;rw[if_neg HN.out])
   have HLE:=zD (show C.L.length - ((zG C.L (.level (n+1)) (s)).2).k≤C.L.length - s.k by have:=HA1.out;omega);go_wp2_with fail
   go_loopg [6] (C.L.length - ((zG C.L (.level (n+1)) (s)).2).k) (fun gk _ wr=>∃(x':Tr) (s':Ps) (e0 e1 e2 e3 e4 e5 e6 e7 e8:Value),C.L.length - s'.k≤gk∧s.k≤s'.k∧Hid (zG C.L (.levelL n x') s'=r)∧Hid (Fr C (w.heap.size≤·) w [(w3.heap.size),X] [.bx X 72 [.int .i64 0,.string ⟨#[]⟩,.slice none 0 0,.int .i64 0,.int .i64 0,.bool false,.slice none 0 0,.slice none 0 0,.slice none 0 0],.bx (w3.heap.size) 72 [e0,e1,e2,e3,e4,e5,e6,e7,e8],.tr x' [e0,e1,e2,e3,e4,e5,e6,e7,e8]] s' wr))
   case atStart=>exact⟨(zG C.L (.level (n+1)) (s)).1,(zG C.L (.level (n+1)) (s)).2,d3_0,d3_1,d3_2,d3_3,d3_4,d3_5,d3_6,d3_7,d3_8,by omega,HA1.out,HR1.out,F4.pk [(w3.heap.size),X] [0,2,1] (by simp) (by decide) rfl (by simp) (by simp)⟩
   case round=>
    obtain⟨x',s',e0,e1,e2,e3,e4,e5,e6,e7,e8,hgk,hsk',HRl,Fl⟩:=hrel;obtain⟨⟨kd,tx,st,nk,nn,mg,ps,nl⟩,HT⟩:=zU C.L (s').k;go_wp2_with fail;refine Fl.kT (zp Fl.P HT.out) fun w6 As Am c1 c2 F6=>?_
    by_cases hb:zA9 ⟨kd,tx,st,nk,nn,mg,ps,nl⟩=n
    · have elv:=zNA hn8 hb;have HBN:=zD hb;clear hb;go_wp2_with fail;refine F6.kQ (zJU) fun w7 F7=>?_;have hf1:=zU4;go_wp2_with fail;refine F7.kT (zp F7.P HT.out) fun w8 As2 Am2 c12 c22 F8=>?_;have hlt:=zD (HL.out.lt (s:=s') F8.P.hi (by rw[HT.out];exact zCZ (by rw[HBN.out];omega)));obtain⟨xk9,fk9,bk9⟩:=F8.k1;have F9:=F8.step hlt.out;have hpost:=zD (zS HL.out (p:=.level (n+1)) (s:=zB s') ⟨hlt.out,hn8⟩);have CL10:=zD (fun Q=>F9.dr.kD (Q:=Q) (args:=#[.pointer (some ⟨C.g,0,none⟩),.int .i64 ((n:Int)+1)]) (HK.out.more (q:=.level (n+1)) ⟨F9.dr.P.hi,hn8⟩ F9.dr.P (by show s.k < s'.k+1;omega)));obtain⟨_,_,_,_,_,_,_,_,_⟩:=F9.c 1;go_wp2_with fail;go_region_law (first | (go_simp;go_at_call 201;(with_reducible refine CL10.out _ fun w10 d10_0 d10_1 d10_2 d10_3 d10_4 d10_5 d10_6 d10_7 d10_8 F10=>?_);obtain⟨_,_,_,_,_,_,_,_,_⟩:=F10.c 1;have LT10:=zD (fun Q=>F10.litN 46 tx (n:=2) (Q:=Q) (F10.ts2 2 5) rfl (by simp) rfl)) | (go_simp;go_at_call 139;(with_reducible refine LT10.out _ fun w11 F11=>?_);obtain⟨_,_,_,_,_,_,_,_,_⟩:=F11.c 1;obtain⟨_,_,_,_,_,_,_,_,_⟩:=F11.f 1))
      all_goals
       have HQR:=zD (show zG C.L (.levelL n x') s'=zG C.L (.levelL n (trN 46 (tx) [x',(zG C.L (.level (n+1)) (zB (s'))).1])) ((zG C.L (.level (n+1)) (zB (s'))).2) by
        rw[zt HL.out (p:=.levelL n x') ⟨(Nat.le_of_lt hlt.out),hn8⟩];unfold zF;dsimp only;rw[HT.out,if_pos HBN.out])
       have hst:(zB s').k=s'.k+1:=rfl;have hle:=hpost.out.adv.le;have hlx:=hlt.out;go_wp2_with fail
       go_roundg (C.L.length - ((zG C.L (.level (n+1)) (zB (s'))).2).k)
       case measure=>omega
       case rel=>
        exact⟨_,_,_,_,_,_,_,_,_,_,_,yAD _,(by omega),HQR.out.symm.trans HRl.out,(F11.put 1 6).pk [(w3.heap.size),X] [0,1,6] (by simp) (by decide) rfl (by simp) (by simp)⟩
    · have elv:=zNB (n:=n) hb;have HBN:=zD hb;clear hb;go_wp2_with fail;refine F6.kQ (zJU) fun w12 F12=>?_;obtain⟨_,_,_,_,_,_,_,_,_⟩:=F12.c 1;obtain⟨_,_,_,_,_,_,_,_,_⟩:=F12.sto 2;have HQR:=zD (show zG C.L (.levelL n x') s'=(x',s') by
       rw[zt HL.out (p:=.levelL n x') ⟨F12.P.hi,hn8⟩];unfold zF;dsimp only;rw[HT.out,if_neg HBN.out])
      obtain⟨_,_,_,_,_,_,_,_,_⟩:=F12.c 0;obtain⟨_,_,_,_,_,_,_,_,_⟩:=F12.f 0;go_wp2_with fail;refine zQ (F12.put 0 2) fun V13 F13=>?_;have q:=F13.c 0;exact F13.ret 2 rfl (by simp[results,results201,go_sem,q]) rfl (HRl.out.symm.trans HQR.out) (fun _ h=>h)
theorem zIb {C:Pc} {s:Ps} {w:World} (hp:Pre C.L (.either) s) (K:KP C (zf C.L (.either) s)) (h:Pa C s w) (hon:onP C.L [63,63] (zG C.L (.level 0) s).2=true):zk C s w (.either):=by
 refine zA0 hp h fun HL hlen hsk r W X HR hW hX F0=>?_;have HK:=zD K;clear K h hp;go_enter func196,ntmps196;go_upto_region 1 with(fail);clear hW hX;have HO:=zD hon;clear hon;go_wp2_with fail;refine F0.kD (HK.out.rank (q:=.level 0) ⟨F0.P.hi,yAF _⟩ F0.P (yAD _) (by simp[zn])) fun w1 d1_0 d1_1 d1_2 d1_3 d1_4 d1_5 d1_6 d1_7 d1_8 F1=>?_;obtain⟨_,_,_,_,_,_,_,_,_⟩:=F1.sto 1;have F2:=F1.bt 1 72 rfl;have HA1:=zD (zS HL.out (p:=.level 0) (s:=s) ⟨hsk,yAF _⟩).adv.le;go_wp2_with fail;refine F2.kB (zAY F2.P [63,63] HO.out) fun w3 F3=>?_;obtain⟨q,hq⟩:∃q,zG C.L (.nullL ((zG C.L (.level 0) (s)).1)) ((zG C.L (.level 0) (s)).2)=q:=⟨_,rfl⟩;have HQ:=zD hq;clear hq;have HRQ:=zD (show r=(q.1,if(onP C.L [124,124] q.2 || onP C.L [38,38] q.2)=true then zV C.L q.2 else q.2)from by
  refine HR.out.symm.trans ?_;unfold zF;dsimp only;rw[if_pos HO.out,HQ.out])
 go_wp2_with fail
 go_loopg [9] (C.L.length - ((zG C.L (.level 0) (s)).2).k) (fun gk _ wr=>∃(x':Tr) (s':Ps) (e0 e1 e2 e3 e4 e5 e6 e7 e8:Value),C.L.length - s'.k≤gk∧s.k≤s'.k∧Hid (zG C.L (.nullL x') s'=q)∧Hid (Fr C (w.heap.size≤·) w [(w1.heap.size),X] [.bx X 72 [.int .i64 0,.string ⟨#[]⟩,.slice none 0 0,.int .i64 0,.int .i64 0,.bool false,.slice none 0 0,.slice none 0 0,.slice none 0 0],.bx (w1.heap.size) 72 [e0,e1,e2,e3,e4,e5,e6,e7,e8],.tr x' [e0,e1,e2,e3,e4,e5,e6,e7,e8]] s' wr))
 case atStart=>exact⟨(zG C.L (.level 0) (s)).1,(zG C.L (.level 0) (s)).2,d1_0,d1_1,d1_2,d1_3,d1_4,d1_5,d1_6,d1_7,d1_8,by omega,HA1.out,HQ.out,F3.pk [(w1.heap.size),X] [0,2,1] (by simp) (by decide) rfl (by simp) (by simp)⟩
 case round=>
  obtain⟨x',s',e0,e1,e2,e3,e4,e5,e6,e7,e8,hgk,hsk',HRl,Fl⟩:=hrel
  by_cases hon:onP C.L [63,63] s'=true
  · have HO:=zD hon;clear hon;have hlt:=zD (HL.out.on Fl.P.hi HO.out);go_wp2_with fail;refine Fl.kM (zBK Fl.P [63,63] HO.out) fun w5 F5=>?_;have hpost:=zD (zS HL.out (p:=.level 0) (s:=zB s') ⟨hlt.out,yAF _⟩);have CL6:=zD (fun Q=>F5.dr.kD (Q:=Q) (args:=#[.pointer (some ⟨C.g,0,none⟩),.int .i64 0]) (HK.out.more (q:=.level 0) ⟨F5.dr.P.hi,yAF _⟩ F5.dr.P (by show s.k < s'.k+1;omega)));obtain⟨_,_,_,_,_,_,_,_,_⟩:=F5.c 1;go_wp2_with fail;go_region_law (first | (go_simp;go_at_call 201;(with_reducible refine CL6.out _ fun w6 d6_0 d6_1 d6_2 d6_3 d6_4 d6_5 d6_6 d6_7 d6_8 F6=>?_);obtain⟨_,_,_,_,_,_,_,_,_⟩:=F6.c 1;have LT6:=zD (fun Q=>F6.litN 47 [63,63] (n:=2) (Q:=Q) (F6.ts2 2 3) rfl (by simp) rfl)) | (go_simp;go_at_call 139;(with_reducible refine LT6.out _ fun w7 F7=>?_);obtain⟨_,_,_,_,_,_,_,_,_⟩:=F7.c 1;obtain⟨_,_,_,_,_,_,_,_,_⟩:=F7.f 1))
    all_goals
     have HQR:=zD (show zG C.L (.nullL x') s'=zG C.L (.nullL (trN 47 ([63,63]) [x',(zG C.L (.level 0) (zB (s'))).1])) ((zG C.L (.level 0) (zB (s'))).2) by
      rw[zt HL.out (p:=.nullL x') ⟨(Nat.le_of_lt hlt.out),trivial⟩];unfold zF;dsimp only;rw[if_pos HO.out])
     have hst:(zB s').k=s'.k+1:=rfl;have hle:=hpost.out.adv.le;have hlx:=hlt.out;go_wp2_with fail
     go_roundg (C.L.length - ((zG C.L (.level 0) (zB (s'))).2).k)
     case measure=>omega
     case rel=>
      exact⟨_,_,_,_,_,_,_,_,_,_,_,yAD _,(by omega),HQR.out.symm.trans HRl.out,(F7.put 1 4).pk [(w1.heap.size),X] [0,1,4] (by simp) (by decide) rfl (by simp) (by simp)⟩
  · have HO:=zD (show onP C.L [63,63] s'=false by simpa using hon);clear hon;go_wp2_with fail;refine Fl.kM (zBN Fl.P [63,63] HO.out) fun w8 F8=>?_;have HQR:=zD (show q=(x',s')from HRl.out.symm.trans (by
     rw[zt HL.out (p:=.nullL x') ⟨F8.P.hi,trivial⟩];unfold zF;dsimp only;rw[if_neg (by rw[HO.out];decide)]))
    obtain⟨b1,hb1⟩:∃b,onP C.L [124,124] s'=b:=⟨_,rfl⟩;obtain⟨b2,hb2⟩:∃b,onP C.L [38,38] s'=b:=⟨_,rfl⟩;have HB1:=zD hb1;have HB2:=zD hb2;clear hb1 hb2;go_wp2_with fail;refine F8.kB (zAY F8.P [124,124] HB1.out) fun w9 F9=>?_;cases b1 with
    | true=>
     go_wp2_with fail;refine F9.kN (zAG F9.P) fun w10 F10=>?_;obtain⟨_,_,_,_,_,_,_,_,_⟩:=F10.c 1;obtain⟨_,_,_,_,_,_,_,_,_⟩:=F10.sto 2;obtain⟨_,_,_,_,_,_,_,_,_⟩:=F10.c 0;obtain⟨_,_,_,_,_,_,_,_,_⟩:=F10.f 0;go_wp2_with fail;refine zQ (F10.put 0 2) fun V11 F11=>?_;have q:=F11.c 0;exact F11.ret 2 rfl (by simp[results,results196,go_sem,q]) rfl (by rw[HRQ.out,HQR.out];simp[HB1.out,HB2.out]) (fun _ h=>h)
    | false=>
     go_wp2_with fail;refine F9.kB (zAY F9.P [38,38] HB2.out) fun w12 F12=>?_;cases b2 with
     | true=>
      go_wp2_with fail;refine F12.kN (zAG F12.P) fun w13 F13=>?_;obtain⟨_,_,_,_,_,_,_,_,_⟩:=F13.c 1;obtain⟨_,_,_,_,_,_,_,_,_⟩:=F13.sto 2;obtain⟨_,_,_,_,_,_,_,_,_⟩:=F13.c 0;obtain⟨_,_,_,_,_,_,_,_,_⟩:=F13.f 0;go_wp2_with fail;refine zQ (F13.put 0 2) fun V14 F14=>?_;have q:=F14.c 0;exact F14.ret 2 rfl (by simp[results,results196,go_sem,q]) rfl (by rw[HRQ.out,HQR.out];simp[HB1.out,HB2.out]) (fun _ h=>h)
     | false=>
      obtain⟨_,_,_,_,_,_,_,_,_⟩:=F12.c 1;obtain⟨_,_,_,_,_,_,_,_,_⟩:=F12.sto 2;obtain⟨_,_,_,_,_,_,_,_,_⟩:=F12.c 0;obtain⟨_,_,_,_,_,_,_,_,_⟩:=F12.f 0;go_wp2_with fail;refine zQ (F12.put 0 2) fun V15 F15=>?_;have q:=F15.c 0;exact F15.ret 2 rfl (by simp[results,results196,go_sem,q]) rfl (by rw[HRQ.out,HQR.out];simp[HB1.out,HB2.out]) (fun _ h=>h)
theorem zND {C:Pc} {s:Ps} {w:World} (hp:Pre C.L (.either) s) (K:KP C (zf C.L (.either) s)) (h:Pa C s w) (hon:¬onP C.L [63,63] (zG C.L (.level 0) s).2=true):zk C s w (.either):=by
 refine zA0 hp h fun HL hlen hsk r W X HR hW hX F0=>?_;have HK:=zD K;clear K h hp;go_enter func196,ntmps196;go_upto_region 1 with(fail);clear hW hX;have HO:=zD (show onP C.L [63,63] (zG C.L (.level 0) s).2=false by simpa using hon);clear hon;go_wp2_with fail;refine F0.kD (HK.out.rank (q:=.level 0) ⟨F0.P.hi,yAF _⟩ F0.P (yAD _) (by simp[zn])) fun w1 d1_0 d1_1 d1_2 d1_3 d1_4 d1_5 d1_6 d1_7 d1_8 F1=>?_;obtain⟨_,_,_,_,_,_,_,_,_⟩:=F1.sto 1;have F2:=F1.bt 1 72 rfl;have HA1:=zD (zS HL.out (p:=.level 0) (s:=s) ⟨hsk,yAF _⟩).adv.le;go_wp2_with fail;refine F2.kB (zAY F2.P [63,63] HO.out) fun w3 F3=>?_;obtain⟨_,_,_,_,_,_,_,_,_⟩:=F3.c 2;go_wp2_with fail;refine F3.kO (F3.both 1 rfl (HK.out.rank (q:=.both ((zG C.L (.level 0) (s)).1)) ⟨F3.P.hi,trivial⟩ F3.P HA1.out (by simp[zn]))) fun w4 d4_0 d4_1 d4_2 d4_3 d4_4 d4_5 d4_6 d4_7 d4_8 F4=>?_;obtain⟨_,_,_,_,_,_,_,_,_⟩:=F4.sto 3;obtain⟨_,_,_,_,_,_,_,_,_⟩:=F4.c 2;obtain⟨_,_,_,_,_,_,_,_,_⟩:=F4.f 2;obtain⟨q,hq⟩:∃q,zG C.L (.orL ((zG C.L (.both ((zG C.L (.level 0) (s)).1)) ((zG C.L (.level 0) (s)).2)).1)) ((zG C.L (.both ((zG C.L (.level 0) (s)).1)) ((zG C.L (.level 0) (s)).2)).2)=q:=⟨_,rfl⟩;have HQ:=zD hq;clear hq;have HRQ:=zD (show r=(q.1,if onP C.L [63,63] q.2=true then zV C.L q.2 else q.2)from by
  refine HR.out.symm.trans ?_;unfold zF;dsimp only;rw[if_neg (by rw[HO.out];decide),HQ.out])
 have HA2:=zD (yAE HA1.out (zS HL.out (p:=.both ((zG C.L (.level 0) (s)).1)) (s:=(zG C.L (.level 0) (s)).2) ⟨(zS HL.out (p:=.level 0) (s:=s) ⟨hsk,yAF _⟩).adv.hi,trivial⟩).adv.le);go_wp2_with fail
 go_loopg [28] (C.L.length - ((zG C.L (.both ((zG C.L (.level 0) (s)).1)) ((zG C.L (.level 0) (s)).2)).2).k) (fun gk _ wr=>∃(x':Tr) (s':Ps) (e0 e1 e2 e3 e4 e5 e6 e7 e8:Value),C.L.length - s'.k≤gk∧s.k≤s'.k∧Hid (zG C.L (.orL x') s'=q)∧Hid (Fr C (w.heap.size≤·) w [(w1.heap.size),X] [.bx X 72 [.int .i64 0,.string ⟨#[]⟩,.slice none 0 0,.int .i64 0,.int .i64 0,.bool false,.slice none 0 0,.slice none 0 0,.slice none 0 0],.bx (w1.heap.size) 72 [e0,e1,e2,e3,e4,e5,e6,e7,e8],.tr x' [e0,e1,e2,e3,e4,e5,e6,e7,e8]] s' wr))
 case atStart=>exact⟨(zG C.L (.both ((zG C.L (.level 0) (s)).1)) ((zG C.L (.level 0) (s)).2)).1,(zG C.L (.both ((zG C.L (.level 0) (s)).1)) ((zG C.L (.level 0) (s)).2)).2,d4_0,d4_1,d4_2,d4_3,d4_4,d4_5,d4_6,d4_7,d4_8,yAD _,HA2.out,HQ.out,(F4.put 2 3).pk [(w1.heap.size),X] [0,2,3] (by simp) (by decide) rfl (by simp) (by simp)⟩
 case round=>
  obtain⟨x',s',e0,e1,e2,e3,e4,e5,e6,e7,e8,hgk,hsk',HRl,Fl⟩:=hrel
  by_cases hon:onP C.L [124,124] s'=true
  · have HO:=zD hon;clear hon;have hlt:=zD (HL.out.on Fl.P.hi HO.out);go_wp2_with fail;refine Fl.kM (zBK Fl.P [124,124] HO.out) fun w6 F6=>?_;have hpost:=zD (zS HL.out (p:=.level 0) (s:=zB s') ⟨hlt.out,yAF _⟩);have hpost2:=zD (zS HL.out (p:=.both ((zG C.L (.level 0) (zB s')).1)) (s:=(zG C.L (.level 0) (zB s')).2) ⟨hpost.out.adv.hi,trivial⟩);have CLv:=zD (fun Q=>F6.dr.kD (Q:=Q) (args:=#[.pointer (some ⟨C.g,0,none⟩),.int .i64 0]) (HK.out.more (q:=.level 0) ⟨F6.dr.P.hi,yAF _⟩ F6.dr.P (by show s.k < s'.k+1;omega)));obtain⟨_,_,_,_,_,_,_,_,_⟩:=F6.c 1;go_wp2_with fail;go_region_law (first | (go_simp;go_at_call 201;(with_reducible refine CLv.out _ fun w71 a0 a1 a2 a3 a4 a5 a6 a7 a8 F71=>?_);obtain⟨_,_,_,_,_,_,_,_,_⟩:=F71.c 1;have CBo:=zD (fun Q=>F71.kO (Q:=Q) (F71.both 3 rfl (HK.out.rank (q:=.both ((zG C.L (.level 0) (zB s')).1)) ⟨F71.P.hi,trivial⟩ F71.P (by have:=hpost.out.adv.le;have:(zB s').k=s'.k+1:=rfl;omega) (by simp[zn]))))) | (go_simp;go_at_call 202;(with_reducible refine CBo.out _ fun w72 b0 b1 b2 b3 b4 b5 b6 b7 b8 F72=>?_);obtain⟨_,_,_,_,_,_,_,_,_⟩:=F72.c 1;have LT:=zD (fun Q=>F72.litN 47 [124,124] (n:=2) (Q:=Q) (F72.ts2 2 4) rfl (by simp) rfl)) | (go_simp;go_at_call 139;(with_reducible refine LT.out _ fun w73 F73=>?_);obtain⟨_,_,_,_,_,_,_,_,_⟩:=F73.c 1;obtain⟨_,_,_,_,_,_,_,_,_⟩:=F73.f 1))
    all_goals
     have HQR:=zD (show zG C.L (.orL x') s'=zG C.L (.orL (trN 47 ([124,124]) [x',(zG C.L (.both ((zG C.L (.level 0) (zB s')).1)) ((zG C.L (.level 0) (zB s')).2)).1])) ((zG C.L (.both ((zG C.L (.level 0) (zB s')).1)) ((zG C.L (.level 0) (zB s')).2)).2) by
      rw[zt HL.out (p:=.orL x') ⟨(Nat.le_of_lt hlt.out),trivial⟩];unfold zF;dsimp only;rw[if_pos HO.out])
     have hst:(zB s').k=s'.k+1:=rfl;have hle:=hpost.out.adv.le;have hle2:=hpost2.out.adv.le;have hlx:=hlt.out;go_wp2_with fail
     go_roundg (C.L.length - ((zG C.L (.both ((zG C.L (.level 0) (zB s')).1)) ((zG C.L (.level 0) (zB s')).2)).2).k)
     case measure=>omega
     case rel=>
      exact⟨_,_,_,_,_,_,_,_,_,_,_,yAD _,(by omega),HQR.out.symm.trans HRl.out,(F73.put 1 5).pk [(w1.heap.size),X] [0,1,5] (by simp) (by decide) rfl (by simp) (by simp)⟩
  · have HO:=zD (show onP C.L [124,124] s'=false by simpa using hon);clear hon;go_wp2_with fail;refine Fl.kM (zBN Fl.P [124,124] HO.out) fun w7 F7=>?_;have HQR:=zD (show q=(x',s')from HRl.out.symm.trans (by
     rw[zt HL.out (p:=.orL x') ⟨F7.P.hi,trivial⟩];unfold zF;dsimp only;rw[if_neg (by rw[HO.out];decide)]))
    obtain⟨b1,hb1⟩:∃b,onP C.L [63,63] s'=b:=⟨_,rfl⟩;have HB1:=zD hb1;have HB2:=zD hb1;clear hb1;go_wp2_with fail;refine F7.kB (zAY F7.P [63,63] HB1.out) fun w8 F8=>?_;cases b1 with
    | true=>
     go_wp2_with fail;refine F8.kN (zAG F8.P) fun w9 F9=>?_;obtain⟨_,_,_,_,_,_,_,_,_⟩:=F9.c 1;obtain⟨_,_,_,_,_,_,_,_,_⟩:=F9.sto 2;obtain⟨_,_,_,_,_,_,_,_,_⟩:=F9.c 0;obtain⟨_,_,_,_,_,_,_,_,_⟩:=F9.f 0;go_wp2_with fail;refine zQ (F9.put 0 2) fun V10 F10=>?_;have q:=F10.c 0;exact F10.ret 2 rfl (by simp[results,results196,go_sem,q]) rfl (by rw[HRQ.out,HQR.out];simp[HB1.out]) (fun _ h=>h)
    | false=>
     obtain⟨_,_,_,_,_,_,_,_,_⟩:=F8.c 1;obtain⟨_,_,_,_,_,_,_,_,_⟩:=F8.sto 2;obtain⟨_,_,_,_,_,_,_,_,_⟩:=F8.c 0;obtain⟨_,_,_,_,_,_,_,_,_⟩:=F8.f 0;go_wp2_with fail;refine zQ (F8.put 0 2) fun V11 F11=>?_;have q:=F11.c 0;exact F11.ret 2 rfl (by simp[results,results196,go_sem,q]) rfl (by rw[HRQ.out,HQR.out];simp[HB1.out]) (fun _ h=>h)
theorem zKp {C:Pc} {s:Ps} {w:World} (hp:Pre C.L .either s) (K:KP C (zf C.L .either s)) (h:Pa C s w):zk C s w .either:=by
 by_cases hon:onP C.L [63,63] (zG C.L (.level 0) s).2=true
 · exact zIb hp K h hon
 · exact zND hp K h hon
theorem LstQ.mk {C:Pc} {r:Tr×Ps} {w w':World} {A:Option Addr} {n c:Nat} {l:List Tr} {t:Ps} (e:r=(trK 0 l,t)) (h:RowP w' (w.heap.size≤·) (.slice A n c) l) (hp:Pa C t w') (hg:w.grownBy w' (some C.g)):LstQ C r w (.returned (.slice A n c)) w':=by
 subst e;obtain⟨h1,h2,h3⟩:=h.bounds;exact⟨A,n,c,rfl,h1,h2,h3,h,hp,hg⟩
theorem zP0 {C:Pc} {v:List UInt8} {s:Ps} {w:World} (hp:Pre C.L (.list v) s) (K:KP C (zf C.L (.list v) s)) (h:Pa C s w):zk C s w (.list v):=by
 show Calls prog 221 #[.pointer (some ⟨C.g,0,none⟩),.string ⟨v.toArray⟩] w (LstQ C (zG C.L (.list v) s) w);have HL:=zD h.cx.lst;have hlen:C.N≤4097:=h.cx.n4;have hNn:=zD h.cx.n;have hgw:=h.lt;have HK:=zD K;have hsk:=hp.1;have HPRE:=zD hp;have HP:=zD h;obtain⟨r,hr⟩:∃r,zG C.L (.list v) s=r:=⟨_,rfl⟩;rw[hr];have HR:=zD hr;clear hr h K hp
 by_cases hon:onP C.L v s=true
 · have HO:=zD hon;clear hon;go_enter func221,ntmps221;go_wp2_with fail;refine(zAp HP.out v HO.out).mono ?_;rintro ev w1 ⟨rfl,hp1,hg1⟩;have HP1:=zD (show Pa C (zB s) w1 from hp1);have HG1:=zD hg1;clear hp1 hg1;go_wp2_with fail;go_ret;refine LstQ.mk (l:=[]) (HR.out.symm.trans (by
    rw[zt HL.out HPRE.out];unfold zF;dsimp only;rw[if_pos HO.out])) (RowP.nil _ _) HP1.out HG1.out
 · have HO:=zD (show onP C.L v s=false by simpa using hon);have HR0:=zD (show zG C.L (.listL v []) s=r from by
    refine Eq.trans ?_ HR.out;rw[zt HL.out (p:=.list v) HPRE.out];unfold zF;dsimp only;rw[if_neg hon])
   clear hon;go_enter func221,ntmps221;go_wp2_with fail;refine(zAp HP.out v HO.out).mono ?_;rintro ev w1 ⟨rfl,hp1,hg1⟩;have HP1:=zD (show Pa C s w1 from hp1);have HG1:=zD hg1;clear hp1 hg1;go_wp2_with fail
   go_loopg [5] (C.L.length - s.k) (fun gk v5 wr=>∃(acc:List Tr) (s':Ps) (A:Option Addr) (n cp:Nat),v5=.slice A n cp∧C.L.length - s'.k≤gk∧s.k≤s'.k∧n≤s'.k∧Hid (zG C.L (.listL v acc) s'=r)∧Hid (Pa C s' wr)∧Hid (RowP wr (w.heap.size≤·) (.slice A n cp) acc)∧Hid (w.grownBy wr (some C.g)))
   case atStart=>exact⟨[],s,none,0,0,rfl,yAD _,yAD _,yAF _,HR0.out,HP1.out,RowP.nil _ _,HG1.out⟩
   case round=>
    clear HP1 HG1 HR0;obtain⟨acc,s',A,n,cp,rfl,hgk,hsk',hns,HRl,HPl,HWl,HGl⟩:=hrel;go_wp2_with fail;refine(Calls.mono (show Calls prog 140 #[.pointer (some ⟨C.g,0,none⟩)] wr (zDJ C (zG C.L .assign s') wr)from HK.out.rank (q:=.assign) ⟨HPl.out.hi,trivial⟩ HPl.out hsk' (by simp[zn])) ?_);rintro ev2 w2 ⟨d0,d1,d2,d3,d4,d5,d6,d7,d8,rfl,ht2,hp2,hg2⟩;have hgs:=HGl.out.size;have HP2:=zD hp2;have HT2:=zD ht2;have HW2:=zD (HWl.out.keep hg2 (.box HPl.out.box (by decide) (by decide) (by omega)));have HG2:=zD (zE HGl.out hg2);have hb2:=zD (HWl.out.lt);have hs2:=hg2.size;have hpost:=zD (zS HL.out (p:=.assign) (s:=s') ⟨HPl.out.hi,trivial⟩);have hadv:=hpost.out.adv.le;have hahi:=hpost.out.adv.hi;have hNN:=hNn.out;clear ht2 hp2 hg2;obtain⟨e,he⟩:∃e,zG C.L .assign s'=e:=⟨_,rfl⟩;rw[he]at HP2 HT2 hpost hadv hahi;have HE:=zD he;clear he;have HN:=zD HWl.out.bounds.1;go_wp2_with (at_builtin;refine zDm (Px:=fun b=>w.heap.size≤b) (Q:=fun b=>wr.heap.size≤b) rfl _ _ rfl rfl HN.out HW2.out HT2.out (fun b (hb:wr.heap.size≤b) _=>(by omega:w.heap.size≤b)) (fun b hb h2=>(by have:=hb2.out b hb;omega)) (by show w.heap.size≤w2.heap.size+1;omega) (by omega) rfl ?_;intro A3 cp3 w3 hrow hgr);have HW3:=zD hrow;have hwa:=HW2.out.new (zI w2 (.cells #[d0,d1,d2,d3,d4,d5,d6,d7,d8] 72) none);have HP3:=zD ((HP2.out.alloc (.cells #[d0,d1,d2,d3,d4,d5,d6,d7,d8] 72)).row hwa (fun b (hb:w.heap.size≤b)=>(by omega:C.g < b)) hgr);have HG3:=zD (zGE (zE HG2.out (zI _ _ _)) hwa (fun b hb=>hb) hgr);have hs3:=HG3.out.size;clear hrow hgr hwa HW2 HP2 HG2 HT2
    by_cases hb:e.2.bad=0
    · have HBD:=zD (show(e.2.bad==0)=true by rw[hb];rfl);have HBZ:=zD hb;have hlt:=hpost.out.lt HPl.out.hi (by rw[hb];simp);clear hb;refine(zBO HP3.out HBD.out).mono ?_;rintro ev4 w4 ⟨rfl,hp4,hg4⟩;have HP4:=zD hp4;have HW4:=zD (HW3.out.new hg4);have HG4:=zD (zE HG3.out (zAP hg4 _));clear hp4 hg4
      by_cases hon:onP C.L v e.2=true
      · have HO2:=zD hon;clear hon;go_wp2_with fail;refine(zAp HP4.out v HO2.out).mono ?_;rintro ev5 w5 ⟨rfl,hp5,hg5⟩;have HP5:=zD (show Pa C (zB e.2) w5 from hp5);have HW5:=zD (HW4.out.keep hg5 (.box HP4.out.box (by decide) (by decide) (by omega)));have HG5:=zD (zE HG4.out hg5);clear hp5 hg5;go_wp2_with fail;go_ret;refine LstQ.mk (l:=acc++[e.1]) (HRl.out.symm.trans (by
         rw[zt HL.out ⟨HPl.out.hi,trivial⟩];unfold zF;dsimp only;rw[HE.out,if_neg (by rw[HBZ.out];simp),if_pos HO2.out])) HW5.out HP5.out HG5.out
      · have HO2:=zD (show onP C.L v e.2=false by simpa using hon);clear hon;go_wp2_with fail;refine(zAp HP4.out v HO2.out).mono ?_;rintro ev5 w5 ⟨rfl,hp5,hg5⟩;have HP5:=zD (show Pa C e.2 w5 from hp5);have HW5:=zD (HW4.out.keep hg5 (.box HP4.out.box (by decide) (by decide) (by omega)));have HG5:=zD (zE HG4.out hg5);clear hp5 hg5;go_wp2_with fail;refine(zAE HP5.out [44]).mono ?_;rintro ev6 w6 ⟨rfl,hp6,hg6⟩;have HP6:=zD hp6;have HW6:=zD (HW5.out.keep hg6 (.box HP5.out.box (by decide) (by decide) (by omega)));have HG6:=zD (zE HG5.out hg6);clear hp6 hg6;have HQR:=zD (show zG C.L (.listL v (acc++[e.1])) (zM C.L [44] e.2)=r from Eq.trans (Eq.symm (by
         rw[zt HL.out (p:=.listL v acc) (s:=s') ⟨HPl.out.hi,trivial⟩];unfold zF;dsimp only;rw[HE.out,if_neg (by rw[HBZ.out];simp),if_neg (by rw[HO2.out];decide)])) HRl.out)
        have hnd:=zD (zN (w:=[44]) HL.out (s:=e.2) hahi).adv;have hnl:=hnd.out.le;go_wp2_with fail
        go_roundg (C.L.length - (zM C.L [44] e.2).k)
        case measure=>omega
        case rel=>exact⟨_,_,A3,n+1,cp3,rfl,yAD _,by omega,by omega,HQR.out,HP6.out,HW6.out,HG6.out⟩
    · have HBD:=zD (show(e.2.bad==0)=false by rw[yA];exact hb);have HBZ:=zD hb;clear hb;refine(zBO HP3.out HBD.out).mono ?_;rintro ev4 w4 ⟨rfl,hp4,hg4⟩;have HP4:=zD hp4;have HW4:=zD (HW3.out.new hg4);have HG4:=zD (zE HG3.out (zAP hg4 _));clear hp4 hg4;go_wp2_with fail;go_ret;refine LstQ.mk (l:=acc++[e.1]) (HRl.out.symm.trans (by
       rw[zt HL.out ⟨HPl.out.hi,trivial⟩];unfold zF;dsimp only;rw[HE.out,if_pos HBZ.out])) HW4.out HP4.out HG4.out
theorem zP1 {C:Pc} {s:Ps} {w:World} (hp:Pre C.L .args s) (K:KP C (zf C.L .args s)) (h:Pa C s w):zk C s w .args:=by
 show Calls prog 218 #[.pointer (some ⟨C.g,0,none⟩)] w (LstQ C (zG C.L .args s) w);have HL:=zD h.cx.lst;have HK:=zD K;have HPRE:=zD hp;have HP:=zD h;have hn:=zD (zN (w:=[40]) HL.out hp.1);have hlt:=zD (hn.out.more hp.2);clear h K hp;go_enter func218,ntmps218;go_wp2_with fail;refine(zAE HP.out [40]).mono ?_;rintro ev w1 ⟨rfl,hp1,hg1⟩;have HP1:=zD hp1;have HG1:=zD hg1;clear hp1 hg1;go_wp2_with fail;refine(Calls.mono (show Calls prog 221 #[.pointer (some ⟨C.g,0,none⟩),.string ⟨#[41]⟩] w1 (LstQ C (zG C.L (.list [41]) (zM C.L [40] s)) w1)from HK.out.more (q:=.list [41]) ⟨HP1.out.hi,trivial⟩ HP1.out hlt.out) ?_);rintro ev2 w2 ⟨A,n,c,rfl,h1,h2,h3,hr2,hp2,hg2⟩;have HX:=zD (show RowP w2 (w.heap.size≤·) (.slice A n c) (zG C.L (.list [41]) (zM C.L [40] s)).1.subs from hr2.sub fun b (hb:w1.heap.size≤b) _=>yAE HG1.out.size hb);have HP2:=zD hp2;have HG2:=zD (zE HG1.out hg2);have H1:=zD h1;clear h1 hr2 hp2 hg2;go_wp2_with fail;go_ret;have e:zG C.L .args s=zG C.L (.list [41]) (zM C.L [40] s):=by
  rw[zt HL.out HPRE.out];rfl
 rw[e];exact⟨A,n,c,rfl,H1.out,h2,h3,HX.out,HP2.out,HG2.out⟩
theorem zKq {C:Pc} {s:Ps} {w:World} (hp:Pre C.L (.object) s) (K:KP C (zf C.L (.object) s)) (h:Pa C s w):zk C s w (.object):=by
 refine zA0 hp h fun HL hlen hsk r W X HR hW hX F0=>?_;have HK:=zD K;clear K h hp;go_enter func222,ntmps222;go_upto_region 1 with(fail);clear hW hX;go_wp2_with fail;refine F0.made0 _ fun w1 F1=>?_;have F2:=F1.bt 1 72 rfl
 by_cases hon:onP C.L [125] s=true
 · have HO:=zD hon;clear hon;go_wp2_with fail;refine F2.kM (zBK F2.P [125] HO.out) fun w3 F3=>?_;obtain⟨_,_,_,_,_,_,_,_,_⟩:=F3.c 2;obtain⟨_,_,_,_,_,_,_,_,_⟩:=F3.c 0;obtain⟨_,_,_,_,_,_,_,_,_⟩:=F3.f 0;go_wp2_with fail;refine zQ (F3.put 0 1) fun V4 F4=>?_;have q:=F4.c 0;exact F4.ret 1 rfl (by simp[results,results222,go_sem,q]) rfl (HR.out.symm.trans (by
    unfold zF;dsimp only;rw[if_pos HO.out])) (fun _ h=>h)
 · have HO:=zD (show onP C.L [125] s=false by simpa using hon);clear hon;have HR0:=zD (show zG C.L (.objL []) s=r from by
    refine Eq.trans ?_ HR.out;unfold zF;dsimp only;rw[if_neg (by rw[HO.out];decide)])
   go_wp2_with fail;refine F2.kM (zBN F2.P [125] HO.out) fun w5 F5=>?_;go_wp2_with fail
   go_loopg [9] (C.L.length - s.k) (fun gk _ wr=>∃(acc:List Tr) (s':Ps) (A:Option Addr) (n cp:Nat),C.L.length - s'.k≤gk∧s.k≤s'.k∧n≤s'.k∧Hid (zG C.L (.objL acc) s'=r)∧Fr C (w.heap.size≤·) w [(w1.heap.size),X] [.bx X 72 [.int .i64 0,.string ⟨#[]⟩,.slice none 0 0,.int .i64 0,.int .i64 0,.bool false,.slice none 0 0,.slice none 0 0,.slice none 0 0],.bx (w1.heap.size) 72 [.int .i64 39,.string ⟨#[]⟩,.slice none 0 0,.int .i64 0,.int .i64 0,.bool false,.slice none 0 0,.slice none 0 0,.slice A n cp],.ro (.slice A n cp) acc] s' wr)
   case atStart=>exact⟨[],s,none,0,0,yAD _,yAD _,yAF _,HR0.out,F5.nil.pk [(w1.heap.size),X] [0,2,3] (by simp) (by decide) rfl (by simp) (by simp)⟩
   case round=>
    obtain⟨acc,s',A,n,cp,hgk,hsk',hns,HRl,Fl⟩:=hrel;have hpost:=zD (zS HL.out (p:=.prop) (s:=s') ⟨Fl.P.hi,trivial⟩);have hadv:=hpost.out.adv.le;have hahi:=hpost.out.adv.hi;have hxh:=Fl.P.hi;have CL6:=zD (fun Q=>Fl.dr.kR 2 rfl (Q:=Q) (HK.out.rank (q:=.prop) ⟨Fl.dr.P.hi,trivial⟩ Fl.dr.P hsk' (by simp[zn])));obtain⟨_,_,_,_,_,_,_,_,_⟩:=Fl.c 1;have hn6:n≤4097:=by have:=Fl.P.cx.n;omega
    go_wp2_with fail;go_region_law (first | (go_simp;go_at_call 223;(with_reducible refine CL6.out _ fun w6 d6_0 d6_1 d6_2 d6_3 d6_4 d6_5 d6_6 d6_7 d6_8 F6=>?_);obtain⟨_,_,_,_,_,_,_,_,_⟩:=F6.c 1;obtain⟨_,_,_,_,_,_,_,_,_⟩:=(F6.al (.cells #[d6_0,d6_1,d6_2,d6_3,d6_4,d6_5,d6_6,d6_7,d6_8] 72)).c 1) | (refine F6.snocS 2 3 rfl rfl (fun _ h=>h) hn6 rfl _ _ rfl rfl rfl fun A7 cp7 w7 F7=>?_;obtain⟨_,_,_,_,_,_,_,_,_⟩:=F7.c 1;obtain⟨_,_,_,_,_,_,_,_,_⟩:=F7.f 1))
    all_goals
     have F8:=F7.set 1 8 (.slice A7 (n+1) cp7)
     by_cases hb:(zG C.L .prop s').2.bad=0
     · have HBD:=zD (show((zG C.L .prop s').2.bad==0)=true by rw[hb];rfl);have HBZ:=zD hb;have hlt:=hpost.out.lt Fl.P.hi (by rw[hb];simp);clear hb;go_wp2_with fail;refine F8.kB (zBO F8.P HBD.out) fun w9 F9=>?_
       by_cases hon2:onP C.L [125] (zG C.L .prop s').2=true
       · have HO2:=zD hon2;clear hon2;go_wp2_with fail;refine F9.kM (zBK F9.P [125] HO2.out) fun w10 F10=>?_;obtain⟨_,_,_,_,_,_,_,_,_⟩:=F10.c 1;obtain⟨_,_,_,_,_,_,_,_,_⟩:=F10.c 0;obtain⟨_,_,_,_,_,_,_,_,_⟩:=F10.f 0;go_wp2_with fail;have F11:=F10.rowK 2 rfl 39;refine zQ (F11.put 0 4) fun V12 F12=>?_;have q:=F12.c 0;exact F12.ret 4 rfl (by simp[results,results222,go_sem,q]) rfl (HRl.out.symm.trans (by
          rw[zt HL.out (p:=.objL acc) ⟨Fl.P.hi,trivial⟩];unfold zF;dsimp only;rw[if_neg (by rw[HBZ.out];simp),if_pos HO2.out])) (fun _ h=>h)
       · have HO2:=zD (show onP C.L [125] (zG C.L .prop s').2=false by simpa using hon2);clear hon2;go_wp2_with fail;refine F9.kM (zBN F9.P [125] HO2.out) fun w13 F13=>?_;have HQR:=zD (show zG C.L (.objL (acc++[(zG C.L .prop s').1])) (zM C.L [44] (zG C.L .prop s').2)=r from Eq.trans (Eq.symm (by
          rw[zt HL.out (p:=.objL acc) (s:=s') ⟨Fl.P.hi,trivial⟩];unfold zF;dsimp only;rw[if_neg (by rw[HBZ.out];simp),if_neg (by rw[HO2.out];decide)])) HRl.out)
         have hnd:=zD (zN (w:=[44]) HL.out (s:=(zG C.L .prop s').2) hahi).adv;have hnl:=hnd.out.le;go_wp2_with fail;refine F13.kN (zAE F13.P [44]) fun w14 F14=>?_;go_wp2_with fail
         go_roundg (C.L.length - (zM C.L [44] (zG C.L .prop s').2).k)
         case measure=>omega
         case rel=>exact⟨_,_,A7,n+1,cp7,yAD _,by omega,by omega,HQR.out,F14.pk [(w1.heap.size),X] [0,1,2] (by simp) (by decide) rfl (by simp) (by simp)⟩
     · have HBD:=zD (show((zG C.L .prop s').2.bad==0)=false by rw[yA];exact hb);have HBZ:=zD hb;clear hb;go_wp2_with fail;refine F8.kB (zBO F8.P HBD.out) fun w15 F15=>?_;obtain⟨_,_,_,_,_,_,_,_,_⟩:=F15.c 1;obtain⟨_,_,_,_,_,_,_,_,_⟩:=F15.c 0;obtain⟨_,_,_,_,_,_,_,_,_⟩:=F15.f 0;go_wp2_with fail;have F16:=F15.rowK 2 rfl 39;refine zQ (F16.put 0 4) fun V17 F17=>?_;have q:=F17.c 0;exact F17.ret 4 rfl (by simp[results,results222,go_sem,q]) rfl (HRl.out.symm.trans (by
        rw[zt HL.out (p:=.objL acc) ⟨Fl.P.hi,trivial⟩];unfold zF;dsimp only;rw[if_pos HBZ.out])) (fun _ h=>h)
theorem zNE {C:Pc} {s:Ps} {w:World} (hp:Pre C.L (.block) s) (K:KP C (zf C.L (.block) s)) (h:Pa C s w):zk C s w (.block):=by
 refine zA0 hp h fun HL hlen hsk r W X HR hW hX F0=>?_;have HK:=zD K;clear K h hp;go_enter func145,ntmps145;go_upto_region 1 with(fail);clear hW hX;go_wp2_with fail;refine F0.made0 _ fun w1 F1=>?_;have F2:=F1.bt 1 72 rfl;have hn:=zD (zN (w:=[123]) HL.out hsk);have HR0:=zD (show zG C.L (.blockL []) (zM C.L [123] (s))=r from by
  refine Eq.trans ?_ HR.out;unfold zF;rfl)
 go_wp2_with fail;refine F2.kN (zAE F2.P [123]) fun w3 F3=>?_;have HK0:=zD (show(zM C.L [123] (s)).bad=0→s.k < (zM C.L [123] (s)).k from fun hb=>hn.out.lt hsk (by rw[hb];simp));have HNS:=zD hn.out.adv.le;go_wp2_with fail
 go_loopg [7] (2*(C.L.length - (zM C.L [123] (s)).k)+(if(zM C.L [123] (s)).bad=0 then 1 else 0)) (fun gk _ wr=>∃(acc:List Tr) (s':Ps) (A:Option Addr) (n cp:Nat),2*(C.L.length - s'.k)+(if s'.bad=0 then 1 else 0)≤gk∧(s'.bad=0→s.k < s'.k)∧(s'.bad=0→n≤s'.k)∧Hid (zG C.L (.blockL acc) s'=r)∧Fr C (w.heap.size≤·) w [(w1.heap.size),X] [.bx X 72 [.int .i64 0,.string ⟨#[]⟩,.slice none 0 0,.int .i64 0,.int .i64 0,.bool false,.slice none 0 0,.slice none 0 0,.slice none 0 0],.bx (w1.heap.size) 72 [.int .i64 4,.string ⟨#[]⟩,.slice none 0 0,.int .i64 0,.int .i64 0,.bool false,.slice none 0 0,.slice none 0 0,.slice A n cp],.ro (.slice A n cp) acc] s' wr)
 case atStart=>exact⟨[],zM C.L [123] (s),none,0,0,yAD _,HK0.out,fun _=>yAF _,HR0.out,F3.nil.pk [(w1.heap.size),X] [0,2,3] (by simp) (by decide) rfl (by simp) (by simp)⟩
 case round=>
  obtain⟨acc,s',A,n,cp,hgk,hsk',hns,HRl,Fl⟩:=hrel
  by_cases hb:s'.bad=0
  · have HBD:=zD (show(s'.bad==0)=true by rw[hb];rfl);have HBZ:=zD hb;have hskl:=zD (hsk' hb);have hgk2:2*(C.L.length - s'.k)+1≤gk:=by rw[if_pos hb]at hgk;exact hgk
    clear hb hgk hsk';go_wp2_with fail;refine Fl.kB (zBO Fl.P HBD.out) fun w4 F4=>?_
    by_cases hon:onP C.L [125] s'=true
    · have HO:=zD hon;clear hon;go_wp2_with fail;refine F4.kM (zBK F4.P [125] HO.out) fun w5 F5=>?_;obtain⟨_,_,_,_,_,_,_,_,_⟩:=F5.c 1;obtain⟨_,_,_,_,_,_,_,_,_⟩:=F5.c 0;obtain⟨_,_,_,_,_,_,_,_,_⟩:=F5.f 0;go_wp2_with fail;have F6:=F5.rowK 2 rfl 4;refine zQ (F6.put 0 3) fun V7 F7=>?_;have q:=F7.c 0;exact F7.ret 3 rfl (by simp[results,results145,go_sem,q]) rfl (HRl.out.symm.trans (by
       rw[zt HL.out (p:=.blockL acc) ⟨Fl.P.hi,trivial⟩];unfold zF;dsimp only;rw[if_neg (by rw[HBZ.out];simp),if_pos HO.out])) (fun _ h=>h)
    · have HO:=zD (show onP C.L [125] s'=false by simpa using hon);clear hon;go_wp2_with fail;refine F4.kM (zBN F4.P [125] HO.out) fun w8 F8=>?_;have hpost:=zD (zS HL.out (p:=.item) (s:=s') ⟨Fl.P.hi,trivial⟩);have hadv:=hpost.out.adv.le;have hahi:=hpost.out.adv.hi;have hxh:=Fl.P.hi;have hnz:=hns HBZ.out;have CL9:=zD (fun Q=>F8.dr.kR 2 rfl (Q:=Q) (HK.out.more (q:=.item) ⟨F8.dr.P.hi,trivial⟩ F8.dr.P hskl.out));obtain⟨_,_,_,_,_,_,_,_,_⟩:=F8.c 1;have hn9:n≤4097:=by have:=hns HBZ.out;have:=Fl.P.cx.n;omega
      go_wp2_with fail;go_region_law (first | (go_simp;go_at_call 60;(with_reducible refine CL9.out _ fun w9 d9_0 d9_1 d9_2 d9_3 d9_4 d9_5 d9_6 d9_7 d9_8 F9=>?_);obtain⟨_,_,_,_,_,_,_,_,_⟩:=F9.c 1;obtain⟨_,_,_,_,_,_,_,_,_⟩:=(F9.al (.cells #[d9_0,d9_1,d9_2,d9_3,d9_4,d9_5,d9_6,d9_7,d9_8] 72)).c 1) | (refine F9.snocS 2 3 rfl rfl (fun _ h=>h) hn9 rfl _ _ rfl rfl rfl fun A10 cp10 w10 F10=>?_;obtain⟨_,_,_,_,_,_,_,_,_⟩:=F10.c 1;obtain⟨_,_,_,_,_,_,_,_,_⟩:=F10.f 1))
      all_goals
       have F11:=F10.set 1 8 (.slice A10 (n+1) cp10);have HQR:=zD (show zG C.L (.blockL (acc++[(zG C.L .item s').1])) (zG C.L .item s').2=r from Eq.trans (Eq.symm (by
        rw[zt HL.out (p:=.blockL acc) (s:=s') ⟨Fl.P.hi,trivial⟩];unfold zF;dsimp only;rw[if_neg (by rw[HBZ.out];simp),if_neg (by rw[HO.out];decide)])) HRl.out)
       have hsl:=hskl.out;have hms:2*(C.L.length - (zG C.L .item s').2.k)+(if(zG C.L .item s').2.bad=0 then 1 else 0) < gk:=by
        have heat:Eat C.L s' (zG C.L .item s').2:=hpost.out
        by_cases hb:(zG C.L .item s').2.bad=0
        · have:=heat.lt Fl.P.hi (by rw[hb];simp);rw[if_pos hb];omega
        · rw[if_neg hb];omega
       have HNB:(zG C.L .item s').2.bad=0→n+1≤(zG C.L .item s').2.k:=fun hb=>by have:=(show Eat C.L s' (zG C.L .item s').2 from hpost.out).lt Fl.P.hi (by rw[hb];simp);omega
       go_wp2_with fail
       go_roundg (2*(C.L.length - (zG C.L .item s').2.k)+(if(zG C.L .item s').2.bad=0 then 1 else 0))
       case measure=>exact hms
       case rel=>exact⟨_,_,A10,n+1,cp10,yAD _,fun _=>by omega,HNB,HQR.out,F11.pk [(w1.heap.size),X] [0,1,2] (by simp) (by decide) rfl (by simp) (by simp)⟩
  · have HBD:=zD (show(s'.bad==0)=false by rw[yA];exact hb);have HBZ:=zD hb;clear hb hgk hsk';go_wp2_with fail;refine Fl.kB (zBO Fl.P HBD.out) fun w12 F12=>?_;obtain⟨_,_,_,_,_,_,_,_,_⟩:=F12.c 1;obtain⟨_,_,_,_,_,_,_,_,_⟩:=F12.c 0;obtain⟨_,_,_,_,_,_,_,_,_⟩:=F12.f 0;go_wp2_with fail;have F13:=F12.rowK 2 rfl 4;refine zQ (F13.put 0 3) fun V14 F14=>?_;have q:=F14.c 0;exact F14.ret 3 rfl (by simp[results,results145,go_sem,q]) rfl (HRl.out.symm.trans (by
     rw[zt HL.out (p:=.blockL acc) ⟨Fl.P.hi,trivial⟩];unfold zF;dsimp only;rw[if_pos HBZ.out])) (fun _ h=>h)
theorem zIc {C:Pc} {s:Ps} {w:World} (hp:Pre C.L (.program []) s) (K:KP C (zf C.L (.program []) s)) (h:Pa C s w):zk C s w (.program []):=by
 refine zA0 hp h fun HL hlen hsk r W X HR hW hX F0=>?_;have HK:=zD K;clear K h hp;go_enter func34,ntmps34;go_upto_region 1 with(fail);clear hW hX;go_wp2_with fail;refine F0.made0 _ fun w1 F1=>?_;have F2:=F1.bt 1 72 rfl;go_wp2_with fail
 go_loopg [5] (C.L.length - s.k) (fun gk _ wr=>∃(acc:List Tr) (s':Ps) (A:Option Addr) (n cp:Nat),C.L.length - s'.k≤gk∧s.k≤s'.k∧n≤s'.k∧Hid (zG C.L (.program acc) s'=r)∧Fr C (w.heap.size≤·) w [(w1.heap.size),X] [.bx X 72 [.int .i64 0,.string ⟨#[]⟩,.slice none 0 0,.int .i64 0,.int .i64 0,.bool false,.slice none 0 0,.slice none 0 0,.slice none 0 0],.bx (w1.heap.size) 72 [.int .i64 1,.string ⟨#[]⟩,.slice none 0 0,.int .i64 0,.int .i64 0,.bool false,.slice none 0 0,.slice none 0 0,.slice A n cp],.ro (.slice A n cp) acc] s' wr)
 case atStart=>exact⟨[],s,none,0,0,yAD _,yAD _,yAF _,(zt HL.out (p:=.program []) ⟨hsk,trivial⟩).trans HR.out,F2.nil.pk [(w1.heap.size),X] [0,2,3] (by simp) (by decide) rfl (by simp) (by simp)⟩
 case round=>
  obtain⟨acc,s',A,n,cp,hgk,hsk',hns,HRl,Fl⟩:=hrel;have hf0:=zUY;obtain⟨⟨kd,tx,st,nk,nn,mg,ps,nl⟩,HT⟩:=zU C.L (s').k;go_wp2_with fail;refine Fl.kT (zp Fl.P HT.out) fun w3 As Am c1 c2 F3=>?_
  by_cases hk:kd=0
  · have e0:((kd:Int) !=0)=false:=by rw[bne_eq_false_iff_eq];omega
    have HK0:=zD hk;clear hk;obtain⟨_,_,_,_,_,_,_,_,_⟩:=F3.c 1;obtain⟨_,_,_,_,_,_,_,_,_⟩:=F3.c 0;obtain⟨_,_,_,_,_,_,_,_,_⟩:=F3.f 0;go_wp2_with fail;have F4:=F3.rowK 2 rfl 1;refine zQ (F4.put 0 4) fun V5 F5=>?_;have q:=F5.c 0;exact F5.ret 4 rfl (by simp[results,results34,go_sem,q]) rfl (HRl.out.symm.trans (by
     rw[zt HL.out (p:=.program acc) ⟨Fl.P.hi,trivial⟩];unfold zF;dsimp only;rw[HT.out,if_pos HK0.out])) (fun _ h=>h)
  · have e0:((kd:Int) !=0)=true:=by rw[bne_iff_ne];omega
    have HK0:=zD hk;clear hk;have hlt:=zD (HL.out.lt (s:=s') Fl.P.hi (by rw[HT.out];exact HK0.out));have hpost:=zD (zS HL.out (p:=.item) (s:=s') ⟨Fl.P.hi,trivial⟩);have hadv:=(show Eat C.L s' (zG C.L .item s').2 from hpost.out).more hlt.out;have hahi:=hpost.out.adv.hi;have hxh:=Fl.P.hi;have CL6:=zD (fun Q=>F3.dr.kR 2 rfl (Q:=Q) (HK.out.rank (q:=.item) ⟨F3.dr.P.hi,trivial⟩ F3.dr.P hsk' (by simp[zn])));obtain⟨_,_,_,_,_,_,_,_,_⟩:=F3.c 1;have hn6:n≤4097:=by have:=Fl.P.cx.n;omega
    go_wp2_with fail;go_region_law (first | (go_simp;go_at_call 60;(with_reducible refine CL6.out _ fun w6 d6_0 d6_1 d6_2 d6_3 d6_4 d6_5 d6_6 d6_7 d6_8 F6=>?_);obtain⟨_,_,_,_,_,_,_,_,_⟩:=F6.c 1;obtain⟨_,_,_,_,_,_,_,_,_⟩:=(F6.al (.cells #[d6_0,d6_1,d6_2,d6_3,d6_4,d6_5,d6_6,d6_7,d6_8] 72)).c 1) | (refine F6.snocS 2 4 rfl rfl (fun _ h=>h) hn6 rfl _ _ rfl rfl rfl fun A7 cp7 w7 F7=>?_;obtain⟨_,_,_,_,_,_,_,_,_⟩:=F7.c 1;obtain⟨_,_,_,_,_,_,_,_,_⟩:=F7.f 1))
    all_goals
     have F8:=F7.set 1 8 (.slice A7 (n+1) cp7);have HQR:=zD (show zG C.L (.program (acc++[(zG C.L .item s').1])) (zG C.L .item s').2=r from Eq.trans (Eq.symm (by
      rw[zt HL.out (p:=.program acc) (s:=s') ⟨Fl.P.hi,trivial⟩];unfold zF;dsimp only;rw[HT.out,if_neg HK0.out])) HRl.out)
     go_wp2_with fail
     go_roundg (C.L.length - (zG C.L .item s').2.k)
     case measure=>omega
     case rel=>exact⟨_,_,A7,n+1,cp7,yAD _,by omega,by omega,HQR.out,F8.pk [(w1.heap.size),X] [0,1,2] (by simp) (by decide) rfl (by simp) (by simp)⟩
theorem zP2 {C:Pc} {s:Ps} {w:World} (hp:Pre C.L .params s) (_K:KP C (zf C.L .params s)) (h:Pa C s w):zk C s w .params:=by
 show Calls prog 144 #[.pointer (some ⟨C.g,0,none⟩)] w (LstQ C (zG C.L .params s) w);have HL:=zD h.cx.lst;have hlen:C.N≤4097:=h.cx.n4;have hNn:=zD h.cx.n;have hgw:=h.lt;have hsk:=hp.1;have HPRE:=zD hp;have HP:=zD h;obtain⟨r,hr⟩:∃r,zG C.L .params s=r:=⟨_,rfl⟩;rw[hr];have HR:=zD hr;clear hr h _K hp;have hn0:=zD (zN (w:=[40]) HL.out hsk)
 by_cases hon:onP C.L [41] (zM C.L [40] s)=true
 · have HO:=zD hon;clear hon;go_enter func144,ntmps144;go_wp2_with fail;refine(zAE HP.out [40]).mono ?_;rintro ev0 w0 ⟨rfl,hp0,hg0⟩;have HPn:=zD hp0;have HGn:=zD hg0;clear hp0 hg0;go_wp2_with fail;refine(zAp HPn.out [41] HO.out).mono ?_;rintro ev w1 ⟨rfl,hp1,hg1⟩;have HP1:=zD (show Pa C (zB (zM C.L [40] s)) w1 from hp1);have HG1:=zD (zE HGn.out hg1);clear hp1 hg1;go_wp2_with fail;go_ret;refine LstQ.mk (l:=[]) (HR.out.symm.trans (by
    rw[zt HL.out HPRE.out];unfold zF;dsimp only;rw[if_pos HO.out])) (RowP.nil _ _) HP1.out HG1.out
 · have HO:=zD (show onP C.L [41] (zM C.L [40] s)=false by simpa using hon);have HR0:=zD (show zG C.L (.paramL []) (zM C.L [40] s)=r from by
    refine Eq.trans ?_ HR.out;rw[zt HL.out (p:=.params) HPRE.out];unfold zF;dsimp only;rw[if_neg hon])
   clear hon;go_enter func144,ntmps144;go_wp2_with fail;refine(zAE HP.out [40]).mono ?_;rintro ev0 w0 ⟨rfl,hp0,hg0⟩;have HPn:=zD hp0;have HGn:=zD hg0;clear hp0 hg0;go_wp2_with fail;refine(zAp HPn.out [41] HO.out).mono ?_;rintro ev w1 ⟨rfl,hp1,hg1⟩;have HP1:=zD (show Pa C (zM C.L [40] s) w1 from hp1);have HG1:=zD (zE HGn.out hg1);clear hp1 hg1;go_wp2_with fail
   go_loopg [3] (C.L.length - (zM C.L [40] s).k) (fun gk v5 wr=>∃(acc:List Tr) (s':Ps) (A:Option Addr) (n cp:Nat),v5=.slice A n cp∧C.L.length - s'.k≤gk∧s.k≤s'.k∧n≤s'.k∧Hid (zG C.L (.paramL acc) s'=r)∧Hid (Pa C s' wr)∧Hid (RowP wr (w.heap.size≤·) (.slice A n cp) acc)∧Hid (w.grownBy wr (some C.g)))
   case atStart=>exact⟨[],zM C.L [40] s,none,0,0,rfl,yAD _,hn0.out.adv.le,yAF _,HR0.out,HP1.out,RowP.nil _ _,HG1.out⟩
   case round=>
    clear HP1 HG1 HR0;obtain⟨acc,s',A,n,cp,rfl,hgk,hsk',hns,HRl,HPl,HWl,HGl⟩:=hrel;go_wp2_with fail;refine(zDU HPl.out).mono ?_;rintro ev1 w1' ⟨rfl,hp1,hg1⟩;have hgs:=HGl.out.size;have HP1:=zD hp1;have HW1:=zD (HWl.out.keep hg1 (.box HPl.out.box (by decide) (by decide) (by omega)));have HG1:=zD (zE HGl.out hg1);have hs1:=hg1.size;clear hp1 hg1;have hpost:=zD (zAD HL.out HPl.out.hi);have hadv:=hpost.out.adv.le;have hahi:=hpost.out.adv.hi;have hNN:=hNn.out;obtain⟨nm,hnm⟩:∃e,zW C.L s'=e:=⟨_,rfl⟩;rw[hnm]at HP1 hpost hadv hahi;simp only[hnm];have HNM:=zD hnm;clear hnm;go_wp2_with fail;refine(zCf 20 ⟨nm.1.toArray⟩ none 0 0).mono ?_;rintro ev2 w2 ⟨rfl,hg2⟩;have HP2:=zD (HP1.out.new hg2);have HW2:=zD (HW1.out.new hg2);have HG2:=zD (zE HG1.out (zAP hg2 _));have hs2:=hg2.size;have hb2:=zD (HW1.out.lt);have HT2:=zD (show TrC w2 (fun b=>w1'.heap.size≤b) (trN 20 nm.1 []) [.int .i64 20,.string ⟨nm.1.toArray⟩,.slice none 0 0,.int .i64 0,.int .i64 0,.bool false,.slice none 0 0,.slice none 0 0,.slice none 0 0]from(RowP.nil w2 _).treeN);clear hg2;have HN:=zD HWl.out.bounds.1;go_wp2_with (at_builtin;refine zDm (Px:=fun b=>w.heap.size≤b) (Q:=fun b=>w1'.heap.size≤b) rfl _ _ rfl rfl HN.out HW2.out HT2.out (fun b (hb:w1'.heap.size≤b) _=>(by omega:w.heap.size≤b)) (fun b hb h2=>(by have:=hb2.out b hb;omega)) (by show w.heap.size≤w2.heap.size+1;omega) (by omega) rfl ?_;intro A3 cp3 w3 hrow hgr);have HW3:=zD hrow;have hwa:=HW2.out.new (zI w2 (.cells #[.int .i64 20,.string ⟨nm.1.toArray⟩,.slice none 0 0,.int .i64 0,.int .i64 0,.bool false,.slice none 0 0,.slice none 0 0,.slice none 0 0] 72) none);have HP3:=zD ((HP2.out.alloc (.cells #[.int .i64 20,.string ⟨nm.1.toArray⟩,.slice none 0 0,.int .i64 0,.int .i64 0,.bool false,.slice none 0 0,.slice none 0 0,.slice none 0 0] 72)).row hwa (fun b (hb:w.heap.size≤b)=>(by omega:C.g < b)) hgr);have HG3:=zD (zGE (zE HG2.out (zI _ _ _)) hwa (fun b hb=>hb) hgr);have hs3:=HG3.out.size;clear hrow hgr hwa HW2 HP2 HG2 HT2
    by_cases hb:nm.2.bad=0
    · have HBD:=zD (show(nm.2.bad==0)=true by rw[hb];rfl);have HBZ:=zD hb;have hlt:=hpost.out.lt HPl.out.hi (by rw[hb];simp);clear hb;refine(zBO HP3.out HBD.out).mono ?_;rintro ev4 w4 ⟨rfl,hp4,hg4⟩;have HP4:=zD hp4;have HW4:=zD (HW3.out.new hg4);have HG4:=zD (zE HG3.out (zAP hg4 _));clear hp4 hg4
      by_cases hon:onP C.L [41] nm.2=true
      · have HO2:=zD hon;clear hon;go_wp2_with fail;refine(zAp HP4.out [41] HO2.out).mono ?_;rintro ev5 w5 ⟨rfl,hp5,hg5⟩;have HP5:=zD (show Pa C (zB nm.2) w5 from hp5);have HW5:=zD (HW4.out.keep hg5 (.box HP4.out.box (by decide) (by decide) (by omega)));have HG5:=zD (zE HG4.out hg5);clear hp5 hg5;go_wp2_with fail;go_ret;refine LstQ.mk (l:=acc++[trN 20 nm.1 []]) (HRl.out.symm.trans (by
         rw[zt HL.out ⟨HPl.out.hi,trivial⟩];unfold zF;dsimp only;rw[HNM.out,if_neg (by rw[HBZ.out];simp),if_pos HO2.out])) HW5.out HP5.out HG5.out
      · have HO2:=zD (show onP C.L [41] nm.2=false by simpa using hon);clear hon;go_wp2_with fail;refine(zAp HP4.out [41] HO2.out).mono ?_;rintro ev5 w5 ⟨rfl,hp5,hg5⟩;have HP5:=zD (show Pa C nm.2 w5 from hp5);have HW5:=zD (HW4.out.keep hg5 (.box HP4.out.box (by decide) (by decide) (by omega)));have HG5:=zD (zE HG4.out hg5);clear hp5 hg5;go_wp2_with fail;refine(zAE HP5.out [44]).mono ?_;rintro ev6 w6 ⟨rfl,hp6,hg6⟩;have HP6:=zD hp6;have HW6:=zD (HW5.out.keep hg6 (.box HP5.out.box (by decide) (by decide) (by omega)));have HG6:=zD (zE HG5.out hg6);clear hp6 hg6;have HQR:=zD (show zG C.L (.paramL (acc++[trN 20 nm.1 []])) (zM C.L [44] nm.2)=r from Eq.trans (Eq.symm (by
         rw[zt HL.out (p:=.paramL acc) (s:=s') ⟨HPl.out.hi,trivial⟩];unfold zF;dsimp only;rw[HNM.out,if_neg (by rw[HBZ.out];simp),if_neg (by rw[HO2.out];decide)])) HRl.out)
        have hnd:=zD (zN (w:=[44]) HL.out (s:=nm.2) hahi).adv;have hnl:=hnd.out.le;go_wp2_with fail
        go_roundg (C.L.length - (zM C.L [44] nm.2).k)
        case measure=>omega
        case rel=>exact⟨_,_,A3,n+1,cp3,rfl,yAD _,by omega,by omega,HQR.out,HP6.out,HW6.out,HG6.out⟩
    · have HBD:=zD (show(nm.2.bad==0)=false by rw[yA];exact hb);have HBZ:=zD hb;clear hb;refine(zBO HP3.out HBD.out).mono ?_;rintro ev4 w4 ⟨rfl,hp4,hg4⟩;have HP4:=zD hp4;have HW4:=zD (HW3.out.new hg4);have HG4:=zD (zE HG3.out (zAP hg4 _));clear hp4 hg4;go_wp2_with fail;go_ret;refine LstQ.mk (l:=acc++[trN 20 nm.1 []]) (HRl.out.symm.trans (by
       rw[zt HL.out ⟨HPl.out.hi,trivial⟩];unfold zF;dsimp only;rw[HNM.out,if_pos HBZ.out])) HW4.out HP4.out HG4.out
theorem zSs {L:List Tok} (hL:Lst L):∀(f:Nat) (acc:List Tr) (s:Ps),s.k≤L.length - 1→(zCL L f (.paramL acc) s).1.subs.length≤acc.length+(L.length - s.k):=by
 intro f
 induction f with
 | zero=>intro acc s _;exact yAF _
 | succ f ih=>
  intro acc s hs;have hp:=hL.pos;have he:=zAD hL hs;show(zF L (zCL L f) (.paramL acc) s).1.subs.length≤_;unfold zF;dsimp only;split
  · show(acc++[_]).length≤_;rw[List.length_append,List.length_singleton];omega
  · rename_i hb
    have hlt:=he.lt hs hb;split
    · show(acc++[_]).length≤_;rw[List.length_append,List.length_singleton];omega
    · have hn:=(zN (w:=[44]) hL he.adv.hi).adv;have:=ih (acc++[trN 20 (zW L s).1 []]) (zM L [44] (zW L s).2) hn.hi;rw[List.length_append,List.length_singleton]at this;have h1:=hn.le;have h2:=hn.hi;omega
theorem zSt {L:List Tok} (hL:Lst L) (w:List UInt8):∀(f:Nat) (acc:List Tr) (s:Ps),s.k≤L.length - 1→(zCL L f (.listL w acc) s).1.subs.length≤acc.length+(L.length - s.k):=by
 intro f
 induction f with
 | zero=>intro acc s _;exact yAF _
 | succ f ih=>
  intro acc s hs;have hp:=hL.pos;have he:Eat L s (zCL L f .assign s).2:=zCB hL f .assign s ⟨hs,trivial⟩;show(zF L (zCL L f) (.listL w acc) s).1.subs.length≤_;unfold zF;dsimp only;split
  · show(acc++[_]).length≤_;rw[List.length_append,List.length_singleton];omega
  · rename_i hb
    have hlt:=he.lt hs hb;split
    · show(acc++[_]).length≤_;rw[List.length_append,List.length_singleton];omega
    · have hn:=(zN (w:=[44]) hL he.adv.hi).adv;have:=ih (acc++[(zCL L f .assign s).1]) (zM L [44] (zCL L f .assign s).2) hn.hi;rw[List.length_append,List.length_singleton]at this;have h1:=hn.le;have h2:=hn.hi;omega
theorem zEx {L:List Tok} (hL:Lst L) {s:Ps} (hs:s.k≤L.length - 1):(zG L .params s).1.subs.length≤L.length:=by
 rw[zt hL ⟨hs,trivial⟩];unfold zF;dsimp only;split
 · exact yAF _
 · have h:=zSs hL (zf L (.paramL []) (zM L [40] s)+1) [] (zM L [40] s) (zN hL hs).adv.hi;have h2:(zG L (.paramL []) (zM L [40] s)).1.subs.length≤0+(L.length - (zM L [40] s).k):=h;omega
theorem zNF {L:List Tok} (hL:Lst L) {w:List UInt8} {s:Ps} (hs:s.k≤L.length - 1):(zG L (.list w) s).1.subs.length≤L.length:=by
 rw[zt hL ⟨hs,trivial⟩];unfold zF;dsimp only;split
 · exact yAF _
 · have h:=zSt hL w (zf L (.listL w []) s+1) [] s hs;have h2:(zG L (.listL w []) s).1.subs.length≤0+(L.length - s.k):=h;omega
theorem zHe {L:List Tok} (hL:Lst L) {s:Ps} (hs:s.k < L.length - 1):(zG L .args s).1.subs.length≤L.length:=by
 rw[zt hL ⟨Nat.le_of_lt hs,hs⟩];unfold zF;dsimp only;exact zNF hL (zN hL (Nat.le_of_lt hs)).adv.hi
theorem zP3 {C:Pc} {k:Int} {n:List UInt8} {s:Ps} {w:World} (hp:Pre C.L (.func k n) s) (K:KP C (zf C.L (.func k n) s)) (h:Pa C s w):zk C s w (.func k n):=by
 refine zA0 hp h fun HL hlen hsk r W X HR hW hX F0=>?_;have HK:=zD K;clear K h hp;go_enter func97,ntmps97;go_upto_region 1 with(fail);clear hW hX;have hpl:=zD (zEx HL.out (s:=s) hsk);have hNN:=zD F0.P.cx.n;go_wp2_with fail;refine F0.kL (HK.out.rank (q:=.params) ⟨F0.P.hi,trivial⟩ F0.P (yAD _) (by simp[zn])) fun w1 A n0 cp hl1 _ hc1 F1=>?_;go_wp2_with fail;refine F1.kQ (zCf _ ⟨(n).toArray⟩ _ _ _) fun w2 F2=>?_;have F3:=F2.rowN 1 rfl k (n);have F4:=F3.bt 2 72 rfl;have hpost:=zD (zS HL.out (p:=.params) (s:=s) ⟨hsk,trivial⟩);have heat:=zD (show Eat C.L s (zG C.L (.params) (s)).2 from hpost.out);have CL5:=zD (fun Q=>F4.dr.kR 1 rfl (Q:=Q) (HK.out.rank (q:=.block) ⟨F4.dr.P.hi,trivial⟩ F4.dr.P heat.out.adv.le (by simp[zn])));obtain⟨_,_,_,_,_,_,_,_,_⟩:=F4.c 3;have hn5:n0≤4097:=by have:=hpl.out;have:=hNN.out;have:=hl1.out;omega
 go_upto_region 2 with(fail);go_region_law (first | (go_simp;go_at_call 145;(with_reducible refine CL5.out _ fun w5 d5_0 d5_1 d5_2 d5_3 d5_4 d5_5 d5_6 d5_7 d5_8 F5=>?_);obtain⟨_,_,_,_,_,_,_,_,_⟩:=F5.c 3;obtain⟨_,_,_,_,_,_,_,_,_⟩:=(F5.al (.cells #[d5_0,d5_1,d5_2,d5_3,d5_4,d5_5,d5_6,d5_7,d5_8] 72)).c 3) | (refine F5.snocS 1 4 rfl rfl (fun _ h=>h) hn5 rfl _ _ rfl rfl rfl fun A6 cp6 w6 F6=>?_;obtain⟨_,_,_,_,_,_,_,_,_⟩:=F6.c 3;obtain⟨_,_,_,_,_,_,_,_,_⟩:=F6.f 3))
 all_goals
  have F7:=F6.set 3 8 (.slice A6 (n0+1) cp6);obtain⟨_,_,_,_,_,_,_,_,_⟩:=F7.c 3;obtain⟨_,_,_,_,_,_,_,_,_⟩:=F7.c 0;obtain⟨_,_,_,_,_,_,_,_,_⟩:=F7.f 0;go_wp2_with fail;have F8:=F7.rowN 1 rfl k (n);refine zQ (F8.put 0 5) fun V9 F9=>?_;have q:=F9.c 0;exact F9.ret 5 rfl (by simp[results,results97,go_sem,q]) rfl (HR.out.symm.trans (by
   unfold zF;rfl)) (fun _ h=>h)
end Go.Proofs.YtlohaclgbfhijaaGreatDoor
