/- Joined for the claim ParseEnds: the parser, the lexer and the trees as they are walked, made short by a program of mine. -/
import Derived.Deep.RegionLaw
import Derived.Deep.CutBlock
import Derived.Deep.DeepCutAuto
import Derived.Test.YtlohaclgbfhijaaGreatDoorS18
set_option maxHeartbeats 16000000
set_option maxRecDepth 1000000
namespace Go.Proofs.YtlohaclgbfhijaaGreatDoor
open Go.RowKit
theorem zPG {C:Pc} {s:Ps} {w:World} (hp:Pre C.L (.tries) s) (K:KP C (zh C.L (.tries) s)) (h:Pa C s w) (hc:onP C.L [99,97,116,99,104] (zI C.L .block (stepP s)).2=true) (hq:onP C.L [40] (stepP (zI C.L .block (stepP s)).2)=false):zk C s w (.tries):=by
 refine zAl hp h fun HL hlen hsk r W X HR hW hX F0=>?_
 have HK:=zD K
 have hlt:=zD hp.2
 clear K h hp
 go_enter Tryz.func182,Tryz.ntmps182
 go_upto_region 1 with(fail)
 clear hW hX
 obtain⟨xk1,fk1,bk1⟩:=F0.k1
 have F1:=F0.step hlt.out
 have hpb:=zD (zV HL.out (p:=.block) (s:=stepP s) ⟨hlt.out,trivial⟩).adv
 go_wp2_with fail
 refine F1.kX (HK.out.more (q:=.block) ⟨F1.P.hi,trivial⟩ F1.P (Nat.lt_succ_self s.k)) fun rq2 HRQ2 w2 d2_0 d2_1 d2_2 d2_3 d2_4 d2_5 d2_6 d2_7 d2_8 F2=>?_
 obtain⟨_,_,_,_,_,_,_,_,_⟩:=F2.sto 1
 obtain⟨sb,hsb⟩:∃x,rq2.2=x:=⟨_,rfl⟩
 have HBQ:=zD (show zI C.L .block (stepP s)=(rq2.1,sb) by rw[HRQ2.out,←hsb])
 have F3:=F2
 rw[hsb]at F3
 have HAb:=zD (show Adv C.L (stepP s) sb by have:=hpb.out;rw[HBQ.out]at this;exact this)
 have hk1:s.k < sb.k:=by have:=HAb.out.le;have:(stepP s).k=s.k+1:=rfl;omega
 have HC:=zD (show onP C.L [99,97,116,99,104] sb=true by rw[HBQ.out]at hc;exact hc)
 clear hc hsb
 have HQ:=zD (show onP C.L [40] (stepP sb)=false by rw[HBQ.out]at hq;exact hq)
 clear hq
 go_wp2_with fail
 refine F3.made0 _ fun w4 F4=>?_
 go_wp2_with fail
 refine F4.made0 _ fun w5 F5=>?_
 have F6:=F5.box3 1 2 3
 go_wp2_with fail
 refine F6.kQ (zAZ _ _ _ _) fun w7 F7=>?_
 have F8:=F7.box [.int .i64 16,.string ⟨#[]⟩,.slice none 0 0,.int .i64 0,.int .i64 0,.bool false,.slice none 0 0,.slice none 0 0,.slice (some ⟨w5.heap.size,0,none⟩) 3 3] 72 rfl (by decide) (by decide)
 go_wp2_with fail
 refine F8.kB (zAR F8.P [99,97,116,99,104] HC.out) fun w9 F9=>?_
 have hlc:=zD (HL.out.on F9.P.hi HC.out)
 have hst:(stepP sb).k=sb.k+1:=rfl
 go_wp2_with fail
 refine F9.kM (zA6 F9.P [99,97,116,99,104] HC.out) fun w10 F10=>?_
 go_wp2_with fail
 refine F10.made0 _ fun w11 F11=>?_
 have F12:=F11.bt 6 72 rfl
 go_wp2_with fail
 refine F12.kM (zA9 F12.P [40] HQ.out) fun w13 F13=>?_
 have hk2:s.k < (stepP (sb)).k:=by omega
 have F14:=F13.nil
 have CLq:=zD (fun Q=>F14.dr.kRX 8 rfl (Q:=Q) (HK.out.more (q:=.block) ⟨F14.dr.P.hi,trivial⟩ F14.dr.P hk2))
 obtain⟨_,_,_,_,_,_,_,_,_⟩:=F14.c 7
 go_upto_region 10 with(fail)
 go_cut [39] (fun _ wx=>∃(rq:Tr×Ps) (Ac:Option Addr) (cpc lo:Nat),Hid (zI C.L .block (stepP (sb))=rq)∧Fr C (w.heap.size≤·) w [(w11.heap.size),(w7.heap.size),(w5.heap.size),X] [.bx X 72 [.int .i64 0,.string ⟨#[]⟩,.slice none 0 0,.int .i64 0,.int .i64 0,.bool false,.slice none 0 0,.slice none 0 0,.slice none 0 0],.bx (w5.heap.size) 72 [d2_0,d2_1,d2_2,d2_3,d2_4,d2_5,d2_6,d2_7,d2_8,.int .i64 11,.string ⟨#[]⟩,.slice none 0 0,.int .i64 0,.int .i64 0,.bool false,.slice none 0 0,.slice none 0 0,.slice none 0 0,.int .i64 11,.string ⟨#[]⟩,.slice none 0 0,.int .i64 0,.int .i64 0,.bool false,.slice none 0 0,.slice none 0 0,.slice none 0 0],.bx (w7.heap.size) 72 [.int .i64 16,.string ⟨#[]⟩,.slice none 0 0,.int .i64 0,.int .i64 0,.bool false,.slice none 0 0,.slice none 0 0,.slice (some ⟨w5.heap.size,0,none⟩) 3 3],.bx (w11.heap.size) 72 [.int .i64 17,.string ⟨([]).toArray⟩,.slice none 0 0,.int .i64 0,.int .i64 0,.bool false,.slice none 0 0,.slice none 0 0,.slice Ac 1 cpc],.tr (rq2.1) [d2_0,d2_1,d2_2,d2_3,d2_4,d2_5,d2_6,d2_7,d2_8],.tr (trK 11 []) [.int .i64 11,.string ⟨#[]⟩,.slice none 0 0,.int .i64 0,.int .i64 0,.bool false,.slice none 0 0,.slice none 0 0,.slice none 0 0],.tn lo (trN 17 ([]) [rq.1]) [.int .i64 17,.string ⟨([]).toArray⟩,.slice none 0 0,.int .i64 0,.int .i64 0,.bool false,.slice none 0 0,.slice none 0 0,.slice Ac 1 cpc]] rq.2 wx)
 case first=>
  go_region_law (first | (go_simp;go_at_call 145;(with_reducible refine CLq.out _ fun rq HRQ wa d0 d1 d2 d3 d4 d5 d6 d7 d8 Fa=>?_);obtain⟨_,_,_,_,_,_,_,_,_⟩:=Fa.c 7;obtain⟨_,_,_,_,_,_,_,_,_⟩:=(Fa.al (.cells #[d0,d1,d2,d3,d4,d5,d6,d7,d8] 72)).c 7) | (refine Fa.snoc0 9 17 ([]) rfl rfl _ _ rfl rfl rfl fun A3 cp3 wb Fb=>?_;obtain⟨_,_,_,_,_,_,_,_,_⟩:=Fb.c 7;obtain⟨_,_,_,_,_,_,_,_,_⟩:=Fb.f 7))
  all_goals
   have Fc:=Fb.set 7 8 (.slice A3 1 cp3)
   go_wp2_with fail
   go_meet
   exact⟨rq,A3,cp3,_,HRQ,Fc.pk4 [(w11.heap.size),(w7.heap.size),(w5.heap.size),X] [0,4,5,7,1,3,10] (by simp) (by decide) rfl (by simp) (by simp) (by simp) (by simp)⟩
 case rest=>
  obtain⟨rq,Ac,cpc,lo,HRQ,Fh0⟩:=hcut
  obtain⟨wh,rfl⟩:∃x,x=wc:=⟨_,rfl⟩
  have Fh:=Fh0.wide 6 rfl
  have HAD:=zD (show Adv C.L (stepP (sb)) rq.2 by have:=(zV HL.out (p:=.block) (s:=stepP (sb)) ⟨F14.P.hi,trivial⟩).adv;rw[HRQ.out]at this;exact this)
  have hka:s.k < rq.2.k:=by have:=HAD.out.le;omega
  obtain⟨_,_,_,_,_,_,_,_,_⟩:=Fh.c 3
  obtain⟨_,_,_,_,_,_,_,_,_⟩:=Fh.c 2
  obtain⟨_,_,_,_,_,_,_,_,_⟩:=Fh.m1 1
  obtain⟨_,_,_,_,_,_,_,_,_⟩:=Fh.g1 1
  go_upto_region 12 with(fail)
  refine zDB (Fh.put1 1 6) fun wi Fi=>?_
  obtain⟨bf,hbf⟩:∃x,onP C.L [102,105,110,97,108,108,121] rq.2=x:=⟨_,rfl⟩
  have HF:=zD hbf
  clear hbf
  cases bf with
  | false=>
   go_wp2_with fail
   refine Fi.kM (zA9 Fi.P [102,105,110,97,108,108,121] HF.out) fun w15 F15=>?_
   obtain⟨_,_,_,_,_,_,_,_,_⟩:=F15.c 2
   obtain⟨_,_,_,_,_,_,_,_,_⟩:=F15.c 0
   obtain⟨_,_,_,_,_,_,_,_,_⟩:=F15.f 0
   go_wp2_with fail
   refine zP (F15.put 0 2) fun V16 F16=>?_
   have q:=F16.c 0
   exact F16.ret3 (kk:=16) 1 4 6 5 rfl rfl rfl rfl (by simp[results,Tryz.results182,go_sem,q]) rfl (HR.out.symm.trans (by
    unfold zE
    dsimp only
    simp[HBQ.out,HC.out,HQ.out,HRQ.out,HF.out])) (fun _ h=>h)
  | true=>
   have hlf:=zD (HL.out.on Fi.P.hi HF.out)
   have hsu:(stepP rq.2).k=rq.2.k+1:=rfl
   go_wp2_with fail
   refine Fi.kM (zA6 Fi.P [102,105,110,97,108,108,121] HF.out) fun w17 F17=>?_
   have CLF:=zD (fun Q=>F17.dr.kX (Q:=Q) (HK.out.more (q:=.block) ⟨F17.dr.P.hi,trivial⟩ F17.dr.P (by omega)))
   obtain⟨_,_,_,_,_,_,_,_,_⟩:=F17.c 2
   obtain⟨_,_,_,_,_,_,_,_,_⟩:=F17.m2 1
   obtain⟨_,_,_,_,_,_,_,_,_⟩:=F17.g2 1
   go_upto_region 13 with(fail)
   go_cut [52] (fun _ wx=>∃(rf:Tr×Ps) (d0 d1 d2 d3 d4 d5 d6 d7 d8:Value),Hid (zI C.L .block (stepP (rq.2))=rf)∧Fr C (w.heap.size≤·) w [(w7.heap.size),(w5.heap.size),X] [.bx X 72 [.int .i64 0,.string ⟨#[]⟩,.slice none 0 0,.int .i64 0,.int .i64 0,.bool false,.slice none 0 0,.slice none 0 0,.slice none 0 0],.bx (w5.heap.size) 72 [d2_0,d2_1,d2_2,d2_3,d2_4,d2_5,d2_6,d2_7,d2_8,.int .i64 17,.string ⟨([]).toArray⟩,.slice none 0 0,.int .i64 0,.int .i64 0,.bool false,.slice none 0 0,.slice none 0 0,.slice Ac 1 cpc,d0,d1,d2,d3,d4,d5,d6,d7,d8],.bx (w7.heap.size) 72 [.int .i64 16,.string ⟨#[]⟩,.slice none 0 0,.int .i64 0,.int .i64 0,.bool false,.slice none 0 0,.slice none 0 0,.slice (some ⟨w5.heap.size,0,none⟩) 3 3],.tr (rq2.1) [d2_0,d2_1,d2_2,d2_3,d2_4,d2_5,d2_6,d2_7,d2_8],.tr (trN 17 ([]) [rq.1]) [.int .i64 17,.string ⟨([]).toArray⟩,.slice none 0 0,.int .i64 0,.int .i64 0,.bool false,.slice none 0 0,.slice none 0 0,.slice Ac 1 cpc],.tr rf.1 [d0,d1,d2,d3,d4,d5,d6,d7,d8]] rf.2 wx)
   case first=>
    go_region_law (go_simp;go_at_call 145;(with_reducible refine CLF.out _ fun rf HRF w2 d0 d1 d2 d3 d4 d5 d6 d7 d8 F2=>?_);obtain⟨_,_,_,_,_,_,_,_,_⟩:=F2.c 2;obtain⟨_,_,_,_,_,_,_,_,_⟩:=F2.m2 1;obtain⟨_,_,_,_,_,_,_,_,_⟩:=F2.g2 1;obtain⟨_,_,_,_,_,_,_,_,_⟩:=F2.sto 7)
    all_goals
     go_wp2_with fail
     go_meet
     exact⟨rf,d0,d1,d2,d3,d4,d5,d6,d7,d8,HRF,(F2.put2 1 7).pk3 [(w7.heap.size),(w5.heap.size),X] [0,1,2,4,6,7] (by simp) (by decide) rfl (by simp) (by simp) (by simp)⟩
   case rest=>
    obtain⟨rf,d0,d1,d2,d3,d4,d5,d6,d7,d8,HRF,Fz⟩:=hcut
    obtain⟨wz,rfl⟩:∃x,x=wc:=⟨_,rfl⟩
    obtain⟨_,_,_,_,_,_,_,_,_⟩:=Fz.c 2
    obtain⟨_,_,_,_,_,_,_,_,_⟩:=Fz.c 0
    obtain⟨_,_,_,_,_,_,_,_,_⟩:=Fz.f 0
    go_wp2_with fail
    refine zP (Fz.put 0 2) fun V18 F18=>?_
    have q:=F18.c 0
    exact F18.ret3 (kk:=16) 1 3 4 5 rfl rfl rfl rfl (by simp[results,Tryz.results182,go_sem,q]) rfl (HR.out.symm.trans (by
     unfold zE
     dsimp only
     simp[HBQ.out,HC.out,HQ.out,HRQ.out,HF.out,HRF.out])) (fun _ h=>h)
theorem zRL {C:Pc} {s:Ps} {w:World} (hp:Pre C.L (.tries) s) (K:KP C (zh C.L (.tries) s)) (h:Pa C s w) (hc:onP C.L [99,97,116,99,104] (zI C.L .block (stepP s)).2=false) (hf:onP C.L [102,105,110,97,108,108,121] (zI C.L .block (stepP s)).2=true):zk C s w (.tries):=by
 refine zAl hp h fun HL hlen hsk r W X HR hW hX F0=>?_
 have HK:=zD K
 have hlt:=zD hp.2
 clear K h hp
 go_enter Tryz.func182,Tryz.ntmps182
 go_upto_region 1 with(fail)
 clear hW hX
 obtain⟨xk1,fk1,bk1⟩:=F0.k1
 have F1:=F0.step hlt.out
 have hpb:=zD (zV HL.out (p:=.block) (s:=stepP s) ⟨hlt.out,trivial⟩).adv
 go_wp2_with fail
 refine F1.kX (HK.out.more (q:=.block) ⟨F1.P.hi,trivial⟩ F1.P (Nat.lt_succ_self s.k)) fun rq2 HRQ2 w2 d2_0 d2_1 d2_2 d2_3 d2_4 d2_5 d2_6 d2_7 d2_8 F2=>?_
 obtain⟨_,_,_,_,_,_,_,_,_⟩:=F2.sto 1
 obtain⟨sb,hsb⟩:∃x,rq2.2=x:=⟨_,rfl⟩
 have HBQ:=zD (show zI C.L .block (stepP s)=(rq2.1,sb) by rw[HRQ2.out,←hsb])
 have F3:=F2
 rw[hsb]at F3
 have HAb:=zD (show Adv C.L (stepP s) sb by have:=hpb.out;rw[HBQ.out]at this;exact this)
 have hk1:s.k < sb.k:=by have:=HAb.out.le;have:(stepP s).k=s.k+1:=rfl;omega
 have HC:=zD (show onP C.L [99,97,116,99,104] sb=false by rw[HBQ.out]at hc;exact hc)
 clear hc hsb
 have HF:=zD (show onP C.L [102,105,110,97,108,108,121] sb=true by rw[HBQ.out]at hf;exact hf)
 clear hf
 go_wp2_with fail
 refine F3.made0 _ fun w4 F4=>?_
 go_wp2_with fail
 refine F4.made0 _ fun w5 F5=>?_
 have F6:=F5.box3 1 2 3
 go_wp2_with fail
 refine F6.kQ (zAZ _ _ _ _) fun w7 F7=>?_
 have F8:=F7.box [.int .i64 16,.string ⟨#[]⟩,.slice none 0 0,.int .i64 0,.int .i64 0,.bool false,.slice none 0 0,.slice none 0 0,.slice (some ⟨w5.heap.size,0,none⟩) 3 3] 72 rfl (by decide) (by decide)
 go_wp2_with fail
 refine F8.kB (zAR F8.P [99,97,116,99,104] HC.out) fun w9 F9=>?_
 go_wp2_with fail
 refine F9.kB (zAR F9.P [102,105,110,97,108,108,121] HF.out) fun w10 F10=>?_
 go_wp2_with fail
 refine F10.kM (zA9 F10.P [99,97,116,99,104] HC.out) fun w11 F11=>?_
 have hlf:=zD (HL.out.on F11.P.hi HF.out)
 go_wp2_with fail
 refine F11.kM (zA6 F11.P [102,105,110,97,108,108,121] HF.out) fun w12 F12=>?_
 have hst:(stepP sb).k=sb.k+1:=rfl
 have CLF:=zD (fun Q=>F12.dr.kX (Q:=Q) (HK.out.more (q:=.block) ⟨F12.dr.P.hi,trivial⟩ F12.dr.P (by omega)))
 obtain⟨_,_,_,_,_,_,_,_,_⟩:=F12.c 5
 obtain⟨_,_,_,_,_,_,_,_,_⟩:=F12.m2 4
 obtain⟨_,_,_,_,_,_,_,_,_⟩:=F12.g2 4
 go_upto_region 13 with(fail)
 go_cut [52] (fun _ wx=>∃(rf:Tr×Ps) (d0 d1 d2 d3 d4 d5 d6 d7 d8:Value),Hid (zI C.L .block (stepP (sb))=rf)∧Fr C (w.heap.size≤·) w [(w7.heap.size),(w5.heap.size),X] [.bx X 72 [.int .i64 0,.string ⟨#[]⟩,.slice none 0 0,.int .i64 0,.int .i64 0,.bool false,.slice none 0 0,.slice none 0 0,.slice none 0 0],.bx (w5.heap.size) 72 [d2_0,d2_1,d2_2,d2_3,d2_4,d2_5,d2_6,d2_7,d2_8,.int .i64 11,.string ⟨#[]⟩,.slice none 0 0,.int .i64 0,.int .i64 0,.bool false,.slice none 0 0,.slice none 0 0,.slice none 0 0,d0,d1,d2,d3,d4,d5,d6,d7,d8],.bx (w7.heap.size) 72 [.int .i64 16,.string ⟨#[]⟩,.slice none 0 0,.int .i64 0,.int .i64 0,.bool false,.slice none 0 0,.slice none 0 0,.slice (some ⟨w5.heap.size,0,none⟩) 3 3],.tr (rq2.1) [d2_0,d2_1,d2_2,d2_3,d2_4,d2_5,d2_6,d2_7,d2_8],.tr (trK 11 []) [.int .i64 11,.string ⟨#[]⟩,.slice none 0 0,.int .i64 0,.int .i64 0,.bool false,.slice none 0 0,.slice none 0 0,.slice none 0 0],.tr rf.1 [d0,d1,d2,d3,d4,d5,d6,d7,d8]] rf.2 wx)
 case first=>
  go_region_law (go_simp;go_at_call 145;(with_reducible refine CLF.out _ fun rf HRF w2 d0 d1 d2 d3 d4 d5 d6 d7 d8 F2=>?_);obtain⟨_,_,_,_,_,_,_,_,_⟩:=F2.c 5;obtain⟨_,_,_,_,_,_,_,_,_⟩:=F2.m2 4;obtain⟨_,_,_,_,_,_,_,_,_⟩:=F2.g2 4;obtain⟨_,_,_,_,_,_,_,_,_⟩:=F2.sto 6)
  all_goals
   go_wp2_with fail
   go_meet
   exact⟨rf,d0,d1,d2,d3,d4,d5,d6,d7,d8,HRF,(F2.put2 4 6).pk3 [(w7.heap.size),(w5.heap.size),X] [0,4,5,1,2,6] (by simp) (by decide) rfl (by simp) (by simp) (by simp)⟩
 case rest=>
  obtain⟨rf,d0,d1,d2,d3,d4,d5,d6,d7,d8,HRF,Fz⟩:=hcut
  obtain⟨wz,rfl⟩:∃x,x=wc:=⟨_,rfl⟩
  obtain⟨_,_,_,_,_,_,_,_,_⟩:=Fz.c 2
  obtain⟨_,_,_,_,_,_,_,_,_⟩:=Fz.c 0
  obtain⟨_,_,_,_,_,_,_,_,_⟩:=Fz.f 0
  go_wp2_with fail
  refine zP (Fz.put 0 2) fun V13 F13=>?_
  have q:=F13.c 0
  exact F13.ret3 (kk:=16) 1 3 4 5 rfl rfl rfl rfl (by simp[results,Tryz.results182,go_sem,q]) rfl (HR.out.symm.trans (by
   unfold zE
   dsimp only
   simp[HBQ.out,HC.out,HF.out,HRF.out])) (fun _ h=>h)
theorem zPH {C:Pc} {s:Ps} {w:World} (hp:Pre C.L (.tries) s) (K:KP C (zh C.L (.tries) s)) (h:Pa C s w) (hc:onP C.L [99,97,116,99,104] (zI C.L .block (stepP s)).2=false) (hf:onP C.L [102,105,110,97,108,108,121] (zI C.L .block (stepP s)).2=false):zk C s w (.tries):=by
 refine zAl hp h fun HL hlen hsk r W X HR hW hX F0=>?_
 have HK:=zD K
 have hlt:=zD hp.2
 clear K h hp
 go_enter Tryz.func182,Tryz.ntmps182
 go_upto_region 1 with(fail)
 clear hW hX
 obtain⟨xk1,fk1,bk1⟩:=F0.k1
 have F1:=F0.step hlt.out
 have hpb:=zD (zV HL.out (p:=.block) (s:=stepP s) ⟨hlt.out,trivial⟩).adv
 go_wp2_with fail
 refine F1.kX (HK.out.more (q:=.block) ⟨F1.P.hi,trivial⟩ F1.P (Nat.lt_succ_self s.k)) fun rq2 HRQ2 w2 d2_0 d2_1 d2_2 d2_3 d2_4 d2_5 d2_6 d2_7 d2_8 F2=>?_
 obtain⟨_,_,_,_,_,_,_,_,_⟩:=F2.sto 1
 obtain⟨sb,hsb⟩:∃x,rq2.2=x:=⟨_,rfl⟩
 have HBQ:=zD (show zI C.L .block (stepP s)=(rq2.1,sb) by rw[HRQ2.out,←hsb])
 have F3:=F2
 rw[hsb]at F3
 have HAb:=zD (show Adv C.L (stepP s) sb by have:=hpb.out;rw[HBQ.out]at this;exact this)
 have hk1:s.k < sb.k:=by have:=HAb.out.le;have:(stepP s).k=s.k+1:=rfl;omega
 have HC:=zD (show onP C.L [99,97,116,99,104] sb=false by rw[HBQ.out]at hc;exact hc)
 clear hc hsb
 have HF:=zD (show onP C.L [102,105,110,97,108,108,121] sb=false by rw[HBQ.out]at hf;exact hf)
 clear hf
 go_wp2_with fail
 refine F3.made0 _ fun w4 F4=>?_
 go_wp2_with fail
 refine F4.made0 _ fun w5 F5=>?_
 have F6:=F5.box3 1 2 3
 go_wp2_with fail
 refine F6.kQ (zAZ _ _ _ _) fun w7 F7=>?_
 have F8:=F7.box [.int .i64 16,.string ⟨#[]⟩,.slice none 0 0,.int .i64 0,.int .i64 0,.bool false,.slice none 0 0,.slice none 0 0,.slice (some ⟨w5.heap.size,0,none⟩) 3 3] 72 rfl (by decide) (by decide)
 go_wp2_with fail
 refine F8.kB (zAR F8.P [99,97,116,99,104] HC.out) fun w9 F9=>?_
 go_wp2_with fail
 refine F9.kB (zAR F9.P [102,105,110,97,108,108,121] HF.out) fun w10 F10=>?_
 go_wp2_with fail
 refine F10.kN (zx F10.P) fun w11 F11=>?_
 have HE:=zD (show(zM C.L (zc C.L (sb)).k).kind=0 from HL.out.last)
 have HC2:=zD (show onP C.L [99,97,116,99,104] (zc C.L (sb))=false from zH5 HE.out _)
 have HF2:=zD (show onP C.L [102,105,110,97,108,108,121] (zc C.L (sb))=false from zH5 HE.out _)
 go_wp2_with fail
 refine F11.kM (zA9 F11.P [99,97,116,99,104] HC2.out) fun w12 F12=>?_
 go_wp2_with fail
 refine F12.kM (zA9 F12.P [102,105,110,97,108,108,121] HF2.out) fun w13 F13=>?_
 obtain⟨_,_,_,_,_,_,_,_,_⟩:=F13.c 5
 obtain⟨_,_,_,_,_,_,_,_,_⟩:=F13.c 0
 obtain⟨_,_,_,_,_,_,_,_,_⟩:=F13.f 0
 go_wp2_with fail
 refine zP (F13.put 0 5) fun V14 F14=>?_
 have q:=F14.c 0
 exact F14.ret3 (kk:=16) 4 1 2 3 rfl rfl rfl rfl (by simp[results,Tryz.results182,go_sem,q]) rfl (HR.out.symm.trans (by
  unfold zE
  dsimp only
  simp[HBQ.out,HC.out,HF.out,HC2.out,HF2.out])) (fun _ h=>h)
theorem zRM {C:Pc} {s:Ps} {w:World} (hp:Pre C.L .tries s) (K:KP C (zh C.L .tries s)) (h:Pa C s w):zk C s w .tries:=by
 cases hc:onP C.L [99,97,116,99,104] (zI C.L .block (stepP s)).2 with
 | true=>
  cases hq:onP C.L [40] (stepP (zI C.L .block (stepP s)).2)with
  | true=>exact zMy hp K h hc hq
  | false=>exact zPG hp K h hc hq
 | false=>
  cases hf:onP C.L [102,105,110,97,108,108,121] (zI C.L .block (stepP s)).2 with
  | true=>exact zRL hp K h hc hf
  | false=>exact zPH hp K h hc hf
end Go.Proofs.YtlohaclgbfhijaaGreatDoor
