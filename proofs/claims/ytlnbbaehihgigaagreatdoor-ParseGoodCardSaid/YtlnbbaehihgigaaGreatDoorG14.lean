/- Joined for the claim ParseGood: the parser, the lexer and the trees as they are walked, made short by a program of mine. -/
import Derived.Deep.RegionLaw
import Derived.Deep.CutBlock
import Derived.Deep.DeepCutAuto
import Derived.Test.YtlnbbaehihgigaaGreatDoorG13
import Derived.Test.YtlnbbaehihgigaaGreatDoorG11
import Derived.Test.YtlnbbaehihgigaaGreatDoorG10
import Derived.Test.YtlnbbaehihgigaaGreatDoorG02
import Derived.Test.YtlnbbaehihgigaaGreatDoorG01
import Derived.Test.YtlnbbaehihgigaaGreatDoorG12
import Derived.Deep.AppendLies
import Derived.Deep.LoopGhost
import Derived.Test.YtlnbbaehihgigaaGreatDoorG07
import Derived.Test.YtlnbbaehihgigaaGreatDoorG09
set_option maxHeartbeats 16000000
set_option maxRecDepth 1000000
namespace Go.Proofs.YtlnbbaehihgigaaGreatDoor
open Go.Proofs.Tryz
open Go.RowKit
variable {xs cs:List Value} {ts:List Nd} {n base:Nat} {u:List UInt16} {t:Tr} {A:Option Addr} {vs vk:Value} {x:Nd} {k:Int}
theorem zRR {C:Pc} {s:Ps} {w:World} (hp:Pre C.L (.tries) s) (K:KP C (zk C.L (.tries) s)) (h:Pa C s w) (hc:onP C.L [99,97,116,99,104] (zE C.L .block (zB s)).2=true) (hq:onP C.L [40] (zB (zE C.L .block (zB s)).2)=true):zo C s w (.tries):=by
 refine zBP hp h fun G c4 c5 r W X HR hW hX F0=>?_;have HK:=zA K;have a1:=zA hp.2;clear K h hp;go_enter func140,ntmps140;go_upto_region 1 with(fail);clear hW hX;obtain⟨c6,c7,c8⟩:=F0.k1;have F1:=F0.step a1;have b1:=zA (zf G (p:=.block) (s:=zB s) ⟨a1,trivial⟩).adv;go_wp2_with fail;refine F1.kX (HK.out.more (q:=.block) ⟨F1.P.hi,trivial⟩ F1.P (yAF s.k)) fun H b0 w2 g j l m o t u v y A=>?_;have:=A.sto 1;obtain⟨b,N⟩:=jx H.2;have B:=zA (show zE C.L .block (zB s)=(H.1,b) by rw[b0.out,←N]);have F3:=A;rw[N]at F3;have b2:=zA (show Adv C.L (zB s) b by have:=b1.out;rwa[B.out]at this);have c9:s.k < b.k:=by have:=b2.out.le;have:(zB s).k=s.k+1:=rfl;omega
 have O:=zA (show onP C.L [99,97,116,99,104] b=true by rw[B.out]at hc;exact hc);clear hc N;have HQ:=zA (show onP C.L [40] (zB b)=true by rw[B.out]at hq;exact hq);clear hq;go_wp2_with fail;refine F3.made0 _ fun w4 F4=>?_;go_wp2_with fail;refine F4.made0 _ fun z F5=>?_;have F6:=F5.box3 1 2 3;go_wp2_with fail;refine F6.kQ (zA0 _ _ _ _) fun J F7=>?_;have F8:=F7.box [(16:Int),"",(),(0:Int),(0:Int),false,(),(),.slice (some ⟨z.heap.size,0,none⟩) 3 3] 58 rfl jd jd;go_wp2_with fail;refine F8.kB (zAo F8.P [99,97,116,99,104] O) fun w9 F9=>?_;have b3:=zA (G.out.on F9.P.hi O);have d9:(zB b).k=b.k+1:=rfl;go_wp2_with fail;refine F9.kM (zBg F9.P [99,97,116,99,104] O) fun e0 b4=>?_;go_wp2_with fail;refine b4.made0 _ fun R b5=>?_;have a2:=b5.bt 6 58 rfl;have b6:=zA (G.out.on (s:=zB b) b3 HQ);go_wp2_with fail;refine a2.kM (zBg a2.P [40] HQ) fun e1 a3=>?_;have a4:=zA (zAi G (s:=zB (zB (b))) b6).adv;have b7:=zA (zR (w:=[41]) G a4.out.hi).adv;have b8:s.k < (zL C.L [41] ((zc C.L (zB (zB (b)))).2)).k:=by have h1:=a4.out.le;have h2:=b7.out.le;have:(zB (zB (b))).k=b.k+1+1:=rfl;omega
 go_wp2_with fail;refine a3.kS (zER a3.P) fun e2 S=>?_;have:=S.c 7;have:=S.f 7;have a5:=S.set 7 1 (.string ⟨((zc C.L (zB (zB (b)))).1).toArray⟩);go_wp2_with fail;refine a5.kN (zAK a5.P [41]) fun e3 b9=>?_;have D:=b9.nil;have c0:=zA (fun Q=>D.dr.kRX 8 rfl (Q:=Q) (HK.out.more (q:=.block) ⟨D.dr.P.hi,trivial⟩ D.dr.P b8));have:=D.c 7;go_upto_region 10 with(fail)
 go_cut [39] (fun _ wx=>∃(d:Tr×Ps) (T:Option Addr) (E lo:Nat),Hid (zE C.L .block (zL C.L [41] ((zc C.L (zB (zB (b)))).2))=d)∧Fr C (w.heap.size≤·) w [(R.heap.size),(J.heap.size),(z.heap.size),X] [.bx X 58 [(0:Int),"",(),(0:Int),(0:Int),false,(),(),()],.bx (z.heap.size) 58 [g,j,l,m,o,t,u,v,y,(11:Int),"",(),(0:Int),(0:Int),false,(),(),(),(11:Int),"",(),(0:Int),(0:Int),false,(),(),()],.bx (J.heap.size) 58 [(16:Int),"",(),(0:Int),(0:Int),false,(),(),.slice (some ⟨z.heap.size,0,none⟩) 3 3],.bx (R.heap.size) 58 [(17:Int),((zc C.L (zB (zB (b)))).1),(),(0:Int),(0:Int),false,(),(),.slice T 1 E],.tr (H.1) [g,j,l,m,o,t,u,v,y],.tr (trK 11 []) [(11:Int),"",(),(0:Int),(0:Int),false,(),(),()],.tn lo (trN 17 ((zc C.L (zB (zB (b)))).1) [d.1]) [(17:Int),((zc C.L (zB (zB (b)))).1),(),(0:Int),(0:Int),false,(),(),.slice T 1 E]] d.2 wx)
 case first=>
  go_region_law (first | (go_simp;go_at_call 111;(with_reducible refine c0.out _ fun d F wa d0 d1 d2 d3 d4 d5 d6 d7 d8 Fa=>?_);have:=Fa.c 7;have:=(Fa.al (.cells #[d0,d1,d2,d3,d4,d5,d6,d7,d8] 58)).c 7) | (refine Fa.snoc0 9 17 ((zc C.L (zB (zB (b)))).1) rfl rfl _ _ rfl rfl rfl fun A3 a6 wb Fb=>?_;have:=Fb.c 7;have:=Fb.f 7))
  all_goals
   have Fc:=Fb.set 7 8 (.slice A3 1 a6);go_wp2_with fail;go_meet;exact⟨d,A3,a6,_,F,Fc.pk4 [(R.heap.size),(J.heap.size),(z.heap.size),X] [0,4,5,7,1,3,10] js jd rfl js js js js⟩
 case rest=>
  obtain⟨d,T,E,lo,F,c1⟩:=hcut;obtain⟨wh,rfl⟩:∃x,x=wc:=⟨_,rfl⟩;have U:=c1.wide 6 rfl;have c2:=zA (show Adv C.L (zL C.L [41] ((zc C.L (zB (zB (b)))).2)) d.2 by have:=(zf G (p:=.block) (s:=zL C.L [41] ((zc C.L (zB (zB (b)))).2)) ⟨D.P.hi,trivial⟩).adv;rwa[F.out]at this);have e4:s.k < d.2.k:=by have:=c2.out.le;omega
  have:=U.c 3;have:=U.c 2;have:=U.m1 1;have:=U.g1 1;go_upto_region 12 with(fail);refine zEz (U.put1 1 6) fun wi V=>?_;obtain⟨bf,a7⟩:=jx (onP C.L [102,105,110,97,108,108,121] d.2);have Y:=zA a7;clear a7;cases bf with
  | false=>
   go_wp2_with fail;refine V.kM (zBl V.P [102,105,110,97,108,108,121] Y) fun e5 I=>?_;have:=I.c 2;have:=I.c 0;have:=I.f 0;go_wp2_with fail;refine zCn (I.put 0 2) fun e6 a8=>?_;have q:=a8.c 0;exact a8.ret3 (kk:=16) 1 4 6 5 rfl rfl rfl rfl (by simp[results,results140,go_sem,q]) rfl (HR.out.symm.trans (by
    unfold zD;dsimp only;simp[B.out,O.out,HQ.out,F.out,Y.out])) (fun _ h=>h)
  | true=>
   have e7:=zA (G.out.on V.P.hi Y);have e8:(zB d.2).k=d.2.k+1:=rfl;go_wp2_with fail;refine V.kM (zBg V.P [102,105,110,97,108,108,121] Y) fun e9 e=>?_;have c3:=zA (fun Q=>e.dr.kX (Q:=Q) (HK.out.more (q:=.block) ⟨e.dr.P.hi,trivial⟩ e.dr.P jo));have:=e.c 2;have:=e.m2 1;have:=e.g2 1;go_upto_region 13 with(fail)
   go_cut [52] (fun _ wx=>∃(M:Tr×Ps) (d0 d1 d2 d3 d4 d5 d6 d7 d8:Value),Hid (zE C.L .block (zB (d.2))=M)∧Fr C (w.heap.size≤·) w [(J.heap.size),(z.heap.size),X] [.bx X 58 [(0:Int),"",(),(0:Int),(0:Int),false,(),(),()],.bx (z.heap.size) 58 [g,j,l,m,o,t,u,v,y,(17:Int),((zc C.L (zB (zB (b)))).1),(),(0:Int),(0:Int),false,(),(),.slice T 1 E,d0,d1,d2,d3,d4,d5,d6,d7,d8],.bx (J.heap.size) 58 [(16:Int),"",(),(0:Int),(0:Int),false,(),(),.slice (some ⟨z.heap.size,0,none⟩) 3 3],.tr (H.1) [g,j,l,m,o,t,u,v,y],.tr (trN 17 ((zc C.L (zB (zB (b)))).1) [d.1]) [(17:Int),((zc C.L (zB (zB (b)))).1),(),(0:Int),(0:Int),false,(),(),.slice T 1 E],.tr M.1 [d0,d1,d2,d3,d4,d5,d6,d7,d8]] M.2 wx)
   case first=>
    go_region_law (go_simp;go_at_call 111;(with_reducible refine c3.out _ fun M a0 w2 d0 d1 d2 d3 d4 d5 d6 d7 d8 A=>?_);have:=A.c 2;have:=A.m2 1;have:=A.g2 1;have:=A.sto 7)
    all_goals
     go_wp2_with fail;go_meet;exact⟨M,d0,d1,d2,d3,d4,d5,d6,d7,d8,a0,(A.put2 1 7).pk3 [(J.heap.size),(z.heap.size),X] [0,1,2,4,6,7] js jd rfl js js js⟩
   case rest=>
    obtain⟨M,d0,d1,d2,d3,d4,d5,d6,d7,d8,a0,Fz⟩:=hcut;obtain⟨wz,rfl⟩:∃x,x=wc:=⟨_,rfl⟩;have:=Fz.c 2;have:=Fz.c 0;have:=Fz.f 0;go_wp2_with fail;refine zCn (Fz.put 0 2) fun f0 a9=>?_;have q:=a9.c 0;exact a9.ret3 (kk:=16) 1 3 4 5 rfl rfl rfl rfl (by simp[results,results140,go_sem,q]) rfl (HR.out.symm.trans (by
     unfold zD;dsimp only;simp[B.out,O.out,HQ.out,F.out,Y.out,a0.out])) (fun _ h=>h)
theorem zUl {C:Pc} {s:Ps} {w:World} (hp:Pre C.L (.tries) s) (K:KP C (zk C.L (.tries) s)) (h:Pa C s w) (hc:onP C.L [99,97,116,99,104] (zE C.L .block (zB s)).2=true) (hq:onP C.L [40] (zB (zE C.L .block (zB s)).2)=false):zo C s w (.tries):=by
 refine zBP hp h fun Y b7 b8 r W X HR hW hX F0=>?_;have HK:=zA K;have a0:=zA hp.2;clear K h hp;go_enter func140,ntmps140;go_upto_region 1 with(fail);clear hW hX;obtain⟨b9,c0,c1⟩:=F0.k1;have F1:=F0.step a0;have a7:=zA (zf Y (p:=.block) (s:=zB s) ⟨a0,trivial⟩).adv;go_wp2_with fail;refine F1.kX (HK.out.more (q:=.block) ⟨F1.P.hi,trivial⟩ F1.P (yAF s.k)) fun G a6 w2 g j l m o t u v y A=>?_;have:=A.sto 1;obtain⟨d,M⟩:=jx G.2;have B:=zA (show zE C.L .block (zB s)=(G.1,d) by rw[a6.out,←M]);have F3:=A;rw[M]at F3;have a8:=zA (show Adv C.L (zB s) d by have:=a7.out;rwa[B.out]at this);have c2:s.k < d.k:=by have:=a8.out.le;have:(zB s).k=s.k+1:=rfl;omega
 have N:=zA (show onP C.L [99,97,116,99,104] d=true by rw[B.out]at hc;exact hc);clear hc M;have HQ:=zA (show onP C.L [40] (zB d)=false by rw[B.out]at hq;exact hq);clear hq;go_wp2_with fail;refine F3.made0 _ fun w4 F4=>?_;go_wp2_with fail;refine F4.made0 _ fun z F5=>?_;have F6:=F5.box3 1 2 3;go_wp2_with fail;refine F6.kQ (zA0 _ _ _ _) fun I F7=>?_;have F8:=F7.box [(16:Int),"",(),(0:Int),(0:Int),false,(),(),.slice (some ⟨z.heap.size,0,none⟩) 3 3] 58 rfl jd jd;go_wp2_with fail;refine F8.kB (zAo F8.P [99,97,116,99,104] N) fun w9 F9=>?_;have c3:=zA (Y.out.on F9.P.hi N);have c4:(zB d).k=d.k+1:=rfl;go_wp2_with fail;refine F9.kM (zBg F9.P [99,97,116,99,104] N) fun c5 a9=>?_;go_wp2_with fail;refine a9.made0 _ fun O b0=>?_;have a1:=b0.bt 6 58 rfl;go_wp2_with fail;refine a1.kM (zBl a1.P [40] HQ) fun c6 b1=>?_;have b2:s.k < (zB (d)).k:=by omega
 have D:=b1.nil;have b3:=zA (fun Q=>D.dr.kRX 8 rfl (Q:=Q) (HK.out.more (q:=.block) ⟨D.dr.P.hi,trivial⟩ D.dr.P b2));have:=D.c 7;go_upto_region 10 with(fail)
 go_cut [39] (fun _ wx=>∃(b:Tr×Ps) (R:Option Addr) (E lo:Nat),Hid (zE C.L .block (zB (d))=b)∧Fr C (w.heap.size≤·) w [(O.heap.size),(I.heap.size),(z.heap.size),X] [.bx X 58 [(0:Int),"",(),(0:Int),(0:Int),false,(),(),()],.bx (z.heap.size) 58 [g,j,l,m,o,t,u,v,y,(11:Int),"",(),(0:Int),(0:Int),false,(),(),(),(11:Int),"",(),(0:Int),(0:Int),false,(),(),()],.bx (I.heap.size) 58 [(16:Int),"",(),(0:Int),(0:Int),false,(),(),.slice (some ⟨z.heap.size,0,none⟩) 3 3],.bx (O.heap.size) 58 [(17:Int),.string ⟨([]).toArray⟩,(),(0:Int),(0:Int),false,(),(),.slice R 1 E],.tr (G.1) [g,j,l,m,o,t,u,v,y],.tr (trK 11 []) [(11:Int),"",(),(0:Int),(0:Int),false,(),(),()],.tn lo (trN 17 ([]) [b.1]) [(17:Int),.string ⟨([]).toArray⟩,(),(0:Int),(0:Int),false,(),(),.slice R 1 E]] b.2 wx)
 case first=>
  go_region_law (first | (go_simp;go_at_call 111;(with_reducible refine b3.out _ fun b F wa d0 d1 d2 d3 d4 d5 d6 d7 d8 Fa=>?_);have:=Fa.c 7;have:=(Fa.al (.cells #[d0,d1,d2,d3,d4,d5,d6,d7,d8] 58)).c 7) | (refine Fa.snoc0 9 17 ([]) rfl rfl _ _ rfl rfl rfl fun A3 a2 wb Fb=>?_;have:=Fb.c 7;have:=Fb.f 7))
  all_goals
   have Fc:=Fb.set 7 8 (.slice A3 1 a2);go_wp2_with fail;go_meet;exact⟨b,A3,a2,_,F,Fc.pk4 [(O.heap.size),(I.heap.size),(z.heap.size),X] [0,4,5,7,1,3,10] js jd rfl js js js js⟩
 case rest=>
  obtain⟨b,R,E,lo,F,b4⟩:=hcut;obtain⟨wh,rfl⟩:∃x,x=wc:=⟨_,rfl⟩;have S:=b4.wide 6 rfl;have b5:=zA (show Adv C.L (zB (d)) b.2 by have:=(zf Y (p:=.block) (s:=zB (d)) ⟨D.P.hi,trivial⟩).adv;rwa[F.out]at this);have c7:s.k < b.2.k:=by have:=b5.out.le;omega
  have:=S.c 3;have:=S.c 2;have:=S.m1 1;have:=S.g1 1;go_upto_region 12 with(fail);refine zEz (S.put1 1 6) fun wi T=>?_;obtain⟨bf,a3⟩:=jx (onP C.L [102,105,110,97,108,108,121] b.2);have U:=zA a3;clear a3;cases bf with
  | false=>
   go_wp2_with fail;refine T.kM (zBl T.P [102,105,110,97,108,108,121] U) fun c8 H=>?_;have:=H.c 2;have:=H.c 0;have:=H.f 0;go_wp2_with fail;refine zCn (H.put 0 2) fun c9 a4=>?_;have q:=a4.c 0;exact a4.ret3 (kk:=16) 1 4 6 5 rfl rfl rfl rfl (by simp[results,results140,go_sem,q]) rfl (HR.out.symm.trans (by
    unfold zD;dsimp only;simp[B.out,N.out,HQ.out,F.out,U.out])) (fun _ h=>h)
  | true=>
   have d9:=zA (Y.out.on T.P.hi U);have e0:(zB b.2).k=b.2.k+1:=rfl;go_wp2_with fail;refine T.kM (zBg T.P [102,105,110,97,108,108,121] U) fun e1 e=>?_;have b6:=zA (fun Q=>e.dr.kX (Q:=Q) (HK.out.more (q:=.block) ⟨e.dr.P.hi,trivial⟩ e.dr.P jo));have:=e.c 2;have:=e.m2 1;have:=e.g2 1;go_upto_region 13 with(fail)
   go_cut [52] (fun _ wx=>∃(J:Tr×Ps) (d0 d1 d2 d3 d4 d5 d6 d7 d8:Value),Hid (zE C.L .block (zB (b.2))=J)∧Fr C (w.heap.size≤·) w [(I.heap.size),(z.heap.size),X] [.bx X 58 [(0:Int),"",(),(0:Int),(0:Int),false,(),(),()],.bx (z.heap.size) 58 [g,j,l,m,o,t,u,v,y,(17:Int),.string ⟨([]).toArray⟩,(),(0:Int),(0:Int),false,(),(),.slice R 1 E,d0,d1,d2,d3,d4,d5,d6,d7,d8],.bx (I.heap.size) 58 [(16:Int),"",(),(0:Int),(0:Int),false,(),(),.slice (some ⟨z.heap.size,0,none⟩) 3 3],.tr (G.1) [g,j,l,m,o,t,u,v,y],.tr (trN 17 ([]) [b.1]) [(17:Int),.string ⟨([]).toArray⟩,(),(0:Int),(0:Int),false,(),(),.slice R 1 E],.tr J.1 [d0,d1,d2,d3,d4,d5,d6,d7,d8]] J.2 wx)
   case first=>
    go_region_law (go_simp;go_at_call 111;(with_reducible refine b6.out _ fun J V w2 d0 d1 d2 d3 d4 d5 d6 d7 d8 A=>?_);have:=A.c 2;have:=A.m2 1;have:=A.g2 1;have:=A.sto 7)
    all_goals
     go_wp2_with fail;go_meet;exact⟨J,d0,d1,d2,d3,d4,d5,d6,d7,d8,V,(A.put2 1 7).pk3 [(I.heap.size),(z.heap.size),X] [0,1,2,4,6,7] js jd rfl js js js⟩
   case rest=>
    obtain⟨J,d0,d1,d2,d3,d4,d5,d6,d7,d8,V,Fz⟩:=hcut;obtain⟨wz,rfl⟩:∃x,x=wc:=⟨_,rfl⟩;have:=Fz.c 2;have:=Fz.c 0;have:=Fz.f 0;go_wp2_with fail;refine zCn (Fz.put 0 2) fun e2 a5=>?_;have q:=a5.c 0;exact a5.ret3 (kk:=16) 1 3 4 5 rfl rfl rfl rfl (by simp[results,results140,go_sem,q]) rfl (HR.out.symm.trans (by
     unfold zD;dsimp only;simp[B.out,N.out,HQ.out,F.out,U.out,V.out])) (fun _ h=>h)
theorem zXL {C:Pc} {s:Ps} {w:World} (N:Pre C.L (.tries) s) (K:KP C (zk C.L (.tries) s)) (h:Pa C s w) (O:onP C.L [99,97,116,99,104] (zE C.L .block (zB s)).2=false) (R:onP C.L [102,105,110,97,108,108,121] (zE C.L .block (zB s)).2=true):zo C s w (.tries):=by
 refine zBP N h fun Y a3 a4 r W X HR hW hX F0=>?_;have HK:=zA K;have I:=zA N.2;clear K h N;go_enter func140,ntmps140;go_upto_region 1 with(fail);clear hW hX;obtain⟨a5,a6,a7⟩:=F0.k1;have S:=F0.step I;have a0:=zA (zf Y (p:=.block) (s:=zB s) ⟨I,trivial⟩).adv;go_wp2_with fail;refine S.kX (HK.out.more (q:=.block) ⟨S.P.hi,trivial⟩ S.P (yAF s.k)) fun l T w2 m o t u v y z A B d=>?_;have:=d.sto 1;obtain⟨e,D⟩:=jx l.2;have g:=zA (show zE C.L .block (zB s)=(l.1,e) by rw[T.out,←D]);have F3:=d;rw[D]at F3;have a1:=zA (show Adv C.L (zB s) e by have:=a0.out;rwa[g.out]at this);have a8:s.k < e.k:=by have:=a1.out.le;have:(zB s).k=s.k+1:=rfl;omega
 have U:=zA (show onP C.L [99,97,116,99,104] e=false by rw[g.out]at O;exact O);clear O D;have H:=zA (show onP C.L [102,105,110,97,108,108,121] e=true by rw[g.out]at R;exact R);clear R;go_wp2_with fail;refine F3.made0 _ fun w4 F4=>?_;go_wp2_with fail;refine F4.made0 _ fun E F5=>?_;have F6:=F5.box3 1 2 3;go_wp2_with fail;refine F6.kQ (zA0 _ _ _ _) fun V F7=>?_;have F8:=F7.box [(16:Int),"",(),(0:Int),(0:Int),false,(),(),.slice (some ⟨E.heap.size,0,none⟩) 3 3] 58 rfl jd jd;go_wp2_with fail;refine F8.kB (zAo F8.P [99,97,116,99,104] U) fun w9 F9=>?_;go_wp2_with fail;refine F9.kB (zAo F9.P [102,105,110,97,108,108,121] H) fun a9 J=>?_;go_wp2_with fail;refine J.kM (zBl J.P [99,97,116,99,104] U) fun b0 F=>?_;have b1:=zA (Y.out.on F.P.hi H);go_wp2_with fail;refine F.kM (zBg F.P [102,105,110,97,108,108,121] H) fun b2 b=>?_;have b3:(zB e).k=e.k+1:=rfl;have a2:=zA (fun Q=>b.dr.kX (Q:=Q) (HK.out.more (q:=.block) ⟨b.dr.P.hi,trivial⟩ b.dr.P jo));have:=b.c 5;have:=b.m2 4;have:=b.g2 4;go_upto_region 13 with(fail)
 go_cut [52] (fun _ wx=>∃(j:Tr×Ps) (d0 d1 d2 d3 d4 d5 d6 d7 d8:Value),Hid (zE C.L .block (zB (e))=j)∧Fr C (w.heap.size≤·) w [(V.heap.size),(E.heap.size),X] [.bx X 58 [(0:Int),"",(),(0:Int),(0:Int),false,(),(),()],.bx (E.heap.size) 58 [m,o,t,u,v,y,z,A,B,(11:Int),"",(),(0:Int),(0:Int),false,(),(),(),d0,d1,d2,d3,d4,d5,d6,d7,d8],.bx (V.heap.size) 58 [(16:Int),"",(),(0:Int),(0:Int),false,(),(),.slice (some ⟨E.heap.size,0,none⟩) 3 3],.tr (l.1) [m,o,t,u,v,y,z,A,B],.tr (trK 11 []) [(11:Int),"",(),(0:Int),(0:Int),false,(),(),()],.tr j.1 [d0,d1,d2,d3,d4,d5,d6,d7,d8]] j.2 wx)
 case first=>
  go_region_law (go_simp;go_at_call 111;(with_reducible refine a2.out _ fun j G w2 d0 d1 d2 d3 d4 d5 d6 d7 d8 d=>?_);have:=d.c 5;have:=d.m2 4;have:=d.g2 4;have:=d.sto 6)
  all_goals
   go_wp2_with fail;go_meet;exact⟨j,d0,d1,d2,d3,d4,d5,d6,d7,d8,G,(d.put2 4 6).pk3 [(V.heap.size),(E.heap.size),X] [0,4,5,1,2,6] js jd rfl js js js⟩
 case rest=>
  obtain⟨j,d0,d1,d2,d3,d4,d5,d6,d7,d8,G,Fz⟩:=hcut;obtain⟨wz,rfl⟩:∃x,x=wc:=⟨_,rfl⟩;have:=Fz.c 2;have:=Fz.c 0;have:=Fz.f 0;go_wp2_with fail;refine zCn (Fz.put 0 2) fun b4 M=>?_;have q:=M.c 0;exact M.ret3 (kk:=16) 1 3 4 5 rfl rfl rfl rfl (by simp[results,results140,go_sem,q]) rfl (HR.out.symm.trans (by
   unfold zD;dsimp only;simp[g.out,U.out,H.out,G.out])) (fun _ h=>h)
theorem zUm {C:Pc} {s:Ps} {w:World} (z:Pre C.L (.tries) s) (K:KP C (zk C.L (.tries) s)) (h:Pa C s w) (A:onP C.L [99,97,116,99,104] (zE C.L .block (zB s)).2=false) (B:onP C.L [102,105,110,97,108,108,121] (zE C.L .block (zB s)).2=false):zo C s w (.tries):=by
 refine zBP z h fun F T a9 r W X U V Y G=>?_;have HK:=zA K;have j:=zA z.2;clear K h z;go_enter func140,ntmps140;go_upto_region 1 with(fail);clear V Y;obtain⟨b0,b1,b2⟩:=G.k1;have D:=G.step j;have H:=zA (zf F (p:=.block) (s:=zB s) ⟨j,trivial⟩).adv;go_wp2_with fail;refine D.kX (HK.out.more (q:=.block) ⟨D.P.hi,trivial⟩ D.P (yAF s.k)) fun l E w2 a0 a1 a2 a3 a4 a5 a6 a7 a8 I=>?_;have:=I.sto 1;obtain⟨b,g⟩:=jx l.2;have d:=zA (show zE C.L .block (zB s)=(l.1,b) by rw[E.out,←g]);have J:=I;rw[g]at J;have M:=zA (show Adv C.L (zB s) b by have:=H.out;rwa[d.out]at this);have b3:s.k < b.k:=by have:=M.out.le;have:(zB s).k=s.k+1:=rfl;omega
 have N:=zA (show onP C.L [99,97,116,99,104] b=false by rw[d.out]at A;exact A);clear A g;have O:=zA (show onP C.L [102,105,110,97,108,108,121] b=false by rw[d.out]at B;exact B);clear B;go_wp2_with fail;refine J.made0 _ fun w4 F4=>?_;go_wp2_with fail;refine F4.made0 _ fun w5 F5=>?_;have F6:=F5.box3 1 2 3;go_wp2_with fail;refine F6.kQ (zA0 _ _ _ _) fun w7 F7=>?_;have Q:=F7.box [(16:Int),"",(),(0:Int),(0:Int),false,(),(),.slice (some ⟨w5.heap.size,0,none⟩) 3 3] 58 rfl jd jd;go_wp2_with fail;refine Q.kB (zAo Q.P [99,97,116,99,104] N) fun w9 R=>?_;go_wp2_with fail;refine R.kB (zAo R.P [102,105,110,97,108,108,121] O) fun b4 m=>?_;go_wp2_with fail;refine m.kN (zAO m.P) fun b5 o=>?_;have S:=zA (show(zG C.L (za C.L (b)).k).kind=0 from F.out.last);have t:=zA (show onP C.L [99,97,116,99,104] (za C.L (b))=false from zMT S _);have u:=zA (show onP C.L [102,105,110,97,108,108,121] (za C.L (b))=false from zMT S _);go_wp2_with fail;refine o.kM (zBl o.P [99,97,116,99,104] t) fun b6 v=>?_;go_wp2_with fail;refine v.kM (zBl v.P [102,105,110,97,108,108,121] u) fun b7 e=>?_;have:=e.c 5;have:=e.c 0;have:=e.f 0;go_wp2_with fail;refine zCn (e.put 0 5) fun b8 y=>?_;have q:=y.c 0;exact y.ret3 (kk:=16) 4 1 2 3 rfl rfl rfl rfl (by simp[results,results140,go_sem,q]) rfl (U.out.symm.trans (by
  unfold zD;dsimp only;simp[d.out,N.out,O.out,t.out,u.out])) (fun _ h=>h)
theorem zXM {C:Pc} {s:Ps} {w:World} (b:Pre C.L .tries s) (K:KP C (zk C.L .tries s)) (h:Pa C s w):zo C s w .tries:=by
 cases hc:onP C.L [99,97,116,99,104] (zE C.L .block (zB s)).2 with
 | true=>
  cases hq:onP C.L [40] (zB (zE C.L .block (zB s)).2)with
  | true=>exact zRR b K h hc hq
  | false=>exact zUl b K h hc hq
 | false=>
  cases hf:onP C.L [102,105,110,97,108,108,121] (zE C.L .block (zB s)).2 with
  | true=>exact zXL b K h hc hf
  | false=>exact zUm b K h hc hf
theorem zET (l:List UInt8) (w:World) (j:l.length≤10000):
 Calls prog 11 #[l] w fun e w'=>∃A c,e=.returned (.slice A l.length c)∧w'.ownsRow 0 65 1 (.slice A l.length c) l.length (zAM (zU l))∧w.grownBy w' none:=by
 refine(zDs ⟨l.toArray⟩ w (by show l.length≤_;omega)).mono ?_;rintro e w' ⟨v,rfl,f⟩;have b:=f.own;have d:(zAM (zU l)).length=l.length:=by simp[zAM,zU]
 have g:zAM (zU (⟨l.toArray⟩:ByteArray).data.toList)=zAM (zU l):=rfl;rw[g,d]at b;obtain⟨A,c,rfl,_⟩:=zS b;exact⟨A,c,rfl,zAg b (yAE _),zAf none f.below⟩
theorem zDN (l:List UInt8):(zU l).length=l.length:=by simp[zU]
theorem zRS {w:World} {P:Nat→Prop} {l:List Tr} {v:Value} (h:RowP w P v l) (h1:w.ownsRow 0 65 1 vs u.length (zAM u)):TrC w P (.mk {zBo with kind:=40,str:=u} l) [(40:Int),"",vs,(0:Int),(0:Int),false,(),(),v]:=
 h.tree (x:={zBo with kind:=40,str:=u}) rfl h1 (yAJ _ _ _ _)
section
variable {C:Pc} {B:Nat→Prop} {a:World} {D:List Nat} {os:List Ob} {s:Ps} {w w':World}
theorem Fr.kU {f:FuncId} {args:Array Value} (F:Fr C B a D os s w) (h:Calls prog f args w (fun e w'=>∃A c,e=.returned (.slice A n c)∧w'.ownsRow 0 65 1 (.slice A n c) n (zAM u)∧w.grownBy w' none)) {Q:Ending→World→Prop} (k:∀w' A c,Fr C B a D (os++[.lf 65 (.slice A n c) n (zAM u)]) s w'→Q (.returned (.slice A n c)) w'):Calls prog f args w Q:=h.mono fun _ w' ⟨A,c,h1,b,d⟩=>h1▸k w' A c (.mk ((F.n d).out.snoc (x:=.lf _ _ _ _) rfl ⟨.inl rfl,b⟩))
theorem Fr.lit1 (F:Fr C B a D os s w) (j:Nat) {R:Nat} {c0 c1 c2 c3 c4 c5 c6 c7 c8:Value} (b:w.heap.size=R) (c:os[j]? =some (.tr t [c0,c1,c2,c3,c4,c5,c6,c7,c8]):=by rfl):Fr C B a D (os++[.ro (.slice (some ⟨R,0,none⟩) 1 1) [t]]) s (w.alloc (.cells #[c0,c1,c2,c3,c4,c5,c6,c7,c8] 58)):=
 have h:=F.litG (F.ts1 j c) (n:=1) rfl jd b (w':=w.alloc (.cells #[c0,c1,c2,c3,c4,c5,c6,c7,c8] 58)) ⟨rfl,rfl,rfl,yAC _,fun _ _ _=>rfl⟩
 .mk (h.1.snoc (x:=.ro _ _) rfl h.2)
theorem Fr.propT (F:Fr C B a D os s w) (i j:Nat) (u:List UInt16) {l:List Tr} {v:Value} (b:n=u.length) (hi:os[i]? =some (.ro v l):=by rfl) (hj:os[j]? =some (.lf 65 vs n (zAM u)):=by rfl):Fr C B a D (os++[.tr (.mk {zBo with kind:=40,str:=u} l) [(40:Int),"",vs,(0:Int),(0:Int),false,(),(),v]]) s w:=.mk (F.out.snoc (x:=.tr _ _) rfl (zRS (F.r i hi) (b▸F.l j hj)))
end
theorem zRT {C:Pc} {s:Ps} {w:World} (g:Pre C.L (.prop) s) (_K:KP C (zk C.L (.prop) s)) (h:Pa C s w) (hk:(zG C.L s.k).kind≠4∧(zG C.L s.k).kind≠2∧(zG C.L s.k).kind≠1∧(zG C.L s.k).kind≠6):zo C s w (.prop):=by
 refine zBP g h fun A o z r W X p q t j=>?_;clear h g;go_enter func178,ntmps178;go_upto_region 1 with(fail);clear q t;have d:=zA hk;clear hk;obtain⟨⟨kd,tx,B,nk,nn,D,ps,nl⟩,l⟩:=zW C.L (s).k;go_wp2_with fail;refine j.kT (zu j.P l) fun w1 As Am c1 c2 u=>?_;have v:=u.bt 1 80 rfl;have m:kd≠4∧kd≠2∧kd≠1∧kd≠6:=by have:=d.out;rwa[l.out]at this
 have e4:((kd:Int)==4)=false:=by rw[yA];omega
 have e2:((kd:Int)==2)=false:=by rw[yA];omega
 have e1:((kd:Int)==1)=false:=by rw[yA];omega
 have e6:((kd:Int)==6)=false:=by rw[yA];omega
 clear m;go_wp2_with fail;refine v.made0 _ fun w3 y=>?_;have e:=y.bt 3 58 rfl;have:=e.c 2;go_wp2_with fail;refine e.kN (zAO e.P) fun E b=>?_;have:=b.c 4;have:=b.c 0;have:=b.f 0;go_wp2_with fail;exact b.fin 0 3 rfl (p.out.symm.trans (by
  unfold zD;dsimp only;rw[show zBJ (zG C.L s.k)=none from by unfold zBJ;simp[d.out]]))
theorem zLJ {C:Pc} {s:Ps} {w:World} (H:Pre C.L (.prop) s) (K:KP C (zk C.L (.prop) s)) (h:Pa C s w) (hk:(zG C.L s.k).kind=4):zo C s w (.prop):=by
 refine zBP H h fun I Y J r W X HR hW hX M=>?_;have HK:=zA K;clear K h H;go_enter func178,ntmps178;go_upto_region 1 with(fail);clear hW hX;have e:=zA hk;clear hk;have B:=zA (I.out.lt J (by rw[e.out];decide));obtain⟨⟨kd,tx,D,nk,nn,mg,ps,nl⟩,E⟩:=zW C.L (s).k;go_wp2_with fail;refine M.kTl (zu M.P E) fun w1 As Am c1 c2 F1=>?_;have F2:=F1.bt 1 80 rfl;have d:kd=4:=by have:=e.out;rwa[E.out]at this
 have e4:((kd:Int)==4)=true:=by rw[d];decide
 have e2:((kd:Int)==2)=false:=by rw[d];decide
 have e1:((kd:Int)==1)=false:=by rw[d];decide
 have e6:((kd:Int)==6)=false:=by rw[d];decide
 clear d;go_wp2_with fail;refine F2.made0 _ fun w3 F3=>?_;have F4:=F3.bt 5 58 rfl;go_upto_region 3 with(fail);refine zEz F4 fun w5 z=>?_;have:=z.c 4;have:=z.c 6;have:=z.f 6;have N:=z.set 6 2 (.slice As D.length c1);obtain⟨xk,fk,bk⟩:=N.k1;go_upto_region 13 with(fail);refine zEz N fun w7 O=>?_;clear xk fk bk;obtain⟨a1,a2,a3⟩:=O.k1;have F:=O.step B;have:=F.c 4;have Q:=zA (zR (w:=[58]) I (s:=zB s) B).adv;have R:s.k < (zL C.L [58] (zB s)).k:=by have:=Q.out.le;have:(zB s).k=s.k+1:=rfl;omega
 go_wp2_with fail;refine F.kN (zAK F.P [58]) fun w9 G=>?_;go_wp2_with fail;refine G.kX (HK.out.more (q:=.assign) ⟨G.P.hi,trivial⟩ G.P R) fun a0 A S g j l m o p t u v b=>?_;have:=b.sto 7;have:=b.c 6;have:=b.f 6;have:=(b.al (.cells #[g,j,l,m,o,p,t,u,v] 58)).c 6;have:=(b.al (.cells #[g,j,l,m,o,p,t,u,v] 58)).f 6;have T:=b.lit1 7 rfl;have U:=T.set 6 8 (.slice (some ⟨S.heap.size,0,none⟩) 1 1);go_upto_region 19 with(fail);refine zEz U fun a4 V=>?_;have y:=V.propT 8 2 (D) rfl;have:=y.c 6;have:=y.c 0;have:=y.f 0;go_wp2_with fail;exact y.fin 0 9 rfl (HR.out.symm.trans (by
  unfold zD;dsimp only;rw[show zBJ (zG C.L s.k)=some (D)from by unfold zBJ;rw[e.out];simp[E.out]];dsimp only;rw[if_neg (fun h=>by have:=e.out;rw[h.1]at this;cases this),A.out]))
theorem zRU {C:Pc} {s:Ps} {w:World} (I:Pre C.L (.prop) s) (K:KP C (zk C.L (.prop) s)) (h:Pa C s w) (hk:(zG C.L s.k).kind=6) (E:TG (zG C.L s.k)):zo C s w (.prop):=by
 refine zBP I h fun J a2 M r W X HR hW hX N=>?_;have HK:=zA K;clear K h I;go_enter func178,ntmps178;go_upto_region 1 with(fail);clear hW hX;have e:=zA hk;have O:=zA E;clear E;clear hk;have F:=zA (J.out.lt M (by rw[e.out];decide));obtain⟨⟨kd,tx,st,nk,nn,mg,ps,nl⟩,A⟩:=zW C.L (s).k;go_wp2_with fail;refine N.kT (zu N.P A) fun w1 As Am c1 c2 F1=>?_;have F2:=F1.bt 1 80 rfl;have d:kd=6:=by have:=e.out;rwa[A.out]at this
 have e4:((kd:Int)==4)=false:=by rw[d];decide
 have e2:((kd:Int)==2)=false:=by rw[d];decide
 have e1:((kd:Int)==1)=false:=by rw[d];decide
 have e6:((kd:Int)==6)=true:=by rw[d];decide
 clear d;go_wp2_with fail;refine F2.made0 _ fun w3 F3=>?_;have F4:=F3.bt 3 58 rfl;go_upto_region 3 with(fail);refine zEz F4 fun w5 B=>?_;have:=B.c 2;have:=B.c 4;have:=B.f 4;have Q:=zA (show tx.length≤10000 by have:=O.out.len;rw[A.out]at this;have h9:tx.length≤4096:=this;omega);go_wp2_with fail;refine B.kU (zET (tx) _ Q) fun w6 Aa ca G=>?_;have:=G.c 4;have:=G.f 4;have R:=G.set 4 2 (.slice Aa (tx).length ca);obtain⟨xk,fk,bk⟩:=R.k1;go_upto_region 13 with(fail);refine zEz R fun w8 S=>?_;clear xk fk bk;obtain⟨a4,a5,a6⟩:=S.k1;have H:=S.step F;have:=H.c 2;have T:=zA (zR (w:=[58]) J (s:=zB s) F).adv;have U:s.k < (zL C.L [58] (zB s)).k:=by have:=T.out.le;have:(zB s).k=s.k+1:=rfl;omega
 go_wp2_with fail;refine H.kN (zAK H.P [58]) fun a7 z=>?_;go_wp2_with fail;refine z.kX (HK.out.more (q:=.assign) ⟨z.P.hi,trivial⟩ z.P U) fun a3 D V g j l m o p t u v b=>?_;have:=b.sto 6;have:=b.c 4;have:=b.f 4;have:=(b.al (.cells #[g,j,l,m,o,p,t,u,v] 58)).c 4;have:=(b.al (.cells #[g,j,l,m,o,p,t,u,v] 58)).f 4;have Y:=b.lit1 6 rfl;have a0:=Y.set 4 8 (.slice (some ⟨V.heap.size,0,none⟩) 1 1);go_upto_region 19 with(fail);refine zEz a0 fun a8 a1=>?_;have y:=a1.propT 7 5 (zU (tx)) (zDN _).symm;have:=y.c 4;have:=y.c 0;have:=y.f 0;go_wp2_with fail;exact y.fin 0 8 rfl (HR.out.symm.trans (by
  unfold zD;dsimp only;rw[show zBJ (zG C.L s.k)=some (zU (tx))from by unfold zBJ;rw[e.out];simp[A.out]];dsimp only;rw[if_neg (fun h=>by have:=e.out;rw[h.1]at this;cases this),D.out]))
theorem zN2 {C:Pc} {s:Ps} {w:World} (v:Pre C.L (.prop) s) (_K:KP C (zk C.L (.prop) s)) (h:Pa C s w) (hk:(zG C.L s.k).kind=1) (m:TG (zG C.L s.k)) (o:onP C.L [58] (zB s)=false):zo C s w (.prop):=by
 refine zBP v h fun M N y r W X O Q R z=>?_;clear h v;go_enter func178,ntmps178;go_upto_region 1 with(fail);clear Q R;have e:=zA hk;have A:=zA m;clear m;have p:=zA o;clear o;clear hk;have B:=zA (M.out.lt y (by rw[e.out];decide));obtain⟨⟨kd,tx,st,nk,nn,mg,ps,nl⟩,j⟩:=zW C.L (s).k;go_wp2_with fail;refine z.kT (zu z.P j) fun w1 As Am c1 c2 S=>?_;have T:=S.bt 1 80 rfl;have b:kd=1:=by have:=e.out;rwa[j.out]at this
 have e4:((kd:Int)==4)=false:=by rw[b];decide
 have e2:((kd:Int)==2)=false:=by rw[b];decide
 have e1:((kd:Int)==1)=true:=by rw[b];decide
 have e6:((kd:Int)==6)=false:=by rw[b];decide
 clear b;go_wp2_with fail;refine T.made0 _ fun w3 U=>?_;have V:=U.bt 3 58 rfl;go_upto_region 3 with(fail);refine zEz V fun w5 l=>?_;have:=l.c 2;have:=l.c 4;have:=l.f 4;have D:=zA (show tx.length≤10000 by have:=A.out.len;rw[j.out]at this;have h9:tx.length≤4096:=this;omega);go_wp2_with fail;refine l.kU (zET (tx) _ D) fun w6 Y ca t=>?_;have:=t.c 4;have:=t.f 4;have E:=t.set 4 2 (.slice Y (tx).length ca);obtain⟨xk,fk,bk⟩:=E.k1;go_upto_region 13 with(fail);refine zEz E fun w8 F=>?_;clear xk fk bk;obtain⟨a0,a1,a2⟩:=F.k1;have u:=F.step B;have:=u.c 2;go_wp2_with fail;refine u.kB (zAo u.P [58] p) fun a3 q=>?_;have:=q.c 2;go_wp2_with fail;refine q.named0 _ tx fun G d=>?_;have:=d.c 4;have:=d.f 4;have:=(d.al (.cells #[(33:Int),tx,(),(0:Int),(0:Int),false,(),(),()] 58)).c 4;have:=(d.al (.cells #[(33:Int),tx,(),(0:Int),(0:Int),false,(),(),()] 58)).f 4;have H:=d.lit1 6 rfl;have I:=H.set 4 8 (.slice (some ⟨G.heap.size,0,none⟩) 1 1);go_upto_region 16 with(fail);refine zEz I fun a4 J=>?_;have g:=J.propT 7 5 (zU (tx)) (zDN _).symm;have:=g.c 4;have:=g.c 0;have:=g.f 0;go_wp2_with fail;exact g.fin 0 8 rfl (O.out.symm.trans (by
  unfold zD;dsimp only;rw[show zBJ (zG C.L s.k)=some (zU (tx))from by unfold zBJ;rw[e.out];simp[j.out]];dsimp only;rw[if_pos ⟨e.out,p.out⟩,j.out]))
theorem zN3 {C:Pc} {s:Ps} {w:World} (N:Pre C.L (.prop) s) (K:KP C (zk C.L (.prop) s)) (h:Pa C s w) (hk:(zG C.L s.k).kind=1) (E:TG (zG C.L s.k)) (F:onP C.L [58] (zB s)=true):zo C s w (.prop):=by
 refine zBP N h fun O a5 Q r W X HR hW hX R=>?_;have HK:=zA K;clear K h N;go_enter func178,ntmps178;go_upto_region 1 with(fail);clear hW hX;have y:=zA hk;have S:=zA E;clear E;have G:=zA F;clear F;clear hk;have H:=zA (O.out.lt Q (by rw[y.out];decide));obtain⟨⟨kd,tx,st,nk,nn,mg,ps,nl⟩,A⟩:=zW C.L (s).k;go_wp2_with fail;refine R.kT (zu R.P A) fun w1 As Am c1 c2 F1=>?_;have F2:=F1.bt 1 80 rfl;have d:kd=1:=by have:=y.out;rwa[A.out]at this
 have e4:((kd:Int)==4)=false:=by rw[d];decide
 have e2:((kd:Int)==2)=false:=by rw[d];decide
 have e1:((kd:Int)==1)=true:=by rw[d];decide
 have e6:((kd:Int)==6)=false:=by rw[d];decide
 clear d;go_wp2_with fail;refine F2.made0 _ fun w3 F3=>?_;have F4:=F3.bt 3 58 rfl;go_upto_region 3 with(fail);refine zEz F4 fun w5 B=>?_;have:=B.c 2;have:=B.c 4;have:=B.f 4;have T:=zA (show tx.length≤10000 by have:=S.out.len;rw[A.out]at this;have h9:tx.length≤4096:=this;omega);go_wp2_with fail;refine B.kU (zET (tx) _ T) fun w6 Aa ca J=>?_;have:=J.c 4;have:=J.f 4;have U:=J.set 4 2 (.slice Aa (tx).length ca);obtain⟨xk,fk,bk⟩:=U.k1;go_upto_region 13 with(fail);refine zEz U fun w8 V=>?_;clear xk fk bk;obtain⟨a7,a8,a9⟩:=V.k1;have M:=V.step H;have:=M.c 2;go_wp2_with fail;refine M.kB (zAo M.P [58] G) fun b0 I=>?_;have Y:=zA (zR (w:=[58]) O (s:=zB s) H).adv;have a0:s.k < (zL C.L [58] (zB s)).k:=by have:=Y.out.le;have:(zB s).k=s.k+1:=rfl;omega
 go_wp2_with fail;refine I.kN (zAK I.P [58]) fun b1 z=>?_;go_wp2_with fail;refine z.kX (HK.out.more (q:=.assign) ⟨z.P.hi,trivial⟩ z.P a0) fun a6 D a1 e g j l m o p t u b=>?_;have:=b.sto 6;have:=b.c 4;have:=b.f 4;have:=(b.al (.cells #[e,g,j,l,m,o,p,t,u] 58)).c 4;have:=(b.al (.cells #[e,g,j,l,m,o,p,t,u] 58)).f 4;have a2:=b.lit1 6 rfl;have a3:=a2.set 4 8 (.slice (some ⟨a1.heap.size,0,none⟩) 1 1);go_upto_region 19 with(fail);refine zEz a3 fun b2 a4=>?_;have v:=a4.propT 7 5 (zU (tx)) (zDN _).symm;have:=v.c 4;have:=v.c 0;have:=v.f 0;go_wp2_with fail;exact v.fin 0 8 rfl (HR.out.symm.trans (by
  unfold zD;dsimp only;rw[show zBJ (zG C.L s.k)=some (zU (tx))from by unfold zBJ;rw[y.out];simp[A.out]];dsimp only;rw[if_neg (fun h=>by rw[G.out]at h;cases h.2),D.out]))
theorem zN4 {n:Int} (b:0≤n) (h1:n≤9007199254740991):(zBZ n.toNat).length≤10000:=by
 have:=zKb (k:=15) (n:=n.toNat) jo;omega
theorem zLK {C:Pc} {s:Ps} {w:World} (Y:Pre C.L (.prop) s) (K:KP C (zk C.L (.prop) s)) (h:Pa C s w) (hk:(zG C.L s.k).kind=2) (hT:Tab C.w0) (O:TG (zG C.L s.k)):zo C s w (.prop):=by
 refine zBP Y h fun HL b0 a0 r W X HR hW hX F0=>?_;have HK:=zA K;clear K h Y;go_enter func178,ntmps178;go_upto_region 1 with(fail);clear hW hX;have d:=zA hk;have a1:=zA O;clear O;clear hk;have Q:=zA hT;clear hT;have R:=zA (HL.out.lt a0 (by rw[d.out];decide));obtain⟨⟨kd,tx,st,nk,nn,mg,ps,nl⟩,M⟩:=zW C.L (s).k;go_wp2_with fail;refine F0.kT (zu F0.P M) fun w1 As Am c1 c2 F1=>?_;have F2:=F1.bt 1 80 rfl;have g:kd=2:=by have:=d.out;rwa[M.out]at this
 have e4:((kd:Int)==4)=false:=by rw[g];decide
 have e2:((kd:Int)==2)=true:=by rw[g];decide
 have e1:((kd:Int)==1)=false:=by rw[g];decide
 have e6:((kd:Int)==6)=false:=by rw[g];decide
 clear g;go_wp2_with fail;refine F2.made0 _ fun w3 F3=>?_;have F4:=F3.bt 3 58 rfl;go_upto_region 3 with(fail);refine zEz F4 fun w5 E=>?_;have:=E.c 2;have:=E.c 4;have:=E.f 4;have j:=a1.out.num d;rw[M.out]at j;have S:nk=0:=j.1;have F:0≤nn:=j.2.1;have G:nn≤9007199254740991:=j.2.2;clear j;have U:Calls prog 48 #[.agg #[nk,nn]] w5 fun e w'=>e=.returned (zBZ nn.toNat)∧(w5).grownBy w' none:=by
  rw[S];exact(zI6 nn _ F G (Q.out.below Q.out.lt E.P.keep)).mono fun _ _ h=>⟨h.1,zAf none h.2⟩
 obtain⟨D,H⟩:=jx (zBZ nn.toNat);have l:=zN4 F G;rw[H]at U l;have a2:=zA l;have a3:=zA H;have T:=zA U;clear U S F G l H;go_wp2_with fail;refine E.kQ T fun w6 F6=>?_;clear T;go_wp2_with fail;refine F6.kU (zET (D) _ a2) fun w7 Aa ca V=>?_;have:=V.c 4;have:=V.f 4;have F8:=V.set 4 2 (.slice Aa (D).length ca);obtain⟨xk,fk,bk⟩:=F8.k1;go_upto_region 13 with(fail);refine zEz F8 fun w9 F9=>?_;clear xk fk bk;obtain⟨b1,b2,b3⟩:=F9.k1;have I:=F9.step R;have:=I.c 2;have a4:=zA (zR (w:=[58]) HL (s:=zB s) R).adv;have a5:s.k < (zL C.L [58] (zB s)).k:=by have:=a4.out.le;have:(zB s).k=s.k+1:=rfl;omega
 go_wp2_with fail;refine I.kN (zAK I.P [58]) fun b5 J=>?_;go_wp2_with fail;refine J.kX (HK.out.more (q:=.assign) ⟨J.P.hi,trivial⟩ J.P a5) fun b4 N a6 m o p t u v y z A b=>?_;have:=b.sto 6;have:=b.c 4;have:=b.f 4;have:=(b.al (.cells #[m,o,p,t,u,v,y,z,A] 58)).c 4;have:=(b.al (.cells #[m,o,p,t,u,v,y,z,A] 58)).f 4;have a7:=b.lit1 6 rfl;have a8:=a7.set 4 8 (.slice (some ⟨a6.heap.size,0,none⟩) 1 1);go_upto_region 19 with(fail);refine zEz a8 fun b6 a9=>?_;have B:=a9.propT 7 5 (zU (D)) (zDN _).symm;have:=B.c 4;have:=B.c 0;have:=B.f 0;go_wp2_with fail;exact B.fin 0 8 rfl (HR.out.symm.trans (by
  unfold zD;dsimp only;rw[show zBJ (zG C.L s.k)=some (zU (D))from by unfold zBJ;rw[d.out];simp[M.out,a3.out]];dsimp only;rw[if_neg (fun h=>by have:=d.out;rw[h.1]at this;cases this),N.out]))
theorem zUn {C:Pc} {s:Ps} {w:World} (c:Pre C.L .prop s) (K:KP C (zk C.L .prop s)) (h:Pa C s w) (d:Tab C.w0) (b:TL C.L):zo C s w .prop:=by
 by_cases k4:(zG C.L s.k).kind=4
 · exact zLJ c K h k4
 by_cases k2:(zG C.L s.k).kind=2
 · exact zLK c K h k2 d (b s.k)
 by_cases k1:(zG C.L s.k).kind=1
 · cases hon:onP C.L [58] (zB s)with
   | true=>exact zN3 c K h k1 (b s.k) hon
   | false=>exact zN2 c K h k1 (b s.k) hon
 by_cases k6:(zG C.L s.k).kind=6
 · exact zRU c K h k6 (b s.k)
 exact zRT c K h ⟨k4,k2,k1,k6⟩
theorem zYB {C:Pc} (g:Tab C.w0) (e:TL C.L):∀N,KP C N:=by
 intro N
 induction N with
 | zero=>exact fun q s w _ d _=>absurd d (Nat.not_lt_zero _)
 | succ N j=>
  intro q s w b d h;have K:KP C (zk C.L q s):=fun m s' w' f p o=>j m s' w' f jo o;cases q with
  | program c=>
   cases c with
   | nil=>exact zLA b K h
   | cons a r=>exact trivial
  | block=>exact zRF b K h
  | blockL c=>exact trivial
  | item=>exact zUV b K h
  | declares=>exact zKN b K h
  | declL k c=>exact trivial
  | func k n=>exact zUT b K h
  | params=>exact zUS b K h
  | paramL c=>exact trivial
  | statement=>exact zHV b K h
  | simple=>exact zNo b K h
  | word v=>exact zUa b K h
  | within=>exact zNn b K h
  | clause v=>exact zNp b K h
  | loop=>exact zUh b K h
  | jump k=>exact zUW b K h
  | tries=>exact zXM b K h
  | assign=>exact zNy b K h
  | body l=>exact zUU b K h
  | cond=>exact zUL b K h
  | either=>exact zNq b K h
  | nullL x=>exact trivial
  | orL x=>exact trivial
  | both x=>exact zUK b K h
  | level n=>exact zRD b K h
  | levelL n x=>exact trivial
  | unary=>exact zRA b K h
  | calls=>exact zRP b K h
  | callsL x=>exact trivial
  | head=>exact zUf b K h
  | headL x=>exact trivial
  | args=>exact zUR b K h
  | list v=>exact zUQ b K h
  | listL v c=>exact trivial
  | primary=>exact zLE b K h
  | object=>exact zNr b K h
  | objL c=>exact trivial
  | prop=>exact zUn b K h g e
theorem zLL {C:Pc} {s:Ps} {w:World} (c:Tab C.w0) (b:TL C.L) (d:Pre C.L (.program []) s) (h:Pa C s w):Calls prog 16 #[C] w (zDk C (zE C.L (.program []) s) w):=
 zYB c b (zk C.L (.program []) s+1) (.program []) s w d (yAF _) h
theorem Tryz.info_anode:(prog.info? 43).map (fun i=>(i.zero,i.size,i.bytes))=some (some (.agg #[(0:Int),"",(),(0:Int),(0:Int),false,(),()]),8,120):=by kernel_rfl
structure Chg (w w':World) (S:Nat→Prop):Prop where
 os:w'.os=w.os
 tape:w'.tape=w.tape
 output:w'.output=w.output
 size:w.heap.size≤w'.heap.size
 block:∀i,i < w.heap.size→¬S i→w'.heap[i]? =w.heap[i]?
section
variable {a b c w w':World} {S S' G G' F:Nat→Prop} {r:Option Nat}
theorem Chg.of (h:w.grownBy w' r):Chg w w' (fun i=>r=some i):=⟨h.os,h.tape,h.output,h.size,fun i hi b=>h.block i hi (fun e=>b e.symm)⟩
theorem Chg.trans (h:Chg a b S) (k:Chg b c S') (hs:∀i,i < a.heap.size→S' i→S i):Chg a c S:=
 ⟨k.os.trans h.os,k.tape.trans h.tape,k.output.trans h.output,yAD h.size k.size,fun i hi d=>(k.block i (yAA hi h.size) (fun e=>d (hs i hi e))).trans (h.block i hi d)⟩
theorem Chg.more (h:Chg a b S) (hs:∀i,i < a.heap.size→S i→S' i):Chg a b S':=⟨h.os,h.tape,h.output,h.size,fun i hi c=>h.block i hi (fun d=>c (hs i hi d))⟩
theorem zBM {s:Nat} {e:TypeId} {v:Value} (h:w.ownsRow base e s v n xs) (d:Chg w w' S) (f:∀b,v.ownBlock=some b→¬S b):w'.ownsRow base e s v n xs:=by
 refine⟨h.1,?_⟩;rcases h.2 with j | ⟨g,cap,c,rfl,hb,hg,k⟩
 · exact .inl j
 · refine .inr ⟨g,cap,c,rfl,hb,?_,k⟩;have l:g < w.heap.size:=by
    rcases Nat.lt_or_ge g w.heap.size with h1 | h1
    · exact h1
    · rw[Array.getElem?_eq_none h1]at hg;cases hg
   rw[d.block g l (f g rfl)];exact hg
def Sty (w:World) (S G:Nat→Prop):Prop:=∀b,S b→b < w.heap.size→∃cur T,w.heap[b]? =some (.cells cur T (0,0))∧(T=24∨T=43∨(T=3∧¬G b))
theorem zC9 {s:Nat} {e:TypeId} {v:Value} (h:w.ownsRow base e s v n xs) (g:Sty w S G) (f:e≠24∧e≠43∧e≠3):∀b,v.ownBlock=some b→¬S b:=by
 intro b hb hs;obtain⟨k,h1⟩:=zBk h hb;obtain⟨j,T,d,c⟩:=g b hs (h.lt b hb).2;rw[h1]at d;injection d with d;injection d with _ h4 _;subst h4;rcases c with c | c | c
 · exact f.1 c
 · exact f.2.1 c
 · exact f.2.2 c.1
theorem zIx {s:Nat} {v:Value} (h:w.ownsRow base 3 s v n xs) (e:Sty w S G) (f:∀b,v.ownBlock=some b→G b):∀b,v.ownBlock=some b→¬S b:=by
 intro b hb hs;obtain⟨j,h1⟩:=zBk h hb;obtain⟨g,T,d,c⟩:=e b hs (h.lt b hb).2;rw[h1]at d;injection d with d;injection d with _ h4 _;subst h4;rcases c with c | c | c
 · exact absurd c jd
 · exact absurd c jd
 · exact c.2 (f b hb)
mutual
theorem TrC.chg {w w':World} {S G F:Nat→Prop} (hc:Chg w w' S) (hS:Sty w S G) (t:Tr) (cs:List Value) (h:TrC w F t cs):TrC w' F t cs:=by
 cases t with
 | mk x l=>
  rw[zFQ]at h⊢;obtain⟨vs,vm,vo,ks,h1,h2,h3,h4,h5,h6,h7⟩:=h;exact⟨vs,vm,vo,ks,h1,h2,zBM h3 hc (zC9 h3 hS jd),zBM h4 hc (zC9 h4 hS jd),zBM h5 hc (zC9 h5 hS jd),h6,TrsC.chg hc hS l ks h7⟩
theorem TrsC.chg {w w':World} {S G F:Nat→Prop} (hc:Chg w w' S) (hS:Sty w S G) (l:List Tr) (cs:List Value) (h:TrsC w F l cs):TrsC w' F l cs:=by
 cases l with
 | nil=>rw[zC1]at h⊢;exact h
 | cons t q=>
  rw[zB0]at h⊢;obtain⟨c0,rest,h1,h2,h3⟩:=h;exact⟨c0,rest,h1,TrC.chg hc hS t c0 h2,TrsC.chg hc hS q rest h3⟩
end
def ndC (x:Nd) (vs vm vk:Value):List Value:=[x.kind,x.name,vs,x.nk,x.nn,x.neg,vm,vk]
def NdsC (w:World) (G:Nat→Prop):List Nd→List Value→Prop
 | [],cs=>cs=[]
 | x::r,cs=>∃vs vm vk rest,cs=ndC x vs vm vk++rest∧w.ownsRow 0 65 1 vs x.str.length (zAM x.str)∧w.ownsRow 0 67 1 vm x.mag.length (zBq x.mag)∧w.ownsRow 0 3 1 vk x.kids.length (zE1 x.kids)∧(∀b,vk.ownBlock=some b→G b)∧NdsC w G r rest
def Laid (w:World) (G:Nat→Prop) (v:Value) (ts:List Nd):Prop:=∃ks,w.ownsRow 0 43 8 v ts.length ks∧NdsC w G ts ks
theorem NdsC.chg (b:Chg w w' S) (c:Sty w S G):∀(ts:List Nd) (cs:List Value),NdsC w G ts cs→NdsC w' G ts cs:=by
 intro ts
 induction ts with
 | nil=>intro cs h;exact h
 | cons x r j=>
  intro cs h;obtain⟨vs,k,vk,rest,h1,d,e,f,g,h6⟩:=h;exact⟨vs,k,vk,rest,h1,zBM d b (zC9 d c jd),zBM e b (zC9 e c jd),zBM f b (zIx f c g),g,j rest h6⟩
theorem NdsC.sub (hs:∀b,G b→b < w.heap.size→G' b):∀(ts:List Nd) (cs:List Value),NdsC w G ts cs→NdsC w G' ts cs:=by
 intro ts
 induction ts with
 | nil=>intro cs h;exact h
 | cons x r d=>
  intro cs h;obtain⟨vs,e,vk,rest,h1,f,g,c,j,h6⟩:=h;exact⟨vs,e,vk,rest,h1,f,g,c,fun b hb=>hs b (j b hb) (c.lt b hb).2,d rest h6⟩
theorem NdsC.snoc {c:Value} (d:w.ownsRow 0 65 1 vs x.str.length (zAM x.str)) (e:w.ownsRow 0 67 1 c x.mag.length (zBq x.mag)) (f:w.ownsRow 0 3 1 vk x.kids.length (zE1 x.kids)) (g:∀b,vk.ownBlock=some b→G b):∀{ts:List Nd} {cs:List Value},NdsC w G ts cs→NdsC w G (ts++[x]) (cs++ndC x vs c vk):=by
 intro ts
 induction ts with
 | nil=>intro cs h;rw[show cs=[]from h];exact⟨vs,c,vk,[],by rw[List.append_nil];rfl,d,e,f,g,rfl⟩
 | cons y r j=>
  intro cs h;obtain⟨us,k,l,rest,rfl,k2,k3,k4,k5,k6⟩:=h;exact⟨us,k,l,rest++ndC x vs c vk,by rw[List.append_assoc],k2,k3,k4,k5,j k6⟩
theorem NdsC.kids {K:List Int} (e:w.ownsRow 0 3 1 vk K.length (zE1 K)) (f:∀b,vk.ownBlock=some b→G b):∀{ts:List Nd} {cs:List Value} {i:Nat} {x:Nd},NdsC w G ts cs→ts[i]? =some x→NdsC w G (ts.set i {x with kids:=K}) (cs.set (i*8+7) vk):=by
 intro ts
 induction ts with
 | nil=>intro cs i x h c;cases c
 | cons y r g=>
  intro cs i x h c;obtain⟨us,d,j,rest,rfl,k2,k3,k4,k5,k6⟩:=h;cases i with
  | zero=>
   simp only[List.getElem?_cons_zero,Option.some.injEq]at c;subst c;exact⟨us,d,vk,rest,by rw[List.set_append_left _ _ (by show 0*8+7 < 8;omega)];rfl,k2,k3,e,f,k6⟩
  | succ i=>
   refine⟨us,d,j,rest.set (i*8+7) vk,?_,k2,k3,k4,k5,g k6 (by simpa using c)⟩;rw[List.set_append_right _ _ (by show 8≤_;omega)];congr 2;show(i+1)*8+7 - 8=_;omega
end
theorem zN5 (n:Nat) (l:List Tr) (t:Tr):flatL n (l++[t])=flatL n l++flatT (n+sizes l) t:=by
 induction l generalizing n with
 | nil=>rw[List.nil_append,zAS,zBI,zBI,List.append_nil,List.nil_append,zN,Nat.add_zero]
 | cons a r b=>rw[List.cons_append,zAS,zAS,b,List.append_assoc,zH,Nat.add_assoc]
theorem zLM (n:Nat) (l:List Tr) (t:Tr):zz n (l++[t])=zz n l++[((n+sizes l:Nat):Int)]:=by
 induction l generalizing n with
 | nil=>rw[zN];rfl
 | cons a r b=>rw[List.cons_append,zz,zz,b,zH,Nat.add_assoc];rfl
theorem zN6 (l:List Tr) (t:Tr):sizes (l++[t])=sizes l+t.size:=by
 induction l with
 | nil=>rw[List.nil_append,zH,zN];omega
 | cons a r b=>rw[List.cons_append,zH,zH,b];omega
theorem zIy (l:List Tr):∀i,sizes (l.take i)≤sizes l:=by
 induction l with
 | nil=>intro i;simp
 | cons a r b=>
  intro i;cases i with
  | zero=>simp[zN]
  | succ i=>rw[List.take_succ_cons,zH,zH];have:=b i;omega
theorem zRV {l:List Tr} {i:Nat} (hi:i < l.length):sizes (l.take i)+l[i].size≤sizes l:=by
 have h:=zIy l (i+1);rw[yAL hi,zN6]at h;exact h
theorem zMW (l:List Tr):l.length≤sizes l:=by
 induction l with
 | nil=>simp
 | cons a r b=>rw[zH,List.length_cons];have:=zBO a;omega
theorem zUo {l:List Tr} (h:t∈l):t.size≤sizes l:=by
 induction l with
 | nil=>cases h
 | cons a r b=>
  rw[zH];rcases List.mem_cons.1 h with rfl | h
  · omega
  · have:=b h;omega
theorem zF5 {w:World} {s R:Nat} {e T:TypeId} {v:Value} (h:w.ownsRow base e s v n xs) (hb:Bx w R T cs) (b:e≠T):v.ownBlock≠some R:=by
 intro c;obtain⟨d,h1⟩:=zBk h c;unfold Bx at hb;rw[h1]at hb;injection hb with hb;injection hb with _ h3 _;exact b h3
theorem zXN {w:World} {c f s s':Nat} {e T:TypeId} {v v':Value} (h:w.ownsRow base e s v n xs) (hb:w.ownsRow c T s' v' f cs) (g:e≠T):∀b,v.ownBlock=some b→v'.ownBlock≠some b:=by
 intro b j k;obtain⟨m,h1⟩:=zBk h j;obtain⟨l,d⟩:=zBk hb k;rw[h1]at d;injection d with d;injection d with _ h5 _;exact g h5
theorem TrsC.get {w:World} {F:Nat→Prop}:∀{l:List Tr} {ks:List Value},TrsC w F l ks→∀{i:Nat} (hi:i < l.length),∃e0 e1 e2 e3 e4 e5 e6 e7 e8,TrC w F l[i] [e0,e1,e2,e3,e4,e5,e6,e7,e8]∧∀j (hj:j < 9),ks[i*9+j]? =some ([e0,e1,e2,e3,e4,e5,e6,e7,e8][j]'hj):=by
 intro l
 induction l with
 | nil=>intro ks h i hi;simp at hi
 | cons t r c=>
  intro ks h i hi;rw[zB0]at h;obtain⟨c0,rest,rfl,h1,d⟩:=h;have b:=h1.len;cases i with
  | zero=>
   match c0,b with
   | [e0,e1,e2,e3,e4,e5,e6,e7,e8],_=>
    refine⟨e0,e1,e2,e3,e4,e5,e6,e7,e8,h1,fun j hj=>?_⟩;rw[Nat.zero_mul,Nat.zero_add,List.getElem?_append_left (by simpa using hj)];exact yAB _
  | succ i=>
   obtain⟨e0,e1,e2,e3,e4,e5,e6,e7,e8,e,f⟩:=c d (i:=i) (by simpa using hi);refine⟨e0,e1,e2,e3,e4,e5,e6,e7,e8,e,fun j hj=>?_⟩;rw[List.getElem?_append_right jo,b,show(i+1)*9+j - 9=i*9+j by omega];exact f j hj
def zYC (w:World) (Tb:Nat) (v:Value) (G:Nat→Prop) (ts:List Nd) (tr:Tr) (e:Ending) (w':World):Prop:=
 e=.returned ts.length∧∃v',Bx w' Tb 24 [v']∧Laid w' (fun b=>G b∨w.heap.size≤b) v' (ts++flatT ts.length tr)∧Chg w w' (fun i=>i=Tb∨v.ownBlock=some i)∧(v'.ownBlock=v.ownBlock∨∃b,v'.ownBlock=some b∧w.heap.size≤b)
structure LayS (w:World) (Tb:Nat) (v:Value) (G F:Nat→Prop) (ts1:List Nd) (l:List Tr) (ks:List Value) (vo:Value) (i:Nat) (v6 vN:Value) (wr:World):Prop where
 box:Bx wr Tb 24 [vN]
 laid:Laid wr (fun b=>(G b∨w.heap.size≤b)∧v6.ownBlock≠some b∧b < wr.heap.size) vN (ts1++flatL ts1.length (l.take i))
 chg:Chg w wr (fun i=>i=Tb∨v.ownBlock=some i)
 at_:vN.ownBlock=v.ownBlock∨∃b,vN.ownBlock=some b∧w.heap.size≤b
 row:wr.ownsRow 0 3 1 v6 i (zE1 (zz ts1.length (l.take i)))
 new6:∀b,v6.ownBlock=some b→w.heap.size≤b
 kids:wr.ownsRow 0 58 9 vo l.length ks
 subs:TrsC wr F l ks
section
variable {w wr w2 w3:World} {e:Ending} {Tb i:Nat} {v v6 vN vo v2 v6':Value} {G F:Nat→Prop} {ts1:List Nd} {l:List Tr} {ks:List Value}
theorem LayS.lenT (_h:LayS w Tb v G F ts1 l ks vo i v6 vN wr):(ts1++flatL ts1.length (l.take i)).length=ts1.length+sizes (l.take i):=by rw[List.length_append,flatL_len]
theorem LayS.sty (h:LayS w Tb v G F ts1 l ks vo i v6 vN wr) (d:Nat→Prop):Sty wr (fun i=>i=Tb∨vN.ownBlock=some i) d:=by
 intro b hb _;rcases hb with rfl | hb
 · exact⟨_,_,h.box,.inl rfl⟩
 · obtain⟨f,h1,_⟩:=h.laid;obtain⟨c,e⟩:=zBk h1 hb;exact⟨c,_,e,.inr (.inl rfl)⟩
theorem LayS.new (h:LayS w Tb v G F ts1 l ks vo i v6 vN wr) (hg:wr.grownBy w2 none):LayS w Tb v G F ts1 l ks vo i v6 vN w2:=by
 have c:Chg wr w2 (fun i=>none=some i):=.of hg;have e:∀f,Sty wr (fun i=>(none:Option Nat)=some i) f:=fun f b hb _=>by cases hb
 have d:∀(o:Option Nat) b,o=some b→¬(none:Option Nat)=some b:=fun o b _ h=>by cases h
 obtain⟨g,h1,j⟩:=h.laid;have k:=hg.size;exact⟨h.box.grown hg js,⟨g,zBM h1 c (d _),.sub (fun b hb _=>⟨hb.1,hb.2.1,by omega⟩) _ _ (NdsC.chg c (e _) _ _ j)⟩,h.chg.trans c (fun _ _ h=>by cases h),h.at_,zBM h.row c (d _),h.new6,zBM h.kids c (d _),TrsC.chg c (e (fun _=>True)) _ _ h.subs⟩
theorem LayS.row2 {b:Nat→Prop} {ts2:List Nd} (h:LayS w Tb v G F ts1 l ks vo i v6 vN wr) (c:zYC wr Tb vN b ts2 t e w2):w2.ownsRow 0 3 1 v6 i (zE1 (zz ts1.length (l.take i))):=by
 obtain⟨_,_,_,_,d,_⟩:=c;exact zBM h.row d (zIx (G:=fun _=>True) h.row (h.sty _) (fun _ _=>trivial))
theorem LayS.done {c f q i:Nat} {v6:Value} (h:LayS w Tb v G F (ts++[x]) l ks vo i v6 (.slice (some ⟨c,0,none⟩) f q) wr) (hi:i=l.length):zYC w Tb v G ts (.mk x l) (.returned ts.length) (wr.setCell ⟨c,ts.length*8+7,none⟩ v6):=by
 obtain⟨z,h1,A⟩:=h.laid;have g:(ts++[x]++flatL (ts++[x]).length (l.take i)).length=f:=by
  obtain⟨E,H,e,_⟩:=zS h1;injection e with e1 e2 e3;exact e2.symm
 rw[g]at h1;have k:=h1.stored (ts.length*8+7) v6;have d:(Value.slice (some ⟨c,0,none⟩) f q).ownBlock=some c:=rfl;have r:Chg wr (wr.setCell ⟨c,ts.length*8+7,none⟩ v6) (fun j=>some c=some j):=.of k.2;have s:∀t:Nat→Prop,Sty wr (fun j=>some c=some j) t:=by
  intro t b hb _;injection hb with hb;subst hb;obtain⟨u,m⟩:=zBk h1 d;exact⟨u,_,m,.inr (.inl rfl)⟩
 have o:l.take i=l:=List.take_of_length_le jo;have p:=zBM h.row r (zIx (G:=fun _=>True) h.row (s _) (fun _ _=>trivial));have y:c≠Tb:=fun e5=>zF5 h1 h.box jd (by rw[d,e5]);refine⟨rfl,.slice (some ⟨c,0,none⟩) f q,h.box.gg k.2 y,⟨z.set (ts.length*8+7) v6,?_,?_⟩,h.chg.trans r ?_,h.at_⟩
 · have e:(ts++flatT ts.length (.mk x l)).length=f:=by
    rw[←g,o,zA8];simp
   rw[e];exact k.1
 · have e:ts++flatT ts.length (.mk x l)=(ts++[x]++flatL (ts++[x]).length (l.take i)).set ts.length {x with kids:=zz (ts.length+1) l}:=by
    rw[zA8,o,List.append_assoc,List.set_append_right _ _ (yAC _)];simp
   rw[e];have B:=NdsC.chg r (s _) _ _ A;have C:=NdsC.sub (G':=fun b=>G b∨w.heap.size≤b) (fun b hb _=>hb.1) _ _ B;have D:(wr.setCell ⟨c,ts.length*8+7,none⟩ v6).ownsRow 0 3 1 v6 (zz (ts.length+1) l).length (zE1 (zz (ts.length+1) l)):=by
    rw[zBd,←hi];rw[o]at p;simpa using p
   refine NdsC.kids D (fun b hb=>.inr (h.new6 b hb)) C ?_;rw[List.append_assoc,List.getElem?_append_right (yAC _)];simp
 · intro j I m;injection m with m;subst m;rcases h.at_ with h6 | ⟨b,h6,J⟩
   · exact .inr (h6▸d)
   · rw[d]at h6;injection h6 with h6;omega
theorem LayS.step (h:LayS w Tb v G F ts1 l ks vo i v6 vN wr) (hi:i < l.length) (D:zYC wr Tb vN (fun b=>(G b∨w.heap.size≤b)∧v6.ownBlock≠some b∧b < wr.heap.size) (ts1++flatL ts1.length (l.take i)) l[i] e w2)
 (r:w3.ownsRow 0 3 1 v6' (i+1) (zE1 (zz ts1.length (l.take i))++[.int .i64 ((ts1.length+sizes (l.take i):Nat):Int)])) (hg:w2.grownBy w3 v6.ownBlock) (q:v6'.ownBlock=v6.ownBlock∨∃b,v6'.ownBlock=some b∧w2.heap.size≤b):
 ∃k,LayS w Tb v G F ts1 l ks vo (i+1) v6' k w3:=by
 obtain⟨_,k,hb,E,o,s⟩:=D;have N:w.heap.size≤wr.heap.size:=h.chg.size;have O:=o.size;have P:=hg.size;have d:Chg w2 w3 (fun i=>v6.ownBlock=some i):=.of hg;have t:∀b,v6.ownBlock=some b→b < wr.heap.size:=fun b hb=>(h.row.lt b hb).2;have f:w2.ownsRow 0 3 1 v6 i (zE1 (zz ts1.length (l.take i))):=zBM h.row o (zIx (G:=fun _=>True) h.row (h.sty _) (fun _ _=>trivial));have m:∀u:Nat→Prop,(∀b,v6.ownBlock=some b→¬u b)→Sty w2 (fun i=>v6.ownBlock=some i) u:=by
  intro u A b hb _;obtain⟨B,H⟩:=zBk f hb;exact⟨B,_,H,.inr (.inr ⟨rfl,A b hb⟩)⟩
 have p:∀b,v6.ownBlock=some b→¬(((G b∨w.heap.size≤b)∧v6.ownBlock≠some b∧b < wr.heap.size)∨wr.heap.size≤b):=by
  intro b hb c;have:=t b hb;rcases c with c | c
  · exact c.2.1 hb
  · omega
 obtain⟨I,k1,k2⟩:=E;have J:k.ownBlock≠some Tb:=zF5 k1 hb jd;have y:∀b,k.ownBlock=some b→¬v6.ownBlock=some b:=fun b hb c=>zXN k1 f jd b hb c;have e1:l.take (i+1)=l.take i++[l[i]]:=yAL hi;have z:(ts1++flatL ts1.length (l.take i)).length=ts1.length+sizes (l.take i):=h.lenT;refine⟨k,?_,?_,?_,?_,?_,?_,?_,?_⟩
 · exact hb.grown hg (fun e2=>zF5 f hb jd e2)
 · rw[e1,zN5,←List.append_assoc];rw[z]at k1 k2;refine⟨I,zBM k1 d y,?_⟩;have k3:=NdsC.chg d (m _ p) _ _ k2;have k4:=NdsC.sub (G':=fun b=>b < w2.heap.size∧(((G b∨w.heap.size≤b)∧v6.ownBlock≠some b∧b < wr.heap.size)∨wr.heap.size≤b)) (fun b hb L=>⟨L,hb⟩) _ _ k2;have k5:=NdsC.chg d (m _ (fun b hb c=>p b hb c.2)) _ _ k4;refine NdsC.sub (fun b hb _=>⟨?_,?_,by omega⟩) _ _ k5
   · rcases hb.2 with c | c
     · exact c.1
     · exact .inr jo
   · intro e2;rcases q with e3 | ⟨g,e3,C⟩
     · rw[e3]at e2;exact p b e2 hb.2
     · rw[e3]at e2;injection e2 with e2;omega
 · refine(h.chg.trans o ?_).trans d ?_
   · intro j M c;rcases c with c | c
     · exact .inl c
     · rcases h.at_ with h6 | ⟨b,h6,Q⟩
       · exact .inr (h6▸c)
       · rw[h6]at c;injection c with c;omega
   · intro j M c;have:=h.new6 j c;omega
 · rcases s with c | ⟨b,c,h6⟩
   · rw[c];exact h.at_
   · exact .inr ⟨b,c,by omega⟩
 · rw[e1,zLM];have:zE1 (zz ts1.length (l.take i)++[((ts1.length+sizes (l.take i):Nat):Int)])=zE1 (zz ts1.length (l.take i))++[.int .i64 ((ts1.length+sizes (l.take i):Nat):Int)]:=by simp[zE1]
   rw[this];exact r
 · intro b c;rcases q with e3 | ⟨g,e3,C⟩
   · rw[e3]at c;exact h.new6 b c
   · rw[e3]at c;injection c with c;omega
 · have k3:=zBM h.kids o (zC9 h.kids (h.sty (fun _=>True)) jd);exact zBM k3 d (zC9 k3 (m (fun b=>¬v6.ownBlock=some b) (fun b hb c=>c hb)) jd)
 · have k3:=TrsC.chg o (h.sty (fun _=>True)) _ _ h.subs;exact TrsC.chg d (m (fun b=>¬v6.ownBlock=some b) (fun b hb c=>c hb)) _ _ k3
end
def zYb (tr:Tr):Prop:=∀(w:World) (Tb:Nat) (v:Value) (G F:Nat→Prop) (ts:List Nd) (d0 d1 d2 d3 d4 d5 d6 d7 d8:Value),TrC w F tr [d0,d1,d2,d3,d4,d5,d6,d7,d8]→Bx w Tb 24 [v]→Laid w G v ts→ts.length+tr.size≤1000000→
 Calls prog 35 #[.pointer (some Tb),.agg #[d0,d1,d2,d3,d4,d5,d6,d7,d8]] w (zYC w Tb v G ts tr)
theorem zUp (x:Nd) (l:List Tr) (ih:∀t∈l,zYb t):zYb (.mk x l):=by
 intro w Tb v G F ts d0 d1 d2 d3 d4 d5 d6 d7 d8 ht hT hL hN;rw[zFQ]at ht;obtain⟨vs,vm,vo,ks,c4,b0,L,M,B,hF,b1⟩:=ht;obtain⟨As,cs,rfl,_,_⟩:=zS L;obtain⟨Am,cm,rfl,_,_⟩:=zS M;obtain⟨E,N,rfl,k7,_⟩:=zS B;simp only[zWy,List.cons.injEq,and_true]at c4;obtain⟨rfl,rfl,rfl,rfl,rfl,rfl,rfl,rfl,rfl⟩:=c4;obtain⟨kl,C,b2⟩:=hL;obtain⟨A,c,rfl,hc,_⟩:=zS C;rw[zi]at hN;obtain⟨n,hn⟩:=jx ts.length;obtain⟨m,hm⟩:=jx l.length;rw[hn]at C hc hN hT;rw[hm]at B k7;rw[hn,hm];obtain⟨W,hW⟩:=jx (w.alloc (.cells #[x.kind,x.name,.slice As x.str.length cs,x.nk,x.nn,x.neg,.slice Am x.mag.length cm,(),.slice E m N] 58));have o:w.grownBy W none:=by rw[←hW];exact zF _ _ _
 obtain⟨X,hX⟩:=jx w.heap.size;have HX:=zA (show Bx W X 58 [x.kind,x.name,.slice As x.str.length cs,x.nk,x.nn,x.neg,.slice Am x.mag.length cm,(),.slice E m N] by rw[←hW,←hX];exact Bx.new w _ _);have o1:Tb < X:=by rw[←hX];exact hT.lt
 have O:=zA (hT.grown o js);have c5:W.heap.size=X+1:=by rw[←hW,←hX];simp
 have q:=zA (C.kept o (by cases (Value.slice A n c).ownBlock<;>simp));have b3:=zA (NdsC.chg (G:=G) (.of o) (fun b hb _=>by cases hb) ts kl b2);have P:=zA (B.kept o (by cases (Value.slice E m N).ownBlock<;>simp));have b4:=zA (TrsC.chg (G:=G) (.of o) (fun b hb _=>by cases hb) l ks b1);have Q:=zA (L.kept o (by cases (Value.slice As x.str.length cs).ownBlock<;>simp));have R:=zA (M.kept o (by cases (Value.slice Am x.mag.length cm).ownBlock<;>simp));have c7:=zA (Chg.of o);have k8:=zA ih;have h8:=zA b0;have k9:=zA hX;have a5:=zA hn;have r:=zA hm;have l0:=zA c5;have HN:=zA hN;have l1:X < W.heap.size:=by omega
 have o2:n≤1000000:=by omega
 obtain⟨i0,hi,c8,c9,d9⟩:=info_parts Tryz.info_anode;have zT:W.cell? Tb=some (.slice A n c):=O.out.cell 0;have fT:W.frozen? Tb=false:=O.out.frozen 0;obtain⟨S,T,U,V,Y,a0,a1,a2,a3⟩:=HX.out.nine;clear hT hN L M B hF b1 C b2 o hm ih b0 c5;go_enter func35,ntmps35;go_upto_region 2 with(fail);clear hW hX;have e9:=zA (zF5 q O jd);have f0:=zA ((O.out.alloc (.cells #[x.kind,x.name,.slice As x.str.length cs,x.nk,x.nn,x.neg,.slice Am x.mag.length cm,()] 43)).drew);have l2:(W.alloc (.cells #[x.kind,x.name,.slice As x.str.length cs,x.nk,x.nn,x.neg,.slice Am x.mag.length cm,()] 43)).cell? Tb=some (.slice A n c):=(O.out.alloc _).cell 0
 go_cut [14] (fun _ wx=>∃(A1:Option Addr) (n1 c1:Nat),Hid (n1=n+1)∧Hid (Bx wx X 58 [x.kind,x.name,.slice As x.str.length cs,x.nk,x.nn,x.neg,.slice Am x.mag.length cm,(),.slice E m N])∧Hid (LayS w Tb (.slice A n c) G F (ts++[x]) l ks (.slice E m N) 0 (.slice none 0 0) (.slice A1 n1 c1) wx))
 case first=>
  go_region_law (refine step_append_lies _ rfl _ _ 22 rfl 0 43 i0 _ 8 120 underlying22 hi c8 c9 d9 rfl jd (.slice A n c) n kl rfl (q.out.alloc _) ⟨W.heap.size,0,none⟩ 1 1 [x.kind,x.name,.slice As x.str.length cs,x.nk,x.nn,x.neg,.slice Am x.mag.length cm,()] rfl rfl (World.news_of_block (Bx.new W _ _)) (by intro u hu;simp only[List.mem_cons,List.not_mem_nil,or_false]at hu;rcases hu with rfl | rfl | rfl | rfl | rfl | rfl | rfl | rfl<;>rfl) jd (by unfold maxLen;omega) jo (yAE _) _ rfl ?_;intro g1 c1 w1 f1 b5 f2 o3;have f3:=zA f1;have f4:=zA b5;have l3:=zA f2;have a6:=zA (f0.out.grown b5 e9.out);clear f1 b5 f2;have zT:w1.cell? Tb=some (.slice A n c):=a6.out.cell 0;have fT:w1.frozen? Tb=false:=a6.out.frozen 0)
  all_goals
   have b6:=zF5 f3 a6 jd;have a7:=zQ w1 Tb 0 (.slice (some ⟨g1,0,none⟩) (n+1) c1);have s:=zA (show Chg W (w1.setCell Tb (.slice (some ⟨g1,0,none⟩) (n+1) c1)) (fun i=>i=Tb∨(Value.slice A n c).ownBlock=some i)from
    (((Chg.of (zF W (.cells #[x.kind,x.name,.slice As x.str.length cs,x.nk,x.nn,x.neg,.slice Am x.mag.length cm,()] 43) none)).more (S':=fun i=>i=Tb∨(Value.slice A n c).ownBlock=some i) (fun _ _ h=>by cases h)).trans (Chg.of (show(W.alloc (.cells #[x.kind,x.name,.slice As x.str.length cs,x.nk,x.nn,x.neg,.slice Am x.mag.length cm,()] 43)).grownBy w1 (Value.slice A n c).ownBlock from zC (zBT _ _) f4)) (fun _ _ h=>.inr h)).trans (Chg.of a7) (fun i _ h=>.inl (by injection h with h;exact h.symm)))
   have y:∀G2:Nat→Prop,Sty W (fun i=>i=Tb∨(Value.slice A n c).ownBlock=some i) G2:=by
    intro G2 b hb _;rcases hb with rfl | hb
    · exact⟨_,_,O,.inl rfl⟩
    · obtain⟨b7,D⟩:=zBk q hb;exact⟨b7,_,D,.inr (.inl rfl)⟩
   have l4:=zA ((Bx.grown (HX.out.alloc (.cells #[x.kind,x.name,.slice As x.str.length cs,x.nk,x.nn,x.neg,.slice Am x.mag.length cm,()] 43)).drew f4 (zF5 q HX jd)).gg a7 jo);have a8:=zA (show LayS w Tb (.slice A n c) G F (ts++[x]) l ks (.slice E m N) 0 (.slice none 0 0) (.slice (some ⟨g1,0,none⟩) (n+1) c1) (w1.setCell Tb (.slice (some ⟨g1,0,none⟩) (n+1) c1))from by
    refine⟨a6.out.set 0 _,?_,(c7.out.more (fun _ _ h=>by cases h)).trans s (fun _ _ h=>h),?_,?_,(fun b h=>by cases h),?_,TrsC.chg s (y (fun _=>True)) _ _ b4⟩
    · refine⟨kl++ndC x (.slice As x.str.length cs) (.slice Am x.mag.length cm) (.slice none 0 0),?_,?_⟩
      · have:=f3.out.kept a7 (.inr b6);rw[List.take_zero,zBI,List.append_nil,List.length_append,a5.out];exact this
      · rw[List.take_zero,zBI,List.append_nil];have h1:=NdsC.chg s (y G) _ _ b3;have D:=NdsC.snoc (x:=x) (zBM Q s (zC9 Q (y (fun _=>True)) jd)) (zBM R s (zC9 R (y (fun _=>True)) jd)) (show World.ownsRow _ 0 3 1 (.slice none 0 0) x.kids.length (zE1 x.kids) by rw[h8.out];exact yAJ _ _ _ _) (fun b h=>by cases h) h1;exact NdsC.sub (fun b hb hl=>⟨.inl hb,by simp[Value.ownBlock],hl⟩) _ _ D
    · rcases l3 with e | e
      · exact .inl e.symm
      · refine .inr ⟨g1,rfl,?_⟩;have hz:(W.alloc (.cells #[x.kind,x.name,.slice As x.str.length cs,x.nk,x.nn,x.neg,.slice Am x.mag.length cm,()] 43)).drew.heap.size=W.heap.size+1:=by show(W.alloc _).heap.size=_;simp
        rw[k9.out];omega
    · rw[List.take_zero];exact yAJ _ _ _ _
    · rw[r.out];exact zBM P s (zC9 P (y (fun _=>True)) jd))
   clear a7 b6 y;go_wp2_with fail;go_meet;exact⟨_,n+1,c1,zA rfl,l4,a8⟩
 case rest=>
  clear O HX q b3 P b4 Q R c7 f0 e9 l2 zT fT S T U V Y a0 a1 a2 a3;obtain⟨A1,n1,c1,o4,f5,a8⟩:=hcut;obtain⟨wq,rfl⟩:∃x,x=wc:=⟨_,rfl⟩;obtain⟨S,T,U,V,Y,a0,a1,a2,a3⟩:=f5.out.nine;go_upto_region 3 with(fail);have o5:=zA r;have o6:m≤1000000:=by
   have h1:=HN.out;have D:l.length≤sizes l:=zMW l;have h3:=r.out;omega
  have o7:¬((m:Int) < 0):=by omega
  clear hi c8 c9 d9 l1 l0;go_wp2_with fail
  go_loopg [6,28] (m) (fun gk v6 l5 wr=>∃(i:Nat) (A6:Option Addr) (c6:Nat) (AN:Option Addr) (H cN:Nat),i+gk=m∧l5=.int .i64 (i:Int)∧v6=.slice A6 i c6∧Hid (LayS w Tb (.slice A n c) G F (ts++[x]) l ks (.slice E m N) i (.slice A6 i c6) (.slice AN H cN) wr))
  case atStart=>exact⟨0,none,0,A1,n1,c1,by omega,rfl,rfl,a8⟩
  case round=>
   clear a8 f5 S T U V Y a0 a1 a2 a3;obtain⟨i,A6,c6,AN,H,cN,l6,rfl,rfl,I⟩:=hrel
   by_cases f6:i < m
   · have a9:=zA (show i < l.length by rw[r.out];exact f6);obtain⟨e0,e1,e2,e3,e4,e5,e6,e7,e8,f7,f8⟩:=TrsC.get I.out.subs a9;have f9:=zA f7;have b8:=I.out.kids;obtain⟨k,l7⟩:∃k,E=some ⟨k,0,none⟩:=by
      rcases b8.2 with⟨h1,D⟩ | ⟨g,cap,b7,h1,_⟩
      · have:=r.out;omega
      · injection h1 with h1;exact⟨g,h1⟩
     subst l7;have d:∀j (hj:j < 9),wr.cell? ⟨k,i*9+j,none⟩=some ([e0,e1,e2,e3,e4,e5,e6,e7,e8][j]'hj):=by
      intro j hj;have h1:=b8.cells (g:=k) rfl (i*9+j) _ (f8 j hj);have D:(⟨k,0,none⟩:Addr).add (i*9+j)=⟨k,i*9+j,none⟩:=by unfold Addr.add;split<;>simp_all
      rw[D]at h1;exact h1
     have c0:wr.cell? ⟨k,i*9,none⟩=some e0:=d 0 jd;have l8:wr.cell? ⟨k,i*9+1,none⟩=some e1:=d 1 jd;have l9:wr.cell? ⟨k,i*9+2,none⟩=some e2:=d 2 jd;have m0:wr.cell? ⟨k,i*9+3,none⟩=some e3:=d 3 jd;have m1:wr.cell? ⟨k,i*9+4,none⟩=some e4:=d 4 jd;have m2:wr.cell? ⟨k,i*9+5,none⟩=some e5:=d 5 jd;have m3:wr.cell? ⟨k,i*9+6,none⟩=some e6:=d 6 jd;have m4:wr.cell? ⟨k,i*9+7,none⟩=some e7:=d 7 jd;have m5:wr.cell? ⟨k,i*9+8,none⟩=some e8:=d 8 jd;obtain⟨h9,j0,j1,j2,j3,j4,j5,j6,j7⟩:=f9.out.sto;clear d f8 b8 f7;have o0:=zA f6;have o8:=zA l6;obtain⟨wk,b9⟩:=jx (wr.alloc (.cells #[e0,e1,e2,e3,e4,e5,e6,e7,e8] 58));have a4:wr.grownBy wk none:=by rw[←b9];exact zF _ _ _
     have z:=zA (I.out.new a4);have m6:=zA (show Bx wk wr.heap.size 58 [e0,e1,e2,e3,e4,e5,e6,e7,e8] by rw[←b9];exact Bx.new wr _ _);have m7:=zA (TrC.keep a4 (.none_ _ _) _ _ f9);clear a4;go_upto_region 7 with(fail);clear b9 c0 l8 l9 m0 m1 m2 m3 m4 m5;obtain⟨j8,j9,k0,k1,k2,k3,k4,k5,k6⟩:=m6.out.nine;have g0:=zA (k8.out l[i] (List.getElem_mem a9) wk Tb (.slice AN H cN) _ F _ e0 e1 e2 e3 e4 e5 e6 e7 e8 m7 z.out.box z.out.laid (by
      have h1:=z.out.lenT;have D:=zRV a9;have h3:=HN.out;have h4:=a5.out;rw[h1,List.length_append,h4];show n+1+_+_≤_;omega))
     obtain⟨p,hp⟩:=jx ((ts++[x]++flatL (ts++[x]).length (l.take i)).length);have o9:=zA hp;have m8:=zA (show(ts++[x]).length+sizes (l.take i)=p by rw[←hp];exact z.out.lenT.symm);have g2:=zA (g0.out.mono fun e w' hq=>(⟨by rw[←hp];exact hq.1,hq⟩:e=.returned p∧zYC wk Tb (.slice AN H cN) _ (ts++[x]++flatL (ts++[x]).length (l.take i)) l[i] e w'));clear g0 hp;obtain⟨i1,g4,g5,g6,g7⟩:=info_parts Tryz.info_int;go_wp2_with fail;refine g2.out.mono ?_;rintro p0 w2 ⟨rfl,hq⟩;have HQ:=zA hq;have m9:=zA (z.out.row2 hq);clear hq g2 j8 j9 k0 k1 k2 k3 k4 k5 k6 h9 j0 j1 j2 j3 j4 j5 j6 j7;go_wp2_with (at_builtin;refine wpList_append_lies _ rfl _ _ 41 rfl 0 3 i1 _ 1 8 underlying41 g4 g5 g6 g7 rfl jd (.slice A6 i c6) i _ rfl (m9.out.alloc _) ⟨w2.heap.size,0,none⟩ 1 1 [p] rfl rfl (cell_one_new _ _ _) (by intro u hu;rw[List.mem_singleton.1 hu];rfl) jd (by unfold maxLen;omega) jo (yAE _) _ rfl ?_;intro g3 c3 w3 g8 g9 h0 n0;have n2:=zA g8;have n3:=zA g9;have n4:=zA h0;clear g8 g9 h0 n0);have J:=z.out.step (v6':=.slice (some ⟨g3,0,none⟩) (i+1) c3) a9 HQ (by rw[m8.out];exact n2.out) (zC (zF w2 (.cells #[p] 3) _) n3) (by
      rcases n4 with h5 | h5
      · exact .inl h5.symm
      · exact .inr ⟨g3,rfl,by rw[h5];simp⟩)
     obtain⟨p1,J⟩:=J;obtain⟨n5,f,_⟩:=J.laid;obtain⟨n6,n7,rfl,_,_⟩:=zS f;have c2:=zA J;clear J f g4 g5 g6 g7;go_wp2_with fail
     go_roundg (gk - 1)
     case measure=>omega
     case rel=>exact⟨i+1,_,_,n6,_,n7,by omega,by simp,rfl,c2⟩
   · obtain rfl:i=m:=by omega
     have c2:=zA I;obtain⟨n5,f,_⟩:=I.out.laid;have h6:(ts++[x]++flatL (ts++[x]).length (l.take i)).length=H:=by
      obtain⟨A',c',e,_⟩:=zS f;injection e with e1 e2 e3;exact e2.symm
     have p2:n < H:=by
      have h1:=I.out.lenT;have h4:=a5.out;rw[h6,List.length_append,h4]at h1;have:([x]:List Nd).length=1:=rfl;omega
     rw[h6]at f;obtain⟨gN,n8⟩:∃gN,AN=some ⟨gN,0,none⟩:=by
      rcases f.2 with⟨h1,D⟩ | ⟨g,cap,b7,h1,_⟩
      · omega
      · injection h1 with h1;exact⟨g,h1⟩
     subst n8;have h7:(wr.cell? ⟨gN,n*8+7,none⟩).isSome=true:=by
      rw[f.cellAt (n*8+7) jo];rw[yAB (by rw[f.1];omega)];rfl
     obtain⟨uu,h7⟩:=Option.isSome_iff_exists.1 h7;have p3:wr.frozen? ⟨gN,n*8+7,none⟩=false:=f.frozenAt _;have zT:wr.cell? Tb=some (.slice (some ⟨gN,0,none⟩) H cN):=I.out.box.cell 0;have p4:(n:Int) < (H:Int):=by omega
     have p5:¬(n:Int) < 0:=by omega
     have n9:=zA (show i=l.length from r.out.symm);clear f I;go_wp2_with fail;go_ret;have hd:=c2.out.done n9;rw[a5.out]at hd;exact hd
theorem zZr:∀(N:Nat) (tr:Tr),tr.size≤N→zYb tr:=by
 intro N
 induction N with
 | zero=>intro tr h;have:=zBO tr;omega
 | succ N b=>
  intro tr h;cases tr with
  | mk x l=>
   refine zUp x l fun t c=>b t ?_;rw[zi]at h;have:=zUo c;omega
theorem zXO (tr:Tr):zYb tr:=zZr tr.size tr (yAC _)
def zZs (w:World) (tr:Tr) (e:Ending) (w':World):Prop:=
 ∃A n c,e=.returned (.agg #[.slice A n c])∧Laid w' (w.heap.size≤·) (.slice A n c) (flatT 0 tr)∧w.grownBy w' none
theorem zUq {w:World} {F:Nat→Prop} {tr:Tr} {d0 d1 d2 d3 d4 d5 d6 d7 d8:Value} (t:TrC w F tr [d0,d1,d2,d3,d4,d5,d6,d7,d8]) (hs:tr.size≤1000000):
 Calls prog 17 #[.agg #[d0,d1,d2,d3,d4,d5,d6,d7,d8]] w (zZs w tr):=by
 obtain⟨f,k⟩:=jx (w.alloc (.cells #[d0,d1,d2,d3,d4,d5,d6,d7,d8] 58));obtain⟨g,l⟩:=jx (f.alloc (.cells #[()] 24));obtain⟨W,u⟩:=jx (g.alloc (.cells #[()] 24));have y:w.grownBy f none:=by rw[←k];exact zF _ _ _
 have g1:f.grownBy g none:=by rw[←l];exact zF _ _ _
 have g2:g.grownBy W none:=by rw[←u];exact zF _ _ _
 obtain⟨R,p⟩:=jx w.heap.size;have z:f.heap.size=R+1:=by rw[←k,←p];simp
 have D:g.heap.size=R+1+1:=by rw[←l];simp[z]
 have P:=zA (show Bx W R 58 [d0,d1,d2,d3,d4,d5,d6,d7,d8]from by
  have h1:Bx f R 58 [d0,d1,d2,d3,d4,d5,d6,d7,d8]:=by rw[←k,←p];exact Bx.new w _ _
  exact(h1.grown g1 js).grown g2 js)
 have E:=zA (show Bx W (R+1) 24 [()]from by
  have h1:Bx g (R+1) 24 [()]:=by rw[←l,←z];exact Bx.new f _ _
  exact h1.grown g2 js)
 have Q:=zA (show Bx W (R+1+1) 24 [()]from by rw[←u,←D];exact Bx.new g _ _);have m:=zA (zC (zC y g1) g2);have G:=zA (TrC.keep (zC (zC y g1) g2) (.none_ _ _) _ _ t);have H:=zA p;have I:=zA (zXO tr W (R+1+1) (.slice none 0 0) (fun _=>False) F [] d0 d1 d2 d3 d4 d5 d6 d7 d8 G Q ⟨[],yAJ _ _ _ _,rfl⟩ (by simpa using hs));obtain⟨S,T,U,V,X,Y,a0,a1,a2⟩:=t.sto;clear t y g1 g2;go_enter func17,ntmps17;go_upto_region 2 with(fail);clear u k l z D p;obtain⟨a3,a4,a5,a6,a7,a8,a9,b0,b1⟩:=P.out.nine;go_wp2_with fail;refine I.out.mono ?_;rintro ev w2 ⟨rfl,v',hb,J,B,q⟩;have L:=zA J;obtain⟨kl,hk,_⟩:=J;obtain⟨A,c,rfl,_,_⟩:=zS hk;have j:Bx w2 (R+1) 24 [()]:=by
  have h1:=E.out;unfold Bx at h1⊢;rw[B.block (R+1) E.out.lt (by
   rintro(h | h)
   · omega
   · cases h)]
  exact h1
 have o:(Value.slice A ([]++flatT ([]:List Nd).length tr).length c).ownBlock≠some (R+1):=zF5 hk j jd;obtain⟨n,C⟩:=jx (([]++flatT ([]:List Nd).length tr).length);rw[C]at o hb L q;have HN:=zA C;have HK:=zA hk;have zT:w2.cell? ⟨R+1+1,0,none⟩=some (.slice A n c):=hb.cell 0;have zX:w2.cell? ⟨R+1,0,none⟩=some (.slice none 0 0):=j.cell 0;have fX:w2.frozen? ⟨R+1,0,none⟩=false:=j.frozen 0;have r:=zA j;have d:=zA B;have M:=zA o;clear hk C hb j q B o I;go_wp2_with fail;have N:(w2.setCell ⟨R+1,0,none⟩ (.slice A n c)).cell? ⟨R+1,0,none⟩=some (.slice A n c):=(r.out.set 0 _).cell 0;refine bodyPost_ret (v:=.agg #[.slice A n c]) (by simp[results,results17,go_sem,N]) rfl ?_;have e:=zQ w2 (R+1) 0 (.slice A n c);have s:Chg w2 (w2.setCell ⟨R+1,0,none⟩ (.slice A n c)) (fun i=>some (R+1)=some i):=.of e;have O:Sty w2 (fun i=>some (R+1)=some i) (W.heap.size≤·):=by
  intro b hb _;injection hb with hb;subst hb;exact⟨_,_,r,.inl rfl⟩
 refine⟨A,n,c,rfl,?_,?_⟩
 · obtain⟨k2,h1,h2⟩:=L.out;refine⟨k2,zBM h1 s (fun b h5 h6=>?_),NdsC.sub (fun b hb _=>?_) _ _ (NdsC.chg s O _ _ (NdsC.sub (G':=(W.heap.size≤·)) (fun b hb _=>hb.resolve_left id) _ _ h2))⟩
   · injection h6 with h6;subst h6;exact M.out h5
   · exact yAD m.out.size hb
 · have hz:=m.out.size;refine⟨e.os.trans (d.out.os.trans m.out.os),e.tape.trans (d.out.tape.trans m.out.tape),e.output.trans (d.out.output.trans m.out.output),yAD hz (yAD d.out.size e.size),fun i hi _=>?_⟩;have b2:i < R:=by rw[←H.out];exact hi
   rw[e.block i (by have:=d.out.size;omega) (by simp;omega),d.out.block i jo (by
    rintro(h | h)
    · omega
    · cases h)]
   exact m.out.block i hi js
structure NQ (x:Nd):Prop where
 kb: -9223372036854775808≤x.kind∧x.kind≤9223372036854775807
 nkb: -9223372036854775808≤x.nk∧x.nk≤9223372036854775807
 nnb: -9223372036854775808≤x.nn∧x.nn≤9223372036854775807
 nm:x.name.length≤4096
 limb:∀y∈x.mag,y < 4294967296
inductive NB:Tr→Prop
 | mk {x:Nd} {l:List Tr}:NQ x→(∀t∈l,NB t)→NB (.mk x l)
theorem NB.subs (h:NB t):∀a∈t.subs,NB a:=by cases h with | mk _ h2=>exact h2
theorem NB.nd (h:NB t):NQ t.nd:=by cases h with | mk h1 _=>exact h1
def Kb (k:Int):Prop:= -9223372036854775808≤k∧k≤9223372036854775807
theorem nbK {l:List Tr} (hk:Kb k) (h:∀t∈l,NB t):NB (trK k l):=.mk ⟨hk,by simp[zBo],by simp[zBo],by simp[zBo],by simp[zBo]⟩ h
theorem nbN {n:List UInt8} {l:List Tr} (hk:Kb k) (b:n.length≤4096) (h:∀t∈l,NB t):NB (trN k n l):=.mk ⟨hk,by simp[zBo],by simp[zBo],b,by simp[zBo]⟩ h
theorem zRW {a:Tr} {r:List Tr} (h:NB a) (k:∀t∈r,NB t):∀t∈a::r,NB t:=fun t b=>(List.mem_cons.1 b).elim (fun e=>e▸h) (k t)
def PhN:Ph→Prop
 | .program acc=>∀t∈acc,NB t
 | .blockL acc=>∀t∈acc,NB t
 | .declL k acc=>Kb k∧∀t∈acc,NB t
 | .func k n=>Kb k∧n.length≤4096
 | .paramL acc=>∀t∈acc,NB t
 | .jump k=>Kb k
 | .body l=>∀t∈l,NB t
 | .nullL x=>NB x
 | .orL x=>NB x
 | .both x=>NB x
 | .levelL _ x=>NB x
 | .callsL x=>NB x
 | .headL x=>NB x
 | .listL _ acc=>∀t∈acc,NB t
 | .objL acc=>∀t∈acc,NB t
 | _=>True
def TLm (L:List Tok):Prop:=∀i,∀y∈(zG L i).mag,y < 4294967296
section
variable {L:List Tok} {R:Ph→Ps→Tr×Ps}
theorem zE0 (b:TL L) (s:Ps):(zc L s).1.length≤4096:=by
 unfold zc;split
 · exact(b _).len
 · exact yAE _
theorem zm {c:Prop} [Decidable c] {a b:Tr×Ps} (h1:NB a.1) (d:NB b.1):NB (if c then a else b).1:=by split<;>assumption
theorem zXP (g:TL L) (r:TLm L) (b:∀q s,PhN q→NB (R q s).1) (p:Ph) (s:Ps) (c:PhN p):NB (zD L R p s).1:=by
 have tx:∀i,(zG L i).text.length≤4096:=fun i=>(g i).len;have u:∀q s,PhN q→NB (R q s).1:=b;cases p with
 | program e=>
  unfold zD;dsimp only;refine zm ?_ ?_
  · exact nbK (by unfold Kb;decide) c
  · exact b _ _ (zAj c (b _ _ (by exact trivial)))
 | block=>exact b _ _ zCS
 | blockL e=>
  unfold zD;dsimp only;refine zm ?_ ?_
  · exact nbK (by unfold Kb;decide) c
  · refine zm ?_ ?_
    · exact nbK (by unfold Kb;decide) c
    · exact b _ _ (zAj c (b _ _ (by exact trivial)))
 | item=>
  unfold zD;dsimp only;refine zm ?_ ?_
  · exact b _ _ (by exact trivial)
  · refine zm ?_ ?_
    · exact b _ _ ⟨by unfold Kb;decide,zE0 g _⟩
    · exact b _ _ (by exact trivial)
 | declares=>
  unfold zD;dsimp only;refine zm ?_ ?_
  · exact b _ _ ⟨by unfold Kb;decide,zCS⟩
  · exact b _ _ ⟨by unfold Kb;decide,zCS⟩
 | declL k e=>
  unfold zD;dsimp only;generalize hD:(if onP L [61] (zc L s).2=true then(trN 7 (zc L s).1 [(R .assign (zB (zc L s).2)).1],(R .assign (zB (zc L s).2)).2)else(trN 7 (zc L s).1 [],(zc L s).2):Tr×Ps)=d;have m:NB d.1:=by
   rw[←hD];refine zm ?_ ?_
   · exact nbN (by unfold Kb;decide) (zE0 g _) (zGD (b _ _ (by exact trivial)))
   · exact nbN (by unfold Kb;decide) (zE0 g _) zCS
  clear hD;refine zm ?_ ?_
  · exact nbK c.1 (zAj c.2 m)
  · refine zm ?_ ?_
    · exact b _ _ ⟨c.1,zAj c.2 m⟩
    · exact nbK c.1 (zAj c.2 m)
 | func k n=>
  unfold zD;dsimp only;exact nbN c.1 c.2 (zAj (b _ _ (by exact trivial)).subs (b _ _ (by exact trivial)))
 | params=>
  unfold zD;dsimp only;refine zm ?_ ?_
  · exact nbK (by unfold Kb;decide) zCS
  · exact b _ _ zCS
 | paramL e=>
  unfold zD;dsimp only;have f:∀t∈e++[trN 20 (zc L s).1 []],NB t:=zAj c (nbN (by unfold Kb;decide) (zE0 g _) zCS);refine zm ?_ ?_
  · exact nbK (by unfold Kb;decide) f
  · refine zm ?_ ?_
    · exact nbK (by unfold Kb;decide) f
    · exact b _ _ f
 | statement=>
  unfold zD;dsimp only;refine zm ?_ ?_
  · exact nbN (by unfold Kb;decide) (tx _) (zGD (b _ _ (by exact trivial)))
  · refine zm ?_ ?_
    · exact b _ _ (by exact trivial)
    · refine zm ?_ ?_
      · exact nbK (by unfold Kb;decide) zCS
      · refine zm ?_ ?_
        · exact b _ _ (by exact trivial)
        · exact b _ _ (by exact trivial)
 | simple=>
  unfold zD;dsimp only;exact nbK (by unfold Kb;decide) (zGD (b _ _ (by exact trivial)))
 | word w=>
  unfold zD;dsimp only;refine zm ?_ ?_
  · refine zm ?_ ?_
    · exact nbK (by unfold Kb;decide) (zVC (b _ _ (by exact trivial)) (b _ _ (by exact trivial)) (b _ _ (by exact trivial)))
    · exact nbK (by unfold Kb;decide) (zKZ (b _ _ (by exact trivial)) (b _ _ (by exact trivial)))
  · refine zm ?_ ?_
    · exact nbK (by unfold Kb;decide) (zKZ (b _ _ (by exact trivial)) (b _ _ (by exact trivial)))
    · refine zm ?_ ?_
      · exact b _ _ (by exact trivial)
      · refine zm ?_ ?_
        · exact b _ _ (by show Kb _;unfold Kb;decide)
        · refine zm ?_ ?_
          · exact b _ _ (by show Kb _;unfold Kb;decide)
          · refine zm ?_ ?_
            · refine zm ?_ ?_
              · exact nbK (by unfold Kb;decide) zCS
              · exact nbK (by unfold Kb;decide) (zGD (b _ _ (by exact trivial)))
            · refine zm ?_ ?_
              · exact nbK (by unfold Kb;decide) (zGD (b _ _ (by exact trivial)))
              · refine zm ?_ ?_
                · exact b _ _ (by exact trivial)
                · refine zm ?_ ?_
                  · exact nbK (by unfold Kb;decide) zCS
                  · exact b _ _ (by exact trivial)
 | within=>exact b _ _ (by exact trivial)
 | clause w=>
  unfold zD;dsimp only;refine zm ?_ ?_
  · exact nbK (by unfold Kb;decide) zCS
  · exact b _ _ (by exact trivial)
 | loop=>
  unfold zD;dsimp only;refine nbK (by unfold Kb;decide) (zZz ?_ (b _ _ (by exact trivial)) (b _ _ (by exact trivial)) (b _ _ (by exact trivial)));refine zm ?_ ?_
  · exact b _ _ (by exact trivial)
  · exact b _ _ (by exact trivial)
 | jump k=>
  unfold zD;dsimp only;refine zm ?_ ?_
  · exact nbN c (zE0 g _) zCS
  · exact nbK c zCS
 | tries=>
  unfold zD;dsimp only;have j:∀s1:Ps,NB (if onP L [99,97,116,99,104] s1=true then
   ((trN 17 (if onP L [40] (zB s1)=true then((zc L (zB (zB s1))).1,zL L [41] (zc L (zB (zB s1))).2)else([],zB s1)).1 [(R .block (if onP L [40] (zB s1)=true then((zc L (zB (zB s1))).1,zL L [41] (zc L (zB (zB s1))).2)else([],zB s1)).2).1],(R .block (if onP L [40] (zB s1)=true then((zc L (zB (zB s1))).1,zL L [41] (zc L (zB (zB s1))).2)else([],zB s1)).2).2))
   else(trK 11 [],s1)).1:=by
   intro s1;refine zm ?_ ?_
   · refine nbN (by unfold Kb;decide) ?_ (zGD (b _ _ (by exact trivial)));split
     · exact zE0 g _
     · exact yAE _
   · exact nbK (by unfold Kb;decide) zCS
  refine zm ?_ ?_
  · exact nbK (by unfold Kb;decide) (zVC (b _ _ (by exact trivial)) (j _) (b _ _ (by exact trivial)))
  · exact nbK (by unfold Kb;decide) (zVC (b _ _ (by exact trivial)) (j _) (nbK (by unfold Kb;decide) zCS))
 | assign=>
  unfold zD;dsimp only;refine zm ?_ ?_
  · exact b _ _ (zGD (nbN (by unfold Kb;decide) (tx _) zCS))
  · refine zm ?_ ?_
    · exact b _ _ (b _ _ (by exact trivial)).subs
    · refine zm ?_ ?_
      · exact b _ _ (by exact trivial)
      · refine zm ?_ ?_
        · exact b _ _ (by exact trivial)
        · exact nbN (by unfold Kb;decide) (tx _) (zKZ (b _ _ (by exact trivial)) (b _ _ (by exact trivial)))
 | body l=>
  unfold zD;dsimp only;refine nbK (by unfold Kb;decide) (zAj c ?_);refine zm ?_ ?_
  · exact b _ _ (by exact trivial)
  · exact b _ _ (by exact trivial)
 | cond=>
  unfold zD;dsimp only;refine zm ?_ ?_
  · exact nbK (by unfold Kb;decide) (zVC (b _ _ (by exact trivial)) (b _ _ (by exact trivial)) (b _ _ (by exact trivial)))
  · exact b _ _ (by exact trivial)
 | either=>
  unfold zD;dsimp only;refine zm ?_ ?_
  · exact b _ _ (b _ _ (by exact trivial))
  · exact b _ _ (b _ _ (b _ _ (by exact trivial)))
 | nullL x=>
  unfold zD;dsimp only;refine zm ?_ ?_
  · exact b _ _ (nbN (by unfold Kb;decide) jd (zKZ c (b _ _ (by exact trivial))))
  · exact c
 | orL x=>
  unfold zD;dsimp only;refine zm ?_ ?_
  · exact b _ _ (nbN (by unfold Kb;decide) jd (zKZ c (b _ _ (b _ _ (by exact trivial)))))
  · exact c
 | both x=>
  unfold zD;dsimp only;refine zm ?_ ?_
  · exact b _ _ (nbN (by unfold Kb;decide) jd (zKZ c (b _ _ (by exact trivial))))
  · exact c
 | level n=>
  unfold zD;dsimp only;refine zm ?_ ?_
  · exact b _ _ (by exact trivial)
  · exact b _ _ (b _ _ (by exact trivial))
 | levelL n x=>
  unfold zD;dsimp only;refine zm ?_ ?_
  · exact b _ _ (nbN (by unfold Kb;decide) (tx _) (zKZ c (b _ _ (by exact trivial))))
  · exact c
 | unary=>
  unfold zD;dsimp only;refine zm ?_ ?_
  · exact nbN (by unfold Kb;decide) (tx _) (zGD (b _ _ (by exact trivial)))
  · refine zm ?_ ?_
    · exact nbN (by unfold Kb;decide) (tx _) (zGD (b _ _ (by exact trivial)))
    · refine zm ?_ ?_
      · refine zm ?_ ?_
        · exact b _ _ (by exact trivial)
        · exact nbN (by unfold Kb;decide) (tx _) (zGD (b _ _ (by exact trivial)))
      · exact b _ _ (by exact trivial)
 | calls=>exact b _ _ (b _ _ (by exact trivial))
 | callsL x=>
  unfold zD;dsimp only;refine zm ?_ ?_
  · exact b _ _ (nbK (by unfold Kb;decide) (zRW c (b _ _ (by exact trivial)).subs))
  · refine zm ?_ ?_
    · refine zm ?_ ?_
      · exact c
      · exact b _ _ (nbN (by unfold Kb;decide) (tx _) (zGD c))
    · refine zm ?_ ?_
      · exact b _ _ (nbK (by unfold Kb;decide) (zKZ c (b _ _ (by exact trivial))))
      · exact c
 | head=>
  unfold zD;dsimp only;refine zm ?_ ?_
  · refine zm ?_ ?_
    · exact nbK (by unfold Kb;decide) (zRW (b _ _ (b _ _ (by exact trivial))) (b _ _ (by exact trivial)).subs)
    · exact nbK (by unfold Kb;decide) (zGD (b _ _ (b _ _ (by exact trivial))))
  · exact b _ _ (by exact trivial)
 | headL x=>
  unfold zD;dsimp only;refine zm ?_ ?_
  · refine zm ?_ ?_
    · exact c
    · exact b _ _ (nbN (by unfold Kb;decide) (tx _) (zGD c))
  · refine zm ?_ ?_
    · exact b _ _ (nbK (by unfold Kb;decide) (zKZ c (b _ _ (by exact trivial))))
    · exact c
 | args=>exact b _ _ (by exact trivial)
 | list w=>
  unfold zD;dsimp only;refine zm ?_ ?_
  · exact nbK (by unfold Kb;decide) zCS
  · exact b _ _ zCS
 | listL w e=>
  unfold zD;dsimp only;have f:∀t∈e++[(R .assign s).1],NB t:=zAj c (b _ _ (by exact trivial));refine zm ?_ ?_
  · exact nbK (by unfold Kb;decide) f
  · refine zm ?_ ?_
    · exact nbK (by unfold Kb;decide) f
    · exact b _ _ f
 | primary=>
  unfold zD;dsimp only;refine zm ?_ ?_
  · exact nbK (by unfold Kb;decide) zCS
  by_cases o:(zG L s.k).kind=2
  · rw[if_pos o];have:=(g s.k).num o;exact .mk ⟨by simp,by simp only;omega,by simp only;omega,by simp[zBo],by simp[zBo]⟩ zCS
  rw[if_neg o];refine zm ?_ ?_
  · exact .mk ⟨by simp,by simp[zBo],by simp[zBo],by simp[zBo],r _⟩ zCS
  refine zm ?_ ?_
  · exact .mk ⟨by simp,by simp[zBo],by simp[zBo],by simp[zBo],by simp[zBo]⟩ zCS
  refine zm ?_ ?_
  · exact nbN (by unfold Kb;decide) (tx _) zCS
  refine zm ?_ ?_
  · exact nbK (by unfold Kb;decide) zCS
  refine zm ?_ ?_
  · exact nbK (by unfold Kb;decide) zCS
  refine zm ?_ ?_
  · exact nbK (by unfold Kb;decide) zCS
  refine zm ?_ ?_
  · exact nbK (by unfold Kb;decide) zCS
  refine zm ?_ ?_
  · exact nbK (by unfold Kb;decide) (b _ _ (by exact trivial)).subs
  refine zm ?_ ?_
  · exact b _ _ (by exact trivial)
  refine zm ?_ ?_
  · refine zm ?_ ?_
    · exact b _ _ ⟨by unfold Kb;decide,zE0 g _⟩
    · exact b _ _ ⟨by unfold Kb;decide,by decide⟩
  refine zm ?_ ?_
  · exact b _ _ (by exact trivial)
  · exact nbK (by unfold Kb;decide) zCS
 | object=>
  unfold zD;dsimp only;refine zm ?_ ?_
  · exact nbK (by unfold Kb;decide) zCS
  · exact b _ _ zCS
 | objL e=>
  unfold zD;dsimp only;have f:∀t∈e++[(R .prop s).1],NB t:=zAj c (b _ _ (by exact trivial));refine zm ?_ ?_
  · exact nbK (by unfold Kb;decide) f
  · refine zm ?_ ?_
    · exact nbK (by unfold Kb;decide) f
    · exact b _ _ f
 | prop=>
  unfold zD;dsimp only;split
  · exact nbK (by unfold Kb;decide) zCS
  · split
    · exact .mk ⟨by simp,by simp[zBo],by simp[zBo],by simp[zBo],by simp[zBo]⟩ (zGD (nbN (by unfold Kb;decide) (tx _) zCS))
    · exact .mk ⟨by simp,by simp[zBo],by simp[zBo],by simp[zBo],by simp[zBo]⟩ (zGD (b _ _ (by exact trivial)))
end
theorem zYD {L:List Tok} (b:TL L) (c:TLm L):∀(f:Nat) (p:Ph) (s:Ps),PhN p→NB (zF9 L f p s).1:=by
 intro f
 induction f with
 | zero=>intro p s _;exact nbK (by unfold Kb;decide) zCS
 | succ f d=>intro p s e;exact zXP b c d p s e
theorem zYE {L:List Tok} (b:TL L) (c:TLm L) (p:Ph) (s:Ps) (d:PhN p):NB (zE L p s).1:=zYD b c _ p s d
theorem zZt {l:List Int} (h:NQ x):NQ {x with kids:=l}:=⟨h.kb,h.nkb,h.nnb,h.nm,h.limb⟩
mutual
theorem nq_flatT {t:Tr} (h:NB t) (n:Nat):∀x∈flatT n t,NQ x:=by
 cases t with
 | mk y l=>
  rw[zA8];intro x hx;rcases List.mem_cons.1 hx with rfl | hx
  · exact zZt h.nd
  · exact nq_flatL h.subs (n+1) x hx
theorem nq_flatL {l:List Tr} (h:∀t∈l,NB t) (n:Nat):∀x∈flatL n l,NQ x:=by
 cases l with
 | nil=>rw[zBI];intro x hx;cases hx
 | cons t r=>
  rw[zAS];intro x hx;rcases List.mem_append.1 hx with hx | hx
  · exact nq_flatT (h t (List.mem_cons_self ..)) n x hx
  · exact nq_flatL (fun t ht=>h t (List.mem_cons_of_mem _ ht)) (n+t.size) x hx
end
theorem NdsC.get {w:World} {G:Nat→Prop}:∀{ts:List Nd} {cs:List Value},NdsC w G ts cs→∀{i:Nat} (hi:i < ts.length),∃vs b vk,w.ownsRow 0 65 1 vs ts[i].str.length (zAM ts[i].str)∧w.ownsRow 0 67 1 b ts[i].mag.length (zBq ts[i].mag)∧w.ownsRow 0 3 1 vk ts[i].kids.length (zE1 ts[i].kids)∧∀j (hj:j < 8),cs[i*8+j]? =some ((ndC ts[i] vs b vk)[j]'hj):=by
 intro ts
 induction ts with
 | nil=>intro cs h i hi;simp at hi
 | cons x r c=>
  intro cs h i hi;obtain⟨vs,b,vk,rest,rfl,d,e,f,_,h6⟩:=h;cases i with
  | zero=>
   refine⟨vs,b,vk,d,e,f,fun j hj=>?_⟩;rw[Nat.zero_mul,Nat.zero_add,List.getElem?_append_left hj];exact yAB hj
  | succ i=>
   obtain⟨us,g,k,k2,k3,k4,k5⟩:=c h6 (i:=i) (by simpa using hi);refine⟨us,g,k,k2,k3,k4,fun j hj=>?_⟩;rw[List.getElem?_append_right (by show 8≤_;omega),show(i+1)*8+j - (ndC x vs b vk).length=i*8+j by show _ - 8=_;omega];exact k5 j hj
theorem Laid.reads {w:World} {G:Nat→Prop} {c:Nat} (h:Laid w G (.slice A n c) ts) (m:∀x∈ts,NQ x) (o:Fwd ts) (u:ts.length≤1000000):NdsR w w.heap.size A n ts∧n≤c∧c≤maxLen:=by
 obtain⟨ks,h1,p⟩:=h;obtain⟨v,z,e,f,k⟩:=zS h1;injection e with e1 e2 e3;subst e2 e3;refine⟨⟨rfl,fun B=>?_⟩,f,k⟩;rcases h1.2 with⟨_,C⟩ | ⟨g,cap,t,e,_,hg,_⟩
 · omega
 · injection e with e _ _;subst e;have l:g < w.heap.size:=(h1.lt g rfl).2;refine⟨g,0,rfl,l,fun i hi=>?_⟩;obtain⟨vs,D,vk,k1,k2,k3,k4⟩:=NdsC.get p hi;obtain⟨As,cs,rfl,a1,a2⟩:=zS k1;obtain⟨Am,cm,rfl,q,r⟩:=zS k2;obtain⟨Ak,ck,rfl,d1,d2⟩:=zS k3;have b:∀j (hj:j < 8),w.cell? ⟨g,i*8+j,none⟩=some ((ndC ts[i] (.slice As ts[i].str.length cs) (.slice Am ts[i].mag.length cm) (.slice Ak ts[i].kids.length ck))[j]'hj):=by
    intro j hj;rw[h1.cellAt (i*8+j) jo];exact k4 j hj
   have d:=m _ (List.getElem_mem hi);refine⟨⟨As,Am,Ak,cs,cm,ck⟩,?_,?_⟩
   · rw[Nat.zero_add];exact⟨b 0 jd,b 1 jd,b 2 jd,b 3 jd,b 4 jd,b 5 jd,b 6 jd,b 7 jd⟩
   · refine⟨.of_own k1,.of_own k2,.of_own k3,⟨a1,a2⟩,⟨q,r⟩,⟨d1,d2⟩,d.limb,fun y s=>?_,d.kb,d.nkb,d.nnb,by have:=d.nm;omega⟩;have:=o i ts[i] (yAB hi) y s;omega
mutual
theorem kids_flatT (t:Tr) (n:Nat):∀x∈flatT n t,x.kids.length≤t.size:=by
 cases t with
 | mk y l=>
  rw[zA8,zi];intro x hx;rcases List.mem_cons.1 hx with rfl | hx
  · show(zz (n+1) l).length≤_;rw[zBd];have:=zMW l;omega
  · have:=kids_flatL l (n+1) x hx;omega
theorem kids_flatL (l:List Tr) (n:Nat):∀x∈flatL n l,x.kids.length≤sizes l:=by
 cases l with
 | nil=>rw[zBI];intro x hx;cases hx
 | cons t r=>
  rw[zAS,zH];intro x hx;rcases List.mem_append.1 hx with hx | hx
  · have:=kids_flatT t n x hx;omega
  · have:=kids_flatL r (n+t.size) x hx;omega
end
theorem Laid.chg {w w':World} {S G:Nat→Prop} {v:Value} (h:Laid w G v ts) (c:Chg w w' S) (d:Sty w S G) (hv:∀b,v.ownBlock=some b→¬S b):Laid w' G v ts:=by
 obtain⟨ks,h1,e⟩:=h;exact⟨ks,zBM h1 c hv,NdsC.chg c d _ _ e⟩
theorem Laid.new {w w':World} {G:Nat→Prop} {v:Value} (h:Laid w G v ts) (hg:w.grownBy w' none):Laid w' G v ts:=
 h.chg (.of hg) (fun b hb _=>by cases hb) (fun b _ h=>by cases h)
theorem Laid.var {w:World} {G:Nat→Prop} {v u:Value} {X:Nat} (h:Laid w G v ts) (d:Bx w X 24 cs):Laid (w.setCell X u) G v ts:=by
 refine h.chg (.of (zQ w X 0 u)) (fun b hb _=>?_) (fun b h1 c=>?_)
 · injection hb with hb;subst hb;exact⟨_,_,d,.inl rfl⟩
 · injection c with c;subst c;obtain⟨ks,e,_⟩:=h;exact zF5 e d jd h1
theorem zIz (t:Tr):Fwd (flatT 0 t):=zJz (zHf t)
def ParseQ (q:List Nd×Nat×Nat) (w:World) (e:Ending) (w':World):Prop:=
 ∃A n c,e=.returned (.tuple #[.agg #[.slice A n c],q.2.1,q.2.2])∧NdsR w' w'.heap.size A n q.1∧n≤c∧c≤maxLen∧Below w.heap.size w w'
theorem ParseQ.nil {q:List Nd×Nat×Nat} {w w':World} {a e:Nat} (b:q=([],a,e)) (hb:Below w.heap.size w w'):ParseQ q w (.returned (.tuple #[.agg #[()],a,e])) w':=by
 subst b;exact⟨none,0,0,rfl,⟨rfl,fun h=>absurd h (Nat.lt_irrefl _)⟩,yAC _,yAE _,hb⟩
theorem zRX {B c:Nat} {w:World} (hB:B≤w.heap.size) (hn:u.length=n) (ha:Reads w B 1 A n (zAM u)) (hc:n≤c) (c4:c≤maxLen) (hT:Tab w) (a6:(zE (zC3 u).1 (.program []) ⟨0,0,0⟩).1.size≤1000000):
 Calls prog 8 #[.slice A n c] w (ParseQ (zBF u) w):=by
 obtain⟨W,hW⟩:=jx (w.alloc (.cells #[()] 24));have J:Below w.heap.size w W:=jb hW;obtain⟨X,hX⟩:=jx w.heap.size;have HX:=zA (show Bx W X 24 [()] by rw[←hW,←hX];exact Bx.new w _ _);have c6:=zA J;have a1:w.heap.size≤W.heap.size:=J.size;have a7:=zA (zK7 (w:=W) (yAD hB a1) hn (ha.below (J.mono hB)) hc c4);have c8:=zA (hT.below hT.lt J);have D:=zA hX;obtain⟨⟨L,at_,e⟩,hL⟩:=jx (zC3 u);rw[hL]at a7 a6;have z:=zA hL;have c9:=zA a6;clear J hB hn ha hc c4 hT a6 hL;have S:W.cell? X=some (.slice none 0 0):=HX.out.cell 0;have U:W.frozen? X=false:=HX.out.frozen 0;go_enter func8,ntmps8;go_upto_region 1 with(fail);clear hW hX;go_wp2_with fail;refine a7.out.mono ?_;rintro k3 w1 ⟨v,rfl,a8,M⟩;have a2:=zA M;have m:=zA (HX.out.grown (zAf none M) js);have a9:=zA a8;obtain⟨lc,b0,_⟩:=a8;obtain⟨AT,cT,rfl,_,_⟩:=zS b0;clear b0 M a7
 by_cases he:e=0
 · subst he;have k4:(((0:Nat):Int) !=0)=false:=rfl;have b1:=zGL z;have d9:=zA (zQ2 z);have j1:u.length≤4096:=by
    apply Nat.le_of_not_lt;intro h1;have h2:=z.out;unfold zC3 at h2;rw[if_pos h1]at h2;simp only[Prod.mk.injEq]at h2;omega
   have j2:L.length≤4097:=by
    have h1:=zJq j1;rw[z.out]at h1;exact yAD h1 jo
   have j3:=zA (zQ4 z);obtain⟨g,hg⟩:=jx w1.heap.size;obtain⟨o,N⟩:=jx (w1.alloc (.cells #[.slice AT L.length cT,(0:Int),(0:Int),(0:Int)] 55));have b2:w1.grownBy o none:=by rw[←N];exact zF _ _ _
   have HP:=zA (show Pa ⟨g,L,AT,L.length,cT,w1⟩ ⟨0,0,0⟩ o from by
    refine⟨⟨b1,rfl,j2,?_,by show w1.heap.size≤g;omega⟩,?_,?_,yAE _⟩
    · exact a9.out.base (yAE _)
    · show Below w1.heap.size w1 o;rw[←N];exact ja
    · show Bx o g _ _;rw[←N,←hg];exact Bx.new w1 [.slice AT L.length cT,(0:Int),(0:Int),(0:Int)] _)
   have k5:X < g:=by have:=m.out.lt;omega
   have e0:=zA (m.out.grown b2 js);have e1:=zA (show Below w.heap.size w o from(c6.out.trans (a2.out.mono a1)).trans (by
    have h0:Below w1.heap.size w1 o:=jb N;exact h0.mono (yAD a1 a2.out.size)))
   have j4:=zA (c8.out.below c8.out.lt a2);obtain⟨⟨tr,s⟩,hr⟩:=jx (zE L (.program []) ⟨0,0,0⟩);have F:=zA (show tr.size≤1000000 by have:=c9.out;rwa[hr]at this);have e2:=zA (show NB tr by have:=zYE d9 j3 (.program []) ⟨0,0,0⟩ zCS;rwa[hr]at this);have cp:Calls prog 16 #[.pointer (some g)] o (zDk ⟨g,L,AT,L.length,cT,w1⟩ (zE L (.program []) ⟨0,0,0⟩) o):=zLL (C:=⟨g,L,AT,L.length,cT,w1⟩) j4 d9 ⟨yAE _,trivial⟩ HP;rw[hr]at cp;have e3:=zA cp;have HR:=zA hr;clear cp hr b1 b2 a9 HX m S U c9;go_upto_region 5 with(fail);clear N;go_wp2_with fail;refine e3.out.mono ?_;rintro k6 w3 ⟨d0,d1,d2,d3,d4,d5,d6,d7,d8,rfl,e4,e5,b3⟩;have e6:=zA (show Pa ⟨g,L,AT,L.length,cT,w1⟩ s w3 from e5);have e7:=zA (e0.out.gg b3 (by show g≠X;omega));have b4:=zA (e1.out.trans (zBA b3 (show w.heap.size≤g by rw[D.out];omega) (by show g≤o.heap.size;exact Nat.le_of_lt HP.out.lt)));have b5:=zA (show TrC w3 _ tr _ from e4);obtain⟨f8,f9,g0,g1,g2,g3,g4,g5,g6⟩:=b5.out.sto;clear e4 e5 b3 e3 HP e0 e1;obtain⟨b,a3⟩:=jx (w3.alloc (.cells #[d0,d1,d2,d3,d4,d5,d6,d7,d8] 58));have G:w3.grownBy b none:=by rw[←a3];exact zF _ _ _
   obtain⟨R,hR⟩:=jx w3.heap.size;have j5:=zA (show Bx b R 58 [d0,d1,d2,d3,d4,d5,d6,d7,d8] by rw[←a3,←hR];exact Bx.new w3 _ _);have e8:=zA (e6.out.new G);have O:=zA (e7.out.grown G js);have j6:=zA (TrC.keep G (.none_ _ _) _ _ b5);have b6:=zA (b4.out.trans (show Below w.heap.size w3 b by
    have h0:Below w3.heap.size w3 b:=jb a3;exact h0.mono b4.out.size))
   clear G e6 e7 b5 b4;go_upto_region 6 with(fail);clear a3 hR;have cb:b.cell? ⟨g,2,none⟩=some (.int .i64 (s.bad:Int)):=e8.out.c2;have cf:b.cell? ⟨g,3,none⟩=some (.int .i64 (zVO L s:Int)):=e8.out.c3;have S:b.cell? X=some (.slice none 0 0):=O.out.cell 0;have U:b.frozen? X=false:=O.out.frozen 0
   by_cases hb:s.bad=0
   · have M:((s.bad:Int) !=0)=false:=by rw[bne_eq_false_iff_eq];omega
     have E:=zA hb;clear hb;obtain⟨g7,g8,g9,h3,h4,h5,h6,h7,h8⟩:=j5.out.nine;have HF:=zA (zUq j6 F);go_wp2_with fail;refine HF.out.mono ?_;rintro k7 V ⟨H,d,c5,rfl,b7,p⟩;have a4:=b7.reads (nq_flatT e2 0) (zIz tr) (by rw[flatT_len];exact F.out);have e9:=zA a4.1;have f0:d=tr.size:=by rw[←flatT_len 0 tr];exact a4.1.1.symm
     have k8:=zA a4.2;have b8:=zA (O.out.grown p js);have b9:=zA (b6.out.trans (show Below w.heap.size b V from⟨p.os,p.tape,p.output,p.size,fun i hi=>p.block i (yAA hi b6.out.size) js⟩));have I:=zA f0;have f1:=zA b7;clear b7 p a4 HF g7 g8 g9 h3 h4 h5 h6 h7 h8 cb cf S U f8 f9 g0 g1 g2 g3 g4 g5 g6 f0;obtain⟨r,a5⟩:=jx (V.alloc (.cells #[.slice H d c5] 24));have Y:V.grownBy r none:=by rw[←a5];exact zF _ _ _
     obtain⟨T,hT⟩:=jx V.heap.size;have f2:=zA (show Bx r T 24 [.slice H d c5] by rw[←a5,←hT];exact Bx.new V _ _);have k9:X < T:=by have:=b8.out.lt;omega
     have P:=zA (b8.out.grown Y js);have f:Below V.heap.size V r:=jb a5;have f3:=zA ((e9.out.below f).more f.size);have c0:=zA (b9.out.trans (f.mono b9.out.size));have h9:=zA (f1.out.new Y);clear Y e9 b8 b9 f f1;go_upto_region 9 with(fail);clear a5 hT;have zT:r.cell? T=some (.slice H d c5):=f2.out.cell 0;have S:r.cell? X=some (.slice none 0 0):=P.out.cell 0;have U:r.frozen? X=false:=P.out.frozen 0;have f4:0 < d:=by have:=zBO tr;have:=I.out;omega
     by_cases k:4096 < d
     · have j7:(4096:Int) < (d:Int):=by omega
       have Q:=zA k;clear k;go_wp2_with fail;have j:(r.setCell X (.slice none 0 0)).cell? X=some (.slice none 0 0):=(P.out.set 0 _).cell 0;refine bodyPost_ret (v:=.tuple #[.agg #[()],(0:Int),(3:Int)]) (by simp[results,results8,go_sem,j]) rfl ?_;refine ParseQ.nil (a:=0) (e:=3) ?_ (c0.out.trans (zBA (zQ r X 0 _) (by rw[D.out];exact yAC _) (Nat.le_of_lt P.out.lt)));unfold zBF;rw[z.out];simp only[HR.out];rw[if_neg js,if_neg (by rw[E.out];simp),if_pos (by have:=Q.out;have:=I.out;omega)]
     · have j7:¬((4096:Int) < (d:Int)):=by omega
       have HD:=zA (zMC (w:=r) (c:=c5) f3 (yAC _) f4 jo (zIz tr) (fun x hx=>yAD (kids_flatT tr 0 x hx) F) rfl);have Q:=zA k;clear k;go_wp2_with fail;refine HD.out.mono ?_;rintro l0 w7 ⟨A7,c7,rfl,f5,j8,f6,t⟩;have y:=zA (P.out.grown (zAf none t) js);have j9:=zA (f2.out.grown (zAf none t) js);have f7:=zA (c0.out.trans (t.mono c0.out.size));have l1:=zA ((f3.out.below t).more t.size);have HM:=zA (zP6 (c:=c7) f5 f4 (by have:=Q.out;omega) f6 (show zGS (zKT (flatT 0 tr))=depT tr from zGX tr));have j0:=zA (h9.out.new (zAf none t));clear f5 j8 f6 t HD zT S U;go_wp2_with fail;refine HM.out.mono ?_;rintro l2 w8 ⟨rfl,rfl⟩;have zT:w7.cell? T=some (.slice H d c5):=j9.out.cell 0;have S:w7.cell? X=some (.slice none 0 0):=y.out.cell 0;have U:w7.frozen? X=false:=y.out.frozen 0
       by_cases l:48 < depT tr
       · have k0:(48:Int) < (depT tr:Int):=by omega
         have c1:=zA l;clear l;go_wp2_with fail;have j:(w7.setCell X (.slice none 0 0)).cell? X=some (.slice none 0 0):=(y.out.set 0 _).cell 0;refine bodyPost_ret (v:=.tuple #[.agg #[()],(0:Int),(7:Int)]) (by simp[results,results8,go_sem,j]) rfl ?_;refine ParseQ.nil (a:=0) (e:=7) ?_ (f7.out.trans (zBA (zQ w7 X 0 _) (by rw[D.out];exact yAC _) (Nat.le_of_lt y.out.lt)));unfold zBF;rw[z.out];simp only[HR.out];rw[if_neg js,if_neg (by rw[E.out];simp),if_neg (by have:=Q.out;have:=I.out;omega),if_pos c1.out]
       · have k0:¬((48:Int) < (depT tr:Int)):=by omega
         have c1:=zA l;clear l;go_wp2_with fail;have j:(w7.setCell X (.slice H d c5)).cell? X=some (.slice H d c5):=(y.out.set 0 _).cell 0;refine bodyPost_ret (v:=.tuple #[.agg #[.slice H d c5],(0:Int),(0:Int)]) (by simp[results,results8,go_sem,j]) rfl ?_;have k1:zBF u=(flatT 0 tr,0,0):=by
          unfold zBF;rw[z.out];simp only[HR.out];rw[if_neg js,if_neg (by rw[E.out];simp),if_neg (by have:=Q.out;have:=I.out;omega),if_neg c1.out]
         rw[k1];have a0:=(j0.out.var (u:=.slice H d c5) y).reads (nq_flatT e2 0) (zIz tr) (by rw[flatT_len];exact F.out);exact⟨H,d,c5,rfl,a0.1,a0.2.1,a0.2.2,f7.out.trans (zBA (zQ w7 X 0 _) (by rw[D.out];exact yAC _) (Nat.le_of_lt y.out.lt))⟩
   · have M:((s.bad:Int) !=0)=true:=by rw[bne_iff_ne];omega
     have E:=zA hb;clear hb;go_wp2_with fail;have k2:=zA (show zBF u=([],zVO L s,s.bad)from by
      unfold zBF;rw[z.out];simp only[HR.out];rw[if_neg js,if_pos E.out];unfold zVO;rw[if_neg E.out])
     go_region_law (fail)
     all_goals
      go_wp2_with fail;have j:(b.setCell X (.slice none 0 0)).cell? X=some (.slice none 0 0):=(O.out.set 0 _).cell 0;refine bodyPost_ret (v:=.tuple #[.agg #[()],(zVO L s:Int),s.bad]) (by simp[results,results8,go_sem,j]) rfl ?_;exact ParseQ.nil k2 (b6.out.trans (zBA (show b.grownBy (b.setCell X (.slice none 0 0)).drew (some X)from zC (zQ b X 0 _) (zBT _ _)) (by rw[D.out];exact yAC _) (Nat.le_of_lt O.out.lt)))
 · have l3:((e:Int) !=0)=true:=by rw[bne_iff_ne];omega
   have HE:=zA he;clear he;have S:w1.cell? X=some (.slice none 0 0):=m.out.cell 0;have U:w1.frozen? X=false:=m.out.frozen 0;go_wp2_with fail;have j:(w1.setCell X (.slice none 0 0)).cell? X=some (.slice none 0 0):=(m.out.set 0 _).cell 0;refine bodyPost_ret (v:=.tuple #[.agg #[()],at_,e]) (by simp[results,results8,go_sem,j]) rfl ?_;refine ParseQ.nil (by unfold zBF;rw[z.out];exact if_pos HE.out) ?_;have h1:Below w.heap.size w w1:=c6.out.trans (a2.out.mono a1);exact h1.trans (zBA (zQ w1 X 0 _) (by rw[D.out];exact yAC _) (Nat.le_of_lt m.out.lt))
end Go.Proofs.YtlnbbaehihgigaaGreatDoor
