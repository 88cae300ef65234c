/- Joined for the claim EarlyRoot: the parser, the lexer and the trees as they are walked, made short by a program of mine. -/
import Derived.Deep.RegionLaw
import Derived.Test.YtlohaclgbfhijaaGreatDoorE15
import Derived.Test.YtlohaclgbfhijaaGreatDoorE05
import Derived.Test.YtlohaclgbfhijaaGreatDoorE14
import Derived.Deep.LoopGhost
import Derived.Test.YtlohaclgbfhijaaGreatDoorE01
set_option maxHeartbeats 16000000
set_option maxRecDepth 1000000
namespace Go.Proofs.YtlohaclgbfhijaaGreatDoor
open Go.Proofs.Tryz
open Go.RowKit
theorem zNz {C:Pc} {s:Ps} {w:World} (hp:Pre C.L (.cond) s) (K:KP C (zZ C.L (.cond) s)) (h:Pa C s w):zc C s w (.cond):=by
 refine zAg hp h fun HL hlen hsk r W X HR hW hX F0=>?_;have HK:=zA K;clear K h hp;go_enter func175,ntmps175;go_upto_region 1 with(fail);clear hW hX;have hx:=zA (zV HL.out (p:=.either) (s:=s) ⟨hsk,trivial⟩).adv.le;go_wp2_with fail;refine F0.kD (HK.out.rank (q:=.either) ⟨F0.P.hi,trivial⟩ F0.P (yAC _) (by simp[ze])) fun w1 d1_0 d1_1 d1_2 d1_3 d1_4 d1_5 d1_6 d1_7 d1_8 F1=>?_;obtain⟨_,_,_,_,_,_,_,_,_⟩:=F1.sto 1;have F2:=F1.bt 1 72 rfl
 by_cases hon:onP C.L [63] ((zF C.L (.either) (s)).2)=true
 · have HO:=zA hon;clear hon;go_wp2_with fail;refine F2.kM (zAw F2.P [63] HO.out) fun w3 F3=>?_;have hlt:=zA (HL.out.on (s:=(zF C.L (.either) (s)).2) (by have:=hsk;exact(zV HL.out (p:=.either) (s:=s) ⟨hsk,trivial⟩).adv.hi) HO.out);have hl2:=zA (show s.k < (zB ((zF C.L (.either) (s)).2)).k from by have:=hx.out;show s.k < ((zF C.L (.either) (s)).2).k+1;omega);have ha:=zA (zV HL.out (p:=.assign) (s:=zB ((zF C.L (.either) (s)).2)) ⟨hlt.out,trivial⟩).adv;go_wp2_with fail;refine F3.kD (HK.out.more (q:=.assign) ⟨F3.P.hi,trivial⟩ F3.P hl2.out) fun w4 d4_0 d4_1 d4_2 d4_3 d4_4 d4_5 d4_6 d4_7 d4_8 F4=>?_;obtain⟨_,_,_,_,_,_,_,_,_⟩:=F4.sto 3;have F5:=F4.bt 3 72 rfl;go_wp2_with fail;refine F5.kN (zr F5.P [58]) fun w6 F6=>?_;have hn:=zA (zU (w:=[58]) HL.out ha.out.hi).adv;have CL7:=zA (fun Q=>F6.dr.kD (Q:=Q) (HK.out.more (q:=.assign) ⟨F6.dr.P.hi,trivial⟩ F6.dr.P (yAA hl2.out (yAD ha.out.le hn.out.le))));obtain⟨_,_,_,_,_,_,_,_,_⟩:=F6.c 2;obtain⟨_,_,_,_,_,_,_,_,_⟩:=F6.c 4;go_wp2_with fail;go_region_law (first | (go_simp;go_at_call 140;(with_reducible refine CL7.out _ fun w7 d7_0 d7_1 d7_2 d7_3 d7_4 d7_5 d7_6 d7_7 d7_8 F7=>?_);obtain⟨_,_,_,_,_,_,_,_,_⟩:=F7.c 2;obtain⟨_,_,_,_,_,_,_,_,_⟩:=F7.c 4;obtain⟨_,_,_,_,_,_,_,_,_⟩:=F7.c 0;have LT7:=zA (fun Q=>F7.litK 48 (n:=3) (Q:=Q) (F7.ts3 1 3 5) rfl (by simp) rfl)) | (go_simp;go_at_call 58;(with_reducible refine LT7.out _ fun w8 F8=>?_);obtain⟨_,_,_,_,_,_,_,_,_⟩:=F8.c 0;obtain⟨_,_,_,_,_,_,_,_,_⟩:=F8.f 0))
   all_goals
    obtain⟨_,_,_,_,_,_,_,_,_⟩:=F8.c 0;obtain⟨_,_,_,_,_,_,_,_,_⟩:=F8.f 0;go_wp2_with fail;refine zM (F8.put 0 6) fun V9 F9=>?_;have q:=F9.c 0;exact F9.ret 6 rfl (by simp[results,results175,go_sem,q]) rfl (HR.out.symm.trans (by
     unfold zE;dsimp only;rw[if_pos HO.out])) (fun _ h=>h)
 · have HO:=zA (show onP C.L [63] ((zF C.L (.either) (s)).2)=false by simpa using hon);clear hon;go_wp2_with fail;refine F2.kM (zA1 F2.P [63] HO.out) fun w10 F10=>?_;obtain⟨_,_,_,_,_,_,_,_,_⟩:=F10.c 2;obtain⟨_,_,_,_,_,_,_,_,_⟩:=F10.c 0;obtain⟨_,_,_,_,_,_,_,_,_⟩:=F10.f 0;go_wp2_with fail;refine zM (F10.put 0 1) fun V11 F11=>?_;have q:=F11.c 0;exact F11.ret 1 rfl (by simp[results,results175,go_sem,q]) rfl (HR.out.symm.trans (by
    unfold zE;dsimp only;rw[if_neg (by rw[HO.out];decide)])) (fun _ h=>h)
theorem zFi (k:Int) (h:k=43∨k=44∨k=45∨k=49) {w:World} (v:List UInt8) {q:Bool} (hq:decide (v∈zMU k)=q):Calls prog 176 #[.int .i64 k,.string ⟨v.toArray⟩] w fun e w'=>e=.returned (.bool q)∧w.grownBy w' none:=by
 have HQ:=zA (show decide ((⟨v.toArray⟩:ByteArray).data.toList∈zMU k)=q from hq);clear hq;rcases h with rfl | rfl | rfl | rfl
 all_goals
  go_enter func176,ntmps176;go_wp2_with fail;refine(zKP _ (by omega) _).mono ?_;rintro e1 w1 ⟨ad,c1,rfl,hr1,hb1⟩;have HR:=zA hr1;have HB:=zA hb1;clear hr1 hb1;go_wp2_with fail;refine(zDg ⟨v.toArray⟩ (n:=(zMU _).length) rfl HR.out (by decide) HQ.out).mono ?_;rintro e2 w2 ⟨rfl,rfl⟩;go_wp2_with fail;go_ret;exact⟨rfl,zi none HB.out⟩
def Top (k:Int) (l:List (List UInt8)):Prop:=∀{w:World} (v:List UInt8) {q:Bool},decide (v∈l)=q→Calls prog 176 #[.int .i64 k,.string ⟨v.toArray⟩] w fun e w'=>e=.returned (.bool q)∧w.grownBy w' none
theorem zLn:Top 43 zJ4:=zFi 43 (by omega)
theorem zPF:Top 44 zFT:=zFi 44 (by omega)
theorem zIV:Top 45 zFT:=zFi 45 (by omega)
theorem zLo:Top 49 zO2:=zFi 49 (by omega)
theorem TrC.kind {w:World} {F:Nat→Prop} {t:Tr} {d0 d1 d2 d3 d4 d5 d6 d7 d8:Value} (h:TrC w F t [d0,d1,d2,d3,d4,d5,d6,d7,d8]):d0=.int .i64 t.nd.kind:=by
 cases t with
 | mk x l=>
  rw[zDC]at h;obtain⟨vs,vm,vo,ks,h1,_⟩:=h;unfold zPy at h1;injection h1
theorem zN0 {C:Pc} {s:Ps} {w:World} (hp:Pre C.L (.unary) s) (K:KP C (zZ C.L (.unary) s)) (h:Pa C s w) (hk:((zL C.L s.k).kind=5∨(zL C.L s.k).kind=6)) (hw:(zL C.L s.k).text∈zJ4):zc C s w (.unary):=by
 refine zAg hp h fun HL hlen hsk r W X HR hW hX F0=>?_;have HK:=zA K;clear K h hp;go_enter func207,ntmps207;go_upto_region 1 with(fail);clear hW hX;have HKD:=zA hk;have HW:=zA hw;clear hk hw;obtain⟨⟨kd,tx,st,nk,nn,mg,ps,nl⟩,HT⟩:=zP C.L (s).k;have HKD2:=zA (show kd=5∨kd=6 from by have:=HKD.out;rw[HT.out]at this;exact this);obtain⟨e5,e6⟩ | ⟨e5,e6⟩:((kd:Int)==5)=true∧((kd:Int)==6)=false∨((kd:Int)==5)=false∧((kd:Int)==6)=true:=by have:=HKD2.out;simp only[beq_iff_eq,yA];omega
 all_goals
  go_wp2_with fail;refine F0.kT (zf F0.P HT.out) fun w1 As Am c1 c2 F1=>?_;have F2:=F1.bt 1 44 rfl;obtain⟨zt_0,zt_1,zt_2,zt_3,zt_4,zt_5,zt_6,zt_7,zt_8⟩:=(F2.b 2).nine;go_wp2_with fail;refine F2.kQ (zLn tx (show decide (tx∈zJ4)=true from by have:=HW.out;rw[HT.out]at this;simpa using this)) fun w3 F3=>?_;have hlt:=zA (HL.out.lt hsk (by rw[HT.out];have:=HKD2.out;show kd≠0;omega));obtain⟨xk4,fk4,bk4⟩:=F3.k1;have F4:=F3.step hlt.out;have CL5:=zA (fun Q=>F4.dr.kD (Q:=Q) (HK.out.more (q:=.unary) ⟨F4.dr.P.hi,trivial⟩ F4.dr.P (yAF s.k)));obtain⟨_,_,_,_,_,_,_,_,_⟩:=F4.c 2;go_wp2_with fail;go_region_law (first | (go_simp;go_at_call 207;(with_reducible refine CL5.out _ fun w5 d5_0 d5_1 d5_2 d5_3 d5_4 d5_5 d5_6 d5_7 d5_8 F5=>?_);obtain⟨_,_,_,_,_,_,_,_,_⟩:=F5.c 2;obtain⟨_,_,_,_,_,_,_,_,_⟩:=F5.c 0;obtain⟨_,_,_,_,_,_,_,_,_⟩:=(F5.al (.cells #[d5_0,d5_1,d5_2,d5_3,d5_4,d5_5,d5_6,d5_7,d5_8] 72)).c 2;have LT5:=zA (fun Q=>F5.litN 43 tx (n:=1) (Q:=Q) (F5.ts1 3) rfl (by simp) rfl)) | (go_simp;go_at_call 139;(with_reducible refine LT5.out _ fun w6 F6=>?_);obtain⟨_,_,_,_,_,_,_,_,_⟩:=F6.c 0;obtain⟨_,_,_,_,_,_,_,_,_⟩:=F6.f 0))
  all_goals
   obtain⟨_,_,_,_,_,_,_,_,_⟩:=F6.c 0;obtain⟨_,_,_,_,_,_,_,_,_⟩:=F6.f 0;go_wp2_with fail;refine zM (F6.put 0 4) fun V7 F7=>?_;have q:=F7.c 0;exact F7.ret 4 rfl (by simp[results,results207,go_sem,q]) rfl (HR.out.symm.trans (by
    unfold zE;dsimp only;rw[HT.out,if_pos ⟨by have:=HKD2.out;show kd=5∨kd=6;omega,by have:=HW.out;rw[HT.out]at this;exact this⟩])) (fun _ h=>h)
theorem zN1 {C:Pc} {s:Ps} {w:World} (hp:Pre C.L (.unary) s) (K:KP C (zZ C.L (.unary) s)) (h:Pa C s w) (hk:((zL C.L s.k).kind=5∨(zL C.L s.k).kind=6)) (hw:¬(zL C.L s.k).text∈zJ4) (hw2:(zL C.L s.k).text∈zFT):zc C s w (.unary):=by
 refine zAg hp h fun HL hlen hsk r W X HR hW hX F0=>?_;have HK:=zA K;clear K h hp;go_enter func207,ntmps207;go_upto_region 1 with(fail);clear hW hX;have HKD:=zA hk;have HW:=zA hw;have HW2:=zA hw2;clear hk hw hw2;obtain⟨⟨kd,tx,st,nk,nn,mg,ps,nl⟩,HT⟩:=zP C.L (s).k;have HKD2:=zA (show kd=5∨kd=6 from by have:=HKD.out;rw[HT.out]at this;exact this);obtain⟨e5,e6⟩ | ⟨e5,e6⟩:((kd:Int)==5)=true∧((kd:Int)==6)=false∨((kd:Int)==5)=false∧((kd:Int)==6)=true:=by have:=HKD2.out;simp only[beq_iff_eq,yA];omega
 all_goals
  go_wp2_with fail;refine F0.kT (zf F0.P HT.out) fun w1 As Am c1 c2 F1=>?_;have F2:=F1.bt 1 44 rfl;obtain⟨zt_0,zt_1,zt_2,zt_3,zt_4,zt_5,zt_6,zt_7,zt_8⟩:=(F2.b 2).nine;go_wp2_with fail;refine F2.kQ (zLn tx (show decide (tx∈zJ4)=false from by have:=HW.out;rw[HT.out]at this;simpa using this)) fun w3 F3=>?_;obtain⟨zt_0,zt_1,zt_2,zt_3,zt_4,zt_5,zt_6,zt_7,zt_8⟩:=(F3.b 2).nine;go_wp2_with fail;refine F3.kQ (zPF tx (show decide (tx∈zFT)=true from by have:=HW2.out;rw[HT.out]at this;simpa using this)) fun w4 F4=>?_;have hlt:=zA (HL.out.lt hsk (by rw[HT.out];have:=HKD2.out;show kd≠0;omega));obtain⟨xk5,fk5,bk5⟩:=F4.k1;have F5:=F4.step hlt.out;obtain⟨_,_,_,_,_,_,_,_,_⟩:=F5.c 2;go_wp2_with fail;clear xk5 fk5 bk5;refine F5.kD (HK.out.more (q:=.unary) ⟨F5.P.hi,trivial⟩ F5.P (yAF s.k)) fun w6 d6_0 d6_1 d6_2 d6_3 d6_4 d6_5 d6_6 d6_7 d6_8 F6=>?_;obtain⟨_,_,_,_,_,_,_,_,_⟩:=F6.sto 3;obtain rfl:=(F6.t 3).kind;have F7:=F6.box [.int .i64 ((zF C.L (.unary) (zB (s))).1).nd.kind,d6_1,d6_2,d6_3,d6_4,d6_5,d6_6,d6_7,d6_8] 72 rfl (by decide) (by decide)
  by_cases hb:((zF C.L (.unary) (zB (s))).2).bad=0
  · have HBD:=zA (show(((zF C.L (.unary) (zB (s))).2).bad==0)=true by rw[hb];rfl);have HBZ:=zA hb;clear hb;go_wp2_with fail;refine F7.kB (zA3 F7.P HBD.out) fun w8 F8=>?_;obtain⟨_,_,_,_,_,_,_,_,_⟩:=F8.c 4;go_wp2_with fail;refine(zBG _ _).mono ?_;rintro ev9 wx9 ⟨rfl,rfl⟩;obtain⟨bt,hbt⟩:∃bt,zAf ((zF C.L (.unary) (zB (s))).1).nd.kind=bt:=⟨_,rfl⟩;rw[hbt];have HBT:=zA hbt;clear hbt;cases bt with
    | true=>
     obtain⟨_,_,_,_,_,_,_,_,_⟩:=F8.c 2;obtain⟨_,_,_,_,_,_,_,_,_⟩:=F8.c 4;go_wp2_with fail;refine F8.litN _ _ (n:=1) (F8.ts1 3) rfl (by simp) rfl fun w10 F10=>?_;obtain⟨_,_,_,_,_,_,_,_,_⟩:=F10.c 0;obtain⟨_,_,_,_,_,_,_,_,_⟩:=F10.f 0;go_wp2_with fail;refine zM (F10.put 0 5) fun V11 F11=>?_;have q:=F11.c 0;exact F11.ret 5 rfl (by simp[results,results207,go_sem,q]) rfl (HR.out.symm.trans (by
      unfold zE;dsimp only;rw[HT.out,if_neg (fun h=>by have:=HW.out;rw[HT.out]at this;exact this h.2),if_pos ⟨by have:=HKD2.out;show kd=5∨kd=6;omega,by have:=HW2.out;rw[HT.out]at this;exact this⟩]
      try dsimp only
      rw[HBT.out,if_neg (by simp)])) (fun _ h=>h)
    | false=>
     go_wp2_with fail;refine F8.kN (zu F8.P) fun w12 F12=>?_;obtain⟨_,_,_,_,_,_,_,_,_⟩:=F12.c 2;obtain⟨_,_,_,_,_,_,_,_,_⟩:=F12.c 4;go_wp2_with fail;refine F12.litN _ _ (n:=1) (F12.ts1 3) rfl (by simp) rfl fun w13 F13=>?_;obtain⟨_,_,_,_,_,_,_,_,_⟩:=F13.c 0;obtain⟨_,_,_,_,_,_,_,_,_⟩:=F13.f 0;go_wp2_with fail;refine zM (F13.put 0 5) fun V14 F14=>?_;have q:=F14.c 0;exact F14.ret 5 rfl (by simp[results,results207,go_sem,q]) rfl (HR.out.symm.trans (by
      unfold zE;dsimp only;rw[HT.out,if_neg (fun h=>by have:=HW.out;rw[HT.out]at this;exact this h.2),if_pos ⟨by have:=HKD2.out;show kd=5∨kd=6;omega,by have:=HW2.out;rw[HT.out]at this;exact this⟩]
      try dsimp only
      rw[HBT.out,if_pos ⟨HBZ.out,rfl⟩])) (fun _ h=>h)
  · have HBD:=zA (show(((zF C.L (.unary) (zB (s))).2).bad==0)=false by rw[yA];exact hb);have HBZ:=zA hb;clear hb;go_wp2_with fail;refine F7.kB (zA3 F7.P HBD.out) fun w15 F15=>?_;obtain⟨_,_,_,_,_,_,_,_,_⟩:=F15.c 2;obtain⟨_,_,_,_,_,_,_,_,_⟩:=F15.c 4;go_wp2_with fail;refine F15.litN _ _ (n:=1) (F15.ts1 3) rfl (by simp) rfl fun w16 F16=>?_;obtain⟨_,_,_,_,_,_,_,_,_⟩:=F16.c 0;obtain⟨_,_,_,_,_,_,_,_,_⟩:=F16.f 0;go_wp2_with fail;refine zM (F16.put 0 5) fun V17 F17=>?_;have q:=F17.c 0;exact F17.ret 5 rfl (by simp[results,results207,go_sem,q]) rfl (HR.out.symm.trans (by
     unfold zE;dsimp only;rw[HT.out,if_neg (fun h=>by have:=HW.out;rw[HT.out]at this;exact this h.2),if_pos ⟨by have:=HKD2.out;show kd=5∨kd=6;omega,by have:=HW2.out;rw[HT.out]at this;exact this⟩]
     try dsimp only
     rw[if_neg (fun h=>HBZ.out h.1)])) (fun _ h=>h)
theorem zN2 {C:Pc} {s:Ps} {w:World} (hp:Pre C.L (.unary) s) (K:KP C (zZ C.L (.unary) s)) (h:Pa C s w) (hk:((zL C.L s.k).kind=5∨(zL C.L s.k).kind=6)) (hw:¬(zL C.L s.k).text∈zJ4) (hw2:¬(zL C.L s.k).text∈zFT):zc C s w (.unary):=by
 refine zAg hp h fun HL hlen hsk r W X HR hW hX F0=>?_;have HK:=zA K;clear K h hp;go_enter func207,ntmps207;go_upto_region 1 with(fail);clear hW hX;have HKD:=zA hk;have HW:=zA hw;have HW2:=zA hw2;clear hk hw hw2;obtain⟨⟨kd,tx,st,nk,nn,mg,ps,nl⟩,HT⟩:=zP C.L (s).k;have HKD2:=zA (show kd=5∨kd=6 from by have:=HKD.out;rw[HT.out]at this;exact this);obtain⟨e5,e6⟩ | ⟨e5,e6⟩:((kd:Int)==5)=true∧((kd:Int)==6)=false∨((kd:Int)==5)=false∧((kd:Int)==6)=true:=by have:=HKD2.out;simp only[beq_iff_eq,yA];omega
 all_goals
  go_wp2_with fail;refine F0.kT (zf F0.P HT.out) fun w1 As Am c1 c2 F1=>?_;have F2:=F1.bt 1 44 rfl;obtain⟨zt_0,zt_1,zt_2,zt_3,zt_4,zt_5,zt_6,zt_7,zt_8⟩:=(F2.b 2).nine;go_wp2_with fail;refine F2.kQ (zLn tx (show decide (tx∈zJ4)=false from by have:=HW.out;rw[HT.out]at this;simpa using this)) fun w3 F3=>?_;obtain⟨zt_0,zt_1,zt_2,zt_3,zt_4,zt_5,zt_6,zt_7,zt_8⟩:=(F3.b 2).nine;go_wp2_with fail;refine F3.kQ (zPF tx (show decide (tx∈zFT)=false from by have:=HW2.out;rw[HT.out]at this;simpa using this)) fun w4 F4=>?_;go_wp2_with fail;refine F4.kD (HK.out.rank (q:=.calls) ⟨F4.P.hi,trivial⟩ F4.P (yAC _) (by simp[ze])) fun w5 d5_0 d5_1 d5_2 d5_3 d5_4 d5_5 d5_6 d5_7 d5_8 F5=>?_;obtain⟨_,_,_,_,_,_,_,_,_⟩:=F5.sto 3;obtain rfl:=(F5.t 3).kind;have hlo1:=(F5.b 2).lt;have F6:=F5.box [.int .i64 ((zF C.L (.calls) (s)).1).nd.kind,d5_1,d5_2,d5_3,d5_4,d5_5,d5_6,d5_7,d5_8] 72 rfl (by decide) (by decide);obtain⟨⟨kdo,txo,sto,nko,nno,mgo,pso,nlo⟩,HTo⟩:=zP C.L ((zF C.L (.calls) (s)).2).k;go_wp2_with fail;refine F6.kT (zf F6.P HTo.out) fun w7 Aso Amo c1o c2o F7=>?_;obtain⟨_,_,_,_,_,_,_,_,_⟩:=F7.c 2;obtain⟨_,_,_,_,_,_,_,_,_⟩:=F7.f 2;go_upto_region 14 with(fail);refine zCs (F7.put 2 5) fun w8 F8=>?_;obtain⟨_,_,_,_,_,_,_,_,_⟩:=F8.c 2
  by_cases hk5:kdo=5
  · have HK5:=zA hk5;have eo5:((kdo:Int)==5)=true:=by rw[beq_iff_eq];omega
    clear hk5
    by_cases hop:txo∈zFT
    · have HOP:=zA hop;clear hop;go_wp2_with fail;refine F8.kQ (zIV txo (show decide (txo∈zFT)=true from by simpa using HOP.out)) fun w9 F9=>?_;obtain⟨_,_,_,_,_,_,_,_,_⟩:=F9.c 2;obtain⟨_,_,_,_,_,_,_,_,_⟩:=F9.c 4;cases nlo with
      | true=>
       obtain⟨_,_,_,_,_,_,_,_,_⟩:=F9.c 0;obtain⟨_,_,_,_,_,_,_,_,_⟩:=F9.f 0;go_wp2_with fail;refine zM (F9.put 0 3) fun V10 F10=>?_;have q:=F10.c 0;exact F10.ret 3 rfl (by simp[results,results207,go_sem,q]) rfl (HR.out.symm.trans (by
        unfold zE;dsimp only;rw[HT.out,if_neg (fun h=>by have:=HW.out;rw[HT.out]at this;exact this h.2),if_neg (fun h=>by have:=HW2.out;rw[HT.out]at this;exact this h.2)]
        try dsimp only
        rw[HTo.out]
        try dsimp only
        rw[if_neg (by simp)])) (fun _ h=>h)
      | false=>
       go_wp2_with fail;refine(zBG _ _).mono ?_;rintro ev11 wx11 ⟨rfl,rfl⟩;obtain⟨bt,hbt⟩:∃bt,zAf ((zF C.L (.calls) (s)).1).nd.kind=bt:=⟨_,rfl⟩;rw[hbt];have HBT:=zA hbt;clear hbt;cases bt with
       | true=>
        have hlo:=zA (HL.out.lt (s:=(zF C.L (.calls) (s)).2) F9.P.hi (by rw[HTo.out];have:=HK5.out;show kdo≠0;omega));obtain⟨xk12,fk12,bk12⟩:=F9.k1;have F12:=F9.step hlo.out;obtain⟨_,_,_,_,_,_,_,_,_⟩:=F12.c 2;obtain⟨_,_,_,_,_,_,_,_,_⟩:=F12.c 4;go_wp2_with fail;clear xk12 fk12 bk12;refine F12.litN _ _ (n:=1) (F12.ts1 3) rfl (by simp) (show _=w9.heap.size by simp) fun w13 F13=>?_;obtain⟨_,_,_,_,_,_,_,_,_⟩:=F13.c 0;obtain⟨_,_,_,_,_,_,_,_,_⟩:=F13.f 0;go_wp2_with fail;refine zM (F13.put 0 6) fun V14 F14=>?_;have q:=F14.c 0;exact F14.ret 6 rfl (by simp[results,results207,go_sem,q]) rfl (HR.out.symm.trans (by
         unfold zE;dsimp only;rw[HT.out,if_neg (fun h=>by have:=HW.out;rw[HT.out]at this;exact this h.2),if_neg (fun h=>by have:=HW2.out;rw[HT.out]at this;exact this h.2)]
         try dsimp only
         rw[HTo.out]
         try dsimp only
         rw[if_pos ⟨HK5.out,HOP.out,rfl⟩,HBT.out,if_neg (by simp)])) (fun _ h=>h)
       | false=>
        go_wp2_with fail;refine F9.kN (zu F9.P) fun w15 F15=>?_;obtain⟨_,_,_,_,_,_,_,_,_⟩:=F15.c 4;obtain⟨_,_,_,_,_,_,_,_,_⟩:=F15.c 0;obtain⟨_,_,_,_,_,_,_,_,_⟩:=F15.f 0;go_wp2_with fail;refine zM (F15.put 0 3) fun V16 F16=>?_;have q:=F16.c 0;exact F16.ret 3 rfl (by simp[results,results207,go_sem,q]) rfl (HR.out.symm.trans (by
         unfold zE;dsimp only;rw[HT.out,if_neg (fun h=>by have:=HW.out;rw[HT.out]at this;exact this h.2),if_neg (fun h=>by have:=HW2.out;rw[HT.out]at this;exact this h.2)]
         try dsimp only
         rw[HTo.out]
         try dsimp only
         rw[if_pos ⟨HK5.out,HOP.out,rfl⟩,HBT.out,if_pos rfl])) (fun _ h=>h)
    · have HOP:=zA hop;clear hop;go_wp2_with fail;refine F8.kQ (zIV txo (show decide (txo∈zFT)=false from by simpa using HOP.out)) fun w17 F17=>?_;obtain⟨_,_,_,_,_,_,_,_,_⟩:=F17.c 2;obtain⟨_,_,_,_,_,_,_,_,_⟩:=F17.c 4;obtain⟨_,_,_,_,_,_,_,_,_⟩:=F17.c 0;obtain⟨_,_,_,_,_,_,_,_,_⟩:=F17.f 0;go_wp2_with fail;refine zM (F17.put 0 3) fun V18 F18=>?_;have q:=F18.c 0;exact F18.ret 3 rfl (by simp[results,results207,go_sem,q]) rfl (HR.out.symm.trans (by
       unfold zE;dsimp only;rw[HT.out,if_neg (fun h=>by have:=HW.out;rw[HT.out]at this;exact this h.2),if_neg (fun h=>by have:=HW2.out;rw[HT.out]at this;exact this h.2)]
       try dsimp only
       rw[HTo.out]
       try dsimp only
       rw[if_neg (fun h=>HOP.out h.2.1)])) (fun _ h=>h)
  · have HK5:=zA hk5;have eo5:((kdo:Int)==5)=false:=by rw[yA];omega
    clear hk5;obtain⟨_,_,_,_,_,_,_,_,_⟩:=F8.c 4;obtain⟨_,_,_,_,_,_,_,_,_⟩:=F8.c 0;obtain⟨_,_,_,_,_,_,_,_,_⟩:=F8.f 0;go_wp2_with fail;refine zM (F8.put 0 3) fun V19 F19=>?_;have q:=F19.c 0;exact F19.ret 3 rfl (by simp[results,results207,go_sem,q]) rfl (HR.out.symm.trans (by
     unfold zE;dsimp only;rw[HT.out,if_neg (fun h=>by have:=HW.out;rw[HT.out]at this;exact this h.2),if_neg (fun h=>by have:=HW2.out;rw[HT.out]at this;exact this h.2)]
     try dsimp only
     rw[HTo.out]
     try dsimp only
     rw[if_neg (fun h=>HK5.out h.1)])) (fun _ h=>h)
theorem zN3 {C:Pc} {s:Ps} {w:World} (hp:Pre C.L (.unary) s) (K:KP C (zZ C.L (.unary) s)) (h:Pa C s w) (hk:((zL C.L s.k).kind≠5∧(zL C.L s.k).kind≠6)) (hw:True):zc C s w (.unary):=by
 refine zAg hp h fun HL hlen hsk r W X HR hW hX F0=>?_;have HK:=zA K;clear K h hp;go_enter func207,ntmps207;go_upto_region 1 with(fail);clear hW hX;have HKD:=zA hk;have HW:=zA hw;clear hk hw;obtain⟨⟨kd,tx,st,nk,nn,mg,ps,nl⟩,HT⟩:=zP C.L (s).k;have HKD2:=zA (show kd≠5∧kd≠6 from by have:=HKD.out;rw[HT.out]at this;exact this);have e5:((kd:Int)==5)=false:=by have:=HKD2.out.1;rw[yA];omega
 have e6:((kd:Int)==6)=false:=by have:=HKD2.out.2;rw[yA];omega
 go_wp2_with fail;refine F0.kT (zf F0.P HT.out) fun w1 As Am c1 c2 F1=>?_;have F2:=F1.bt 1 44 rfl;obtain⟨zt_0,zt_1,zt_2,zt_3,zt_4,zt_5,zt_6,zt_7,zt_8⟩:=(F2.b 2).nine;go_wp2_with fail;refine F2.kD (HK.out.rank (q:=.calls) ⟨F2.P.hi,trivial⟩ F2.P (yAC _) (by simp[ze])) fun w3 d3_0 d3_1 d3_2 d3_3 d3_4 d3_5 d3_6 d3_7 d3_8 F3=>?_;obtain⟨_,_,_,_,_,_,_,_,_⟩:=F3.sto 3;obtain rfl:=(F3.t 3).kind;have hlo1:=(F3.b 2).lt;have F4:=F3.box [.int .i64 ((zF C.L (.calls) (s)).1).nd.kind,d3_1,d3_2,d3_3,d3_4,d3_5,d3_6,d3_7,d3_8] 72 rfl (by decide) (by decide);obtain⟨⟨kdo,txo,sto,nko,nno,mgo,pso,nlo⟩,HTo⟩:=zP C.L ((zF C.L (.calls) (s)).2).k;go_wp2_with fail;refine F4.kT (zf F4.P HTo.out) fun w5 Aso Amo c1o c2o F5=>?_;obtain⟨_,_,_,_,_,_,_,_,_⟩:=F5.c 2;obtain⟨_,_,_,_,_,_,_,_,_⟩:=F5.f 2;go_upto_region 14 with(fail);refine zCs (F5.put 2 5) fun w6 F6=>?_;obtain⟨_,_,_,_,_,_,_,_,_⟩:=F6.c 2
 by_cases hk5:kdo=5
 · have HK5:=zA hk5;have eo5:((kdo:Int)==5)=true:=by rw[beq_iff_eq];omega
   clear hk5
   by_cases hop:txo∈zFT
   · have HOP:=zA hop;clear hop;go_wp2_with fail;refine F6.kQ (zIV txo (show decide (txo∈zFT)=true from by simpa using HOP.out)) fun w7 F7=>?_;obtain⟨_,_,_,_,_,_,_,_,_⟩:=F7.c 2;obtain⟨_,_,_,_,_,_,_,_,_⟩:=F7.c 4;cases nlo with
     | true=>
      obtain⟨_,_,_,_,_,_,_,_,_⟩:=F7.c 0;obtain⟨_,_,_,_,_,_,_,_,_⟩:=F7.f 0;go_wp2_with fail;refine zM (F7.put 0 3) fun V8 F8=>?_;have q:=F8.c 0;exact F8.ret 3 rfl (by simp[results,results207,go_sem,q]) rfl (HR.out.symm.trans (by
       unfold zE;dsimp only;rw[HT.out,if_neg (fun h=>h.1.elim (fun e=>HKD2.out.1 e) (fun e=>HKD2.out.2 e)),if_neg (fun h=>h.1.elim (fun e=>HKD2.out.1 e) (fun e=>HKD2.out.2 e))]
       try dsimp only
       rw[HTo.out]
       try dsimp only
       rw[if_neg (by simp)])) (fun _ h=>h)
     | false=>
      go_wp2_with fail;refine(zBG _ _).mono ?_;rintro ev9 wx9 ⟨rfl,rfl⟩;obtain⟨bt,hbt⟩:∃bt,zAf ((zF C.L (.calls) (s)).1).nd.kind=bt:=⟨_,rfl⟩;rw[hbt];have HBT:=zA hbt;clear hbt;cases bt with
      | true=>
       have hlo:=zA (HL.out.lt (s:=(zF C.L (.calls) (s)).2) F7.P.hi (by rw[HTo.out];have:=HK5.out;show kdo≠0;omega));obtain⟨xk10,fk10,bk10⟩:=F7.k1;have F10:=F7.step hlo.out;obtain⟨_,_,_,_,_,_,_,_,_⟩:=F10.c 2;obtain⟨_,_,_,_,_,_,_,_,_⟩:=F10.c 4;go_wp2_with fail;clear xk10 fk10 bk10;refine F10.litN _ _ (n:=1) (F10.ts1 3) rfl (by simp) (show _=w7.heap.size by simp) fun w11 F11=>?_;obtain⟨_,_,_,_,_,_,_,_,_⟩:=F11.c 0;obtain⟨_,_,_,_,_,_,_,_,_⟩:=F11.f 0;go_wp2_with fail;refine zM (F11.put 0 6) fun V12 F12=>?_;have q:=F12.c 0;exact F12.ret 6 rfl (by simp[results,results207,go_sem,q]) rfl (HR.out.symm.trans (by
        unfold zE;dsimp only;rw[HT.out,if_neg (fun h=>h.1.elim (fun e=>HKD2.out.1 e) (fun e=>HKD2.out.2 e)),if_neg (fun h=>h.1.elim (fun e=>HKD2.out.1 e) (fun e=>HKD2.out.2 e))]
        try dsimp only
        rw[HTo.out]
        try dsimp only
        rw[if_pos ⟨HK5.out,HOP.out,rfl⟩,HBT.out,if_neg (by simp)])) (fun _ h=>h)
      | false=>
       go_wp2_with fail;refine F7.kN (zu F7.P) fun w13 F13=>?_;obtain⟨_,_,_,_,_,_,_,_,_⟩:=F13.c 4;obtain⟨_,_,_,_,_,_,_,_,_⟩:=F13.c 0;obtain⟨_,_,_,_,_,_,_,_,_⟩:=F13.f 0;go_wp2_with fail;refine zM (F13.put 0 3) fun V14 F14=>?_;have q:=F14.c 0;exact F14.ret 3 rfl (by simp[results,results207,go_sem,q]) rfl (HR.out.symm.trans (by
        unfold zE;dsimp only;rw[HT.out,if_neg (fun h=>h.1.elim (fun e=>HKD2.out.1 e) (fun e=>HKD2.out.2 e)),if_neg (fun h=>h.1.elim (fun e=>HKD2.out.1 e) (fun e=>HKD2.out.2 e))]
        try dsimp only
        rw[HTo.out]
        try dsimp only
        rw[if_pos ⟨HK5.out,HOP.out,rfl⟩,HBT.out,if_pos rfl])) (fun _ h=>h)
   · have HOP:=zA hop;clear hop;go_wp2_with fail;refine F6.kQ (zIV txo (show decide (txo∈zFT)=false from by simpa using HOP.out)) fun w15 F15=>?_;obtain⟨_,_,_,_,_,_,_,_,_⟩:=F15.c 2;obtain⟨_,_,_,_,_,_,_,_,_⟩:=F15.c 4;obtain⟨_,_,_,_,_,_,_,_,_⟩:=F15.c 0;obtain⟨_,_,_,_,_,_,_,_,_⟩:=F15.f 0;go_wp2_with fail;refine zM (F15.put 0 3) fun V16 F16=>?_;have q:=F16.c 0;exact F16.ret 3 rfl (by simp[results,results207,go_sem,q]) rfl (HR.out.symm.trans (by
      unfold zE;dsimp only;rw[HT.out,if_neg (fun h=>h.1.elim (fun e=>HKD2.out.1 e) (fun e=>HKD2.out.2 e)),if_neg (fun h=>h.1.elim (fun e=>HKD2.out.1 e) (fun e=>HKD2.out.2 e))]
      try dsimp only
      rw[HTo.out]
      try dsimp only
      rw[if_neg (fun h=>HOP.out h.2.1)])) (fun _ h=>h)
 · have HK5:=zA hk5;have eo5:((kdo:Int)==5)=false:=by rw[yA];omega
   clear hk5;obtain⟨_,_,_,_,_,_,_,_,_⟩:=F6.c 4;obtain⟨_,_,_,_,_,_,_,_,_⟩:=F6.c 0;obtain⟨_,_,_,_,_,_,_,_,_⟩:=F6.f 0;go_wp2_with fail;refine zM (F6.put 0 3) fun V17 F17=>?_;have q:=F17.c 0;exact F17.ret 3 rfl (by simp[results,results207,go_sem,q]) rfl (HR.out.symm.trans (by
    unfold zE;dsimp only;rw[HT.out,if_neg (fun h=>h.1.elim (fun e=>HKD2.out.1 e) (fun e=>HKD2.out.2 e)),if_neg (fun h=>h.1.elim (fun e=>HKD2.out.1 e) (fun e=>HKD2.out.2 e))]
    try dsimp only
    rw[HTo.out]
    try dsimp only
    rw[if_neg (fun h=>HK5.out h.1)])) (fun _ h=>h)
theorem zLp {C:Pc} {s:Ps} {w:World} (hp:Pre C.L .unary s) (K:KP C (zZ C.L .unary s)) (h:Pa C s w):zc C s w .unary:=by
 by_cases k5:(zL C.L s.k).kind=5∨(zL C.L s.k).kind=6
 · by_cases u:(zL C.L s.k).text∈zJ4
   · exact zN0 hp K h k5 u
   · by_cases p:(zL C.L s.k).text∈zFT
     · exact zN1 hp K h k5 u p
     · exact zN2 hp K h k5 u p
 · exact zN3 hp K h (not_or.1 k5) trivial
theorem zLq {m n:Nat} (hn:n < 8) (h:m=n):(zGj m==(n:Int))=true:=by
 subst h;unfold zGj;rw[if_neg (by omega)];simp
theorem zLr {m n:Nat} (h:¬m=n):(zGj m==(n:Int))=false:=by
 rw[yA];unfold zGj;split<;>omega
theorem zLs {C:Pc} {n:Nat} {s:Ps} {w:World} (hp:Pre C.L (.level n) s) (K:KP C (zZ C.L (.level n) s)) (h:Pa C s w):zc C s w (.level n):=by
 refine zAg hp h fun HL hlen hsk r W X HR hW hX F0=>?_;have HK:=zA K;have hn9:n≤8:=hp.2;clear K h hp;go_enter func201,ntmps201;go_upto_region 1 with(fail);clear hW hX
 by_cases hn:n=8
 · subst hn;go_wp2_with fail;refine F0.kD (HK.out.rank (q:=.unary) ⟨F0.P.hi,trivial⟩ F0.P (yAC _) (by simp[ze])) fun w1 d1_0 d1_1 d1_2 d1_3 d1_4 d1_5 d1_6 d1_7 d1_8 F1=>?_;obtain⟨_,_,_,_,_,_,_,_,_⟩:=F1.sto 1;obtain⟨_,_,_,_,_,_,_,_,_⟩:=F1.c 0;obtain⟨_,_,_,_,_,_,_,_,_⟩:=F1.f 0;go_wp2_with fail;refine zM (F1.put 0 1) fun V2 F2=>?_;have q:=F2.c 0;exact F2.ret 1 rfl (by simp[results,results201,go_sem,q]) rfl (HR.out.symm.trans (by
    unfold zE;dsimp only;rw[if_pos rfl])) (fun _ h=>h)
 · have hn8:n < 8:=by omega
   have hwr:IntKind.i64.wrap ((n:Int)+1)=(n:Int)+1:=by rw[IntKind.wrap_i64];omega
   have e8:((n:Int)==8)=false:=by rw[yA];omega
   have HN:=zA hn;clear hn;have HRK:=zA (show ze (.level (n+1)) s < ze (.level n) s by simp only[ze];omega);go_wp2_with fail;refine F0.kD (HK.out.rank (q:=.level (n+1)) ⟨F0.P.hi,hn8⟩ F0.P (yAC _) HRK.out) fun w3 d3_0 d3_1 d3_2 d3_3 d3_4 d3_5 d3_6 d3_7 d3_8 F3=>?_;obtain⟨_,_,_,_,_,_,_,_,_⟩:=F3.sto 1;have F4:=F3.bt 1 72 rfl;have HA1:=zA (zV HL.out (p:=.level (n+1)) (s:=s) ⟨hsk,hn8⟩).adv.le;have HR1:=zA (show zF C.L (.levelL n ((zF C.L (.level (n+1)) (s)).1)) ((zF C.L (.level (n+1)) (s)).2)=r by
    refine Eq.trans ?_ HR.out;unfold zE;dsimp only;rw[if_neg HN.out])
   have HLE:=zA (show C.L.length - ((zF C.L (.level (n+1)) (s)).2).k≤C.L.length - s.k by have:=HA1.out;omega);go_wp2_with fail
   go_loopg [6] (C.L.length - ((zF C.L (.level (n+1)) (s)).2).k) (fun gk _ wr=>∃(x':Tr) (s':Ps) (e0 e1 e2 e3 e4 e5 e6 e7 e8:Value),C.L.length - s'.k≤gk∧s.k≤s'.k∧Hid (zF C.L (.levelL n x') s'=r)∧Hid (Fr C (w.heap.size≤·) w [(w3.heap.size),X] [.bx X 72 [.int .i64 0,.string ⟨#[]⟩,.slice none 0 0,.int .i64 0,.int .i64 0,.bool false,.slice none 0 0,.slice none 0 0,.slice none 0 0],.bx (w3.heap.size) 72 [e0,e1,e2,e3,e4,e5,e6,e7,e8],.tr x' [e0,e1,e2,e3,e4,e5,e6,e7,e8]] s' wr))
   case atStart=>exact⟨(zF C.L (.level (n+1)) (s)).1,(zF C.L (.level (n+1)) (s)).2,d3_0,d3_1,d3_2,d3_3,d3_4,d3_5,d3_6,d3_7,d3_8,by omega,HA1.out,HR1.out,F4.pk [(w3.heap.size),X] [0,2,1] (by simp) (by decide) rfl (by simp) (by simp)⟩
   case round=>
    obtain⟨x',s',e0,e1,e2,e3,e4,e5,e6,e7,e8,hgk,hsk',HRl,Fl⟩:=hrel;obtain⟨⟨kd,tx,st,nk,nn,mg,ps,nl⟩,HT⟩:=zP C.L (s').k;go_wp2_with fail;refine Fl.kT (zf Fl.P HT.out) fun w6 As Am c1 c2 F6=>?_
    by_cases hb:zCi ⟨kd,tx,st,nk,nn,mg,ps,nl⟩=n
    · have elv:=zLq hn8 hb;have HBN:=zA hb;clear hb;go_wp2_with fail;refine F6.kQ (zIS) fun w7 F7=>?_;have hf1:=zR4;go_wp2_with fail;refine F7.kT (zf F7.P HT.out) fun w8 As2 Am2 c12 c22 F8=>?_;have hlt:=zA (HL.out.lt (s:=s') F8.P.hi (by rw[HT.out];exact zDU (by rw[HBN.out];omega)));obtain⟨xk9,fk9,bk9⟩:=F8.k1;have F9:=F8.step hlt.out;have hpost:=zA (zV HL.out (p:=.level (n+1)) (s:=zB s') ⟨hlt.out,hn8⟩);have CL10:=zA (fun Q=>F9.dr.kD (Q:=Q) (args:=#[.pointer (some ⟨C.g,0,none⟩),.int .i64 ((n:Int)+1)]) (HK.out.more (q:=.level (n+1)) ⟨F9.dr.P.hi,hn8⟩ F9.dr.P (by show s.k < s'.k+1;omega)));obtain⟨_,_,_,_,_,_,_,_,_⟩:=F9.c 1;go_wp2_with fail;go_region_law (first | (go_simp;go_at_call 201;(with_reducible refine CL10.out _ fun w10 d10_0 d10_1 d10_2 d10_3 d10_4 d10_5 d10_6 d10_7 d10_8 F10=>?_);obtain⟨_,_,_,_,_,_,_,_,_⟩:=F10.c 1;have LT10:=zA (fun Q=>F10.litN 46 tx (n:=2) (Q:=Q) (F10.ts2 2 5) rfl (by simp) rfl)) | (go_simp;go_at_call 139;(with_reducible refine LT10.out _ fun w11 F11=>?_);obtain⟨_,_,_,_,_,_,_,_,_⟩:=F11.c 1;obtain⟨_,_,_,_,_,_,_,_,_⟩:=F11.f 1))
      all_goals
       have HQR:=zA (show zF C.L (.levelL n x') s'=zF C.L (.levelL n (trN 46 (tx) [x',(zF C.L (.level (n+1)) (zB (s'))).1])) ((zF C.L (.level (n+1)) (zB (s'))).2) by
        rw[zAH HL.out (p:=.levelL n x') ⟨(Nat.le_of_lt hlt.out),hn8⟩];unfold zE;dsimp only;rw[HT.out,if_pos HBN.out])
       have hst:(zB s').k=s'.k+1:=rfl;have hle:=hpost.out.adv.le;have hlx:=hlt.out;go_wp2_with fail
       go_roundg (C.L.length - ((zF C.L (.level (n+1)) (zB (s'))).2).k)
       case measure=>omega
       case rel=>
        exact⟨_,_,_,_,_,_,_,_,_,_,_,yAC _,(by omega),HQR.out.symm.trans HRl.out,(F11.put 1 6).pk [(w3.heap.size),X] [0,1,6] (by simp) (by decide) rfl (by simp) (by simp)⟩
    · have elv:=zLr (n:=n) hb;have HBN:=zA hb;clear hb;go_wp2_with fail;refine F6.kQ (zIS) fun w12 F12=>?_;obtain⟨_,_,_,_,_,_,_,_,_⟩:=F12.c 1;obtain⟨_,_,_,_,_,_,_,_,_⟩:=F12.sto 2;have HQR:=zA (show zF C.L (.levelL n x') s'=(x',s') by
       rw[zAH HL.out (p:=.levelL n x') ⟨F12.P.hi,hn8⟩];unfold zE;dsimp only;rw[HT.out,if_neg HBN.out])
      obtain⟨_,_,_,_,_,_,_,_,_⟩:=F12.c 0;obtain⟨_,_,_,_,_,_,_,_,_⟩:=F12.f 0;go_wp2_with fail;refine zM (F12.put 0 2) fun V13 F13=>?_;have q:=F13.c 0;exact F13.ret 2 rfl (by simp[results,results201,go_sem,q]) rfl (HRl.out.symm.trans HQR.out) (fun _ h=>h)
theorem zHc {C:Pc} {s:Ps} {w:World} (hp:Pre C.L (.either) s) (K:KP C (zZ C.L (.either) s)) (h:Pa C s w) (hon:onP C.L [63,63] (zF C.L (.level 0) s).2=true):zc C s w (.either):=by
 refine zAg hp h fun HL hlen hsk r W X HR hW hX F0=>?_;have HK:=zA K;clear K h hp;go_enter func196,ntmps196;go_upto_region 1 with(fail);clear hW hX;have HO:=zA hon;clear hon;go_wp2_with fail;refine F0.kD (HK.out.rank (q:=.level 0) ⟨F0.P.hi,yAE _⟩ F0.P (yAC _) (by simp[ze])) fun w1 d1_0 d1_1 d1_2 d1_3 d1_4 d1_5 d1_6 d1_7 d1_8 F1=>?_;obtain⟨_,_,_,_,_,_,_,_,_⟩:=F1.sto 1;have F2:=F1.bt 1 72 rfl;have HA1:=zA (zV HL.out (p:=.level 0) (s:=s) ⟨hsk,yAE _⟩).adv.le;go_wp2_with fail;refine F2.kB (zAL F2.P [63,63] HO.out) fun w3 F3=>?_;obtain⟨q,hq⟩:∃q,zF C.L (.nullL ((zF C.L (.level 0) (s)).1)) ((zF C.L (.level 0) (s)).2)=q:=⟨_,rfl⟩;have HQ:=zA hq;clear hq;have HRQ:=zA (show r=(q.1,if(onP C.L [124,124] q.2 || onP C.L [38,38] q.2)=true then zY C.L q.2 else q.2)from by
  refine HR.out.symm.trans ?_;unfold zE;dsimp only;rw[if_pos HO.out,HQ.out])
 go_wp2_with fail
 go_loopg [9] (C.L.length - ((zF C.L (.level 0) (s)).2).k) (fun gk _ wr=>∃(x':Tr) (s':Ps) (e0 e1 e2 e3 e4 e5 e6 e7 e8:Value),C.L.length - s'.k≤gk∧s.k≤s'.k∧Hid (zF C.L (.nullL x') s'=q)∧Hid (Fr C (w.heap.size≤·) w [(w1.heap.size),X] [.bx X 72 [.int .i64 0,.string ⟨#[]⟩,.slice none 0 0,.int .i64 0,.int .i64 0,.bool false,.slice none 0 0,.slice none 0 0,.slice none 0 0],.bx (w1.heap.size) 72 [e0,e1,e2,e3,e4,e5,e6,e7,e8],.tr x' [e0,e1,e2,e3,e4,e5,e6,e7,e8]] s' wr))
 case atStart=>exact⟨(zF C.L (.level 0) (s)).1,(zF C.L (.level 0) (s)).2,d1_0,d1_1,d1_2,d1_3,d1_4,d1_5,d1_6,d1_7,d1_8,by omega,HA1.out,HQ.out,F3.pk [(w1.heap.size),X] [0,2,1] (by simp) (by decide) rfl (by simp) (by simp)⟩
 case round=>
  obtain⟨x',s',e0,e1,e2,e3,e4,e5,e6,e7,e8,hgk,hsk',HRl,Fl⟩:=hrel
  by_cases hon:onP C.L [63,63] s'=true
  · have HO:=zA hon;clear hon;have hlt:=zA (HL.out.on Fl.P.hi HO.out);go_wp2_with fail;refine Fl.kM (zAw Fl.P [63,63] HO.out) fun w5 F5=>?_;have hpost:=zA (zV HL.out (p:=.level 0) (s:=zB s') ⟨hlt.out,yAE _⟩);have CL6:=zA (fun Q=>F5.dr.kD (Q:=Q) (args:=#[.pointer (some ⟨C.g,0,none⟩),.int .i64 0]) (HK.out.more (q:=.level 0) ⟨F5.dr.P.hi,yAE _⟩ F5.dr.P (by show s.k < s'.k+1;omega)));obtain⟨_,_,_,_,_,_,_,_,_⟩:=F5.c 1;go_wp2_with fail;go_region_law (first | (go_simp;go_at_call 201;(with_reducible refine CL6.out _ fun w6 d6_0 d6_1 d6_2 d6_3 d6_4 d6_5 d6_6 d6_7 d6_8 F6=>?_);obtain⟨_,_,_,_,_,_,_,_,_⟩:=F6.c 1;have LT6:=zA (fun Q=>F6.litN 47 [63,63] (n:=2) (Q:=Q) (F6.ts2 2 3) rfl (by simp) rfl)) | (go_simp;go_at_call 139;(with_reducible refine LT6.out _ fun w7 F7=>?_);obtain⟨_,_,_,_,_,_,_,_,_⟩:=F7.c 1;obtain⟨_,_,_,_,_,_,_,_,_⟩:=F7.f 1))
    all_goals
     have HQR:=zA (show zF C.L (.nullL x') s'=zF C.L (.nullL (trN 47 ([63,63]) [x',(zF C.L (.level 0) (zB (s'))).1])) ((zF C.L (.level 0) (zB (s'))).2) by
      rw[zAH HL.out (p:=.nullL x') ⟨(Nat.le_of_lt hlt.out),trivial⟩];unfold zE;dsimp only;rw[if_pos HO.out])
     have hst:(zB s').k=s'.k+1:=rfl;have hle:=hpost.out.adv.le;have hlx:=hlt.out;go_wp2_with fail
     go_roundg (C.L.length - ((zF C.L (.level 0) (zB (s'))).2).k)
     case measure=>omega
     case rel=>
      exact⟨_,_,_,_,_,_,_,_,_,_,_,yAC _,(by omega),HQR.out.symm.trans HRl.out,(F7.put 1 4).pk [(w1.heap.size),X] [0,1,4] (by simp) (by decide) rfl (by simp) (by simp)⟩
  · have HO:=zA (show onP C.L [63,63] s'=false by simpa using hon);clear hon;go_wp2_with fail;refine Fl.kM (zA1 Fl.P [63,63] HO.out) fun w8 F8=>?_;have HQR:=zA (show q=(x',s')from HRl.out.symm.trans (by
     rw[zAH HL.out (p:=.nullL x') ⟨F8.P.hi,trivial⟩];unfold zE;dsimp only;rw[if_neg (by rw[HO.out];decide)]))
    obtain⟨b1,hb1⟩:∃b,onP C.L [124,124] s'=b:=⟨_,rfl⟩;obtain⟨b2,hb2⟩:∃b,onP C.L [38,38] s'=b:=⟨_,rfl⟩;have HB1:=zA hb1;have HB2:=zA hb2;clear hb1 hb2;go_wp2_with fail;refine F8.kB (zAL F8.P [124,124] HB1.out) fun w9 F9=>?_;cases b1 with
    | true=>
     go_wp2_with fail;refine F9.kN (zu F9.P) fun w10 F10=>?_;obtain⟨_,_,_,_,_,_,_,_,_⟩:=F10.c 1;obtain⟨_,_,_,_,_,_,_,_,_⟩:=F10.sto 2;obtain⟨_,_,_,_,_,_,_,_,_⟩:=F10.c 0;obtain⟨_,_,_,_,_,_,_,_,_⟩:=F10.f 0;go_wp2_with fail;refine zM (F10.put 0 2) fun V11 F11=>?_;have q:=F11.c 0;exact F11.ret 2 rfl (by simp[results,results196,go_sem,q]) rfl (by rw[HRQ.out,HQR.out];simp[HB1.out,HB2.out]) (fun _ h=>h)
    | false=>
     go_wp2_with fail;refine F9.kB (zAL F9.P [38,38] HB2.out) fun w12 F12=>?_;cases b2 with
     | true=>
      go_wp2_with fail;refine F12.kN (zu F12.P) fun w13 F13=>?_;obtain⟨_,_,_,_,_,_,_,_,_⟩:=F13.c 1;obtain⟨_,_,_,_,_,_,_,_,_⟩:=F13.sto 2;obtain⟨_,_,_,_,_,_,_,_,_⟩:=F13.c 0;obtain⟨_,_,_,_,_,_,_,_,_⟩:=F13.f 0;go_wp2_with fail;refine zM (F13.put 0 2) fun V14 F14=>?_;have q:=F14.c 0;exact F14.ret 2 rfl (by simp[results,results196,go_sem,q]) rfl (by rw[HRQ.out,HQR.out];simp[HB1.out,HB2.out]) (fun _ h=>h)
     | false=>
      obtain⟨_,_,_,_,_,_,_,_,_⟩:=F12.c 1;obtain⟨_,_,_,_,_,_,_,_,_⟩:=F12.sto 2;obtain⟨_,_,_,_,_,_,_,_,_⟩:=F12.c 0;obtain⟨_,_,_,_,_,_,_,_,_⟩:=F12.f 0;go_wp2_with fail;refine zM (F12.put 0 2) fun V15 F15=>?_;have q:=F15.c 0;exact F15.ret 2 rfl (by simp[results,results196,go_sem,q]) rfl (by rw[HRQ.out,HQR.out];simp[HB1.out,HB2.out]) (fun _ h=>h)
theorem zLt {C:Pc} {s:Ps} {w:World} (hp:Pre C.L (.either) s) (K:KP C (zZ C.L (.either) s)) (h:Pa C s w) (hon:¬onP C.L [63,63] (zF C.L (.level 0) s).2=true):zc C s w (.either):=by
 refine zAg hp h fun HL hlen hsk r W X HR hW hX F0=>?_;have HK:=zA K;clear K h hp;go_enter func196,ntmps196;go_upto_region 1 with(fail);clear hW hX;have HO:=zA (show onP C.L [63,63] (zF C.L (.level 0) s).2=false by simpa using hon);clear hon;go_wp2_with fail;refine F0.kD (HK.out.rank (q:=.level 0) ⟨F0.P.hi,yAE _⟩ F0.P (yAC _) (by simp[ze])) fun w1 d1_0 d1_1 d1_2 d1_3 d1_4 d1_5 d1_6 d1_7 d1_8 F1=>?_;obtain⟨_,_,_,_,_,_,_,_,_⟩:=F1.sto 1;have F2:=F1.bt 1 72 rfl;have HA1:=zA (zV HL.out (p:=.level 0) (s:=s) ⟨hsk,yAE _⟩).adv.le;go_wp2_with fail;refine F2.kB (zAL F2.P [63,63] HO.out) fun w3 F3=>?_;obtain⟨_,_,_,_,_,_,_,_,_⟩:=F3.c 2;go_wp2_with fail;refine F3.kO (F3.both 1 rfl (HK.out.rank (q:=.both ((zF C.L (.level 0) (s)).1)) ⟨F3.P.hi,trivial⟩ F3.P HA1.out (by simp[ze]))) fun w4 d4_0 d4_1 d4_2 d4_3 d4_4 d4_5 d4_6 d4_7 d4_8 F4=>?_;obtain⟨_,_,_,_,_,_,_,_,_⟩:=F4.sto 3;obtain⟨_,_,_,_,_,_,_,_,_⟩:=F4.c 2;obtain⟨_,_,_,_,_,_,_,_,_⟩:=F4.f 2;obtain⟨q,hq⟩:∃q,zF C.L (.orL ((zF C.L (.both ((zF C.L (.level 0) (s)).1)) ((zF C.L (.level 0) (s)).2)).1)) ((zF C.L (.both ((zF C.L (.level 0) (s)).1)) ((zF C.L (.level 0) (s)).2)).2)=q:=⟨_,rfl⟩;have HQ:=zA hq;clear hq;have HRQ:=zA (show r=(q.1,if onP C.L [63,63] q.2=true then zY C.L q.2 else q.2)from by
  refine HR.out.symm.trans ?_;unfold zE;dsimp only;rw[if_neg (by rw[HO.out];decide),HQ.out])
 have HA2:=zA (yAD HA1.out (zV HL.out (p:=.both ((zF C.L (.level 0) (s)).1)) (s:=(zF C.L (.level 0) (s)).2) ⟨(zV HL.out (p:=.level 0) (s:=s) ⟨hsk,yAE _⟩).adv.hi,trivial⟩).adv.le);go_wp2_with fail
 go_loopg [28] (C.L.length - ((zF C.L (.both ((zF C.L (.level 0) (s)).1)) ((zF C.L (.level 0) (s)).2)).2).k) (fun gk _ wr=>∃(x':Tr) (s':Ps) (e0 e1 e2 e3 e4 e5 e6 e7 e8:Value),C.L.length - s'.k≤gk∧s.k≤s'.k∧Hid (zF C.L (.orL x') s'=q)∧Hid (Fr C (w.heap.size≤·) w [(w1.heap.size),X] [.bx X 72 [.int .i64 0,.string ⟨#[]⟩,.slice none 0 0,.int .i64 0,.int .i64 0,.bool false,.slice none 0 0,.slice none 0 0,.slice none 0 0],.bx (w1.heap.size) 72 [e0,e1,e2,e3,e4,e5,e6,e7,e8],.tr x' [e0,e1,e2,e3,e4,e5,e6,e7,e8]] s' wr))
 case atStart=>exact⟨(zF C.L (.both ((zF C.L (.level 0) (s)).1)) ((zF C.L (.level 0) (s)).2)).1,(zF C.L (.both ((zF C.L (.level 0) (s)).1)) ((zF C.L (.level 0) (s)).2)).2,d4_0,d4_1,d4_2,d4_3,d4_4,d4_5,d4_6,d4_7,d4_8,yAC _,HA2.out,HQ.out,(F4.put 2 3).pk [(w1.heap.size),X] [0,2,3] (by simp) (by decide) rfl (by simp) (by simp)⟩
 case round=>
  obtain⟨x',s',e0,e1,e2,e3,e4,e5,e6,e7,e8,hgk,hsk',HRl,Fl⟩:=hrel
  by_cases hon:onP C.L [124,124] s'=true
  · have HO:=zA hon;clear hon;have hlt:=zA (HL.out.on Fl.P.hi HO.out);go_wp2_with fail;refine Fl.kM (zAw Fl.P [124,124] HO.out) fun w6 F6=>?_;have hpost:=zA (zV HL.out (p:=.level 0) (s:=zB s') ⟨hlt.out,yAE _⟩);have hpost2:=zA (zV HL.out (p:=.both ((zF C.L (.level 0) (zB s')).1)) (s:=(zF C.L (.level 0) (zB s')).2) ⟨hpost.out.adv.hi,trivial⟩);have CLv:=zA (fun Q=>F6.dr.kD (Q:=Q) (args:=#[.pointer (some ⟨C.g,0,none⟩),.int .i64 0]) (HK.out.more (q:=.level 0) ⟨F6.dr.P.hi,yAE _⟩ F6.dr.P (by show s.k < s'.k+1;omega)));obtain⟨_,_,_,_,_,_,_,_,_⟩:=F6.c 1;go_wp2_with fail;go_region_law (first | (go_simp;go_at_call 201;(with_reducible refine CLv.out _ fun w71 a0 a1 a2 a3 a4 a5 a6 a7 a8 F71=>?_);obtain⟨_,_,_,_,_,_,_,_,_⟩:=F71.c 1;have CBo:=zA (fun Q=>F71.kO (Q:=Q) (F71.both 3 rfl (HK.out.rank (q:=.both ((zF C.L (.level 0) (zB s')).1)) ⟨F71.P.hi,trivial⟩ F71.P (by have:=hpost.out.adv.le;have:(zB s').k=s'.k+1:=rfl;omega) (by simp[ze]))))) | (go_simp;go_at_call 202;(with_reducible refine CBo.out _ fun w72 b0 b1 b2 b3 b4 b5 b6 b7 b8 F72=>?_);obtain⟨_,_,_,_,_,_,_,_,_⟩:=F72.c 1;have LT:=zA (fun Q=>F72.litN 47 [124,124] (n:=2) (Q:=Q) (F72.ts2 2 4) rfl (by simp) rfl)) | (go_simp;go_at_call 139;(with_reducible refine LT.out _ fun w73 F73=>?_);obtain⟨_,_,_,_,_,_,_,_,_⟩:=F73.c 1;obtain⟨_,_,_,_,_,_,_,_,_⟩:=F73.f 1))
    all_goals
     have HQR:=zA (show zF C.L (.orL x') s'=zF C.L (.orL (trN 47 ([124,124]) [x',(zF C.L (.both ((zF C.L (.level 0) (zB s')).1)) ((zF C.L (.level 0) (zB s')).2)).1])) ((zF C.L (.both ((zF C.L (.level 0) (zB s')).1)) ((zF C.L (.level 0) (zB s')).2)).2) by
      rw[zAH HL.out (p:=.orL x') ⟨(Nat.le_of_lt hlt.out),trivial⟩];unfold zE;dsimp only;rw[if_pos HO.out])
     have hst:(zB s').k=s'.k+1:=rfl;have hle:=hpost.out.adv.le;have hle2:=hpost2.out.adv.le;have hlx:=hlt.out;go_wp2_with fail
     go_roundg (C.L.length - ((zF C.L (.both ((zF C.L (.level 0) (zB s')).1)) ((zF C.L (.level 0) (zB s')).2)).2).k)
     case measure=>omega
     case rel=>
      exact⟨_,_,_,_,_,_,_,_,_,_,_,yAC _,(by omega),HQR.out.symm.trans HRl.out,(F73.put 1 5).pk [(w1.heap.size),X] [0,1,5] (by simp) (by decide) rfl (by simp) (by simp)⟩
  · have HO:=zA (show onP C.L [124,124] s'=false by simpa using hon);clear hon;go_wp2_with fail;refine Fl.kM (zA1 Fl.P [124,124] HO.out) fun w7 F7=>?_;have HQR:=zA (show q=(x',s')from HRl.out.symm.trans (by
     rw[zAH HL.out (p:=.orL x') ⟨F7.P.hi,trivial⟩];unfold zE;dsimp only;rw[if_neg (by rw[HO.out];decide)]))
    obtain⟨b1,hb1⟩:∃b,onP C.L [63,63] s'=b:=⟨_,rfl⟩;have HB1:=zA hb1;have HB2:=zA hb1;clear hb1;go_wp2_with fail;refine F7.kB (zAL F7.P [63,63] HB1.out) fun w8 F8=>?_;cases b1 with
    | true=>
     go_wp2_with fail;refine F8.kN (zu F8.P) fun w9 F9=>?_;obtain⟨_,_,_,_,_,_,_,_,_⟩:=F9.c 1;obtain⟨_,_,_,_,_,_,_,_,_⟩:=F9.sto 2;obtain⟨_,_,_,_,_,_,_,_,_⟩:=F9.c 0;obtain⟨_,_,_,_,_,_,_,_,_⟩:=F9.f 0;go_wp2_with fail;refine zM (F9.put 0 2) fun V10 F10=>?_;have q:=F10.c 0;exact F10.ret 2 rfl (by simp[results,results196,go_sem,q]) rfl (by rw[HRQ.out,HQR.out];simp[HB1.out]) (fun _ h=>h)
    | false=>
     obtain⟨_,_,_,_,_,_,_,_,_⟩:=F8.c 1;obtain⟨_,_,_,_,_,_,_,_,_⟩:=F8.sto 2;obtain⟨_,_,_,_,_,_,_,_,_⟩:=F8.c 0;obtain⟨_,_,_,_,_,_,_,_,_⟩:=F8.f 0;go_wp2_with fail;refine zM (F8.put 0 2) fun V11 F11=>?_;have q:=F11.c 0;exact F11.ret 2 rfl (by simp[results,results196,go_sem,q]) rfl (by rw[HRQ.out,HQR.out];simp[HB1.out]) (fun _ h=>h)
theorem zJc {C:Pc} {s:Ps} {w:World} (hp:Pre C.L .either s) (K:KP C (zZ C.L .either s)) (h:Pa C s w):zc C s w .either:=by
 by_cases hon:onP C.L [63,63] (zF C.L (.level 0) s).2=true
 · exact zHc hp K h hon
 · exact zLt hp K h hon
theorem LstQ.mk {C:Pc} {r:Tr×Ps} {w w':World} {A:Option Addr} {n c:Nat} {l:List Tr} {t:Ps} (e:r=(trK 0 l,t)) (h:RowP w' (w.heap.size≤·) (.slice A n c) l) (hp:Pa C t w') (hg:w.grownBy w' (some C.g)):LstQ C r w (.returned (.slice A n c)) w':=by
 subst e;obtain⟨h1,h2,h3⟩:=h.bounds;exact⟨A,n,c,rfl,h1,h2,h3,h,hp,hg⟩
theorem zN4 {C:Pc} {v:List UInt8} {s:Ps} {w:World} (hp:Pre C.L (.list v) s) (K:KP C (zZ C.L (.list v) s)) (h:Pa C s w):zc C s w (.list v):=by
 show Calls prog 221 #[.pointer (some ⟨C.g,0,none⟩),.string ⟨v.toArray⟩] w (LstQ C (zF C.L (.list v) s) w);have HL:=zA h.cx.lst;have hlen:C.N≤4097:=h.cx.n4;have hNn:=zA h.cx.n;have hgw:=h.lt;have HK:=zA K;have hsk:=hp.1;have HPRE:=zA hp;have HP:=zA h;obtain⟨r,hr⟩:∃r,zF C.L (.list v) s=r:=⟨_,rfl⟩;rw[hr];have HR:=zA hr;clear hr h K hp
 by_cases hon:onP C.L v s=true
 · have HO:=zA hon;clear hon;go_enter func221,ntmps221;go_wp2_with fail;refine(zAV HP.out v HO.out).mono ?_;rintro ev w1 ⟨rfl,hp1,hg1⟩;have HP1:=zA (show Pa C (zB s) w1 from hp1);have HG1:=zA hg1;clear hp1 hg1;go_wp2_with fail;go_ret;refine LstQ.mk (l:=[]) (HR.out.symm.trans (by
    rw[zAH HL.out HPRE.out];unfold zE;dsimp only;rw[if_pos HO.out])) (RowP.nil _ _) HP1.out HG1.out
 · have HO:=zA (show onP C.L v s=false by simpa using hon);have HR0:=zA (show zF C.L (.listL v []) s=r from by
    refine Eq.trans ?_ HR.out;rw[zAH HL.out (p:=.list v) HPRE.out];unfold zE;dsimp only;rw[if_neg hon])
   clear hon;go_enter func221,ntmps221;go_wp2_with fail;refine(zAV HP.out v HO.out).mono ?_;rintro ev w1 ⟨rfl,hp1,hg1⟩;have HP1:=zA (show Pa C s w1 from hp1);have HG1:=zA hg1;clear hp1 hg1;go_wp2_with fail
   go_loopg [5] (C.L.length - s.k) (fun gk v5 wr=>∃(acc:List Tr) (s':Ps) (A:Option Addr) (n cp:Nat),v5=.slice A n cp∧C.L.length - s'.k≤gk∧s.k≤s'.k∧n≤s'.k∧Hid (zF C.L (.listL v acc) s'=r)∧Hid (Pa C s' wr)∧Hid (RowP wr (w.heap.size≤·) (.slice A n cp) acc)∧Hid (w.grownBy wr (some C.g)))
   case atStart=>exact⟨[],s,none,0,0,rfl,yAC _,yAC _,yAE _,HR0.out,HP1.out,RowP.nil _ _,HG1.out⟩
   case round=>
    clear HP1 HG1 HR0;obtain⟨acc,s',A,n,cp,rfl,hgk,hsk',hns,HRl,HPl,HWl,HGl⟩:=hrel;go_wp2_with fail;refine(Calls.mono (show Calls prog 140 #[.pointer (some ⟨C.g,0,none⟩)] wr (zCP C (zF C.L .assign s') wr)from HK.out.rank (q:=.assign) ⟨HPl.out.hi,trivial⟩ HPl.out hsk' (by simp[ze])) ?_);rintro ev2 w2 ⟨d0,d1,d2,d3,d4,d5,d6,d7,d8,rfl,ht2,hp2,hg2⟩;have hgs:=HGl.out.size;have HP2:=zA hp2;have HT2:=zA ht2;have HW2:=zA (HWl.out.keep hg2 (.box HPl.out.box (by decide) (by decide) (by omega)));have HG2:=zA (zC HGl.out hg2);have hb2:=zA (HWl.out.lt);have hs2:=hg2.size;have hpost:=zA (zV HL.out (p:=.assign) (s:=s') ⟨HPl.out.hi,trivial⟩);have hadv:=hpost.out.adv.le;have hahi:=hpost.out.adv.hi;have hNN:=hNn.out;clear ht2 hp2 hg2;obtain⟨e,he⟩:∃e,zF C.L .assign s'=e:=⟨_,rfl⟩;rw[he]at HP2 HT2 hpost hadv hahi;have HE:=zA he;clear he;have HN:=zA HWl.out.bounds.1;go_wp2_with (at_builtin;refine zCq (Px:=fun b=>w.heap.size≤b) (Q:=fun b=>wr.heap.size≤b) rfl _ _ rfl rfl HN.out HW2.out HT2.out (fun b (hb:wr.heap.size≤b) _=>(by omega:w.heap.size≤b)) (fun b hb h2=>(by have:=hb2.out b hb;omega)) (by show w.heap.size≤w2.heap.size+1;omega) (by omega) rfl ?_;intro A3 cp3 w3 hrow hgr);have HW3:=zA hrow;have hwa:=HW2.out.new (zG w2 (.cells #[d0,d1,d2,d3,d4,d5,d6,d7,d8] 72) none);have HP3:=zA ((HP2.out.alloc (.cells #[d0,d1,d2,d3,d4,d5,d6,d7,d8] 72)).row hwa (fun b (hb:w.heap.size≤b)=>(by omega:C.g < b)) hgr);have HG3:=zA (zFP (zC HG2.out (zG _ _ _)) hwa (fun b hb=>hb) hgr);have hs3:=HG3.out.size;clear hrow hgr hwa HW2 HP2 HG2 HT2
    by_cases hb:e.2.bad=0
    · have HBD:=zA (show(e.2.bad==0)=true by rw[hb];rfl);have HBZ:=zA hb;have hlt:=hpost.out.lt HPl.out.hi (by rw[hb];simp);clear hb;refine(zA3 HP3.out HBD.out).mono ?_;rintro ev4 w4 ⟨rfl,hp4,hg4⟩;have HP4:=zA hp4;have HW4:=zA (HW3.out.new hg4);have HG4:=zA (zC HG3.out (zAF hg4 _));clear hp4 hg4
      by_cases hon:onP C.L v e.2=true
      · have HO2:=zA hon;clear hon;go_wp2_with fail;refine(zAV HP4.out v HO2.out).mono ?_;rintro ev5 w5 ⟨rfl,hp5,hg5⟩;have HP5:=zA (show Pa C (zB e.2) w5 from hp5);have HW5:=zA (HW4.out.keep hg5 (.box HP4.out.box (by decide) (by decide) (by omega)));have HG5:=zA (zC HG4.out hg5);clear hp5 hg5;go_wp2_with fail;go_ret;refine LstQ.mk (l:=acc++[e.1]) (HRl.out.symm.trans (by
         rw[zAH HL.out ⟨HPl.out.hi,trivial⟩];unfold zE;dsimp only;rw[HE.out,if_neg (by rw[HBZ.out];simp),if_pos HO2.out])) HW5.out HP5.out HG5.out
      · have HO2:=zA (show onP C.L v e.2=false by simpa using hon);clear hon;go_wp2_with fail;refine(zAV HP4.out v HO2.out).mono ?_;rintro ev5 w5 ⟨rfl,hp5,hg5⟩;have HP5:=zA (show Pa C e.2 w5 from hp5);have HW5:=zA (HW4.out.keep hg5 (.box HP4.out.box (by decide) (by decide) (by omega)));have HG5:=zA (zC HG4.out hg5);clear hp5 hg5;go_wp2_with fail;refine(zr HP5.out [44]).mono ?_;rintro ev6 w6 ⟨rfl,hp6,hg6⟩;have HP6:=zA hp6;have HW6:=zA (HW5.out.keep hg6 (.box HP5.out.box (by decide) (by decide) (by omega)));have HG6:=zA (zC HG5.out hg6);clear hp6 hg6;have HQR:=zA (show zF C.L (.listL v (acc++[e.1])) (zN C.L [44] e.2)=r from Eq.trans (Eq.symm (by
         rw[zAH HL.out (p:=.listL v acc) (s:=s') ⟨HPl.out.hi,trivial⟩];unfold zE;dsimp only;rw[HE.out,if_neg (by rw[HBZ.out];simp),if_neg (by rw[HO2.out];decide)])) HRl.out)
        have hnd:=zA (zU (w:=[44]) HL.out (s:=e.2) hahi).adv;have hnl:=hnd.out.le;go_wp2_with fail
        go_roundg (C.L.length - (zN C.L [44] e.2).k)
        case measure=>omega
        case rel=>exact⟨_,_,A3,n+1,cp3,rfl,yAC _,by omega,by omega,HQR.out,HP6.out,HW6.out,HG6.out⟩
    · have HBD:=zA (show(e.2.bad==0)=false by rw[yA];exact hb);have HBZ:=zA hb;clear hb;refine(zA3 HP3.out HBD.out).mono ?_;rintro ev4 w4 ⟨rfl,hp4,hg4⟩;have HP4:=zA hp4;have HW4:=zA (HW3.out.new hg4);have HG4:=zA (zC HG3.out (zAF hg4 _));clear hp4 hg4;go_wp2_with fail;go_ret;refine LstQ.mk (l:=acc++[e.1]) (HRl.out.symm.trans (by
       rw[zAH HL.out ⟨HPl.out.hi,trivial⟩];unfold zE;dsimp only;rw[HE.out,if_pos HBZ.out])) HW4.out HP4.out HG4.out
theorem zN5 {C:Pc} {s:Ps} {w:World} (hp:Pre C.L .args s) (K:KP C (zZ C.L .args s)) (h:Pa C s w):zc C s w .args:=by
 show Calls prog 218 #[.pointer (some ⟨C.g,0,none⟩)] w (LstQ C (zF C.L .args s) w);have HL:=zA h.cx.lst;have HK:=zA K;have HPRE:=zA hp;have HP:=zA h;have hn:=zA (zU (w:=[40]) HL.out hp.1);have hlt:=zA (hn.out.more hp.2);clear h K hp;go_enter func218,ntmps218;go_wp2_with fail;refine(zr HP.out [40]).mono ?_;rintro ev w1 ⟨rfl,hp1,hg1⟩;have HP1:=zA hp1;have HG1:=zA hg1;clear hp1 hg1;go_wp2_with fail;refine(Calls.mono (show Calls prog 221 #[.pointer (some ⟨C.g,0,none⟩),.string ⟨#[41]⟩] w1 (LstQ C (zF C.L (.list [41]) (zN C.L [40] s)) w1)from HK.out.more (q:=.list [41]) ⟨HP1.out.hi,trivial⟩ HP1.out hlt.out) ?_);rintro ev2 w2 ⟨A,n,c,rfl,h1,h2,h3,hr2,hp2,hg2⟩;have HX:=zA (show RowP w2 (w.heap.size≤·) (.slice A n c) (zF C.L (.list [41]) (zN C.L [40] s)).1.subs from hr2.sub fun b (hb:w1.heap.size≤b) _=>yAD HG1.out.size hb);have HP2:=zA hp2;have HG2:=zA (zC HG1.out hg2);have H1:=zA h1;clear h1 hr2 hp2 hg2;go_wp2_with fail;go_ret;have e:zF C.L .args s=zF C.L (.list [41]) (zN C.L [40] s):=by
  rw[zAH HL.out HPRE.out];rfl
 rw[e];exact⟨A,n,c,rfl,H1.out,h2,h3,HX.out,HP2.out,HG2.out⟩
theorem zJd {C:Pc} {s:Ps} {w:World} (hp:Pre C.L (.object) s) (K:KP C (zZ C.L (.object) s)) (h:Pa C s w):zc C s w (.object):=by
 refine zAg hp h fun HL hlen hsk r W X HR hW hX F0=>?_;have HK:=zA K;clear K h hp;go_enter func222,ntmps222;go_upto_region 1 with(fail);clear hW hX;go_wp2_with fail;refine F0.made0 _ fun w1 F1=>?_;have F2:=F1.bt 1 72 rfl
 by_cases hon:onP C.L [125] s=true
 · have HO:=zA hon;clear hon;go_wp2_with fail;refine F2.kM (zAw F2.P [125] HO.out) fun w3 F3=>?_;obtain⟨_,_,_,_,_,_,_,_,_⟩:=F3.c 2;obtain⟨_,_,_,_,_,_,_,_,_⟩:=F3.c 0;obtain⟨_,_,_,_,_,_,_,_,_⟩:=F3.f 0;go_wp2_with fail;refine zM (F3.put 0 1) fun V4 F4=>?_;have q:=F4.c 0;exact F4.ret 1 rfl (by simp[results,results222,go_sem,q]) rfl (HR.out.symm.trans (by
    unfold zE;dsimp only;rw[if_pos HO.out])) (fun _ h=>h)
 · have HO:=zA (show onP C.L [125] s=false by simpa using hon);clear hon;have HR0:=zA (show zF C.L (.objL []) s=r from by
    refine Eq.trans ?_ HR.out;unfold zE;dsimp only;rw[if_neg (by rw[HO.out];decide)])
   go_wp2_with fail;refine F2.kM (zA1 F2.P [125] HO.out) fun w5 F5=>?_;go_wp2_with fail
   go_loopg [9] (C.L.length - s.k) (fun gk _ wr=>∃(acc:List Tr) (s':Ps) (A:Option Addr) (n cp:Nat),C.L.length - s'.k≤gk∧s.k≤s'.k∧n≤s'.k∧Hid (zF C.L (.objL acc) s'=r)∧Fr C (w.heap.size≤·) w [(w1.heap.size),X] [.bx X 72 [.int .i64 0,.string ⟨#[]⟩,.slice none 0 0,.int .i64 0,.int .i64 0,.bool false,.slice none 0 0,.slice none 0 0,.slice none 0 0],.bx (w1.heap.size) 72 [.int .i64 39,.string ⟨#[]⟩,.slice none 0 0,.int .i64 0,.int .i64 0,.bool false,.slice none 0 0,.slice none 0 0,.slice A n cp],.ro (.slice A n cp) acc] s' wr)
   case atStart=>exact⟨[],s,none,0,0,yAC _,yAC _,yAE _,HR0.out,F5.nil.pk [(w1.heap.size),X] [0,2,3] (by simp) (by decide) rfl (by simp) (by simp)⟩
   case round=>
    obtain⟨acc,s',A,n,cp,hgk,hsk',hns,HRl,Fl⟩:=hrel;have hpost:=zA (zV HL.out (p:=.prop) (s:=s') ⟨Fl.P.hi,trivial⟩);have hadv:=hpost.out.adv.le;have hahi:=hpost.out.adv.hi;have hxh:=Fl.P.hi;have CL6:=zA (fun Q=>Fl.dr.kR 2 rfl (Q:=Q) (HK.out.rank (q:=.prop) ⟨Fl.dr.P.hi,trivial⟩ Fl.dr.P hsk' (by simp[ze])));obtain⟨_,_,_,_,_,_,_,_,_⟩:=Fl.c 1;have hn6:n≤4097:=by have:=Fl.P.cx.n;omega
    go_wp2_with fail;go_region_law (first | (go_simp;go_at_call 223;(with_reducible refine CL6.out _ fun w6 d6_0 d6_1 d6_2 d6_3 d6_4 d6_5 d6_6 d6_7 d6_8 F6=>?_);obtain⟨_,_,_,_,_,_,_,_,_⟩:=F6.c 1;obtain⟨_,_,_,_,_,_,_,_,_⟩:=(F6.al (.cells #[d6_0,d6_1,d6_2,d6_3,d6_4,d6_5,d6_6,d6_7,d6_8] 72)).c 1) | (refine F6.snocS 2 3 rfl rfl (fun _ h=>h) hn6 rfl _ _ rfl rfl rfl fun A7 cp7 w7 F7=>?_;obtain⟨_,_,_,_,_,_,_,_,_⟩:=F7.c 1;obtain⟨_,_,_,_,_,_,_,_,_⟩:=F7.f 1))
    all_goals
     have F8:=F7.set 1 8 (.slice A7 (n+1) cp7)
     by_cases hb:(zF C.L .prop s').2.bad=0
     · have HBD:=zA (show((zF C.L .prop s').2.bad==0)=true by rw[hb];rfl);have HBZ:=zA hb;have hlt:=hpost.out.lt Fl.P.hi (by rw[hb];simp);clear hb;go_wp2_with fail;refine F8.kB (zA3 F8.P HBD.out) fun w9 F9=>?_
       by_cases hon2:onP C.L [125] (zF C.L .prop s').2=true
       · have HO2:=zA hon2;clear hon2;go_wp2_with fail;refine F9.kM (zAw F9.P [125] HO2.out) fun w10 F10=>?_;obtain⟨_,_,_,_,_,_,_,_,_⟩:=F10.c 1;obtain⟨_,_,_,_,_,_,_,_,_⟩:=F10.c 0;obtain⟨_,_,_,_,_,_,_,_,_⟩:=F10.f 0;go_wp2_with fail;have F11:=F10.rowK 2 rfl 39;refine zM (F11.put 0 4) fun V12 F12=>?_;have q:=F12.c 0;exact F12.ret 4 rfl (by simp[results,results222,go_sem,q]) rfl (HRl.out.symm.trans (by
          rw[zAH HL.out (p:=.objL acc) ⟨Fl.P.hi,trivial⟩];unfold zE;dsimp only;rw[if_neg (by rw[HBZ.out];simp),if_pos HO2.out])) (fun _ h=>h)
       · have HO2:=zA (show onP C.L [125] (zF C.L .prop s').2=false by simpa using hon2);clear hon2;go_wp2_with fail;refine F9.kM (zA1 F9.P [125] HO2.out) fun w13 F13=>?_;have HQR:=zA (show zF C.L (.objL (acc++[(zF C.L .prop s').1])) (zN C.L [44] (zF C.L .prop s').2)=r from Eq.trans (Eq.symm (by
          rw[zAH HL.out (p:=.objL acc) (s:=s') ⟨Fl.P.hi,trivial⟩];unfold zE;dsimp only;rw[if_neg (by rw[HBZ.out];simp),if_neg (by rw[HO2.out];decide)])) HRl.out)
         have hnd:=zA (zU (w:=[44]) HL.out (s:=(zF C.L .prop s').2) hahi).adv;have hnl:=hnd.out.le;go_wp2_with fail;refine F13.kN (zr F13.P [44]) fun w14 F14=>?_;go_wp2_with fail
         go_roundg (C.L.length - (zN C.L [44] (zF C.L .prop s').2).k)
         case measure=>omega
         case rel=>exact⟨_,_,A7,n+1,cp7,yAC _,by omega,by omega,HQR.out,F14.pk [(w1.heap.size),X] [0,1,2] (by simp) (by decide) rfl (by simp) (by simp)⟩
     · have HBD:=zA (show((zF C.L .prop s').2.bad==0)=false by rw[yA];exact hb);have HBZ:=zA hb;clear hb;go_wp2_with fail;refine F8.kB (zA3 F8.P HBD.out) fun w15 F15=>?_;obtain⟨_,_,_,_,_,_,_,_,_⟩:=F15.c 1;obtain⟨_,_,_,_,_,_,_,_,_⟩:=F15.c 0;obtain⟨_,_,_,_,_,_,_,_,_⟩:=F15.f 0;go_wp2_with fail;have F16:=F15.rowK 2 rfl 39;refine zM (F16.put 0 4) fun V17 F17=>?_;have q:=F17.c 0;exact F17.ret 4 rfl (by simp[results,results222,go_sem,q]) rfl (HRl.out.symm.trans (by
        rw[zAH HL.out (p:=.objL acc) ⟨Fl.P.hi,trivial⟩];unfold zE;dsimp only;rw[if_pos HBZ.out])) (fun _ h=>h)
theorem zLu {C:Pc} {s:Ps} {w:World} (hp:Pre C.L (.block) s) (K:KP C (zZ C.L (.block) s)) (h:Pa C s w):zc C s w (.block):=by
 refine zAg hp h fun HL hlen hsk r W X HR hW hX F0=>?_;have HK:=zA K;clear K h hp;go_enter func145,ntmps145;go_upto_region 1 with(fail);clear hW hX;go_wp2_with fail;refine F0.made0 _ fun w1 F1=>?_;have F2:=F1.bt 1 72 rfl;have hn:=zA (zU (w:=[123]) HL.out hsk);have HR0:=zA (show zF C.L (.blockL []) (zN C.L [123] (s))=r from by
  refine Eq.trans ?_ HR.out;unfold zE;rfl)
 go_wp2_with fail;refine F2.kN (zr F2.P [123]) fun w3 F3=>?_;have HK0:=zA (show(zN C.L [123] (s)).bad=0→s.k < (zN C.L [123] (s)).k from fun hb=>hn.out.lt hsk (by rw[hb];simp));have HNS:=zA hn.out.adv.le;go_wp2_with fail
 go_loopg [7] (2*(C.L.length - (zN C.L [123] (s)).k)+(if(zN C.L [123] (s)).bad=0 then 1 else 0)) (fun gk _ wr=>∃(acc:List Tr) (s':Ps) (A:Option Addr) (n cp:Nat),2*(C.L.length - s'.k)+(if s'.bad=0 then 1 else 0)≤gk∧(s'.bad=0→s.k < s'.k)∧(s'.bad=0→n≤s'.k)∧Hid (zF C.L (.blockL acc) s'=r)∧Fr C (w.heap.size≤·) w [(w1.heap.size),X] [.bx X 72 [.int .i64 0,.string ⟨#[]⟩,.slice none 0 0,.int .i64 0,.int .i64 0,.bool false,.slice none 0 0,.slice none 0 0,.slice none 0 0],.bx (w1.heap.size) 72 [.int .i64 4,.string ⟨#[]⟩,.slice none 0 0,.int .i64 0,.int .i64 0,.bool false,.slice none 0 0,.slice none 0 0,.slice A n cp],.ro (.slice A n cp) acc] s' wr)
 case atStart=>exact⟨[],zN C.L [123] (s),none,0,0,yAC _,HK0.out,fun _=>yAE _,HR0.out,F3.nil.pk [(w1.heap.size),X] [0,2,3] (by simp) (by decide) rfl (by simp) (by simp)⟩
 case round=>
  obtain⟨acc,s',A,n,cp,hgk,hsk',hns,HRl,Fl⟩:=hrel
  by_cases hb:s'.bad=0
  · have HBD:=zA (show(s'.bad==0)=true by rw[hb];rfl);have HBZ:=zA hb;have hskl:=zA (hsk' hb);have hgk2:2*(C.L.length - s'.k)+1≤gk:=by rw[if_pos hb]at hgk;exact hgk
    clear hb hgk hsk';go_wp2_with fail;refine Fl.kB (zA3 Fl.P HBD.out) fun w4 F4=>?_
    by_cases hon:onP C.L [125] s'=true
    · have HO:=zA hon;clear hon;go_wp2_with fail;refine F4.kM (zAw F4.P [125] HO.out) fun w5 F5=>?_;obtain⟨_,_,_,_,_,_,_,_,_⟩:=F5.c 1;obtain⟨_,_,_,_,_,_,_,_,_⟩:=F5.c 0;obtain⟨_,_,_,_,_,_,_,_,_⟩:=F5.f 0;go_wp2_with fail;have F6:=F5.rowK 2 rfl 4;refine zM (F6.put 0 3) fun V7 F7=>?_;have q:=F7.c 0;exact F7.ret 3 rfl (by simp[results,results145,go_sem,q]) rfl (HRl.out.symm.trans (by
       rw[zAH HL.out (p:=.blockL acc) ⟨Fl.P.hi,trivial⟩];unfold zE;dsimp only;rw[if_neg (by rw[HBZ.out];simp),if_pos HO.out])) (fun _ h=>h)
    · have HO:=zA (show onP C.L [125] s'=false by simpa using hon);clear hon;go_wp2_with fail;refine F4.kM (zA1 F4.P [125] HO.out) fun w8 F8=>?_;have hpost:=zA (zV HL.out (p:=.item) (s:=s') ⟨Fl.P.hi,trivial⟩);have hadv:=hpost.out.adv.le;have hahi:=hpost.out.adv.hi;have hxh:=Fl.P.hi;have hnz:=hns HBZ.out;have CL9:=zA (fun Q=>F8.dr.kR 2 rfl (Q:=Q) (HK.out.more (q:=.item) ⟨F8.dr.P.hi,trivial⟩ F8.dr.P hskl.out));obtain⟨_,_,_,_,_,_,_,_,_⟩:=F8.c 1;have hn9:n≤4097:=by have:=hns HBZ.out;have:=Fl.P.cx.n;omega
      go_wp2_with fail;go_region_law (first | (go_simp;go_at_call 60;(with_reducible refine CL9.out _ fun w9 d9_0 d9_1 d9_2 d9_3 d9_4 d9_5 d9_6 d9_7 d9_8 F9=>?_);obtain⟨_,_,_,_,_,_,_,_,_⟩:=F9.c 1;obtain⟨_,_,_,_,_,_,_,_,_⟩:=(F9.al (.cells #[d9_0,d9_1,d9_2,d9_3,d9_4,d9_5,d9_6,d9_7,d9_8] 72)).c 1) | (refine F9.snocS 2 3 rfl rfl (fun _ h=>h) hn9 rfl _ _ rfl rfl rfl fun A10 cp10 w10 F10=>?_;obtain⟨_,_,_,_,_,_,_,_,_⟩:=F10.c 1;obtain⟨_,_,_,_,_,_,_,_,_⟩:=F10.f 1))
      all_goals
       have F11:=F10.set 1 8 (.slice A10 (n+1) cp10);have HQR:=zA (show zF C.L (.blockL (acc++[(zF C.L .item s').1])) (zF C.L .item s').2=r from Eq.trans (Eq.symm (by
        rw[zAH HL.out (p:=.blockL acc) (s:=s') ⟨Fl.P.hi,trivial⟩];unfold zE;dsimp only;rw[if_neg (by rw[HBZ.out];simp),if_neg (by rw[HO.out];decide)])) HRl.out)
       have hsl:=hskl.out;have hms:2*(C.L.length - (zF C.L .item s').2.k)+(if(zF C.L .item s').2.bad=0 then 1 else 0) < gk:=by
        have heat:Eat C.L s' (zF C.L .item s').2:=hpost.out
        by_cases hb:(zF C.L .item s').2.bad=0
        · have:=heat.lt Fl.P.hi (by rw[hb];simp);rw[if_pos hb];omega
        · rw[if_neg hb];omega
       have HNB:(zF C.L .item s').2.bad=0→n+1≤(zF C.L .item s').2.k:=fun hb=>by have:=(show Eat C.L s' (zF C.L .item s').2 from hpost.out).lt Fl.P.hi (by rw[hb];simp);omega
       go_wp2_with fail
       go_roundg (2*(C.L.length - (zF C.L .item s').2.k)+(if(zF C.L .item s').2.bad=0 then 1 else 0))
       case measure=>exact hms
       case rel=>exact⟨_,_,A10,n+1,cp10,yAC _,fun _=>by omega,HNB,HQR.out,F11.pk [(w1.heap.size),X] [0,1,2] (by simp) (by decide) rfl (by simp) (by simp)⟩
  · have HBD:=zA (show(s'.bad==0)=false by rw[yA];exact hb);have HBZ:=zA hb;clear hb hgk hsk';go_wp2_with fail;refine Fl.kB (zA3 Fl.P HBD.out) fun w12 F12=>?_;obtain⟨_,_,_,_,_,_,_,_,_⟩:=F12.c 1;obtain⟨_,_,_,_,_,_,_,_,_⟩:=F12.c 0;obtain⟨_,_,_,_,_,_,_,_,_⟩:=F12.f 0;go_wp2_with fail;have F13:=F12.rowK 2 rfl 4;refine zM (F13.put 0 3) fun V14 F14=>?_;have q:=F14.c 0;exact F14.ret 3 rfl (by simp[results,results145,go_sem,q]) rfl (HRl.out.symm.trans (by
     rw[zAH HL.out (p:=.blockL acc) ⟨Fl.P.hi,trivial⟩];unfold zE;dsimp only;rw[if_pos HBZ.out])) (fun _ h=>h)
end Go.Proofs.YtlohaclgbfhijaaGreatDoor
