/- Joined for the claim ParseBlocks: the parser, the lexer and the trees as they are walked, made short by a program of mine. -/
import Derived.Deep.RegionLaw
import Derived.Test.YtlohaclgbfhijaaGreatDoorS11
import Derived.Test.YtlohaclgbfhijaaGreatDoorS15
import Derived.Deep.LoopGhost
import Derived.Test.YtlohaclgbfhijaaGreatDoorS13
import Derived.Test.YtlohaclgbfhijaaGreatDoorS01
set_option maxHeartbeats 16000000
set_option maxRecDepth 1000000
namespace Go.Proofs.YtlohaclgbfhijaaGreatDoor
open Go.Proofs.Tryz
open Go.RowKit
theorem zIe {C:Pc} {s:Ps} {w:World} (hp:Pre C.L (.primary) s) (_K:KP C (zf C.L (.primary) s)) (h:Pa C s w) (hc:(zH C.L s.k).kind=0):zk C s w (.primary):=by
 refine zA0 hp h fun HL hlen hsk r W X HR hW hX F0=>?_;clear h hp;go_enter func220,ntmps220;go_upto_region 1 with(fail);clear hW hX;have HC:=zD hc;clear hc;obtain⟨⟨kd,tx,st,nk,nn,mg,ps,nl⟩,HT⟩:=zU C.L (s).k;go_wp2_with fail;refine F0.kT (zp F0.P HT.out) fun w1 As Am c1 c2 F1=>?_;have F2:=F1.bt 1 44 rfl;have e0:((kd:Int)==0)=true:=by have:=HC.out;rw[HT.out]at this;have:kd=0:=this;rw[this];decide
 obtain⟨_,_,_,_,_,_,_,_,_⟩:=F2.c 2;go_wp2_with fail;refine F2.kN (zAG F2.P) fun w3 F3=>?_;have F4:=F3.leafK 0;obtain⟨_,_,_,_,_,_,_,_,_⟩:=F4.c 0;obtain⟨_,_,_,_,_,_,_,_,_⟩:=F4.f 0;go_wp2_with fail;refine zQ (F4.put 0 3) fun V5 F5=>?_;have q:=F5.c 0;exact F5.ret 3 rfl (by simp[results,results220,go_sem,q]) rfl (HR.out.symm.trans (by
  unfold zF;dsimp only;rw[if_pos HC.out])) (fun _ h=>h)
theorem zGn {C:Pc} {s:Ps} {w:World} (hp:Pre C.L (.primary) s) (_K:KP C (zf C.L (.primary) s)) (h:Pa C s w) (hc:(zH C.L s.k).kind≠0∧(zH C.L s.k).kind≠2∧(zH C.L s.k).kind≠3∧(zH C.L s.k).kind≠4∧(zH C.L s.k).kind≠1) (x0:(zH C.L s.k).text≠[116,114,117,101]) (x1:(zH C.L s.k).text≠[102,97,108,115,101]) (x2:(zH C.L s.k).text≠[110,117,108,108]) (x3:(zH C.L s.k).text≠[116,104,105,115]) (x4:(zH C.L s.k).text≠[91]) (x5:(zH C.L s.k).text≠[123]) (x6:(zH C.L s.k).text≠[102,117,110,99,116,105,111,110]) (x7:(zH C.L s.k).text≠[40]) (v1:onP C.L [47] s=true):zk C s w (.primary):=by
 refine zA0 hp h fun HL hlen hsk r W X HR hW hX F0=>?_;clear h hp;go_enter func220,ntmps220;go_upto_region 1 with(fail);clear hW hX;have HC:=zD hc;have HV1:=zD v1;have X0:=zD x0;have X1:=zD x1;have X2:=zD x2;have X3:=zD x3;have X4:=zD x4;have X5:=zD x5;have X6:=zD x6;have X7:=zD x7;clear hc v1 x0 x1 x2 x3 x4 x5 x6 x7;have hlt:=zD (HL.out.lt hsk HC.out.1);obtain⟨⟨kd,tx,st,nk,nn,mg,ps,nl⟩,HT⟩:=zU C.L (s).k;go_wp2_with fail;refine F0.kT (zp F0.P HT.out) fun w1 As Am c1 c2 F1=>?_;have F2:=F1.bt 1 44 rfl;have hkd:kd≠0∧kd≠2∧kd≠3∧kd≠4∧kd≠1:=by have:=HC.out;rw[HT.out]at this;exact this
 have e0:((kd:Int)==0)=false:=by rw[yA];omega
 have e1:((kd:Int)==1)=false:=by rw[yA];omega
 have e2:((kd:Int)==2)=false:=by rw[yA];omega
 have e3:((kd:Int)==3)=false:=by rw[yA];omega
 have e4:((kd:Int)==4)=false:=by rw[yA];omega
 have n0:(tx==[116,114,117,101])=false:=by have:=X0.out;rw[HT.out]at this;exact yA.mpr this
 have n1:(tx==[102,97,108,115,101])=false:=by have:=X1.out;rw[HT.out]at this;exact yA.mpr this
 have n2:(tx==[110,117,108,108])=false:=by have:=X2.out;rw[HT.out]at this;exact yA.mpr this
 have n3:(tx==[116,104,105,115])=false:=by have:=X3.out;rw[HT.out]at this;exact yA.mpr this
 have n4:(tx==[91])=false:=by have:=X4.out;rw[HT.out]at this;exact yA.mpr this
 have n5:(tx==[123])=false:=by have:=X5.out;rw[HT.out]at this;exact yA.mpr this
 have n6:(tx==[102,117,110,99,116,105,111,110])=false:=by have:=X6.out;rw[HT.out]at this;exact yA.mpr this
 have n7:(tx==[40])=false:=by have:=X7.out;rw[HT.out]at this;exact yA.mpr this
 clear hkd;obtain⟨_,_,_,_,_,_,_,_,_⟩:=F2.c 2;obtain⟨xk3,fk3,bk3⟩:=F2.k1;have F3:=F2.step hlt.out;obtain⟨_,_,_,_,_,_,_,_,_⟩:=F3.c 2;have F4:=F3.back hsk;go_wp2_with fail;refine F4.kB (zAY F4.P [47] HV1.out) fun w5 F5=>?_;go_wp2_with fail;refine F5.kN (zCR F5.P 6 (by decide)) fun w6 F6=>?_;have F7:=F6.leafK 0;obtain⟨_,_,_,_,_,_,_,_,_⟩:=F7.c 0;obtain⟨_,_,_,_,_,_,_,_,_⟩:=F7.f 0;go_wp2_with fail;refine zQ (F7.put 0 3) fun V8 F8=>?_;have q:=F8.c 0;exact F8.ret 3 rfl (by simp[results,results220,go_sem,q]) rfl (HR.out.symm.trans (by
  unfold zF;dsimp only;rw[if_neg HC.out.1,if_neg HC.out.2.1,if_neg HC.out.2.2.1,if_neg HC.out.2.2.2.1,if_neg HC.out.2.2.2.2,if_neg X0.out,if_neg X1.out,if_neg X2.out,if_neg X3.out,if_neg X4.out,if_neg X5.out,if_neg X6.out,if_neg X7.out];simp[HV1.out])) (fun _ h=>h)
theorem zFv {C:Pc} {s:Ps} {w:World} (hp:Pre C.L (.primary) s) (_K:KP C (zf C.L (.primary) s)) (h:Pa C s w) (hc:(zH C.L s.k).kind≠0∧(zH C.L s.k).kind≠2∧(zH C.L s.k).kind≠3∧(zH C.L s.k).kind≠4∧(zH C.L s.k).kind≠1) (x0:(zH C.L s.k).text≠[116,114,117,101]) (x1:(zH C.L s.k).text≠[102,97,108,115,101]) (x2:(zH C.L s.k).text≠[110,117,108,108]) (x3:(zH C.L s.k).text≠[116,104,105,115]) (x4:(zH C.L s.k).text≠[91]) (x5:(zH C.L s.k).text≠[123]) (x6:(zH C.L s.k).text≠[102,117,110,99,116,105,111,110]) (x7:(zH C.L s.k).text≠[40]) (v1:onP C.L [47] s=false) (v2:onP C.L [47,61] s=true):zk C s w (.primary):=by
 refine zA0 hp h fun HL hlen hsk r W X HR hW hX F0=>?_;clear h hp;go_enter func220,ntmps220;go_upto_region 1 with(fail);clear hW hX;have HC:=zD hc;have HV1:=zD v1;have HV2:=zD v2;have X0:=zD x0;have X1:=zD x1;have X2:=zD x2;have X3:=zD x3;have X4:=zD x4;have X5:=zD x5;have X6:=zD x6;have X7:=zD x7;clear hc v1 v2 x0 x1 x2 x3 x4 x5 x6 x7;have hlt:=zD (HL.out.lt hsk HC.out.1);obtain⟨⟨kd,tx,st,nk,nn,mg,ps,nl⟩,HT⟩:=zU C.L (s).k;go_wp2_with fail;refine F0.kT (zp F0.P HT.out) fun w1 As Am c1 c2 F1=>?_;have F2:=F1.bt 1 44 rfl;have hkd:kd≠0∧kd≠2∧kd≠3∧kd≠4∧kd≠1:=by have:=HC.out;rw[HT.out]at this;exact this
 have e0:((kd:Int)==0)=false:=by rw[yA];omega
 have e1:((kd:Int)==1)=false:=by rw[yA];omega
 have e2:((kd:Int)==2)=false:=by rw[yA];omega
 have e3:((kd:Int)==3)=false:=by rw[yA];omega
 have e4:((kd:Int)==4)=false:=by rw[yA];omega
 have n0:(tx==[116,114,117,101])=false:=by have:=X0.out;rw[HT.out]at this;exact yA.mpr this
 have n1:(tx==[102,97,108,115,101])=false:=by have:=X1.out;rw[HT.out]at this;exact yA.mpr this
 have n2:(tx==[110,117,108,108])=false:=by have:=X2.out;rw[HT.out]at this;exact yA.mpr this
 have n3:(tx==[116,104,105,115])=false:=by have:=X3.out;rw[HT.out]at this;exact yA.mpr this
 have n4:(tx==[91])=false:=by have:=X4.out;rw[HT.out]at this;exact yA.mpr this
 have n5:(tx==[123])=false:=by have:=X5.out;rw[HT.out]at this;exact yA.mpr this
 have n6:(tx==[102,117,110,99,116,105,111,110])=false:=by have:=X6.out;rw[HT.out]at this;exact yA.mpr this
 have n7:(tx==[40])=false:=by have:=X7.out;rw[HT.out]at this;exact yA.mpr this
 clear hkd;obtain⟨_,_,_,_,_,_,_,_,_⟩:=F2.c 2;obtain⟨xk3,fk3,bk3⟩:=F2.k1;have F3:=F2.step hlt.out;obtain⟨_,_,_,_,_,_,_,_,_⟩:=F3.c 2;have F4:=F3.back hsk;go_wp2_with fail;refine F4.kB (zAY F4.P [47] HV1.out) fun w5 F5=>?_;go_wp2_with fail;refine F5.kB (zAY F5.P [47,61] HV2.out) fun w6 F6=>?_;go_wp2_with fail;refine F6.kN (zCR F6.P 6 (by decide)) fun w7 F7=>?_;have F8:=F7.leafK 0;obtain⟨_,_,_,_,_,_,_,_,_⟩:=F8.c 0;obtain⟨_,_,_,_,_,_,_,_,_⟩:=F8.f 0;go_wp2_with fail;refine zQ (F8.put 0 3) fun V9 F9=>?_;have q:=F9.c 0;exact F9.ret 3 rfl (by simp[results,results220,go_sem,q]) rfl (HR.out.symm.trans (by
  unfold zF;dsimp only;rw[if_neg HC.out.1,if_neg HC.out.2.1,if_neg HC.out.2.2.1,if_neg HC.out.2.2.2.1,if_neg HC.out.2.2.2.2,if_neg X0.out,if_neg X1.out,if_neg X2.out,if_neg X3.out,if_neg X4.out,if_neg X5.out,if_neg X6.out,if_neg X7.out];simp[HV1.out,HV2.out])) (fun _ h=>h)
theorem zGo {C:Pc} {s:Ps} {w:World} (hp:Pre C.L (.primary) s) (_K:KP C (zf C.L (.primary) s)) (h:Pa C s w) (hc:(zH C.L s.k).kind≠0∧(zH C.L s.k).kind≠2∧(zH C.L s.k).kind≠3∧(zH C.L s.k).kind≠4∧(zH C.L s.k).kind≠1) (x0:(zH C.L s.k).text≠[116,114,117,101]) (x1:(zH C.L s.k).text≠[102,97,108,115,101]) (x2:(zH C.L s.k).text≠[110,117,108,108]) (x3:(zH C.L s.k).text≠[116,104,105,115]) (x4:(zH C.L s.k).text≠[91]) (x5:(zH C.L s.k).text≠[123]) (x6:(zH C.L s.k).text≠[102,117,110,99,116,105,111,110]) (x7:(zH C.L s.k).text≠[40]) (v1:onP C.L [47] s=false) (v2:onP C.L [47,61] s=false):zk C s w (.primary):=by
 refine zA0 hp h fun HL hlen hsk r W X HR hW hX F0=>?_;clear h hp;go_enter func220,ntmps220;go_upto_region 1 with(fail);clear hW hX;have HC:=zD hc;have HV1:=zD v1;have HV2:=zD v2;have X0:=zD x0;have X1:=zD x1;have X2:=zD x2;have X3:=zD x3;have X4:=zD x4;have X5:=zD x5;have X6:=zD x6;have X7:=zD x7;clear hc v1 v2 x0 x1 x2 x3 x4 x5 x6 x7;have hlt:=zD (HL.out.lt hsk HC.out.1);obtain⟨⟨kd,tx,st,nk,nn,mg,ps,nl⟩,HT⟩:=zU C.L (s).k;go_wp2_with fail;refine F0.kT (zp F0.P HT.out) fun w1 As Am c1 c2 F1=>?_;have F2:=F1.bt 1 44 rfl;have hkd:kd≠0∧kd≠2∧kd≠3∧kd≠4∧kd≠1:=by have:=HC.out;rw[HT.out]at this;exact this
 have e0:((kd:Int)==0)=false:=by rw[yA];omega
 have e1:((kd:Int)==1)=false:=by rw[yA];omega
 have e2:((kd:Int)==2)=false:=by rw[yA];omega
 have e3:((kd:Int)==3)=false:=by rw[yA];omega
 have e4:((kd:Int)==4)=false:=by rw[yA];omega
 have n0:(tx==[116,114,117,101])=false:=by have:=X0.out;rw[HT.out]at this;exact yA.mpr this
 have n1:(tx==[102,97,108,115,101])=false:=by have:=X1.out;rw[HT.out]at this;exact yA.mpr this
 have n2:(tx==[110,117,108,108])=false:=by have:=X2.out;rw[HT.out]at this;exact yA.mpr this
 have n3:(tx==[116,104,105,115])=false:=by have:=X3.out;rw[HT.out]at this;exact yA.mpr this
 have n4:(tx==[91])=false:=by have:=X4.out;rw[HT.out]at this;exact yA.mpr this
 have n5:(tx==[123])=false:=by have:=X5.out;rw[HT.out]at this;exact yA.mpr this
 have n6:(tx==[102,117,110,99,116,105,111,110])=false:=by have:=X6.out;rw[HT.out]at this;exact yA.mpr this
 have n7:(tx==[40])=false:=by have:=X7.out;rw[HT.out]at this;exact yA.mpr this
 clear hkd;obtain⟨_,_,_,_,_,_,_,_,_⟩:=F2.c 2;obtain⟨xk3,fk3,bk3⟩:=F2.k1;have F3:=F2.step hlt.out;obtain⟨_,_,_,_,_,_,_,_,_⟩:=F3.c 2;have F4:=F3.back hsk;go_wp2_with fail;refine F4.kB (zAY F4.P [47] HV1.out) fun w5 F5=>?_;go_wp2_with fail;refine F5.kB (zAY F5.P [47,61] HV2.out) fun w6 F6=>?_;go_wp2_with fail;refine F6.kN (zAG F6.P) fun w7 F7=>?_;have F8:=F7.leafK 0;obtain⟨_,_,_,_,_,_,_,_,_⟩:=F8.c 0;obtain⟨_,_,_,_,_,_,_,_,_⟩:=F8.f 0;go_wp2_with fail;refine zQ (F8.put 0 3) fun V9 F9=>?_;have q:=F9.c 0;exact F9.ret 3 rfl (by simp[results,results220,go_sem,q]) rfl (HR.out.symm.trans (by
  unfold zF;dsimp only;rw[if_neg HC.out.1,if_neg HC.out.2.1,if_neg HC.out.2.2.1,if_neg HC.out.2.2.2.1,if_neg HC.out.2.2.2.2,if_neg X0.out,if_neg X1.out,if_neg X2.out,if_neg X3.out,if_neg X4.out,if_neg X5.out,if_neg X6.out,if_neg X7.out];simp[HV1.out,HV2.out])) (fun _ h=>h)
theorem zFw {C:Pc} {s:Ps} {w:World} (hp:Pre C.L (.primary) s) (_K:KP C (zf C.L (.primary) s)) (h:Pa C s w) (hc:(zH C.L s.k).kind=2):zk C s w (.primary):=by
 refine zA0 hp h fun HL hlen hsk r W X HR hW hX F0=>?_;clear h hp;go_enter func220,ntmps220;go_upto_region 1 with(fail);clear hW hX;have HC:=zD hc;clear hc;have hlt:=zD (HL.out.lt hsk (by rw[HC.out];decide));obtain⟨⟨kd,tx,st,nk,nn,mg,ps,nl⟩,HT⟩:=zU C.L (s).k;go_wp2_with fail;refine F0.kTl (zp F0.P HT.out) fun w1 As Am c1 c2 F1=>?_;have F2:=F1.bt 1 44 rfl;have hkd:kd=2:=by have:=HC.out;rw[HT.out]at this;exact this
 have e0:((kd:Int)==0)=false:=by rw[hkd];decide
 have e2:((kd:Int)==2)=true:=by rw[hkd];decide
 have e3:((kd:Int)==3)=false:=by rw[hkd];decide
 have e4:((kd:Int)==4)=false:=by rw[hkd];decide
 clear hkd;obtain⟨_,_,_,_,_,_,_,_,_⟩:=F2.c 4;obtain⟨xk3,fk3,bk3⟩:=F2.k1;have F3:=F2.step hlt.out;obtain⟨_,_,_,_,_,_,_,_,_⟩:=F3.c 4;have F4:=F3.leafX {zBS with kind:=30,nk:=nk,nn:=nn} rfl (yAK _ _ _ _) (yAK _ _ _ _);obtain⟨_,_,_,_,_,_,_,_,_⟩:=F4.c 0;obtain⟨_,_,_,_,_,_,_,_,_⟩:=F4.f 0;go_wp2_with fail;refine zQ (F4.put 0 5) fun V5 F5=>?_;have q:=F5.c 0;exact F5.ret 5 rfl (by simp[results,results220,go_sem,q,zBS]) rfl (HR.out.symm.trans (by
  unfold zF;dsimp only;rw[if_neg (by rw[HC.out];decide),if_pos HC.out,HT.out])) (fun _ h=>h)
theorem zIf {C:Pc} {s:Ps} {w:World} (hp:Pre C.L (.primary) s) (_K:KP C (zf C.L (.primary) s)) (h:Pa C s w) (hc:(zH C.L s.k).kind=3):zk C s w (.primary):=by
 refine zA0 hp h fun HL hlen hsk r W X HR hW hX F0=>?_;clear h hp;go_enter func220,ntmps220;go_upto_region 1 with(fail);clear hW hX;have HC:=zD hc;clear hc;have hlt:=zD (HL.out.lt hsk (by rw[HC.out];decide));obtain⟨⟨kd,tx,st,nk,nn,mg,ps,nl⟩,HT⟩:=zU C.L (s).k;go_wp2_with fail;refine F0.kTl (zp F0.P HT.out) fun w1 As Am c1 c2 F1=>?_;have F2:=F1.bt 1 44 rfl;have hkd:kd=3:=by have:=HC.out;rw[HT.out]at this;exact this
 have e0:((kd:Int)==0)=false:=by rw[hkd];decide
 have e2:((kd:Int)==2)=false:=by rw[hkd];decide
 have e3:((kd:Int)==3)=true:=by rw[hkd];decide
 have e4:((kd:Int)==4)=false:=by rw[hkd];decide
 clear hkd;obtain⟨_,_,_,_,_,_,_,_,_⟩:=F2.c 4;obtain⟨xk3,fk3,bk3⟩:=F2.k1;have F3:=F2.step hlt.out;obtain⟨_,_,_,_,_,_,_,_,_⟩:=F3.c 4;have F4:=F3.leafX {zBS with kind:=31,mag:=mg} rfl (yAK _ _ _ _) ((F3.l 3));obtain⟨_,_,_,_,_,_,_,_,_⟩:=F4.c 0;obtain⟨_,_,_,_,_,_,_,_,_⟩:=F4.f 0;go_wp2_with fail;refine zQ (F4.put 0 5) fun V5 F5=>?_;have q:=F5.c 0;exact F5.ret 5 rfl (by simp[results,results220,go_sem,q,zBS]) rfl (HR.out.symm.trans (by
  unfold zF;dsimp only;rw[if_neg (by rw[HC.out];decide),if_neg (by rw[HC.out];decide),if_pos HC.out,HT.out])) (fun _ h=>h)
theorem zFx {C:Pc} {s:Ps} {w:World} (hp:Pre C.L (.primary) s) (_K:KP C (zf C.L (.primary) s)) (h:Pa C s w) (hc:(zH C.L s.k).kind=4):zk C s w (.primary):=by
 refine zA0 hp h fun HL hlen hsk r W X HR hW hX F0=>?_;clear h hp;go_enter func220,ntmps220;go_upto_region 1 with(fail);clear hW hX;have HC:=zD hc;clear hc;have hlt:=zD (HL.out.lt hsk (by rw[HC.out];decide));obtain⟨⟨kd,tx,st,nk,nn,mg,ps,nl⟩,HT⟩:=zU C.L (s).k;go_wp2_with fail;refine F0.kTl (zp F0.P HT.out) fun w1 As Am c1 c2 F1=>?_;have F2:=F1.bt 1 44 rfl;have hkd:kd=4:=by have:=HC.out;rw[HT.out]at this;exact this
 have e0:((kd:Int)==0)=false:=by rw[hkd];decide
 have e2:((kd:Int)==2)=false:=by rw[hkd];decide
 have e3:((kd:Int)==3)=false:=by rw[hkd];decide
 have e4:((kd:Int)==4)=true:=by rw[hkd];decide
 clear hkd;obtain⟨_,_,_,_,_,_,_,_,_⟩:=F2.c 4;obtain⟨xk3,fk3,bk3⟩:=F2.k1;have F3:=F2.step hlt.out;obtain⟨_,_,_,_,_,_,_,_,_⟩:=F3.c 4;have F4:=F3.leafX {zBS with kind:=32,str:=st} rfl ((F3.l 2)) (yAK _ _ _ _);obtain⟨_,_,_,_,_,_,_,_,_⟩:=F4.c 0;obtain⟨_,_,_,_,_,_,_,_,_⟩:=F4.f 0;go_wp2_with fail;refine zQ (F4.put 0 5) fun V5 F5=>?_;have q:=F5.c 0;exact F5.ret 5 rfl (by simp[results,results220,go_sem,q,zBS]) rfl (HR.out.symm.trans (by
  unfold zF;dsimp only;rw[if_neg (by rw[HC.out];decide),if_neg (by rw[HC.out];decide),if_neg (by rw[HC.out];decide),if_pos HC.out,HT.out])) (fun _ h=>h)
theorem zIg {C:Pc} {s:Ps} {w:World} (hp:Pre C.L .primary s) (K:KP C (zf C.L .primary s)) (h:Pa C s w):zk C s w .primary:=by
 by_cases k0:(zH C.L s.k).kind=0
 · exact zIe hp K h k0
 by_cases k2:(zH C.L s.k).kind=2
 · exact zFw hp K h k2
 by_cases k3:(zH C.L s.k).kind=3
 · exact zIf hp K h k3
 by_cases k4:(zH C.L s.k).kind=4
 · exact zFx hp K h k4
 by_cases k1:(zH C.L s.k).kind=1
 · exact zHk hp K h k1
 have kk:=And.intro k0 (And.intro k2 (And.intro k3 (And.intro k4 k1)))
 by_cases x0:(zH C.L s.k).text=[116,114,117,101]
 · exact zHg hp K h kk x0
 by_cases x1:(zH C.L s.k).text=[102,97,108,115,101]
 · exact zGl hp K h kk x1
 by_cases x2:(zH C.L s.k).text=[110,117,108,108]
 · exact zHh hp K h kk x2
 by_cases x3:(zH C.L s.k).text=[116,104,105,115]
 · exact zHi hp K h kk x3
 by_cases x4:(zH C.L s.k).text=[91]
 · exact zHj hp K h kk x4
 by_cases x5:(zH C.L s.k).text=[123]
 · exact zFu hp K h kk x5
 by_cases x6:(zH C.L s.k).text=[102,117,110,99,116,105,111,110]
 · by_cases hn:(zH C.L (zB s).k).kind=1
   · exact zCy hp K h kk x6 hn
   · exact zDM hp K h kk x6 hn
 by_cases x7:(zH C.L s.k).text=[40]
 · exact zGm hp K h kk x7
 cases v1:onP C.L [47] s with
 | true=>exact zGn hp K h kk x0 x1 x2 x3 x4 x5 x6 x7 v1
 | false=>
  cases v2:onP C.L [47,61] s with
  | true=>exact zFv hp K h kk x0 x1 x2 x3 x4 x5 x6 x7 v1 v2
  | false=>exact zGo hp K h kk x0 x1 x2 x3 x4 x5 x6 x7 v1 v2
def zCv (L:List Tok) (R:Ph→Ps→Tr×Ps) (x:Tr) (s:Ps):(Tr×Bool)×Ps:=
 if onP L [46] s=true then
  (if(zH L (zB s).k).kind≠1∧(zH L (zB s).k).kind≠6 then((x,false),zV L (zB s))else((trN 52 (zH L (zB s).k).text [x],true),zB (zB s)))
 else if onP L [91] s=true then((trK 53 [x,(R .assign (zB s)).1],true),zM L [93] (R .assign (zB s)).2)
 else((x,false),s)
theorem zHl {L:List Tok} (hL:Lst L) {x:Tr} {s:Ps} (hs:s.k≤L.length - 1) (hn:¬onP L [40] s=true):zG L (.callsL x) s=if(zCv L (zG L) x s).1.2=true then zG L (.callsL (zCv L (zG L) x s).1.1) (zCv L (zG L) x s).2 else(x,(zCv L (zG L) x s).2):=by
 rw[zt hL ⟨hs,trivial⟩];unfold zF zCv;dsimp only;rw[if_neg hn];split
 · split<;>rfl
 · split<;>rfl
theorem zQC {L:List Tok} (hL:Lst L) {x:Tr} {s:Ps} (hs:s.k≤L.length - 1):zG L (.headL x) s=if(zCv L (zG L) x s).1.2=true then zG L (.headL (zCv L (zG L) x s).1.1) (zCv L (zG L) x s).2 else(x,(zCv L (zG L) x s).2):=by
 rw[zt hL ⟨hs,trivial⟩];unfold zF zCv;dsimp only;split
 · split<;>rfl
 · split<;>rfl
theorem zT3 {L:List Tok} {R:Ph→Ps→Tr×Ps} {x:Tr} {s:Ps} (h:(zCv L R x s).1.2=false):(zCv L R x s).1.1=x:=by
 unfold zCv at h⊢;split
 · rename_i c
   rw[if_pos c]at h;split
   · rfl
   · rename_i c2;rw[if_neg c2]at h;cases h
 · rename_i c
   rw[if_neg c]at h;split
   · rename_i c2;rw[if_pos c2]at h;cases h
   · rfl
theorem zJb {L:List Tok} (hL:Lst L) {x:Tr} {s:Ps} (hs:s.k≤L.length - 1):s.k≤(zCv L (zG L) x s).2.k∧(zCv L (zG L) x s).2.k≤L.length - 1∧((zCv L (zG L) x s).1.2=true→s.k < (zCv L (zG L) x s).2.k):=by
 unfold zCv;split
 · rename_i c
   have h1:s.k+1≤L.length - 1:=hL.on hs c;split
   · exact⟨hs,yAD _,fun h=>by cases h⟩
   · rename_i c2
     have h2:s.k+1 < L.length - 1:=hL.lt (s:=zB s) h1 (by omega);exact⟨(by show s.k≤s.k+1+1;omega),(by show s.k+1+1≤_;omega),fun _=>(by show s.k < s.k+1+1;omega)⟩
 · split
   · rename_i c
     have h1:s.k+1≤L.length - 1:=hL.on hs c;have h2:=(zS hL (p:=.assign) (s:=zB s) ⟨h1,trivial⟩).adv;have h3:=(zN (w:=[93]) hL h2.hi).adv;have:(zB s).k=s.k+1:=rfl;have:=h2.le;have:=h3.le;exact⟨by dsimp only;omega,h3.hi,fun _=>by dsimp only;omega⟩
   · exact⟨yAD _,hs,fun h=>by cases h⟩
def zS1 (C:Pc) (Q:Nat→Prop) (r:(Tr×Bool)×Ps) (w:World) (e:Ending) (w':World):Prop:=
 ∃d0 d1 d2 d3 d4 d5 d6 d7 d8,e=.returned (.tuple #[.agg #[d0,d1,d2,d3,d4,d5,d6,d7,d8],.bool r.1.2])∧TrC w' (fun b=>Q b∨w.heap.size≤b) r.1.1 [d0,d1,d2,d3,d4,d5,d6,d7,d8]∧Pa C r.2 w'∧w.grownBy w' (some C.g)
theorem Fr.retM {C:Pc} {Q:Nat→Prop} {a w:World} {D:List Nat} {os:List Ob} {s:Ps} {Pg:Program} {fn:Func} {A:Act} {p:(Tr×Bool)×Ps} {t:Tr} {b:Bool} (F:Fr C (fun b=>Q b∨a.heap.size≤b) a D os s w) (j:Nat) {d0 d1 d2 d3 d4 d5 d6 d7 d8:Value} (hj:os[j]? =some (.tr t [d0,d1,d2,d3,d4,d5,d6,d7,d8])) (hr:(results fn A.tmps).run Pg w=.ok (.tuple #[.agg #[d0,d1,d2,d3,d4,d5,d6,d7,d8],.bool b]) w) (hd:A.defers=[]) (e:p=((t,b),s)):bodyPost Pg fn (zS1 C Q p a) .ret A w:=by
 subst e;exact bodyPost_ret hr hd ⟨d0,d1,d2,d3,d4,d5,d6,d7,d8,rfl,TrC.sub (fun b hb _=>hb.1) _ _ (F.t j hj),F.P,F.out.gr⟩
theorem zNK {C:Pc} {Q:Nat→Prop} {x:Tr} {s:Ps} {w:World} {d0 d1 d2 d3 d4 d5 d6 d7 d8:Value} (h:Pa C s w) (KA:onP C.L [91] s=true→∀W,Pa C (zB s) W→zk C (zB s) W .assign) (hQ:∀b,Q b→C.g < b) (ht:TrC w Q x [d0,d1,d2,d3,d4,d5,d6,d7,d8]) (h1:onP C.L [46] s=false) (h2:onP C.L [91] s=false):
 Calls prog 219 #[.pointer (some ⟨C.g,0,none⟩),.agg #[d0,d1,d2,d3,d4,d5,d6,d7,d8]] w (zS1 C Q (zCv C.L (zG C.L) x s) w):=by
 generalize hr:zCv C.L (zG C.L) x s=r;have HR:=zD hr;clear hr;refine zT2 h hQ ht fun HL hlen hsk W0 W R X hW0 hW hRw hz0 hX F0=>?_;have HKA:=zD KA;have HO1:=zD h1;have HO2:=zD h2;clear h1 h2;clear h ht hQ KA;go_enter func219,ntmps219;go_upto_region 1 with(fail);clear hW hW0 hRw hz0 hX;obtain⟨_,_,_,_,_,_,_,_,_⟩:=F0.sto 0;go_wp2_with fail;refine F0.kM (zBN F0.P [46] HO1.out) fun w1 F1=>?_;go_wp2_with fail;refine F1.kM (zBN F1.P [91] HO2.out) fun w2 F2=>?_;obtain⟨_,_,_,_,_,_,_,_,_⟩:=F2.c 1;obtain⟨_,_,_,_,_,_,_,_,_⟩:=F2.c 2;obtain⟨_,_,_,_,_,_,_,_,_⟩:=F2.f 2;go_wp2_with fail;refine zQ (F2.put 2 0) fun V3 F3=>?_;have q:=F3.c 2;exact F3.retM (b:=false) 0 rfl (by simp[results,results219,go_sem,q]) rfl (HR.out.symm.trans (by
  unfold zCv;rw[if_neg (by rw[HO1.out];decide),if_neg (by rw[HO2.out];decide)]))
theorem zHm {C:Pc} {Q:Nat→Prop} {x:Tr} {s:Ps} {w:World} {d0 d1 d2 d3 d4 d5 d6 d7 d8:Value} (h:Pa C s w) (KA:onP C.L [91] s=true→∀W,Pa C (zB s) W→zk C (zB s) W .assign) (hQ:∀b,Q b→C.g < b) (ht:TrC w Q x [d0,d1,d2,d3,d4,d5,d6,d7,d8]) (h1:onP C.L [46] s=false) (h2:onP C.L [91] s=true):
 Calls prog 219 #[.pointer (some ⟨C.g,0,none⟩),.agg #[d0,d1,d2,d3,d4,d5,d6,d7,d8]] w (zS1 C Q (zCv C.L (zG C.L) x s) w):=by
 generalize hr:zCv C.L (zG C.L) x s=r;have HR:=zD hr;clear hr;refine zT2 h hQ ht fun HL hlen hsk W0 W R X hW0 hW hRw hz0 hX F0=>?_;have HKA:=zD KA;have HO1:=zD h1;have HO2:=zD h2;clear h1 h2;clear h ht hQ KA;go_enter func219,ntmps219;go_upto_region 1 with(fail);clear hW hW0 hRw hz0 hX;go_wp2_with fail;refine F0.kM (zBN F0.P [46] HO1.out) fun w1 F1=>?_;go_wp2_with fail;refine F1.kM (zBK F1.P [91] HO2.out) fun w2 F2=>?_;have CL3:=zD (fun Q=>F2.dr.kD (Q:=Q) (HKA.out HO2.out _ F2.dr.P));obtain⟨_,_,_,_,_,_,_,_,_⟩:=F2.c 1;go_wp2_with fail;go_region_law (first | (go_simp;go_at_call 140;(with_reducible refine CL3.out _ fun w3 d3_0 d3_1 d3_2 d3_3 d3_4 d3_5 d3_6 d3_7 d3_8 F3=>?_);obtain⟨_,_,_,_,_,_,_,_,_⟩:=F3.c 1;have LT3:=zD (fun Q=>F3.litK 53 (n:=2) (Q:=Q) (F3.ts2 0 3) rfl (by simp) rfl)) | (go_simp;go_at_call 58;(with_reducible refine LT3.out _ fun w4 F4=>?_);obtain⟨_,_,_,_,_,_,_,_,_⟩:=F4.c 1;obtain⟨_,_,_,_,_,_,_,_,_⟩:=F4.f 1))
 all_goals
  obtain⟨_,_,_,_,_,_,_,_,_⟩:=F4.c 1;obtain⟨_,_,_,_,_,_,_,_,_⟩:=F4.f 1;go_upto_region 10 with(fail);refine zDo (F4.put 1 4) fun w5 F5=>?_;go_wp2_with fail;refine F5.kN (zAE F5.P [93]) fun w6 F6=>?_;obtain⟨_,_,_,_,_,_,_,_,_⟩:=F6.c 1;obtain⟨_,_,_,_,_,_,_,_,_⟩:=F6.sto 4;obtain⟨_,_,_,_,_,_,_,_,_⟩:=F6.c 2;obtain⟨_,_,_,_,_,_,_,_,_⟩:=F6.f 2;go_wp2_with fail;refine zQ (F6.put 2 4) fun V7 F7=>?_;have q:=F7.c 2;exact F7.retM (b:=true) 4 rfl (by simp[results,results219,go_sem,q]) rfl (HR.out.symm.trans (by
   unfold zCv;rw[if_neg (by rw[HO1.out];decide),if_pos HO2.out]))
theorem zIh {C:Pc} {Q:Nat→Prop} {x:Tr} {s:Ps} {w:World} {d0 d1 d2 d3 d4 d5 d6 d7 d8:Value} (h:Pa C s w) (KA:onP C.L [91] s=true→∀W,Pa C (zB s) W→zk C (zB s) W .assign) (hQ:∀b,Q b→C.g < b) (ht:TrC w Q x [d0,d1,d2,d3,d4,d5,d6,d7,d8]) (h1:onP C.L [46] s=true) (hk:(zH C.L (zB s).k).kind=1):
 Calls prog 219 #[.pointer (some ⟨C.g,0,none⟩),.agg #[d0,d1,d2,d3,d4,d5,d6,d7,d8]] w (zS1 C Q (zCv C.L (zG C.L) x s) w):=by
 generalize hr:zCv C.L (zG C.L) x s=r;have HR:=zD hr;clear hr;refine zT2 h hQ ht fun HL hlen hsk W0 W R X hW0 hW hRw hz0 hX F0=>?_;have HKA:=zD KA;have HO1:=zD h1;have HKD:=zD hk;clear h1 hk;clear h ht hQ KA;go_enter func219,ntmps219;go_upto_region 1 with(fail);clear hW hW0 hRw hz0 hX;obtain⟨_,_,_,_,_,_,_,_,_⟩:=F0.sto 0;go_wp2_with fail;refine F0.kM (zBK F0.P [46] HO1.out) fun w1 F1=>?_;obtain⟨⟨kd,tx,st,nk,nn,mg,ps,nl⟩,HT⟩:=zU C.L (zB (s)).k;have HKD2:=zD (show kd=1 from by have:=HKD.out;rw[HT.out]at this;exact this);have e5:((kd:Int) !=1)=false:=by have:=HKD2.out;rw[bne_eq_false_iff_eq];omega
 go_wp2_with fail;refine F1.kT (zp F1.P HT.out) fun w2 As Am c1 c2 F2=>?_;have F3:=F2.bt 3 44 rfl;have hlo:=zD (HL.out.lt (s:=zB s) F3.P.hi (by rw[HT.out];have:=HKD2.out;show kd≠0;omega));obtain⟨_,_,_,_,_,_,_,_,_⟩:=F3.c 4;obtain⟨_,_,_,_,_,_,_,_,_⟩:=F3.c 1;obtain⟨xk4,fk4,bk4⟩:=F3.k1;have F4:=F3.step hlo.out;obtain⟨_,_,_,_,_,_,_,_,_⟩:=F4.c 1;obtain⟨_,_,_,_,_,_,_,_,_⟩:=F4.c 4;go_wp2_with fail;clear xk4 fk4 bk4;refine F4.litN _ _ (n:=1) (F4.ts1 0) rfl (by simp) (show _=w2.heap.size+1 by simp) fun w5 F5=>?_;obtain⟨_,_,_,_,_,_,_,_,_⟩:=F5.c 2;obtain⟨_,_,_,_,_,_,_,_,_⟩:=F5.f 2;go_wp2_with fail;refine zQ (F5.put 2 5) fun V6 F6=>?_;have q:=F6.c 2;exact F6.retM (b:=true) 5 rfl (by simp[results,results219,go_sem,q]) rfl (HR.out.symm.trans (by
  unfold zCv;rw[if_pos HO1.out,if_neg (fun h=>by have:=HKD.out;omega),HT.out]))
theorem zIi {C:Pc} {Q:Nat→Prop} {x:Tr} {s:Ps} {w:World} {d0 d1 d2 d3 d4 d5 d6 d7 d8:Value} (h:Pa C s w) (KA:onP C.L [91] s=true→∀W,Pa C (zB s) W→zk C (zB s) W .assign) (hQ:∀b,Q b→C.g < b) (ht:TrC w Q x [d0,d1,d2,d3,d4,d5,d6,d7,d8]) (h1:onP C.L [46] s=true) (hk:(zH C.L (zB s).k).kind=6):
 Calls prog 219 #[.pointer (some ⟨C.g,0,none⟩),.agg #[d0,d1,d2,d3,d4,d5,d6,d7,d8]] w (zS1 C Q (zCv C.L (zG C.L) x s) w):=by
 generalize hr:zCv C.L (zG C.L) x s=r;have HR:=zD hr;clear hr;refine zT2 h hQ ht fun HL hlen hsk W0 W R X hW0 hW hRw hz0 hX F0=>?_;have HKA:=zD KA;have HO1:=zD h1;have HKD:=zD hk;clear h1 hk;clear h ht hQ KA;go_enter func219,ntmps219;go_upto_region 1 with(fail);clear hW hW0 hRw hz0 hX;obtain⟨_,_,_,_,_,_,_,_,_⟩:=F0.sto 0;go_wp2_with fail;refine F0.kM (zBK F0.P [46] HO1.out) fun w1 F1=>?_;obtain⟨⟨kd,tx,st,nk,nn,mg,ps,nl⟩,HT⟩:=zU C.L (zB (s)).k;have HKD2:=zD (show kd=6 from by have:=HKD.out;rw[HT.out]at this;exact this);have e5:((kd:Int) !=1)=true:=by have:=HKD2.out;rw[bne_iff_ne];omega
 have e6:((kd:Int) !=6)=false:=by have:=HKD2.out;rw[bne_eq_false_iff_eq];omega
 go_wp2_with fail;refine F1.kT (zp F1.P HT.out) fun w2 As Am c1 c2 F2=>?_;have F3:=F2.bt 3 44 rfl;have hlo:=zD (HL.out.lt (s:=zB s) F3.P.hi (by rw[HT.out];have:=HKD2.out;show kd≠0;omega));obtain⟨_,_,_,_,_,_,_,_,_⟩:=F3.c 4;obtain⟨_,_,_,_,_,_,_,_,_⟩:=F3.c 1;obtain⟨xk4,fk4,bk4⟩:=F3.k1;have F4:=F3.step hlo.out;obtain⟨_,_,_,_,_,_,_,_,_⟩:=F4.c 1;obtain⟨_,_,_,_,_,_,_,_,_⟩:=F4.c 4;go_wp2_with fail;clear xk4 fk4 bk4;refine F4.litN _ _ (n:=1) (F4.ts1 0) rfl (by simp) (show _=w2.heap.size+1 by simp) fun w5 F5=>?_;obtain⟨_,_,_,_,_,_,_,_,_⟩:=F5.c 2;obtain⟨_,_,_,_,_,_,_,_,_⟩:=F5.f 2;go_wp2_with fail;refine zQ (F5.put 2 5) fun V6 F6=>?_;have q:=F6.c 2;exact F6.retM (b:=true) 5 rfl (by simp[results,results219,go_sem,q]) rfl (HR.out.symm.trans (by
  unfold zCv;rw[if_pos HO1.out,if_neg (fun h=>by have:=HKD.out;omega),HT.out]))
theorem zKy {C:Pc} {Q:Nat→Prop} {x:Tr} {s:Ps} {w:World} {d0 d1 d2 d3 d4 d5 d6 d7 d8:Value} (h:Pa C s w) (KA:onP C.L [91] s=true→∀W,Pa C (zB s) W→zk C (zB s) W .assign) (hQ:∀b,Q b→C.g < b) (ht:TrC w Q x [d0,d1,d2,d3,d4,d5,d6,d7,d8]) (h1:onP C.L [46] s=true) (hk:(zH C.L (zB s).k).kind≠1∧(zH C.L (zB s).k).kind≠6):
 Calls prog 219 #[.pointer (some ⟨C.g,0,none⟩),.agg #[d0,d1,d2,d3,d4,d5,d6,d7,d8]] w (zS1 C Q (zCv C.L (zG C.L) x s) w):=by
 generalize hr:zCv C.L (zG C.L) x s=r;have HR:=zD hr;clear hr;refine zT2 h hQ ht fun HL hlen hsk W0 W R X hW0 hW hRw hz0 hX F0=>?_;have HKA:=zD KA;have HO1:=zD h1;have HKD:=zD hk;clear h1 hk;clear h ht hQ KA;go_enter func219,ntmps219;go_upto_region 1 with(fail);clear hW hW0 hRw hz0 hX;obtain⟨_,_,_,_,_,_,_,_,_⟩:=F0.sto 0;go_wp2_with fail;refine F0.kM (zBK F0.P [46] HO1.out) fun w1 F1=>?_;obtain⟨⟨kd,tx,st,nk,nn,mg,ps,nl⟩,HT⟩:=zU C.L (zB (s)).k;have HKD2:=zD (show kd≠1∧kd≠6 from by have:=HKD.out;rw[HT.out]at this;exact this);have e5:((kd:Int) !=1)=true:=by have:=HKD2.out.1;rw[bne_iff_ne];omega
 have e6:((kd:Int) !=6)=true:=by have:=HKD2.out.2;rw[bne_iff_ne];omega
 go_wp2_with fail;refine F1.kT (zp F1.P HT.out) fun w2 As Am c1 c2 F2=>?_;have F3:=F2.bt 3 44 rfl;obtain⟨_,_,_,_,_,_,_,_,_⟩:=F3.c 4;go_wp2_with fail;refine F3.kN (zAG F3.P) fun w4 F4=>?_;obtain⟨_,_,_,_,_,_,_,_,_⟩:=F4.c 1;obtain⟨_,_,_,_,_,_,_,_,_⟩:=F4.c 2;obtain⟨_,_,_,_,_,_,_,_,_⟩:=F4.f 2;go_wp2_with fail;refine zQ (F4.put 2 0) fun V5 F5=>?_;have q:=F5.c 2;exact F5.retM (b:=false) 0 rfl (by simp[results,results219,go_sem,q]) rfl (HR.out.symm.trans (by
  unfold zCv;rw[if_pos HO1.out,if_pos HKD.out]))
theorem zKz {C:Pc} {Q:Nat→Prop} {x:Tr} {s:Ps} {w:World} {d0 d1 d2 d3 d4 d5 d6 d7 d8:Value} (h:Pa C s w) (KA:onP C.L [91] s=true→∀W,Pa C (zB s) W→zk C (zB s) W .assign) (hQ:∀b,Q b→C.g < b) (ht:TrC w Q x [d0,d1,d2,d3,d4,d5,d6,d7,d8]):
 Calls prog 219 #[.pointer (some ⟨C.g,0,none⟩),.agg #[d0,d1,d2,d3,d4,d5,d6,d7,d8]] w (zS1 C Q (zCv C.L (zG C.L) x s) w):=by
 cases h1:onP C.L [46] s with
 | false=>
  cases h2:onP C.L [91] s with
  | false=>exact zNK h KA hQ ht h1 h2
  | true=>exact zHm h KA hQ ht h1 h2
 | true=>
  by_cases k1:(zH C.L (zB s).k).kind=1
  · exact zIh h KA hQ ht h1 k1
  · by_cases k6:(zH C.L (zB s).k).kind=6
    · exact zIi h KA hQ ht h1 k6
    · exact zKy h KA hQ ht h1 ⟨k1,k6⟩
theorem zNL {C:Pc} {Q:Nat→Prop} {x xm:Tr} {bm:Bool} {s sm:Ps} {w:World} {d0 d1 d2 d3 d4 d5 d6 d7 d8:Value} (h:Pa C s w) (KA:onP C.L [91] s=true→∀W,Pa C (zB s) W→zk C (zB s) W .assign) (hQ:∀b,Q b→C.g < b) (ht:TrC w Q x [d0,d1,d2,d3,d4,d5,d6,d7,d8]) (hm:zCv C.L (zG C.L) x s=((xm,bm),sm)):
 Calls prog 219 #[.pointer (some ⟨C.g,0,none⟩),.agg #[d0,d1,d2,d3,d4,d5,d6,d7,d8]] w (fun e w'=>∃m0 m1 m2 m3 m4 m5 m6 m7 m8,e=.returned (.tuple #[.agg #[m0,m1,m2,m3,m4,m5,m6,m7,m8],.bool bm])∧TrC w' (fun b=>Q b∨w.heap.size≤b) xm [m0,m1,m2,m3,m4,m5,m6,m7,m8]∧Pa C sm w'∧w.grownBy w' (some C.g)):=by
 have:=zKz h KA hQ ht;rw[hm]at this;exact this
theorem zJc {w w':World} {P Q F:Nat→Prop} {B n cp:Nat} {v':Value} {A:Option Addr} {l:List Tr} {t:Tr} {c ks:List Value}
 (ht:TrC w Q t c) (hr:RowK w Q (.slice A n cp) l ks F) (hn:l.length=n) (hb:Bx w B 72 c) (hQP:∀b,Q b→b < w.heap.size→P b) (hQB:¬Q B) (hPB:P B) (hP:P w.heap.size)
 (ho:w'.ownsRow 0 72 9 v' (1+n) (c++ks)) (hg:w.grownBy w' (some B)) (hw:v'.ownBlock=some B∨v'.ownBlock=some w.heap.size):RowP w' P v' (t::l):=by
 have hz:Fz w (fun b=>Q b∧b < w.heap.size) (some B):=.box hb (by decide) (by decide) (fun h=>hQB h.1);have hsz:=hg.size;refine⟨c++ks,fun b=>Q b∧b < w.heap.size,?_,?_,?_,?_,?_⟩
 · rw[List.length_cons,hn,Nat.add_comm];exact ho
 · intro b hb2;rcases hw with e | e
   · rw[e]at hb2;injection hb2 with hb2;subst hb2;exact hPB
   · rw[e]at hb2;injection hb2 with hb2;subst hb2;exact hP
 · refine .cons ?_ ?_
   · exact TrC.keep hg hz _ _ (.sub (fun b hb2 hl=>⟨hb2,hl⟩) _ _ ht)
   · exact TrsC.keep hg hz _ _ (.sub (fun b hb2 _=>hr.low b hb2) _ _ hr.subs)
 · intro b hb2 h2;rcases hw with e | e
   · rw[e]at hb2;injection hb2 with hb2;subst hb2;exact hQB h2.1
   · rw[e]at hb2;injection hb2 with hb2;subst hb2;omega
 · intro b h2;exact⟨hQP b h2.1 h2.2,yAA h2.2 hsz⟩
section
variable {w:World} {P Q:Nat→Prop} {B n cp:Nat} {A:Option Addr} {l:List Tr} {t:Tr} {c0 c1 c2 c3 c4 c5 c6 c7 c8:Value}
theorem zS2 (hb:Bx w B 72 [c0,c1,c2,c3,c4,c5,c6,c7,c8]) (ht:TrC w Q t [c0,c1,c2,c3,c4,c5,c6,c7,c8]) (hQP:∀b,Q b→b < w.heap.size→P b) (hQB:¬Q B) (hPB:P B):RowP w P (.slice (some ⟨B,0,none⟩) 1 1) [t]:=by
 refine⟨[c0,c1,c2,c3,c4,c5,c6,c7,c8],fun b=>Q b∧b < w.heap.size,⟨rfl,.inr ⟨B,1,#[c0,c1,c2,c3,c4,c5,c6,c7,c8],rfl,yAF _,hb,yAD _,by unfold maxLen;omega,rfl,rfl⟩⟩,?_,?_,?_,fun b h2=>⟨hQP b h2.1 h2.2,h2.2⟩⟩
 · intro b e;simp only[Value.ownBlock,Option.some.injEq]at e;subst e;exact hPB
 · exact .single (.sub (fun b hb2 hl=>⟨hb2,hl⟩) _ _ ht)
 · intro b e h2;simp only[Value.ownBlock,Option.some.injEq]at e;subst e;exact hQB h2.1
theorem zQD (ty:TypeId) (hn:l.length=n) (hb:Bx w B 72 [c0,c1,c2,c3,c4,c5,c6,c7,c8]) (ht:TrC w Q t [c0,c1,c2,c3,c4,c5,c6,c7,c8]) (hr:RowP w Q (.slice A n cp) l) (hQP:∀b,Q b→b < w.heap.size→P b) (hQB:¬Q B) (hPB:P B) (hP:P w.heap.size) (hl:n≤4097):
 ∃A' cp' w',(Builtin.append_ #[70,70] ty #[.slice (some ⟨B,0,none⟩) 1 1,.slice A n cp]).run prog w=.ok (.slice A' (n+1) cp') w'∧RowP w' P (.slice A' (n+1) cp') (t::l)∧w.grownBy w' (some B):=by
 obtain⟨ks,F,hk⟩:=hr;obtain⟨i,hi,hz0,hz1,hz2⟩:=info_parts Tryz.info_pnode;have own1:w.ownsRow 0 72 9 (.slice (some ⟨B,0,none⟩) 1 1) 1 [c0,c1,c2,c3,c4,c5,c6,c7,c8]:=
  ⟨rfl,.inr ⟨B,1,#[c0,c1,c2,c3,c4,c5,c6,c7,c8],rfl,yAF _,hb,yAD _,by unfold maxLen;omega,rfl,rfl⟩⟩
 have hown:=hk.own;rw[hn]at hown;rcases hown.2 with⟨e,e0⟩ | ⟨g,cap,cur,e,_,hg,h1,h2,h3,h4⟩
 · injection e with e1 e2 e3;subst e1 e2 e3;have hks:ks=[]:=List.eq_nil_of_length_eq_zero (by simpa using hown.1);refine⟨some ⟨B,0,none⟩,1,w,?_,?_,⟨rfl,rfl,rfl,yAD _,fun _ _ _=>rfl⟩⟩
   · simp[Builtin.append_,run_underlying underlying70,sizeOf,typeInfo,hi,Builtin.lenOf,Builtin.firstCells,storeCells]
   · refine zJc ht hk hn hb hQP hQB hPB hP ?_ ⟨rfl,rfl,rfl,yAD _,fun _ _ _=>rfl⟩ (.inl rfl);rw[hks,List.append_nil];exact own1
 · injection e with e1 e2 e3;subst e1 e3;have hnews:∀j u,ks[j]? =some u→w.cell? ((⟨g,0,none⟩:Addr).add j)=some u:=by
    intro j u hu;refine World.news_of_block hg j u ?_;rw[←h4,List.getElem?_take]at hu;split at hu
    · exact hu
    · cases hu
   obtain⟨v',w',hrun,ho,hgr,_,hat⟩:=run_append_own_at (P:=prog) w 0 70 ty 72 i _ 9 144 underlying70 hi hz0 hz1 hz2 rfl (by decide) (.slice (some ⟨B,0,none⟩) 1 1) 1 [c0,c1,c2,c3,c4,c5,c6,c7,c8] own1 ⟨g,0,none⟩ n cp ks hown.1 hnews (fun u hu=>List.all_eq_true.1 (TrsC.one hk.subs) u hu) (by unfold maxLen;omega) (by omega) (yAF _);have hrow:=zJc ht hk hn hb hQP hQB hPB hP ho hgr (by
    rcases hat with e | e
    · exact .inl e
    · exact .inr e)
   obtain⟨A',cp',e',_⟩:=hrow.shape;rw[List.length_cons,hn]at e';subst e';exact⟨A',cp',w',hrun,hrow,hgr⟩
theorem zNM {Pz:Act→World→Prop} {o:Oper} {a:Act} {Qx:Exit→Act→World→Prop} (s x:Operand)
 (ho:o.op=.call {callee:=.builtin .append,args:=#[s,x],argTypes:=#[70,70]})
 (hs:a.eval s=.slice (some ⟨B,0,none⟩) 1 1) (hx:a.eval x=.slice A n cp)
 (hn:l.length=n) (hb:Bx w B 72 [c0,c1,c2,c3,c4,c5,c6,c7,c8]) (ht:TrC w Q t [c0,c1,c2,c3,c4,c5,c6,c7,c8]) (hr:RowP w Q (.slice A n cp) l) (hQP:∀b,Q b→b < w.heap.size→P b) (hQB:¬Q B) (hPB:P B) (hP:P w.heap.size) (hl:n≤4097)
 (h:∀A' cp' w',RowP w' P (.slice A' (n+1) cp') (t::l)→w.grownBy w' (some B)→Pz (a.put o.dst (.slice A' (n+1) cp')) w'):o.wp prog a w Pz Qx:=by
 obtain⟨A',cp',w',hrun,h1,h2⟩:=zQD (P:=P) o.type hn hb ht hr hQP hQB hPB hP hl;unfold Oper.wp execOp;simp only[ho,resolve,invoke,builtin,Sem.run_bind,Sem.run_pure,Result.andThen_ok,List.map_toArray,List.map_cons,List.map_nil,hs,hx,hrun];exact h A' cp' w' h1 h2
theorem zNN {ops:Array Oper} {o:Oper} {a:Act} {K:Act→World→Prop} {Qx:Exit→Act→World→Prop} {E:Prop} (hgd:o.guard=none) (s x:Operand)
 (ho:o.op=.call {callee:=.builtin .append,args:=#[s,x],argTypes:=#[70,70]})
 (hs:a.eval s=.slice (some ⟨B,0,none⟩) 1 1) (hx:a.eval x=.slice A n cp)
 (hn:l.length=n) (hb:Bx w B 72 [c0,c1,c2,c3,c4,c5,c6,c7,c8]) (ht:TrC w Q t [c0,c1,c2,c3,c4,c5,c6,c7,c8]) (hr:RowP w Q (.slice A n cp) l) (hQP:∀b,Q b→b < w.heap.size→P b) (hQB:¬Q B) (hPB:P B) (hP:P w.heap.size) (hl:n≤4097)
 (h:∀A' cp' w',RowP w' P (.slice A' (n+1) cp') (t::l)→w.grownBy w' (some B)→K (a.put o.dst (.slice A' (n+1) cp')) w'):
 if Region.wanted o (yielded ops a.tmps)=true then Oper.wp prog o a w K Qx else E:=by
 have hw:Region.wanted o (yielded ops a.tmps)=true:=by simp[Region.wanted,hgd]
 rw[if_pos hw];exact zNM s x ho hs hx hn hb ht hr hQP hQB hPB hP hl h
theorem zIj {ops:Array Oper} {rest:List Oper} {o:Oper} {a:Act} {Qx:Exit→Act→World→Prop} (hgd:o.guard=none) (s x:Operand)
 (ho:o.op=.call {callee:=.builtin .append,args:=#[s,x],argTypes:=#[70,70]})
 (hs:a.eval s=.slice (some ⟨B,0,none⟩) 1 1) (hx:a.eval x=.slice A n cp)
 (hn:l.length=n) (hb:Bx w B 72 [c0,c1,c2,c3,c4,c5,c6,c7,c8]) (ht:TrC w Q t [c0,c1,c2,c3,c4,c5,c6,c7,c8]) (hr:RowP w Q (.slice A n cp) l) (hQP:∀b,Q b→b < w.heap.size→P b) (hQB:¬Q B) (hPB:P B) (hP:P w.heap.size) (hl:n≤4097)
 (h:∀A' cp' w',RowP w' P (.slice A' (n+1) cp') (t::l)→w.grownBy w' (some B)→wpList prog ops Qx rest (a.put o.dst (.slice A' (n+1) cp')) w'):
 wpList prog ops Qx (o::rest) a w:=
 wpList_plain hgd fun _ hK=>zNM s x ho hs hx hn hb ht hr hQP hQB hPB hP hl fun A' cp' w' h1 h2=>hK _ _ (h A' cp' w' h1 h2)
end
section
variable {C:Pc} {B:Nat→Prop} {a:World} {D:List Nat} {os:List Ob} {s s':Ps} {w w':World}
theorem Fr.kMb (F:Fr C B a D os s w) (j:Nat) {x xm:Tr} {bm:Bool} {sm:Ps} {d0 d1 d2 d3 d4 d5 d6 d7 d8:Value} (hj:os[j]? =some (.tr x [d0,d1,d2,d3,d4,d5,d6,d7,d8])) (KA:onP C.L [91] s=true→∀W,Pa C (zB s) W→zk C (zB s) W .assign) (hm:zCv C.L (zG C.L) x s=((xm,bm),sm)) {Q:Ending→World→Prop} (k:∀w' m0 m1 m2 m3 m4 m5 m6 m7 m8,Fr C B a D (os++[.tr xm [m0,m1,m2,m3,m4,m5,m6,m7,m8]]) sm w'→Q (.returned (.tuple #[.agg #[m0,m1,m2,m3,m4,m5,m6,m7,m8],.bool bm])) w'):Calls prog 219 #[.pointer (some ⟨C.g,0,none⟩),.agg #[d0,d1,d2,d3,d4,d5,d6,d7,d8]] w Q:=
 (zNL F.P KA (fun b hb=>F.out.bl b hb.1) (F.t j hj) hm).mono fun _ w' ⟨m0,m1,m2,m3,m4,m5,m6,m7,m8,h1,h2,h3,h4⟩=>h1▸k w' m0 m1 m2 m3 m4 m5 m6 m7 m8 (.mk ((F.m h3 h4).out.snoc (x:=.tr _ _) rfl (TrC.sub (fun _ hb _=>hb.elim id F.out.off) _ _ h2)))
theorem Fr.kLX {f:FuncId} {args:Array Value} {p:Tr×Ps} (F:Fr C B a D os s w) (h:Calls prog f args w (LstQ C p w)) {Q:Ending→World→Prop} (k:∀x,Hid (p=x)→∀w' A n c,Hid (x.1.subs.length=n)→Fr C B a D (os++[.ro (.slice A n c) x.1.subs]) x.2 w'→Q (.returned (.slice A n c)) w'):Calls prog f args w Q:=
 F.kL h fun w' A n c h1 _ _ h4=>k p (zD rfl) w' A n c h1 h4
theorem FrR.join {R i:Nat} {T:TypeId} {cs:List Value} {v:Value} {l:List Tr} (F:FrR C B a (R::D) os s w) (hi:os[i]? =some (.bx R T cs)) (hD:R∉D) (hg:w.grownBy w' (some R)) (hn:RowP w' (Off B D) v l):FrR C B a D (os.set i (.vs [])++[.ro v l]) s w':=by
 obtain⟨h1,h2,h3,h4⟩:=F.ob i _ hi;have hl:=F.ds R (by simp);have hil:=zRw hi;have hz:∀(j:Nat) (z:Ob),(os.set i (.vs []))[j]? =some z→(j=i∧z=.vs [])∨(j≠i∧os[j]? =some z):=by
  intro j z h;rw[List.getElem?_set]at h;split at h
  · rename_i e
    subst e
    (try rw[if_pos hil]at h)
    injection h with h;exact .inl ⟨rfl,h.symm⟩
  · rename_i e;exact .inr ⟨fun h=>e h.symm,h⟩
 have hs:∀b,Off B (R::D) b→Off B D b:=fun b hb=>⟨hb.1,fun h=>hb.2 (List.mem_cons_of_mem _ h)⟩;have F1:FrR C B a D (os.set i (.vs [])) s w':=by
  refine⟨F.pa.grown hg (fun b hb=>by injection hb with hb;have:=F.lt;omega),zBs F.gr hl.1 hg,F.bl,F.bh,fun b hb=>⟨(F.ds b (List.mem_cons_of_mem _ hb)).1,yAA (F.ds b (List.mem_cons_of_mem _ hb)).2 hg.size⟩,?_,?_⟩
  · intro j k y z R' h5 h6 h7 h8;rcases hz j y h5 with⟨_,rfl⟩ | ⟨_,h5⟩
    · cases h7
    rcases hz k z h6 with⟨_,rfl⟩ | ⟨_,h6⟩
    · cases h8
    exact F.nd j k y z R' h5 h6 h7 h8
  · intro j y h5;rcases hz j y h5 with⟨_,rfl⟩ | ⟨h6,h5⟩
    · trivial
    · have h7:=(F.ob j y h5).keep hg (.box h1 h3 h4 (fun h=>h.2 (by simp))) (fun R' h8 e=>by injection e with e;subst e;exact h6 (F.nd j i y _ R h5 hi h8 rfl));cases y with
      | bx R' T' cs'=>
       refine⟨h7.1,?_,h7.2.2⟩;rcases List.mem_cons.1 h7.2.1 with e | e
       · subst e;exact absurd (F.nd j i _ _ R' h5 hi rfl rfl) h6
       · exact e
      | tr t cs'=>exact TrC.sub (fun b hb _=>hs b hb) _ _ h7
      | tn lo t cs'=>exact⟨TrC.sub (fun b hb _=>⟨hs b hb.1,hb.2⟩) _ _ h7.1,h7.2⟩
      | ro v l=>exact RowP.sub h7 fun b hb _=>hs b hb
      | rn hi v l=>exact RowP.sub h7 fun b hb _=>⟨hs b hb.1,hb.2⟩
      | lf T v n xs=>exact h7
      | vs cs'=>trivial
 exact F1.snoc rfl hn
theorem FrR.lone {R i j:Nat} {x:Tr} {c0 c1 c2 c3 c4 c5 c6 c7 c8:Value} (F:FrR C B a (R::D) os s w) (hi:os[i]? =some (.bx R 72 [c0,c1,c2,c3,c4,c5,c6,c7,c8])) (hj:os[j]? =some (.tr x [c0,c1,c2,c3,c4,c5,c6,c7,c8])) (hD:R∉D):RowP w (Off B D) (.slice (some ⟨R,0,none⟩) 1 1) [x]:=
 zS2 (F.ob i _ hi).1 (F.ob j _ hj) (fun b hb _=>⟨hb.1,fun h=>hb.2 (List.mem_cons_of_mem _ h)⟩) (fun h=>h.2 (by simp)) ⟨F.bh R (F.ds R (by simp)).1,hD⟩
theorem Fr.joinS {ops:Array Oper} {o:Oper} {ac:Act} {K:Act→World→Prop} {Qx:Exit→Act→World→Prop} {E:Prop} {R n cp:Nat} {A:Option Addr} {l:List Tr} {t:Tr} {c0 c1 c2 c3 c4 c5 c6 c7 c8:Value} (F:Fr C B a (R::D) os s w) (i j m:Nat) (hi:os[i]? =some (.bx R 72 [c0,c1,c2,c3,c4,c5,c6,c7,c8])) (hj:os[j]? =some (.tr t [c0,c1,c2,c3,c4,c5,c6,c7,c8])) (hm:os[m]? =some (.ro (.slice A n cp) l)) (hD:R∉D) (hn:l.length=n) (hl:n≤4097) (hgd:o.guard=none) (x y:Operand)
 (ho:o.op=.call {callee:=.builtin .append,args:=#[x,y],argTypes:=#[70,70]})
 (hs:ac.eval x=.slice (some ⟨R,0,none⟩) 1 1) (hx:ac.eval y=.slice A n cp)
 (h:∀A' cp' w',Fr C B a D (os.set i (.vs [])++[.ro (.slice A' (n+1) cp') (t::l)]) s w'→K (ac.put o.dst (.slice A' (n+1) cp')) w'):
 if Region.wanted o (yielded ops ac.tmps)=true then Oper.wp prog o ac w K Qx else E:=
 zNN hgd x y ho hs hx hn (F.b i hi) (F.t j hj) (F.r m hm) (fun b hb _=>⟨hb.1,fun h=>hb.2 (List.mem_cons_of_mem _ h)⟩) (fun h=>h.2 (by simp)) ⟨F.out.bh R (F.out.ds R (by simp)).1,hD⟩ ⟨F.out.bh _ F.out.gr.size,fun h=>by have:=(F.out.ds _ (List.mem_cons_of_mem _ h)).2;omega⟩ hl fun A' cp' w' h1 h2=>h A' cp' w' (.mk (F.out.join hi hD h2 h1))
theorem Fr.joinL {ops:Array Oper} {rest:List Oper} {o:Oper} {ac:Act} {Qx:Exit→Act→World→Prop} {R n cp:Nat} {A:Option Addr} {l:List Tr} {t:Tr} {c0 c1 c2 c3 c4 c5 c6 c7 c8:Value} (F:Fr C B a (R::D) os s w) (i j m:Nat) (hi:os[i]? =some (.bx R 72 [c0,c1,c2,c3,c4,c5,c6,c7,c8])) (hj:os[j]? =some (.tr t [c0,c1,c2,c3,c4,c5,c6,c7,c8])) (hm:os[m]? =some (.ro (.slice A n cp) l)) (hD:R∉D) (hn:l.length=n) (hl:n≤4097) (hgd:o.guard=none) (x y:Operand)
 (ho:o.op=.call {callee:=.builtin .append,args:=#[x,y],argTypes:=#[70,70]})
 (hs:ac.eval x=.slice (some ⟨R,0,none⟩) 1 1) (hx:ac.eval y=.slice A n cp)
 (h:∀A' cp' w',Fr C B a D (os.set i (.vs [])++[.ro (.slice A' (n+1) cp') (t::l)]) s w'→wpList prog ops Qx rest (ac.put o.dst (.slice A' (n+1) cp')) w'):wpList prog ops Qx (o::rest) ac w:=
 zIj hgd x y ho hs hx hn (F.b i hi) (F.t j hj) (F.r m hm) (fun b hb _=>⟨hb.1,fun h=>hb.2 (List.mem_cons_of_mem _ h)⟩) (fun h=>h.2 (by simp)) ⟨F.out.bh R (F.out.ds R (by simp)).1,hD⟩ ⟨F.out.bh _ F.out.gr.size,fun h=>by have:=(F.out.ds _ (List.mem_cons_of_mem _ h)).2;omega⟩ hl fun A' cp' w' h1 h2=>h A' cp' w' (.mk (F.out.join hi hD h2 h1))
theorem Fr.loneR {R i j:Nat} {x:Tr} {c0 c1 c2 c3 c4 c5 c6 c7 c8:Value} (F:Fr C B a (R::D) os s w) (hi:os[i]? =some (.bx R 72 [c0,c1,c2,c3,c4,c5,c6,c7,c8])) (hj:os[j]? =some (.tr x [c0,c1,c2,c3,c4,c5,c6,c7,c8])) (hD:R∉D):Fr C B a D (os.set i (.vs [])++[.ro (.slice (some ⟨R,0,none⟩) 1 1) [x]]) s w:=.mk (F.out.join hi hD ⟨rfl,rfl,rfl,yAD _,fun _ _ _=>rfl⟩ (F.out.lone hi hj hD))
end
theorem zNO {C:Pc} {s:Ps} {w:World} (hp:Pre C.L (.calls) s) (K:KP C (zf C.L (.calls) s)) (h:Pa C s w):zk C s w (.calls):=by
 refine zA0 hp h fun HL hlen hsk r W X HR hW hX F0=>?_;have HK:=zD K;clear K h hp;go_enter func214,ntmps214;go_wp2_with fail
 go_step3
 clear hW hX;go_wp2_with fail;refine F0.kX (HK.out.rank (q:=.head) ⟨F0.P.hi,trivial⟩ F0.P (yAD _) (by simp[zn])) fun rq1 HRQ1 w1 d1_0 d1_1 d1_2 d1_3 d1_4 d1_5 d1_6 d1_7 d1_8 F1=>?_;obtain⟨_,_,_,_,_,_,_,_,_⟩:=F1.sto 1;have F2:=F1.bt 1 72 rfl;have HA1:=zD (show Adv C.L s (rq1.2) by have:=(zS HL.out (p:=.head) (s:=s) ⟨hsk,trivial⟩).adv;rw[HRQ1.out]at this;exact this);have HR1:=zD (show zG C.L (.callsL rq1.1) rq1.2=r by
  refine Eq.trans ?_ HR.out;unfold zF;dsimp only;rw[HRQ1.out])
 go_wp2_with fail
 go_step3
 go_wp2_with fail
 go_loopg [5] (C.L.length - (rq1.2).k) (fun gk _ wr=>∃(x':Tr) (s':Ps) (e0 e1 e2 e3 e4 e5 e6 e7 e8:Value),C.L.length - s'.k≤gk∧s.k≤s'.k∧Hid (zG C.L (.callsL x') s'=r)∧Hid (Fr C (w.heap.size≤·) w [(w1.heap.size),X] [.bx X 72 [.int .i64 0,.string ⟨#[]⟩,.slice none 0 0,.int .i64 0,.int .i64 0,.bool false,.slice none 0 0,.slice none 0 0,.slice none 0 0],.bx (w1.heap.size) 72 [e0,e1,e2,e3,e4,e5,e6,e7,e8],.tr x' [e0,e1,e2,e3,e4,e5,e6,e7,e8]] s' wr))
 case atStart=>exact⟨rq1.1,rq1.2,d1_0,d1_1,d1_2,d1_3,d1_4,d1_5,d1_6,d1_7,d1_8,by omega,HA1.out.le,HR1.out,F2.pk [(w1.heap.size),X] [0,2,1] (by simp) (by decide) rfl (by simp) (by simp)⟩
 case round=>
  obtain⟨x',s',e0,e1,e2,e3,e4,e5,e6,e7,e8,hgk,hsk',HRl,Fl⟩:=hrel;obtain⟨b1,hb1⟩:∃b,onP C.L [40] s'=b:=⟨_,rfl⟩;have HB1:=zD hb1;clear hb1;go_wp2_with fail;refine Fl.kB (zAY Fl.P [40] HB1.out) fun w4 F4=>?_;cases b1 with
  | false=>
   obtain⟨⟨⟨xm,bm⟩,sm⟩,HMQ⟩:∃q,Hid (zCv C.L (zG C.L) x' s'=q):=⟨_,zD rfl⟩;have HMM:=zD (by have hmm:=zJb (x:=x') HL.out F4.P.hi;rw[HMQ.out]at hmm;exact hmm);obtain⟨_,_,_,_,_,_,_,_,_⟩:=F4.c 1;go_wp2_with fail;refine F4.kMb 2 rfl (fun h5 W hW=>HK.out.more (q:=.assign) ⟨hW.hi,trivial⟩ hW (show s.k < s'.k+1 by omega)) HMQ.out fun w5 m0 m1 m2 m3 m4 m5 m6 m7 m8 F5=>?_;obtain⟨_,_,_,_,_,_,_,_,_⟩:=F5.sto 3;have F6:=F5.bt 3 72 rfl;go_upto_region 5 with(fail);refine zDo F6 fun w7 F7=>?_;cases bm with
   | true=>
    obtain⟨_,_,_,_,_,_,_,_,_⟩:=F7.c 4;obtain⟨_,_,_,_,_,_,_,_,_⟩:=F7.c 1;obtain⟨_,_,_,_,_,_,_,_,_⟩:=F7.f 1;have HQR:=zD (show zG C.L (.callsL x') s'=zG C.L (.callsL xm) sm by
     rw[zHl HL.out Fl.P.hi (by rw[HB1.out];decide),HMQ.out];exact if_pos rfl)
    have hmm2:s'.k < sm.k:=HMM.out.2.2 rfl;have hmm3:sm.k≤C.L.length - 1:=HMM.out.2.1;go_wp2_with fail
    go_roundg (C.L.length - (sm).k)
    case measure=>omega
    case rel=>
     exact⟨_,_,_,_,_,_,_,_,_,_,_,yAD _,(by omega),HQR.out.symm.trans HRl.out,(F7.put 1 3).pk [(w1.heap.size),X] [0,1,3] (by simp) (by decide) rfl (by simp) (by simp)⟩
   | false=>
    have HQR:=zD (show zG C.L (.callsL x') s'=(x',sm) by
     rw[zHl HL.out Fl.P.hi (by rw[HB1.out];decide),HMQ.out];exact if_neg (by simp))
    obtain⟨_,_,_,_,_,_,_,_,_⟩:=F7.c 1;obtain⟨_,_,_,_,_,_,_,_,_⟩:=F7.sto 2;obtain⟨_,_,_,_,_,_,_,_,_⟩:=F7.c 0;obtain⟨_,_,_,_,_,_,_,_,_⟩:=F7.f 0;go_wp2_with fail;refine zQ (F7.put 0 2) fun V8 F8=>?_;have q:=F8.c 0;exact F8.ret 2 rfl (by simp[results,results214,go_sem,q]) rfl (HRl.out.symm.trans HQR.out) (fun _ h=>h)
  | true=>
   have hlt:=zD (HL.out.on Fl.P.hi HB1.out);have hpost:=zD (zS HL.out (p:=.args) (s:=s') ⟨Fl.P.hi,hlt.out⟩);have hal:=zD (zHe HL.out hlt.out);have hNN:=zD Fl.P.cx.n;have FA:=(F4.bt 2 72 rfl).dr;have CLA:=zD (fun Q=>FA.kLX (Q:=Q) (HK.out.rank (q:=.args) ⟨FA.P.hi,hlt.out⟩ FA.P hsk' (by simp[zn])));have CLB:=zD (fun Q=>F4.dr.kLX (Q:=Q) (HK.out.rank (q:=.args) ⟨F4.dr.P.hi,hlt.out⟩ F4.dr.P hsk' (by simp[zn])));have HDA:=zD (fun h=>Nat.lt_irrefl _ (F4.out.ds _ h).2);obtain⟨_,_,_,_,_,_,_,_,_⟩:=F4.c 1;go_wp2_with fail;go_region_law (first | (go_simp;go_at_call 218;first | ((with_reducible refine CLA.out _ fun ra HRA w71 A1 n1 cp1 HN1 F71=>?_);have hnl:=zD (show n1≤4097 by have:=hal.out;rw[HRA.out]at this;have:=HN1.out;have:=hNN.out;omega);obtain⟨_,_,_,_,_,_,_,_,_⟩:=F71.c 1) | ((with_reducible refine CLB.out _ fun ra HRA w71 A1 n1 cp1 HN1 F70=>?_);have hnl:=zD (show n1≤4097 by have:=hal.out;rw[HRA.out]at this;have:=HN1.out;have:=hNN.out;omega);obtain⟨_,_,_,_,_,_,_,_,_⟩:=F70.c 1;have HDB:=zD (fun h=>Nat.lt_irrefl _ (F70.out.ds _ h).2);have F71:=F70.bt 2 72 rfl)) | (refine F71.joinS 3 2 4 rfl rfl rfl HDA.out HN1.out hnl.out rfl _ _ rfl rfl rfl fun A3 cp3 w72 F72=>?_;obtain⟨_,_,_,_,_,_,_,_,_⟩:=F72.c 1;obtain⟨_,_,_,_,_,_,_,_,_⟩:=F72.f 1) | (refine F71.joinS 4 2 3 rfl rfl rfl HDB.out HN1.out hnl.out rfl _ _ rfl rfl rfl fun A3 cp3 w72 F72=>?_;obtain⟨_,_,_,_,_,_,_,_,_⟩:=F72.c 1;obtain⟨_,_,_,_,_,_,_,_,_⟩:=F72.f 1) | (go_simp;go_at_call 58;refine F72.kQ (zAk 50 A3 (n1+1) cp3) fun w73 F73=>?_;obtain⟨_,_,_,_,_,_,_,_,_⟩:=F73.c 1;obtain⟨_,_,_,_,_,_,_,_,_⟩:=F73.f 1))
   all_goals
    have F74:=F73.rowK 5 rfl 50;have HQR:=zD (show zG C.L (.callsL x') s'=zG C.L (.callsL (trK 50 (x'::ra.1.subs))) ra.2 by
     rw[zt HL.out (p:=.callsL x') ⟨(Nat.le_of_lt hlt.out),trivial⟩];unfold zF;dsimp only;rw[if_pos HB1.out,HRA.out])
    have hpo:Eat C.L s' ra.2:=(by have:=(show Eat C.L s' (zG C.L .args s').2 from hpost.out);rw[HRA.out]at this;exact this);have hlx:=hpo.more hlt.out
    have hhi:=hpo.adv.hi;clear hpo;go_wp2_with fail
    go_roundg (C.L.length - (ra.2).k)
    case measure=>omega
    case rel=>
     exact⟨_,_,_,_,_,_,_,_,_,_,_,yAD _,(by omega),HQR.out.symm.trans HRl.out,(F74.put 1 6).pk [(w1.heap.size),X] [0,1,6] (by simp) (by decide) rfl (by simp) (by simp)⟩
theorem zNP {C:Pc} {s:Ps} {w:World} (hp:Pre C.L (.head) s) (K:KP C (zf C.L (.head) s)) (h:Pa C s w) (hon:onP C.L [110,101,119] s=false):zk C s w (.head):=by
 refine zA0 hp h fun HL hlen hsk r W X HR hW hX F0=>?_;have HK:=zD K;clear K h hp;go_enter func217,ntmps217;go_upto_region 1 with(fail);clear hW hX;have HO:=zD hon;clear hon;go_wp2_with fail;refine F0.kM (zBN F0.P [110,101,119] HO.out) fun w1 F1=>?_;go_wp2_with fail;refine F1.kX (HK.out.rank (q:=.primary) ⟨F1.P.hi,trivial⟩ F1.P (yAD _) (by simp[zn])) fun rq2 HRQ2 w2 d2_0 d2_1 d2_2 d2_3 d2_4 d2_5 d2_6 d2_7 d2_8 F2=>?_;obtain⟨_,_,_,_,_,_,_,_,_⟩:=F2.sto 1;obtain⟨_,_,_,_,_,_,_,_,_⟩:=F2.c 0;obtain⟨_,_,_,_,_,_,_,_,_⟩:=F2.f 0;go_wp2_with fail;refine zQ (F2.put 0 1) fun V3 F3=>?_;have q:=F3.c 0;exact F3.ret 1 rfl (by simp[results,results217,go_sem,q]) rfl (HR.out.symm.trans (by
  unfold zF;dsimp only;rw[if_neg (by rw[HO.out];decide)];simp only[HRQ2.out])) (fun _ h=>h)
theorem zQE {C:Pc} {s:Ps} {w:World} (hp:Pre C.L (.head) s) (K:KP C (zf C.L (.head) s)) (h:Pa C s w) (hon:onP C.L [110,101,119] s=true):zk C s w (.head):=by
 refine zA0 hp h fun HL hlen hsk r W X HR hW hX F0=>?_;have HK:=zD K;clear K h hp;go_enter func217,ntmps217;go_upto_region 1 with(fail);clear hW hX;have HO:=zD hon;clear hon;have hlt:=zD (HL.out.on hsk HO.out);go_wp2_with fail;refine F0.kM (zBK F0.P [110,101,119] HO.out) fun w1 F1=>?_;go_wp2_with fail;refine F1.kX (HK.out.more (q:=.head) ⟨F1.P.hi,trivial⟩ F1.P (yAG s.k)) fun rq2 HRQ2 w2 d2_0 d2_1 d2_2 d2_3 d2_4 d2_5 d2_6 d2_7 d2_8 F2=>?_;obtain⟨_,_,_,_,_,_,_,_,_⟩:=F2.sto 1;have F3:=F2.bt 1 72 rfl;have HA1:=zD (show s.k < (rq2.2).k from yAA (yAG s.k) (show(zB s).k≤(rq2.2).k by have:=(zS HL.out (p:=.head) (s:=zB s) ⟨hlt.out,trivial⟩).adv.le;rw[HRQ2.out]at this;exact this));obtain⟨q,hq⟩:∃q,zG C.L (.headL rq2.1) rq2.2=q:=⟨_,rfl⟩;have HQ:=zD hq;clear hq;have HRQ:=zD (show r=(if onP C.L [40] q.2=true then(trK 51 (q.1::(zG C.L .args q.2).1.subs),(zG C.L .args q.2).2)else(trK 51 [q.1],q.2))from by
  refine HR.out.symm.trans ?_;unfold zF;dsimp only;rw[if_pos HO.out,HRQ2.out,HQ.out])
 go_wp2_with fail
 go_loopg [4] (C.L.length) (fun gk v4 wr=>∃(bm:Bool) (x':Tr) (s':Ps) (e0 e1 e2 e3 e4 e5 e6 e7 e8:Value),v4=.bool bm∧(if bm=true then C.L.length - s'.k else 0)≤gk∧s.k < s'.k∧Hid ((if bm=true then zG C.L (.headL x') s' else(x',s'))=q)∧Fr C (w.heap.size≤·) w [(w2.heap.size),X] [.bx X 72 [.int .i64 0,.string ⟨#[]⟩,.slice none 0 0,.int .i64 0,.int .i64 0,.bool false,.slice none 0 0,.slice none 0 0,.slice none 0 0],.bx (w2.heap.size) 72 [e0,e1,e2,e3,e4,e5,e6,e7,e8],.tr x' [e0,e1,e2,e3,e4,e5,e6,e7,e8]] s' wr)
 case atStart=>exact⟨true,rq2.1,rq2.2,d2_0,d2_1,d2_2,d2_3,d2_4,d2_5,d2_6,d2_7,d2_8,rfl,Nat.sub_le _ _,HA1.out,HQ.out,F3.pk [(w2.heap.size),X] [0,2,1] (by simp) (by decide) rfl (by simp) (by simp)⟩
 case round=>
  obtain⟨bm0,x',s',e0,e1,e2,e3,e4,e5,e6,e7,e8,rfl,hgk,hsk',HRl,Fl⟩:=hrel;cases bm0 with
  | true=>
   have hgk2:C.L.length - s'.k≤gk:=by rw[if_pos rfl]at hgk;exact hgk
   clear hgk;have hkN:=Fl.P.kN;have hcn:=Fl.P.cx.n;obtain⟨⟨⟨xm,bm⟩,sm⟩,HMQ⟩:∃q,Hid (zCv C.L (zG C.L) x' s'=q):=⟨_,zD rfl⟩;have HMM:=zD (by have hmm:=zJb (x:=x') HL.out Fl.P.hi;rw[HMQ.out]at hmm;exact hmm);obtain⟨_,_,_,_,_,_,_,_,_⟩:=Fl.c 1;go_wp2_with fail;refine Fl.kMb 2 rfl (fun h5 W hW=>HK.out.more (q:=.assign) ⟨hW.hi,trivial⟩ hW (show s.k < s'.k+1 by omega)) HMQ.out fun w4 m0 m1 m2 m3 m4 m5 m6 m7 m8 F4=>?_;obtain⟨_,_,_,_,_,_,_,_,_⟩:=F4.sto 3;have HQR:=zD (show(if bm=true then zG C.L (.headL xm) sm else(xm,sm))=q from by
    refine Eq.trans (Eq.symm ?_) (show zG C.L (.headL x') s'=q by have h9:=HRl.out;simpa using h9);rw[zQC HL.out Fl.P.hi,HMQ.out];cases bm with
    | true=>rfl
    | false=>
     have hx:xm=x':=by
      have:=zT3 (L:=C.L) (R:=zG C.L) (x:=x') (s:=s') (by rw[HMQ.out]);rw[HMQ.out]at this;exact this
     rw[hx])
   have hmm1:=HMM.out.1;have hmm3:=HMM.out.2.1;have hmm2:=HMM.out.2.2;obtain⟨_,_,_,_,_,_,_,_,_⟩:=F4.c 1;obtain⟨_,_,_,_,_,_,_,_,_⟩:=F4.f 1;go_wp2_with fail
   go_roundg (if bm=true then C.L.length - sm.k else 0)
   case measure=>
    cases bm with
    | true=>rw[if_pos rfl];have:=hmm2 rfl;omega
    | false=>rw[if_neg (by decide)];omega
   case rel=>exact⟨bm,xm,sm,m0,m1,m2,m3,m4,m5,m6,m7,m8,rfl,yAD _,by omega,HQR.out,(F4.put 1 3).pk [(w2.heap.size),X] [0,1,3] (by simp) (by decide) rfl (by simp) (by simp)⟩
  | false=>
   have HQX:=zD (show q=(x',s')from by have h9:=HRl.out;simpa using h9.symm);clear hgk;obtain⟨_,_,_,_,_,_,_,_,_⟩:=Fl.sto 2;obtain⟨_,_,_,_,_,_,_,_,_⟩:=Fl.c 1;have HDL:=zD (fun h=>Nat.lt_irrefl _ (Fl.out.ds _ h).2);have F5:=Fl.bt 2 72 rfl;obtain⟨b2,hb2⟩:∃b,onP C.L [40] s'=b:=⟨_,rfl⟩;have HB2:=zD hb2;clear hb2;go_wp2_with fail;refine F5.kB (zAY F5.P [40] HB2.out) fun w6 F6=>?_;cases b2 with
   | false=>
    have F7:=F6.loneR (i:=3) (j:=2) rfl rfl HDL.out;go_wp2_with fail;refine F7.kQ (zAk _ _ _ _) fun w8 F8=>?_;have F9:=F8.rowK 4 rfl 51;obtain⟨_,_,_,_,_,_,_,_,_⟩:=F9.c 0;obtain⟨_,_,_,_,_,_,_,_,_⟩:=F9.f 0;go_wp2_with fail;refine zQ (F9.put 0 5) fun V10 F10=>?_;have q:=F10.c 0;exact F10.ret 5 rfl (by simp[results,results217,go_sem,q]) rfl (by
     rw[HRQ.out,HQX.out];dsimp only;rw[if_neg (by rw[HB2.out];decide)]) (fun _ h=>h)
   | true=>
    have hlt2:=zD (HL.out.on Fl.P.hi HB2.out);have hal:=zD (zHe HL.out hlt2.out);have hNN:=zD Fl.P.cx.n;go_wp2_with fail;refine F6.kLX (HK.out.more (q:=.args) ⟨F6.P.hi,hlt2.out⟩ F6.P hsk') fun ra HRA w71 A1 n1 cp1 HN1 F11=>?_;have hnl:=zD (show n1≤4097 by have:=hal.out;rw[HRA.out]at this;have:=HN1.out;have:=hNN.out;omega);go_wp2_with (at_builtin;refine F11.joinL 3 2 4 rfl rfl rfl HDL.out HN1.out hnl.out rfl _ _ rfl rfl rfl fun A3 cp3 w72 F72=>?_);go_wp2_with fail;refine F72.kQ (zAk _ _ _ _) fun w12 F12=>?_;have F13:=F12.rowK 5 rfl 51;obtain⟨_,_,_,_,_,_,_,_,_⟩:=F13.c 0;obtain⟨_,_,_,_,_,_,_,_,_⟩:=F13.f 0;go_wp2_with fail;refine zQ (F13.put 0 6) fun V14 F14=>?_;have q:=F14.c 0;exact F14.ret 6 rfl (by simp[results,results217,go_sem,q]) rfl (by
     rw[HRQ.out,HQX.out];dsimp only;rw[if_pos HB2.out,HRA.out]) (fun _ h=>h)
theorem zQF {C:Pc} {s:Ps} {w:World} (hp:Pre C.L .head s) (K:KP C (zf C.L .head s)) (h:Pa C s w):zk C s w .head:=by
 cases hon:onP C.L [110,101,119] s with
 | true=>exact zQE hp K h hon
 | false=>exact zNP hp K h hon
end Go.Proofs.YtlohaclgbfhijaaGreatDoor
