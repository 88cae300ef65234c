/- Joined for the claim EarlyRoot: the parser, the lexer and the trees as they are walked, made short by a program of mine. -/
import Derived.Deep.RegionLaw
import Derived.Test.YtlohaclgbfhijaaGreatDoorE15
import Derived.Test.YtlohaclgbfhijaaGreatDoorE01
set_option maxHeartbeats 16000000
set_option maxRecDepth 1000000
namespace Go.Proofs.YtlohaclgbfhijaaGreatDoor
open Go.Proofs.Tryz
open Go.RowKit
theorem zGn {C:Pc} {s:Ps} {w:World} (hp:Pre C.L (.primary) s) (_K:KP C (zZ C.L (.primary) s)) (h:Pa C s w) (hc:(zL C.L s.k).kind≠0∧(zL C.L s.k).kind≠2∧(zL C.L s.k).kind≠3∧(zL C.L s.k).kind≠4∧(zL C.L s.k).kind≠1) (hx:(zL C.L s.k).text=[116,114,117,101]):zc C s w (.primary):=by
 refine zAg hp h fun HL hlen hsk r W X HR hW hX F0=>?_;clear h hp;go_enter func220,ntmps220;go_upto_region 1 with(fail);clear hW hX;have HC:=zA hc;have HX:=zA hx;clear hc hx;have hlt:=zA (HL.out.lt hsk HC.out.1);obtain⟨⟨kd,tx,st,nk,nn,mg,ps,nl⟩,HT⟩:=zP C.L (s).k;go_wp2_with fail;refine F0.kT (zf F0.P HT.out) fun w1 As Am c1 c2 F1=>?_;have F2:=F1.bt 1 44 rfl;have hkd:kd≠0∧kd≠2∧kd≠3∧kd≠4∧kd≠1:=by have:=HC.out;rw[HT.out]at this;exact this
 have htx:tx=[116,114,117,101]:=by have:=HX.out;rw[HT.out]at this;exact this
 have e0:((kd:Int)==0)=false:=by rw[yA];omega
 have e1:((kd:Int)==1)=false:=by rw[yA];omega
 have e2:((kd:Int)==2)=false:=by rw[yA];omega
 have e3:((kd:Int)==3)=false:=by rw[yA];omega
 have e4:((kd:Int)==4)=false:=by rw[yA];omega
 have n0:(tx==[116,114,117,101])=true:=by rw[htx];decide
 clear hkd htx;obtain⟨_,_,_,_,_,_,_,_,_⟩:=F2.c 2;obtain⟨xk3,fk3,bk3⟩:=F2.k1;have F3:=F2.step hlt.out;obtain⟨_,_,_,_,_,_,_,_,_⟩:=F3.c 2;go_wp2_with fail;refine F3.made0 _ fun w4 F4=>?_;obtain⟨_,_,_,_,_,_,_,_,_⟩:=F4.c 0;obtain⟨_,_,_,_,_,_,_,_,_⟩:=F4.f 0;go_wp2_with fail;refine zM (F4.put 0 3) fun V5 F5=>?_;have q:=F5.c 0;exact F5.ret 3 rfl (by simp[results,results220,go_sem,q]) rfl (HR.out.symm.trans (by
  unfold zE;dsimp only;rw[if_neg HC.out.1,if_neg HC.out.2.1,if_neg HC.out.2.2.1,if_neg HC.out.2.2.2.1,if_neg HC.out.2.2.2.2,if_pos HX.out])) (fun _ h=>h)
theorem zFp {C:Pc} {s:Ps} {w:World} (hp:Pre C.L (.primary) s) (_K:KP C (zZ C.L (.primary) s)) (h:Pa C s w) (hc:(zL C.L s.k).kind≠0∧(zL C.L s.k).kind≠2∧(zL C.L s.k).kind≠3∧(zL C.L s.k).kind≠4∧(zL C.L s.k).kind≠1) (hx:(zL C.L s.k).text=[102,97,108,115,101]):zc C s w (.primary):=by
 refine zAg hp h fun HL hlen hsk r W X HR hW hX F0=>?_;clear h hp;go_enter func220,ntmps220;go_upto_region 1 with(fail);clear hW hX;have HC:=zA hc;have HX:=zA hx;clear hc hx;have hlt:=zA (HL.out.lt hsk HC.out.1);obtain⟨⟨kd,tx,st,nk,nn,mg,ps,nl⟩,HT⟩:=zP C.L (s).k;go_wp2_with fail;refine F0.kT (zf F0.P HT.out) fun w1 As Am c1 c2 F1=>?_;have F2:=F1.bt 1 44 rfl;have hkd:kd≠0∧kd≠2∧kd≠3∧kd≠4∧kd≠1:=by have:=HC.out;rw[HT.out]at this;exact this
 have htx:tx=[102,97,108,115,101]:=by have:=HX.out;rw[HT.out]at this;exact this
 have e0:((kd:Int)==0)=false:=by rw[yA];omega
 have e1:((kd:Int)==1)=false:=by rw[yA];omega
 have e2:((kd:Int)==2)=false:=by rw[yA];omega
 have e3:((kd:Int)==3)=false:=by rw[yA];omega
 have e4:((kd:Int)==4)=false:=by rw[yA];omega
 have n0:(tx==[116,114,117,101])=false:=by rw[htx];decide
 have n1:(tx==[102,97,108,115,101])=true:=by rw[htx];decide
 clear hkd htx;obtain⟨_,_,_,_,_,_,_,_,_⟩:=F2.c 2;obtain⟨xk3,fk3,bk3⟩:=F2.k1;have F3:=F2.step hlt.out;obtain⟨_,_,_,_,_,_,_,_,_⟩:=F3.c 2;go_wp2_with fail;refine F3.made0 _ fun w4 F4=>?_;obtain⟨_,_,_,_,_,_,_,_,_⟩:=F4.c 0;obtain⟨_,_,_,_,_,_,_,_,_⟩:=F4.f 0;go_wp2_with fail;refine zM (F4.put 0 3) fun V5 F5=>?_;have q:=F5.c 0;exact F5.ret 3 rfl (by simp[results,results220,go_sem,q]) rfl (HR.out.symm.trans (by
  unfold zE;dsimp only;rw[if_neg HC.out.1,if_neg HC.out.2.1,if_neg HC.out.2.2.1,if_neg HC.out.2.2.2.1,if_neg HC.out.2.2.2.2,if_neg (by rw[HX.out];decide),if_pos HX.out])) (fun _ h=>h)
theorem zGo {C:Pc} {s:Ps} {w:World} (hp:Pre C.L (.primary) s) (_K:KP C (zZ C.L (.primary) s)) (h:Pa C s w) (hc:(zL C.L s.k).kind≠0∧(zL C.L s.k).kind≠2∧(zL C.L s.k).kind≠3∧(zL C.L s.k).kind≠4∧(zL C.L s.k).kind≠1) (hx:(zL C.L s.k).text=[110,117,108,108]):zc C s w (.primary):=by
 refine zAg hp h fun HL hlen hsk r W X HR hW hX F0=>?_;clear h hp;go_enter func220,ntmps220;go_upto_region 1 with(fail);clear hW hX;have HC:=zA hc;have HX:=zA hx;clear hc hx;have hlt:=zA (HL.out.lt hsk HC.out.1);obtain⟨⟨kd,tx,st,nk,nn,mg,ps,nl⟩,HT⟩:=zP C.L (s).k;go_wp2_with fail;refine F0.kT (zf F0.P HT.out) fun w1 As Am c1 c2 F1=>?_;have F2:=F1.bt 1 44 rfl;have hkd:kd≠0∧kd≠2∧kd≠3∧kd≠4∧kd≠1:=by have:=HC.out;rw[HT.out]at this;exact this
 have htx:tx=[110,117,108,108]:=by have:=HX.out;rw[HT.out]at this;exact this
 have e0:((kd:Int)==0)=false:=by rw[yA];omega
 have e1:((kd:Int)==1)=false:=by rw[yA];omega
 have e2:((kd:Int)==2)=false:=by rw[yA];omega
 have e3:((kd:Int)==3)=false:=by rw[yA];omega
 have e4:((kd:Int)==4)=false:=by rw[yA];omega
 have n0:(tx==[116,114,117,101])=false:=by rw[htx];decide
 have n1:(tx==[102,97,108,115,101])=false:=by rw[htx];decide
 have n2:(tx==[110,117,108,108])=true:=by rw[htx];decide
 clear hkd htx;obtain⟨_,_,_,_,_,_,_,_,_⟩:=F2.c 2;obtain⟨xk3,fk3,bk3⟩:=F2.k1;have F3:=F2.step hlt.out;obtain⟨_,_,_,_,_,_,_,_,_⟩:=F3.c 2;go_wp2_with fail;refine F3.made0 _ fun w4 F4=>?_;obtain⟨_,_,_,_,_,_,_,_,_⟩:=F4.c 0;obtain⟨_,_,_,_,_,_,_,_,_⟩:=F4.f 0;go_wp2_with fail;refine zM (F4.put 0 3) fun V5 F5=>?_;have q:=F5.c 0;exact F5.ret 3 rfl (by simp[results,results220,go_sem,q]) rfl (HR.out.symm.trans (by
  unfold zE;dsimp only;rw[if_neg HC.out.1,if_neg HC.out.2.1,if_neg HC.out.2.2.1,if_neg HC.out.2.2.2.1,if_neg HC.out.2.2.2.2,if_neg (by rw[HX.out];decide),if_neg (by rw[HX.out];decide),if_pos HX.out])) (fun _ h=>h)
theorem zGp {C:Pc} {s:Ps} {w:World} (hp:Pre C.L (.primary) s) (_K:KP C (zZ C.L (.primary) s)) (h:Pa C s w) (hc:(zL C.L s.k).kind≠0∧(zL C.L s.k).kind≠2∧(zL C.L s.k).kind≠3∧(zL C.L s.k).kind≠4∧(zL C.L s.k).kind≠1) (hx:(zL C.L s.k).text=[116,104,105,115]):zc C s w (.primary):=by
 refine zAg hp h fun HL hlen hsk r W X HR hW hX F0=>?_;clear h hp;go_enter func220,ntmps220;go_upto_region 1 with(fail);clear hW hX;have HC:=zA hc;have HX:=zA hx;clear hc hx;have hlt:=zA (HL.out.lt hsk HC.out.1);obtain⟨⟨kd,tx,st,nk,nn,mg,ps,nl⟩,HT⟩:=zP C.L (s).k;go_wp2_with fail;refine F0.kT (zf F0.P HT.out) fun w1 As Am c1 c2 F1=>?_;have F2:=F1.bt 1 44 rfl;have hkd:kd≠0∧kd≠2∧kd≠3∧kd≠4∧kd≠1:=by have:=HC.out;rw[HT.out]at this;exact this
 have htx:tx=[116,104,105,115]:=by have:=HX.out;rw[HT.out]at this;exact this
 have e0:((kd:Int)==0)=false:=by rw[yA];omega
 have e1:((kd:Int)==1)=false:=by rw[yA];omega
 have e2:((kd:Int)==2)=false:=by rw[yA];omega
 have e3:((kd:Int)==3)=false:=by rw[yA];omega
 have e4:((kd:Int)==4)=false:=by rw[yA];omega
 have n0:(tx==[116,114,117,101])=false:=by rw[htx];decide
 have n1:(tx==[102,97,108,115,101])=false:=by rw[htx];decide
 have n2:(tx==[110,117,108,108])=false:=by rw[htx];decide
 have n3:(tx==[116,104,105,115])=true:=by rw[htx];decide
 clear hkd htx;obtain⟨_,_,_,_,_,_,_,_,_⟩:=F2.c 2;obtain⟨xk3,fk3,bk3⟩:=F2.k1;have F3:=F2.step hlt.out;obtain⟨_,_,_,_,_,_,_,_,_⟩:=F3.c 2;go_wp2_with fail;refine F3.made0 _ fun w4 F4=>?_;obtain⟨_,_,_,_,_,_,_,_,_⟩:=F4.c 0;obtain⟨_,_,_,_,_,_,_,_,_⟩:=F4.f 0;go_wp2_with fail;refine zM (F4.put 0 3) fun V5 F5=>?_;have q:=F5.c 0;exact F5.ret 3 rfl (by simp[results,results220,go_sem,q]) rfl (HR.out.symm.trans (by
  unfold zE;dsimp only;rw[if_neg HC.out.1,if_neg HC.out.2.1,if_neg HC.out.2.2.1,if_neg HC.out.2.2.2.1,if_neg HC.out.2.2.2.2,if_neg (by rw[HX.out];decide),if_neg (by rw[HX.out];decide),if_neg (by rw[HX.out];decide),if_pos HX.out])) (fun _ h=>h)
theorem zEz {C:Pc} {s:Ps} {w:World} (hp:Pre C.L (.primary) s) (K:KP C (zZ C.L (.primary) s)) (h:Pa C s w) (hc:(zL C.L s.k).kind≠0∧(zL C.L s.k).kind≠2∧(zL C.L s.k).kind≠3∧(zL C.L s.k).kind≠4∧(zL C.L s.k).kind≠1) (hx:(zL C.L s.k).text=[123]):zc C s w (.primary):=by
 refine zAg hp h fun HL hlen hsk r W X HR hW hX F0=>?_;have HK:=zA K;clear K h hp;go_enter func220,ntmps220;go_upto_region 1 with(fail);clear hW hX;have HC:=zA hc;have HX:=zA hx;clear hc hx;have hlt:=zA (HL.out.lt hsk HC.out.1);obtain⟨⟨kd,tx,st,nk,nn,mg,ps,nl⟩,HT⟩:=zP C.L (s).k;go_wp2_with fail;refine F0.kT (zf F0.P HT.out) fun w1 As Am c1 c2 F1=>?_;have F2:=F1.bt 1 44 rfl;have hkd:kd≠0∧kd≠2∧kd≠3∧kd≠4∧kd≠1:=by have:=HC.out;rw[HT.out]at this;exact this
 have htx:tx=[123]:=by have:=HX.out;rw[HT.out]at this;exact this
 have e0:((kd:Int)==0)=false:=by rw[yA];omega
 have e1:((kd:Int)==1)=false:=by rw[yA];omega
 have e2:((kd:Int)==2)=false:=by rw[yA];omega
 have e3:((kd:Int)==3)=false:=by rw[yA];omega
 have e4:((kd:Int)==4)=false:=by rw[yA];omega
 have n0:(tx==[116,114,117,101])=false:=by rw[htx];decide
 have n1:(tx==[102,97,108,115,101])=false:=by rw[htx];decide
 have n2:(tx==[110,117,108,108])=false:=by rw[htx];decide
 have n3:(tx==[116,104,105,115])=false:=by rw[htx];decide
 have n4:(tx==[91])=false:=by rw[htx];decide
 have n5:(tx==[123])=true:=by rw[htx];decide
 clear hkd htx;obtain⟨_,_,_,_,_,_,_,_,_⟩:=F2.c 2;obtain⟨xk3,fk3,bk3⟩:=F2.k1;have F3:=F2.step hlt.out;obtain⟨_,_,_,_,_,_,_,_,_⟩:=F3.c 2;go_wp2_with fail;refine F3.kX (HK.out.more (q:=.object) ⟨F3.P.hi,trivial⟩ F3.P (yAF s.k)) fun rq4 HRQ4 w4 d4_0 d4_1 d4_2 d4_3 d4_4 d4_5 d4_6 d4_7 d4_8 F4=>?_;obtain⟨_,_,_,_,_,_,_,_,_⟩:=F4.sto 3;obtain⟨_,_,_,_,_,_,_,_,_⟩:=F4.c 0;obtain⟨_,_,_,_,_,_,_,_,_⟩:=F4.f 0;go_wp2_with fail;refine zM (F4.put 0 3) fun V5 F5=>?_;have q:=F5.c 0;exact F5.ret 3 rfl (by simp[results,results220,go_sem,q]) rfl (HR.out.symm.trans (by
  unfold zE;dsimp only;rw[if_neg HC.out.1,if_neg HC.out.2.1,if_neg HC.out.2.2.1,if_neg HC.out.2.2.2.1,if_neg HC.out.2.2.2.2,if_neg (by rw[HX.out];decide),if_neg (by rw[HX.out];decide),if_neg (by rw[HX.out];decide),if_neg (by rw[HX.out];decide),if_neg (by rw[HX.out];decide),if_pos HX.out];simp only[HRQ4.out])) (fun _ h=>h)
theorem zFq {C:Pc} {s:Ps} {w:World} (hp:Pre C.L (.primary) s) (K:KP C (zZ C.L (.primary) s)) (h:Pa C s w) (hc:(zL C.L s.k).kind≠0∧(zL C.L s.k).kind≠2∧(zL C.L s.k).kind≠3∧(zL C.L s.k).kind≠4∧(zL C.L s.k).kind≠1) (hx:(zL C.L s.k).text=[40]):zc C s w (.primary):=by
 refine zAg hp h fun HL hlen hsk r W X HR hW hX F0=>?_;have HK:=zA K;clear K h hp;go_enter func220,ntmps220;go_upto_region 1 with(fail);clear hW hX;have HC:=zA hc;have HX:=zA hx;clear hc hx;have hlt:=zA (HL.out.lt hsk HC.out.1);obtain⟨⟨kd,tx,st,nk,nn,mg,ps,nl⟩,HT⟩:=zP C.L (s).k;go_wp2_with fail;refine F0.kT (zf F0.P HT.out) fun w1 As Am c1 c2 F1=>?_;have F2:=F1.bt 1 44 rfl;have hkd:kd≠0∧kd≠2∧kd≠3∧kd≠4∧kd≠1:=by have:=HC.out;rw[HT.out]at this;exact this
 have htx:tx=[40]:=by have:=HX.out;rw[HT.out]at this;exact this
 have e0:((kd:Int)==0)=false:=by rw[yA];omega
 have e1:((kd:Int)==1)=false:=by rw[yA];omega
 have e2:((kd:Int)==2)=false:=by rw[yA];omega
 have e3:((kd:Int)==3)=false:=by rw[yA];omega
 have e4:((kd:Int)==4)=false:=by rw[yA];omega
 have n0:(tx==[116,114,117,101])=false:=by rw[htx];decide
 have n1:(tx==[102,97,108,115,101])=false:=by rw[htx];decide
 have n2:(tx==[110,117,108,108])=false:=by rw[htx];decide
 have n3:(tx==[116,104,105,115])=false:=by rw[htx];decide
 have n4:(tx==[91])=false:=by rw[htx];decide
 have n5:(tx==[123])=false:=by rw[htx];decide
 have n6:(tx==[102,117,110,99,116,105,111,110])=false:=by rw[htx];decide
 have n7:(tx==[40])=true:=by rw[htx];decide
 clear hkd htx;obtain⟨_,_,_,_,_,_,_,_,_⟩:=F2.c 2;obtain⟨xk3,fk3,bk3⟩:=F2.k1;have F3:=F2.step hlt.out;obtain⟨_,_,_,_,_,_,_,_,_⟩:=F3.c 2;go_wp2_with fail;refine F3.kX (HK.out.more (q:=.assign) ⟨F3.P.hi,trivial⟩ F3.P (yAF s.k)) fun rq4 HRQ4 w4 d4_0 d4_1 d4_2 d4_3 d4_4 d4_5 d4_6 d4_7 d4_8 F4=>?_;obtain⟨_,_,_,_,_,_,_,_,_⟩:=F4.sto 3;have F5:=F4.bt 3 72 rfl;go_wp2_with fail;refine F5.kN (zr F5.P [41]) fun w6 F6=>?_;obtain⟨_,_,_,_,_,_,_,_,_⟩:=F6.c 4;obtain⟨_,_,_,_,_,_,_,_,_⟩:=F6.c 0;obtain⟨_,_,_,_,_,_,_,_,_⟩:=F6.f 0;go_wp2_with fail;refine zM (F6.put 0 3) fun V7 F7=>?_;have q:=F7.c 0;exact F7.ret 3 rfl (by simp[results,results220,go_sem,q]) rfl (HR.out.symm.trans (by
  unfold zE;dsimp only;rw[if_neg HC.out.1,if_neg HC.out.2.1,if_neg HC.out.2.2.1,if_neg HC.out.2.2.2.1,if_neg HC.out.2.2.2.2,if_neg (by rw[HX.out];decide),if_neg (by rw[HX.out];decide),if_neg (by rw[HX.out];decide),if_neg (by rw[HX.out];decide),if_neg (by rw[HX.out];decide),if_neg (by rw[HX.out];decide),if_neg (by rw[HX.out];decide),if_pos HX.out];simp only[HRQ4.out])) (fun _ h=>h)
theorem zGq {C:Pc} {s:Ps} {w:World} (hp:Pre C.L (.primary) s) (K:KP C (zZ C.L (.primary) s)) (h:Pa C s w) (hc:(zL C.L s.k).kind≠0∧(zL C.L s.k).kind≠2∧(zL C.L s.k).kind≠3∧(zL C.L s.k).kind≠4∧(zL C.L s.k).kind≠1) (hx:(zL C.L s.k).text=[91]):zc C s w (.primary):=by
 refine zAg hp h fun HL hlen hsk r W X HR hW hX F0=>?_;have HK:=zA K;clear K h hp;go_enter func220,ntmps220;go_upto_region 1 with(fail);clear hW hX;have HC:=zA hc;have HX:=zA hx;clear hc hx;have hlt:=zA (HL.out.lt hsk HC.out.1);obtain⟨⟨kd,tx,st,nk,nn,mg,ps,nl⟩,HT⟩:=zP C.L (s).k;go_wp2_with fail;refine F0.kT (zf F0.P HT.out) fun w1 As Am c1 c2 F1=>?_;have F2:=F1.bt 1 44 rfl;have hkd:kd≠0∧kd≠2∧kd≠3∧kd≠4∧kd≠1:=by have:=HC.out;rw[HT.out]at this;exact this
 have htx:tx=[91]:=by have:=HX.out;rw[HT.out]at this;exact this
 have e0:((kd:Int)==0)=false:=by rw[yA];omega
 have e1:((kd:Int)==1)=false:=by rw[yA];omega
 have e2:((kd:Int)==2)=false:=by rw[yA];omega
 have e3:((kd:Int)==3)=false:=by rw[yA];omega
 have e4:((kd:Int)==4)=false:=by rw[yA];omega
 have n0:(tx==[116,114,117,101])=false:=by rw[htx];decide
 have n1:(tx==[102,97,108,115,101])=false:=by rw[htx];decide
 have n2:(tx==[110,117,108,108])=false:=by rw[htx];decide
 have n3:(tx==[116,104,105,115])=false:=by rw[htx];decide
 have n4:(tx==[91])=true:=by rw[htx];decide
 clear hkd htx;obtain⟨_,_,_,_,_,_,_,_,_⟩:=F2.c 2;obtain⟨xk3,fk3,bk3⟩:=F2.k1;have F3:=F2.step hlt.out;obtain⟨_,_,_,_,_,_,_,_,_⟩:=F3.c 2;go_wp2_with fail;refine F3.kL (HK.out.more (q:=.list [93]) ⟨F3.P.hi,trivial⟩ F3.P (yAF s.k)) fun w4 Ar n0 cp hl4 _ hc4 F4=>?_;go_wp2_with fail;refine F4.kQ (zAS _ _ _ _) fun w5 F5=>?_;have F6:=F5.rowK 3 rfl 38;obtain⟨_,_,_,_,_,_,_,_,_⟩:=F6.c 0;obtain⟨_,_,_,_,_,_,_,_,_⟩:=F6.f 0;go_wp2_with fail;refine zM (F6.put 0 4) fun V7 F7=>?_;have q:=F7.c 0;exact F7.ret 4 rfl (by simp[results,results220,go_sem,q]) rfl (HR.out.symm.trans (by
  unfold zE;dsimp only;rw[if_neg HC.out.1,if_neg HC.out.2.1,if_neg HC.out.2.2.1,if_neg HC.out.2.2.2.1,if_neg HC.out.2.2.2.2,if_neg (by rw[HX.out];decide),if_neg (by rw[HX.out];decide),if_neg (by rw[HX.out];decide),if_neg (by rw[HX.out];decide),if_pos HX.out])) (fun _ h=>h)
theorem zGr {C:Pc} {s:Ps} {w:World} (hp:Pre C.L (.primary) s) (_K:KP C (zZ C.L (.primary) s)) (h:Pa C s w) (hc:(zL C.L s.k).kind=1):zc C s w (.primary):=by
 refine zAg hp h fun HL hlen hsk r W X HR hW hX F0=>?_;clear h hp;go_enter func220,ntmps220;go_upto_region 1 with(fail);clear hW hX;have HC:=zA hc;clear hc;have hlt:=zA (HL.out.lt hsk (by rw[HC.out];decide));obtain⟨⟨kd,tx,st,nk,nn,mg,ps,nl⟩,HT⟩:=zP C.L (s).k;go_wp2_with fail;refine F0.kT (zf F0.P HT.out) fun w1 As Am c1 c2 F1=>?_;have F2:=F1.bt 1 44 rfl;have hkd:kd=1:=by have:=HC.out;rw[HT.out]at this;exact this
 have e0:((kd:Int)==0)=false:=by rw[hkd];decide
 have e1:((kd:Int)==1)=true:=by rw[hkd];decide
 have e2:((kd:Int)==2)=false:=by rw[hkd];decide
 have e3:((kd:Int)==3)=false:=by rw[hkd];decide
 have e4:((kd:Int)==4)=false:=by rw[hkd];decide
 clear hkd;obtain⟨_,_,_,_,_,_,_,_,_⟩:=F2.c 2;obtain⟨xk3,fk3,bk3⟩:=F2.k1;have F3:=F2.step hlt.out;obtain⟨_,_,_,_,_,_,_,_,_⟩:=F3.c 2;go_wp2_with fail;refine F3.named0 _ tx fun w4 F4=>?_;obtain⟨_,_,_,_,_,_,_,_,_⟩:=F4.c 0;obtain⟨_,_,_,_,_,_,_,_,_⟩:=F4.f 0;go_wp2_with fail;refine zM (F4.put 0 3) fun V5 F5=>?_;have q:=F5.c 0;exact F5.ret 3 rfl (by simp[results,results220,go_sem,q]) rfl (HR.out.symm.trans (by
  unfold zE;dsimp only;rw[if_neg (by rw[HC.out];decide),if_neg (by rw[HC.out];decide),if_neg (by rw[HC.out];decide),if_neg (by rw[HC.out];decide),if_pos HC.out,HT.out])) (fun _ h=>h)
theorem zCB {C:Pc} {s:Ps} {w:World} (hp:Pre C.L (.primary) s) (K:KP C (zZ C.L (.primary) s)) (h:Pa C s w) (hc:(zL C.L s.k).kind≠0∧(zL C.L s.k).kind≠2∧(zL C.L s.k).kind≠3∧(zL C.L s.k).kind≠4∧(zL C.L s.k).kind≠1) (hx:(zL C.L s.k).text=[102,117,110,99,116,105,111,110]) (hn:(zL C.L (zB s).k).kind=1):zc C s w (.primary):=by
 refine zAg hp h fun HL hlen hsk r W X HR hW hX F0=>?_;have HK:=zA K;clear K h hp;go_enter func220,ntmps220;go_upto_region 1 with(fail);clear hW hX;have HC:=zA hc;have HX:=zA hx;clear hc hx;have hlt:=zA (HL.out.lt hsk HC.out.1);obtain⟨⟨kd,tx,st,nk,nn,mg,ps,nl⟩,HT⟩:=zP C.L (s).k;go_wp2_with fail;refine F0.kT (zf F0.P HT.out) fun w1 As Am c1 c2 F1=>?_;have F2:=F1.bt 1 44 rfl;have hkd:kd≠0∧kd≠2∧kd≠3∧kd≠4∧kd≠1:=by have:=HC.out;rw[HT.out]at this;exact this
 have htx:tx=[102,117,110,99,116,105,111,110]:=by have:=HX.out;rw[HT.out]at this;exact this
 have e0:((kd:Int)==0)=false:=by rw[yA];omega
 have e1:((kd:Int)==1)=false:=by rw[yA];omega
 have e2:((kd:Int)==2)=false:=by rw[yA];omega
 have e3:((kd:Int)==3)=false:=by rw[yA];omega
 have e4:((kd:Int)==4)=false:=by rw[yA];omega
 have n0:(tx==[116,114,117,101])=false:=by rw[htx];decide
 have n1:(tx==[102,97,108,115,101])=false:=by rw[htx];decide
 have n2:(tx==[110,117,108,108])=false:=by rw[htx];decide
 have n3:(tx==[116,104,105,115])=false:=by rw[htx];decide
 have n4:(tx==[91])=false:=by rw[htx];decide
 have n5:(tx==[123])=false:=by rw[htx];decide
 have n6:(tx==[102,117,110,99,116,105,111,110])=true:=by rw[htx];decide
 clear hkd htx;obtain⟨_,_,_,_,_,_,_,_,_⟩:=F2.c 2;obtain⟨xk3,fk3,bk3⟩:=F2.k1;have F3:=F2.step hlt.out;obtain⟨_,_,_,_,_,_,_,_,_⟩:=F3.c 2;have HN:=zA hn;clear hn;have hf0:=zRU;obtain⟨⟨kd2,tx2,st2,nk2,nn2,mg2,ps2,nl2⟩,HT2⟩:=zP C.L (zB (s)).k;have hk2:kd2=1:=by have:=HN.out;rw[HT2.out]at this;exact this
 have f1:((kd2:Int)==1)=true:=by rw[beq_iff_eq];omega
 clear hk2;go_wp2_with fail;refine F3.kT (zf F3.P HT2.out) fun w4 As2 Am2 c12 c22 F4=>?_;go_wp2_with fail;refine F4.kS (zCa F4.P) fun w5 F5=>?_;go_wp2_with fail;refine F5.kX (HK.out.more (q:=.func 41 (zd C.L (zB s)).1) ⟨F5.P.hi,trivial⟩ F5.P (yAA (yAF s.k) (zAY (s:=zB s) HL.out hlt.out).adv.le)) fun rq6 HRQ6 w6 d6_0 d6_1 d6_2 d6_3 d6_4 d6_5 d6_6 d6_7 d6_8 F6=>?_;obtain⟨_,_,_,_,_,_,_,_,_⟩:=F6.sto 4;obtain⟨_,_,_,_,_,_,_,_,_⟩:=F6.c 0;obtain⟨_,_,_,_,_,_,_,_,_⟩:=F6.f 0;go_wp2_with fail;refine zM (F6.put 0 4) fun V7 F7=>?_;have q:=F7.c 0;exact F7.ret 4 rfl (by simp[results,results220,go_sem,q]) rfl (HR.out.symm.trans (by
  unfold zE;dsimp only;rw[if_neg HC.out.1,if_neg HC.out.2.1,if_neg HC.out.2.2.1,if_neg HC.out.2.2.2.1,if_neg HC.out.2.2.2.2,if_neg (by rw[HX.out];decide),if_neg (by rw[HX.out];decide),if_neg (by rw[HX.out];decide),if_neg (by rw[HX.out];decide),if_neg (by rw[HX.out];decide),if_neg (by rw[HX.out];decide),if_pos HX.out,if_pos HN.out];simp only[HRQ6.out])) (fun _ h=>h)
theorem zCS {C:Pc} {s:Ps} {w:World} (hp:Pre C.L (.primary) s) (K:KP C (zZ C.L (.primary) s)) (h:Pa C s w) (hc:(zL C.L s.k).kind≠0∧(zL C.L s.k).kind≠2∧(zL C.L s.k).kind≠3∧(zL C.L s.k).kind≠4∧(zL C.L s.k).kind≠1) (hx:(zL C.L s.k).text=[102,117,110,99,116,105,111,110]) (hn:(zL C.L (zB s).k).kind≠1):zc C s w (.primary):=by
 refine zAg hp h fun HL hlen hsk r W X HR hW hX F0=>?_;have HK:=zA K;clear K h hp;go_enter func220,ntmps220;go_upto_region 1 with(fail);clear hW hX;have HC:=zA hc;have HX:=zA hx;clear hc hx;have hlt:=zA (HL.out.lt hsk HC.out.1);obtain⟨⟨kd,tx,st,nk,nn,mg,ps,nl⟩,HT⟩:=zP C.L (s).k;go_wp2_with fail;refine F0.kT (zf F0.P HT.out) fun w1 As Am c1 c2 F1=>?_;have F2:=F1.bt 1 44 rfl;have hkd:kd≠0∧kd≠2∧kd≠3∧kd≠4∧kd≠1:=by have:=HC.out;rw[HT.out]at this;exact this
 have htx:tx=[102,117,110,99,116,105,111,110]:=by have:=HX.out;rw[HT.out]at this;exact this
 have e0:((kd:Int)==0)=false:=by rw[yA];omega
 have e1:((kd:Int)==1)=false:=by rw[yA];omega
 have e2:((kd:Int)==2)=false:=by rw[yA];omega
 have e3:((kd:Int)==3)=false:=by rw[yA];omega
 have e4:((kd:Int)==4)=false:=by rw[yA];omega
 have n0:(tx==[116,114,117,101])=false:=by rw[htx];decide
 have n1:(tx==[102,97,108,115,101])=false:=by rw[htx];decide
 have n2:(tx==[110,117,108,108])=false:=by rw[htx];decide
 have n3:(tx==[116,104,105,115])=false:=by rw[htx];decide
 have n4:(tx==[91])=false:=by rw[htx];decide
 have n5:(tx==[123])=false:=by rw[htx];decide
 have n6:(tx==[102,117,110,99,116,105,111,110])=true:=by rw[htx];decide
 clear hkd htx;obtain⟨_,_,_,_,_,_,_,_,_⟩:=F2.c 2;obtain⟨xk3,fk3,bk3⟩:=F2.k1;have F3:=F2.step hlt.out;obtain⟨_,_,_,_,_,_,_,_,_⟩:=F3.c 2;have HN:=zA hn;clear hn;have hf0:=zRU;obtain⟨⟨kd2,tx2,st2,nk2,nn2,mg2,ps2,nl2⟩,HT2⟩:=zP C.L (zB (s)).k;have hk2:kd2≠1:=by have:=HN.out;rw[HT2.out]at this;exact this
 have f1:((kd2:Int)==1)=false:=by rw[yA];omega
 clear hk2;go_wp2_with fail;refine F3.kT (zf F3.P HT2.out) fun w4 As2 Am2 c12 c22 F4=>?_;go_wp2_with fail;refine F4.kX (HK.out.more (q:=.func 41 []) ⟨F4.P.hi,trivial⟩ F4.P (yAF s.k)) fun rq5 HRQ5 w5 d5_0 d5_1 d5_2 d5_3 d5_4 d5_5 d5_6 d5_7 d5_8 F5=>?_;obtain⟨_,_,_,_,_,_,_,_,_⟩:=F5.sto 4;obtain⟨_,_,_,_,_,_,_,_,_⟩:=F5.c 0;obtain⟨_,_,_,_,_,_,_,_,_⟩:=F5.f 0;go_wp2_with fail;refine zM (F5.put 0 4) fun V6 F6=>?_;have q:=F6.c 0;exact F6.ret 4 rfl (by simp[results,results220,go_sem,q]) rfl (HR.out.symm.trans (by
  unfold zE;dsimp only;rw[if_neg HC.out.1,if_neg HC.out.2.1,if_neg HC.out.2.2.1,if_neg HC.out.2.2.2.1,if_neg HC.out.2.2.2.2,if_neg (by rw[HX.out];decide),if_neg (by rw[HX.out];decide),if_neg (by rw[HX.out];decide),if_neg (by rw[HX.out];decide),if_neg (by rw[HX.out];decide),if_neg (by rw[HX.out];decide),if_pos HX.out,if_neg HN.out];simp only[HRQ5.out])) (fun _ h=>h)
theorem zHf {C:Pc} {s:Ps} {w:World} (hp:Pre C.L (.primary) s) (_K:KP C (zZ C.L (.primary) s)) (h:Pa C s w) (hc:(zL C.L s.k).kind=0):zc C s w (.primary):=by
 refine zAg hp h fun HL hlen hsk r W X HR hW hX F0=>?_;clear h hp;go_enter func220,ntmps220;go_upto_region 1 with(fail);clear hW hX;have HC:=zA hc;clear hc;obtain⟨⟨kd,tx,st,nk,nn,mg,ps,nl⟩,HT⟩:=zP C.L (s).k;go_wp2_with fail;refine F0.kT (zf F0.P HT.out) fun w1 As Am c1 c2 F1=>?_;have F2:=F1.bt 1 44 rfl;have e0:((kd:Int)==0)=true:=by have:=HC.out;rw[HT.out]at this;have:kd=0:=this;rw[this];decide
 obtain⟨_,_,_,_,_,_,_,_,_⟩:=F2.c 2;go_wp2_with fail;refine F2.kN (zu F2.P) fun w3 F3=>?_;have F4:=F3.leafK 0;obtain⟨_,_,_,_,_,_,_,_,_⟩:=F4.c 0;obtain⟨_,_,_,_,_,_,_,_,_⟩:=F4.f 0;go_wp2_with fail;refine zM (F4.put 0 3) fun V5 F5=>?_;have q:=F5.c 0;exact F5.ret 3 rfl (by simp[results,results220,go_sem,q]) rfl (HR.out.symm.trans (by
  unfold zE;dsimp only;rw[if_pos HC.out])) (fun _ h=>h)
theorem zFr {C:Pc} {s:Ps} {w:World} (hp:Pre C.L (.primary) s) (_K:KP C (zZ C.L (.primary) s)) (h:Pa C s w) (hc:(zL C.L s.k).kind≠0∧(zL C.L s.k).kind≠2∧(zL C.L s.k).kind≠3∧(zL C.L s.k).kind≠4∧(zL C.L s.k).kind≠1) (x0:(zL C.L s.k).text≠[116,114,117,101]) (x1:(zL C.L s.k).text≠[102,97,108,115,101]) (x2:(zL C.L s.k).text≠[110,117,108,108]) (x3:(zL C.L s.k).text≠[116,104,105,115]) (x4:(zL C.L s.k).text≠[91]) (x5:(zL C.L s.k).text≠[123]) (x6:(zL C.L s.k).text≠[102,117,110,99,116,105,111,110]) (x7:(zL C.L s.k).text≠[40]) (v1:onP C.L [47] s=true):zc C s w (.primary):=by
 refine zAg hp h fun HL hlen hsk r W X HR hW hX F0=>?_;clear h hp;go_enter func220,ntmps220;go_upto_region 1 with(fail);clear hW hX;have HC:=zA hc;have HV1:=zA v1;have X0:=zA x0;have X1:=zA x1;have X2:=zA x2;have X3:=zA x3;have X4:=zA x4;have X5:=zA x5;have X6:=zA x6;have X7:=zA x7;clear hc v1 x0 x1 x2 x3 x4 x5 x6 x7;have hlt:=zA (HL.out.lt hsk HC.out.1);obtain⟨⟨kd,tx,st,nk,nn,mg,ps,nl⟩,HT⟩:=zP C.L (s).k;go_wp2_with fail;refine F0.kT (zf F0.P HT.out) fun w1 As Am c1 c2 F1=>?_;have F2:=F1.bt 1 44 rfl;have hkd:kd≠0∧kd≠2∧kd≠3∧kd≠4∧kd≠1:=by have:=HC.out;rw[HT.out]at this;exact this
 have e0:((kd:Int)==0)=false:=by rw[yA];omega
 have e1:((kd:Int)==1)=false:=by rw[yA];omega
 have e2:((kd:Int)==2)=false:=by rw[yA];omega
 have e3:((kd:Int)==3)=false:=by rw[yA];omega
 have e4:((kd:Int)==4)=false:=by rw[yA];omega
 have n0:(tx==[116,114,117,101])=false:=by have:=X0.out;rw[HT.out]at this;exact yA.mpr this
 have n1:(tx==[102,97,108,115,101])=false:=by have:=X1.out;rw[HT.out]at this;exact yA.mpr this
 have n2:(tx==[110,117,108,108])=false:=by have:=X2.out;rw[HT.out]at this;exact yA.mpr this
 have n3:(tx==[116,104,105,115])=false:=by have:=X3.out;rw[HT.out]at this;exact yA.mpr this
 have n4:(tx==[91])=false:=by have:=X4.out;rw[HT.out]at this;exact yA.mpr this
 have n5:(tx==[123])=false:=by have:=X5.out;rw[HT.out]at this;exact yA.mpr this
 have n6:(tx==[102,117,110,99,116,105,111,110])=false:=by have:=X6.out;rw[HT.out]at this;exact yA.mpr this
 have n7:(tx==[40])=false:=by have:=X7.out;rw[HT.out]at this;exact yA.mpr this
 clear hkd;obtain⟨_,_,_,_,_,_,_,_,_⟩:=F2.c 2;obtain⟨xk3,fk3,bk3⟩:=F2.k1;have F3:=F2.step hlt.out;obtain⟨_,_,_,_,_,_,_,_,_⟩:=F3.c 2;have F4:=F3.back hsk;go_wp2_with fail;refine F4.kB (zAL F4.P [47] HV1.out) fun w5 F5=>?_;go_wp2_with fail;refine F5.kN (zBq F5.P 6 (by decide)) fun w6 F6=>?_;have F7:=F6.leafK 0;obtain⟨_,_,_,_,_,_,_,_,_⟩:=F7.c 0;obtain⟨_,_,_,_,_,_,_,_,_⟩:=F7.f 0;go_wp2_with fail;refine zM (F7.put 0 3) fun V8 F8=>?_;have q:=F8.c 0;exact F8.ret 3 rfl (by simp[results,results220,go_sem,q]) rfl (HR.out.symm.trans (by
  unfold zE;dsimp only;rw[if_neg HC.out.1,if_neg HC.out.2.1,if_neg HC.out.2.2.1,if_neg HC.out.2.2.2.1,if_neg HC.out.2.2.2.2,if_neg X0.out,if_neg X1.out,if_neg X2.out,if_neg X3.out,if_neg X4.out,if_neg X5.out,if_neg X6.out,if_neg X7.out];simp[HV1.out])) (fun _ h=>h)
theorem zE0 {C:Pc} {s:Ps} {w:World} (hp:Pre C.L (.primary) s) (_K:KP C (zZ C.L (.primary) s)) (h:Pa C s w) (hc:(zL C.L s.k).kind≠0∧(zL C.L s.k).kind≠2∧(zL C.L s.k).kind≠3∧(zL C.L s.k).kind≠4∧(zL C.L s.k).kind≠1) (x0:(zL C.L s.k).text≠[116,114,117,101]) (x1:(zL C.L s.k).text≠[102,97,108,115,101]) (x2:(zL C.L s.k).text≠[110,117,108,108]) (x3:(zL C.L s.k).text≠[116,104,105,115]) (x4:(zL C.L s.k).text≠[91]) (x5:(zL C.L s.k).text≠[123]) (x6:(zL C.L s.k).text≠[102,117,110,99,116,105,111,110]) (x7:(zL C.L s.k).text≠[40]) (v1:onP C.L [47] s=false) (v2:onP C.L [47,61] s=true):zc C s w (.primary):=by
 refine zAg hp h fun HL hlen hsk r W X HR hW hX F0=>?_;clear h hp;go_enter func220,ntmps220;go_upto_region 1 with(fail);clear hW hX;have HC:=zA hc;have HV1:=zA v1;have HV2:=zA v2;have X0:=zA x0;have X1:=zA x1;have X2:=zA x2;have X3:=zA x3;have X4:=zA x4;have X5:=zA x5;have X6:=zA x6;have X7:=zA x7;clear hc v1 v2 x0 x1 x2 x3 x4 x5 x6 x7;have hlt:=zA (HL.out.lt hsk HC.out.1);obtain⟨⟨kd,tx,st,nk,nn,mg,ps,nl⟩,HT⟩:=zP C.L (s).k;go_wp2_with fail;refine F0.kT (zf F0.P HT.out) fun w1 As Am c1 c2 F1=>?_;have F2:=F1.bt 1 44 rfl;have hkd:kd≠0∧kd≠2∧kd≠3∧kd≠4∧kd≠1:=by have:=HC.out;rw[HT.out]at this;exact this
 have e0:((kd:Int)==0)=false:=by rw[yA];omega
 have e1:((kd:Int)==1)=false:=by rw[yA];omega
 have e2:((kd:Int)==2)=false:=by rw[yA];omega
 have e3:((kd:Int)==3)=false:=by rw[yA];omega
 have e4:((kd:Int)==4)=false:=by rw[yA];omega
 have n0:(tx==[116,114,117,101])=false:=by have:=X0.out;rw[HT.out]at this;exact yA.mpr this
 have n1:(tx==[102,97,108,115,101])=false:=by have:=X1.out;rw[HT.out]at this;exact yA.mpr this
 have n2:(tx==[110,117,108,108])=false:=by have:=X2.out;rw[HT.out]at this;exact yA.mpr this
 have n3:(tx==[116,104,105,115])=false:=by have:=X3.out;rw[HT.out]at this;exact yA.mpr this
 have n4:(tx==[91])=false:=by have:=X4.out;rw[HT.out]at this;exact yA.mpr this
 have n5:(tx==[123])=false:=by have:=X5.out;rw[HT.out]at this;exact yA.mpr this
 have n6:(tx==[102,117,110,99,116,105,111,110])=false:=by have:=X6.out;rw[HT.out]at this;exact yA.mpr this
 have n7:(tx==[40])=false:=by have:=X7.out;rw[HT.out]at this;exact yA.mpr this
 clear hkd;obtain⟨_,_,_,_,_,_,_,_,_⟩:=F2.c 2;obtain⟨xk3,fk3,bk3⟩:=F2.k1;have F3:=F2.step hlt.out;obtain⟨_,_,_,_,_,_,_,_,_⟩:=F3.c 2;have F4:=F3.back hsk;go_wp2_with fail;refine F4.kB (zAL F4.P [47] HV1.out) fun w5 F5=>?_;go_wp2_with fail;refine F5.kB (zAL F5.P [47,61] HV2.out) fun w6 F6=>?_;go_wp2_with fail;refine F6.kN (zBq F6.P 6 (by decide)) fun w7 F7=>?_;have F8:=F7.leafK 0;obtain⟨_,_,_,_,_,_,_,_,_⟩:=F8.c 0;obtain⟨_,_,_,_,_,_,_,_,_⟩:=F8.f 0;go_wp2_with fail;refine zM (F8.put 0 3) fun V9 F9=>?_;have q:=F9.c 0;exact F9.ret 3 rfl (by simp[results,results220,go_sem,q]) rfl (HR.out.symm.trans (by
  unfold zE;dsimp only;rw[if_neg HC.out.1,if_neg HC.out.2.1,if_neg HC.out.2.2.1,if_neg HC.out.2.2.2.1,if_neg HC.out.2.2.2.2,if_neg X0.out,if_neg X1.out,if_neg X2.out,if_neg X3.out,if_neg X4.out,if_neg X5.out,if_neg X6.out,if_neg X7.out];simp[HV1.out,HV2.out])) (fun _ h=>h)
theorem zFs {C:Pc} {s:Ps} {w:World} (hp:Pre C.L (.primary) s) (_K:KP C (zZ C.L (.primary) s)) (h:Pa C s w) (hc:(zL C.L s.k).kind≠0∧(zL C.L s.k).kind≠2∧(zL C.L s.k).kind≠3∧(zL C.L s.k).kind≠4∧(zL C.L s.k).kind≠1) (x0:(zL C.L s.k).text≠[116,114,117,101]) (x1:(zL C.L s.k).text≠[102,97,108,115,101]) (x2:(zL C.L s.k).text≠[110,117,108,108]) (x3:(zL C.L s.k).text≠[116,104,105,115]) (x4:(zL C.L s.k).text≠[91]) (x5:(zL C.L s.k).text≠[123]) (x6:(zL C.L s.k).text≠[102,117,110,99,116,105,111,110]) (x7:(zL C.L s.k).text≠[40]) (v1:onP C.L [47] s=false) (v2:onP C.L [47,61] s=false):zc C s w (.primary):=by
 refine zAg hp h fun HL hlen hsk r W X HR hW hX F0=>?_;clear h hp;go_enter func220,ntmps220;go_upto_region 1 with(fail);clear hW hX;have HC:=zA hc;have HV1:=zA v1;have HV2:=zA v2;have X0:=zA x0;have X1:=zA x1;have X2:=zA x2;have X3:=zA x3;have X4:=zA x4;have X5:=zA x5;have X6:=zA x6;have X7:=zA x7;clear hc v1 v2 x0 x1 x2 x3 x4 x5 x6 x7;have hlt:=zA (HL.out.lt hsk HC.out.1);obtain⟨⟨kd,tx,st,nk,nn,mg,ps,nl⟩,HT⟩:=zP C.L (s).k;go_wp2_with fail;refine F0.kT (zf F0.P HT.out) fun w1 As Am c1 c2 F1=>?_;have F2:=F1.bt 1 44 rfl;have hkd:kd≠0∧kd≠2∧kd≠3∧kd≠4∧kd≠1:=by have:=HC.out;rw[HT.out]at this;exact this
 have e0:((kd:Int)==0)=false:=by rw[yA];omega
 have e1:((kd:Int)==1)=false:=by rw[yA];omega
 have e2:((kd:Int)==2)=false:=by rw[yA];omega
 have e3:((kd:Int)==3)=false:=by rw[yA];omega
 have e4:((kd:Int)==4)=false:=by rw[yA];omega
 have n0:(tx==[116,114,117,101])=false:=by have:=X0.out;rw[HT.out]at this;exact yA.mpr this
 have n1:(tx==[102,97,108,115,101])=false:=by have:=X1.out;rw[HT.out]at this;exact yA.mpr this
 have n2:(tx==[110,117,108,108])=false:=by have:=X2.out;rw[HT.out]at this;exact yA.mpr this
 have n3:(tx==[116,104,105,115])=false:=by have:=X3.out;rw[HT.out]at this;exact yA.mpr this
 have n4:(tx==[91])=false:=by have:=X4.out;rw[HT.out]at this;exact yA.mpr this
 have n5:(tx==[123])=false:=by have:=X5.out;rw[HT.out]at this;exact yA.mpr this
 have n6:(tx==[102,117,110,99,116,105,111,110])=false:=by have:=X6.out;rw[HT.out]at this;exact yA.mpr this
 have n7:(tx==[40])=false:=by have:=X7.out;rw[HT.out]at this;exact yA.mpr this
 clear hkd;obtain⟨_,_,_,_,_,_,_,_,_⟩:=F2.c 2;obtain⟨xk3,fk3,bk3⟩:=F2.k1;have F3:=F2.step hlt.out;obtain⟨_,_,_,_,_,_,_,_,_⟩:=F3.c 2;have F4:=F3.back hsk;go_wp2_with fail;refine F4.kB (zAL F4.P [47] HV1.out) fun w5 F5=>?_;go_wp2_with fail;refine F5.kB (zAL F5.P [47,61] HV2.out) fun w6 F6=>?_;go_wp2_with fail;refine F6.kN (zu F6.P) fun w7 F7=>?_;have F8:=F7.leafK 0;obtain⟨_,_,_,_,_,_,_,_,_⟩:=F8.c 0;obtain⟨_,_,_,_,_,_,_,_,_⟩:=F8.f 0;go_wp2_with fail;refine zM (F8.put 0 3) fun V9 F9=>?_;have q:=F9.c 0;exact F9.ret 3 rfl (by simp[results,results220,go_sem,q]) rfl (HR.out.symm.trans (by
  unfold zE;dsimp only;rw[if_neg HC.out.1,if_neg HC.out.2.1,if_neg HC.out.2.2.1,if_neg HC.out.2.2.2.1,if_neg HC.out.2.2.2.2,if_neg X0.out,if_neg X1.out,if_neg X2.out,if_neg X3.out,if_neg X4.out,if_neg X5.out,if_neg X6.out,if_neg X7.out];simp[HV1.out,HV2.out])) (fun _ h=>h)
theorem zE1 {C:Pc} {s:Ps} {w:World} (hp:Pre C.L (.primary) s) (_K:KP C (zZ C.L (.primary) s)) (h:Pa C s w) (hc:(zL C.L s.k).kind=2):zc C s w (.primary):=by
 refine zAg hp h fun HL hlen hsk r W X HR hW hX F0=>?_;clear h hp;go_enter func220,ntmps220;go_upto_region 1 with(fail);clear hW hX;have HC:=zA hc;clear hc;have hlt:=zA (HL.out.lt hsk (by rw[HC.out];decide));obtain⟨⟨kd,tx,st,nk,nn,mg,ps,nl⟩,HT⟩:=zP C.L (s).k;go_wp2_with fail;refine F0.kTl (zf F0.P HT.out) fun w1 As Am c1 c2 F1=>?_;have F2:=F1.bt 1 44 rfl;have hkd:kd=2:=by have:=HC.out;rw[HT.out]at this;exact this
 have e0:((kd:Int)==0)=false:=by rw[hkd];decide
 have e2:((kd:Int)==2)=true:=by rw[hkd];decide
 have e3:((kd:Int)==3)=false:=by rw[hkd];decide
 have e4:((kd:Int)==4)=false:=by rw[hkd];decide
 clear hkd;obtain⟨_,_,_,_,_,_,_,_,_⟩:=F2.c 4;obtain⟨xk3,fk3,bk3⟩:=F2.k1;have F3:=F2.step hlt.out;obtain⟨_,_,_,_,_,_,_,_,_⟩:=F3.c 4;have F4:=F3.leafX {zBg with kind:=30,nk:=nk,nn:=nn} rfl (yAJ _ _ _ _) (yAJ _ _ _ _);obtain⟨_,_,_,_,_,_,_,_,_⟩:=F4.c 0;obtain⟨_,_,_,_,_,_,_,_,_⟩:=F4.f 0;go_wp2_with fail;refine zM (F4.put 0 5) fun V5 F5=>?_;have q:=F5.c 0;exact F5.ret 5 rfl (by simp[results,results220,go_sem,q,zBg]) rfl (HR.out.symm.trans (by
  unfold zE;dsimp only;rw[if_neg (by rw[HC.out];decide),if_pos HC.out,HT.out])) (fun _ h=>h)
theorem zHg {C:Pc} {s:Ps} {w:World} (hp:Pre C.L (.primary) s) (_K:KP C (zZ C.L (.primary) s)) (h:Pa C s w) (hc:(zL C.L s.k).kind=3):zc C s w (.primary):=by
 refine zAg hp h fun HL hlen hsk r W X HR hW hX F0=>?_;clear h hp;go_enter func220,ntmps220;go_upto_region 1 with(fail);clear hW hX;have HC:=zA hc;clear hc;have hlt:=zA (HL.out.lt hsk (by rw[HC.out];decide));obtain⟨⟨kd,tx,st,nk,nn,mg,ps,nl⟩,HT⟩:=zP C.L (s).k;go_wp2_with fail;refine F0.kTl (zf F0.P HT.out) fun w1 As Am c1 c2 F1=>?_;have F2:=F1.bt 1 44 rfl;have hkd:kd=3:=by have:=HC.out;rw[HT.out]at this;exact this
 have e0:((kd:Int)==0)=false:=by rw[hkd];decide
 have e2:((kd:Int)==2)=false:=by rw[hkd];decide
 have e3:((kd:Int)==3)=true:=by rw[hkd];decide
 have e4:((kd:Int)==4)=false:=by rw[hkd];decide
 clear hkd;obtain⟨_,_,_,_,_,_,_,_,_⟩:=F2.c 4;obtain⟨xk3,fk3,bk3⟩:=F2.k1;have F3:=F2.step hlt.out;obtain⟨_,_,_,_,_,_,_,_,_⟩:=F3.c 4;have F4:=F3.leafX {zBg with kind:=31,mag:=mg} rfl (yAJ _ _ _ _) ((F3.l 3));obtain⟨_,_,_,_,_,_,_,_,_⟩:=F4.c 0;obtain⟨_,_,_,_,_,_,_,_,_⟩:=F4.f 0;go_wp2_with fail;refine zM (F4.put 0 5) fun V5 F5=>?_;have q:=F5.c 0;exact F5.ret 5 rfl (by simp[results,results220,go_sem,q,zBg]) rfl (HR.out.symm.trans (by
  unfold zE;dsimp only;rw[if_neg (by rw[HC.out];decide),if_neg (by rw[HC.out];decide),if_pos HC.out,HT.out])) (fun _ h=>h)
theorem zE2 {C:Pc} {s:Ps} {w:World} (hp:Pre C.L (.primary) s) (_K:KP C (zZ C.L (.primary) s)) (h:Pa C s w) (hc:(zL C.L s.k).kind=4):zc C s w (.primary):=by
 refine zAg hp h fun HL hlen hsk r W X HR hW hX F0=>?_;clear h hp;go_enter func220,ntmps220;go_upto_region 1 with(fail);clear hW hX;have HC:=zA hc;clear hc;have hlt:=zA (HL.out.lt hsk (by rw[HC.out];decide));obtain⟨⟨kd,tx,st,nk,nn,mg,ps,nl⟩,HT⟩:=zP C.L (s).k;go_wp2_with fail;refine F0.kTl (zf F0.P HT.out) fun w1 As Am c1 c2 F1=>?_;have F2:=F1.bt 1 44 rfl;have hkd:kd=4:=by have:=HC.out;rw[HT.out]at this;exact this
 have e0:((kd:Int)==0)=false:=by rw[hkd];decide
 have e2:((kd:Int)==2)=false:=by rw[hkd];decide
 have e3:((kd:Int)==3)=false:=by rw[hkd];decide
 have e4:((kd:Int)==4)=true:=by rw[hkd];decide
 clear hkd;obtain⟨_,_,_,_,_,_,_,_,_⟩:=F2.c 4;obtain⟨xk3,fk3,bk3⟩:=F2.k1;have F3:=F2.step hlt.out;obtain⟨_,_,_,_,_,_,_,_,_⟩:=F3.c 4;have F4:=F3.leafX {zBg with kind:=32,str:=st} rfl ((F3.l 2)) (yAJ _ _ _ _);obtain⟨_,_,_,_,_,_,_,_,_⟩:=F4.c 0;obtain⟨_,_,_,_,_,_,_,_,_⟩:=F4.f 0;go_wp2_with fail;refine zM (F4.put 0 5) fun V5 F5=>?_;have q:=F5.c 0;exact F5.ret 5 rfl (by simp[results,results220,go_sem,q,zBg]) rfl (HR.out.symm.trans (by
  unfold zE;dsimp only;rw[if_neg (by rw[HC.out];decide),if_neg (by rw[HC.out];decide),if_neg (by rw[HC.out];decide),if_pos HC.out,HT.out])) (fun _ h=>h)
theorem zHh {C:Pc} {s:Ps} {w:World} (hp:Pre C.L .primary s) (K:KP C (zZ C.L .primary s)) (h:Pa C s w):zc C s w .primary:=by
 by_cases k0:(zL C.L s.k).kind=0
 · exact zHf hp K h k0
 by_cases k2:(zL C.L s.k).kind=2
 · exact zE1 hp K h k2
 by_cases k3:(zL C.L s.k).kind=3
 · exact zHg hp K h k3
 by_cases k4:(zL C.L s.k).kind=4
 · exact zE2 hp K h k4
 by_cases k1:(zL C.L s.k).kind=1
 · exact zGr hp K h k1
 have kk:=And.intro k0 (And.intro k2 (And.intro k3 (And.intro k4 k1)))
 by_cases x0:(zL C.L s.k).text=[116,114,117,101]
 · exact zGn hp K h kk x0
 by_cases x1:(zL C.L s.k).text=[102,97,108,115,101]
 · exact zFp hp K h kk x1
 by_cases x2:(zL C.L s.k).text=[110,117,108,108]
 · exact zGo hp K h kk x2
 by_cases x3:(zL C.L s.k).text=[116,104,105,115]
 · exact zGp hp K h kk x3
 by_cases x4:(zL C.L s.k).text=[91]
 · exact zGq hp K h kk x4
 by_cases x5:(zL C.L s.k).text=[123]
 · exact zEz hp K h kk x5
 by_cases x6:(zL C.L s.k).text=[102,117,110,99,116,105,111,110]
 · by_cases hn:(zL C.L (zB s).k).kind=1
   · exact zCB hp K h kk x6 hn
   · exact zCS hp K h kk x6 hn
 by_cases x7:(zL C.L s.k).text=[40]
 · exact zFq hp K h kk x7
 cases v1:onP C.L [47] s with
 | true=>exact zFr hp K h kk x0 x1 x2 x3 x4 x5 x6 x7 v1
 | false=>
  cases v2:onP C.L [47,61] s with
  | true=>exact zE0 hp K h kk x0 x1 x2 x3 x4 x5 x6 x7 v1 v2
  | false=>exact zFs hp K h kk x0 x1 x2 x3 x4 x5 x6 x7 v1 v2
def zB9 (L:List Tok) (R:Ph→Ps→Tr×Ps) (x:Tr) (s:Ps):(Tr×Bool)×Ps:=
 if onP L [46] s=true then
  (if(zL L (zB s).k).kind≠1∧(zL L (zB s).k).kind≠6 then((x,false),zY L (zB s))else((trN 52 (zL L (zB s).k).text [x],true),zB (zB s)))
 else if onP L [91] s=true then((trK 53 [x,(R .assign (zB s)).1],true),zN L [93] (R .assign (zB s)).2)
 else((x,false),s)
theorem zGs {L:List Tok} (hL:Lst L) {x:Tr} {s:Ps} (hs:s.k≤L.length - 1) (hn:¬onP L [40] s=true):zF L (.callsL x) s=if(zB9 L (zF L) x s).1.2=true then zF L (.callsL (zB9 L (zF L) x s).1.1) (zB9 L (zF L) x s).2 else(x,(zB9 L (zF L) x s).2):=by
 rw[zAH hL ⟨hs,trivial⟩];unfold zE zB9;dsimp only;rw[if_neg hn];split
 · split<;>rfl
 · split<;>rfl
theorem zOG {L:List Tok} (hL:Lst L) {x:Tr} {s:Ps} (hs:s.k≤L.length - 1):zF L (.headL x) s=if(zB9 L (zF L) x s).1.2=true then zF L (.headL (zB9 L (zF L) x s).1.1) (zB9 L (zF L) x s).2 else(x,(zB9 L (zF L) x s).2):=by
 rw[zAH hL ⟨hs,trivial⟩];unfold zE zB9;dsimp only;split
 · split<;>rfl
 · split<;>rfl
theorem zQ2 {L:List Tok} {R:Ph→Ps→Tr×Ps} {x:Tr} {s:Ps} (h:(zB9 L R x s).1.2=false):(zB9 L R x s).1.1=x:=by
 unfold zB9 at h⊢;split
 · rename_i c
   rw[if_pos c]at h;split
   · rfl
   · rename_i c2;rw[if_neg c2]at h;cases h
 · rename_i c
   rw[if_neg c]at h;split
   · rename_i c2;rw[if_pos c2]at h;cases h
   · rfl
theorem zIX {L:List Tok} (hL:Lst L) {x:Tr} {s:Ps} (hs:s.k≤L.length - 1):s.k≤(zB9 L (zF L) x s).2.k∧(zB9 L (zF L) x s).2.k≤L.length - 1∧((zB9 L (zF L) x s).1.2=true→s.k < (zB9 L (zF L) x s).2.k):=by
 unfold zB9;split
 · rename_i c
   have h1:s.k+1≤L.length - 1:=hL.on hs c;split
   · exact⟨hs,yAC _,fun h=>by cases h⟩
   · rename_i c2
     have h2:s.k+1 < L.length - 1:=hL.lt (s:=zB s) h1 (by omega);exact⟨(by show s.k≤s.k+1+1;omega),(by show s.k+1+1≤_;omega),fun _=>(by show s.k < s.k+1+1;omega)⟩
 · split
   · rename_i c
     have h1:s.k+1≤L.length - 1:=hL.on hs c;have h2:=(zV hL (p:=.assign) (s:=zB s) ⟨h1,trivial⟩).adv;have h3:=(zU (w:=[93]) hL h2.hi).adv;have:(zB s).k=s.k+1:=rfl;have:=h2.le;have:=h3.le;exact⟨by dsimp only;omega,h3.hi,fun _=>by dsimp only;omega⟩
   · exact⟨yAC _,hs,fun h=>by cases h⟩
def zQP (C:Pc) (Q:Nat→Prop) (r:(Tr×Bool)×Ps) (w:World) (e:Ending) (w':World):Prop:=
 ∃d0 d1 d2 d3 d4 d5 d6 d7 d8,e=.returned (.tuple #[.agg #[d0,d1,d2,d3,d4,d5,d6,d7,d8],.bool r.1.2])∧TrC w' (fun b=>Q b∨w.heap.size≤b) r.1.1 [d0,d1,d2,d3,d4,d5,d6,d7,d8]∧Pa C r.2 w'∧w.grownBy w' (some C.g)
theorem Fr.retM {C:Pc} {Q:Nat→Prop} {a w:World} {D:List Nat} {os:List Ob} {s:Ps} {Pg:Program} {fn:Func} {A:Act} {p:(Tr×Bool)×Ps} {t:Tr} {b:Bool} (F:Fr C (fun b=>Q b∨a.heap.size≤b) a D os s w) (j:Nat) {d0 d1 d2 d3 d4 d5 d6 d7 d8:Value} (hj:os[j]? =some (.tr t [d0,d1,d2,d3,d4,d5,d6,d7,d8])) (hr:(results fn A.tmps).run Pg w=.ok (.tuple #[.agg #[d0,d1,d2,d3,d4,d5,d6,d7,d8],.bool b]) w) (hd:A.defers=[]) (e:p=((t,b),s)):bodyPost Pg fn (zQP C Q p a) .ret A w:=by
 subst e;exact bodyPost_ret hr hd ⟨d0,d1,d2,d3,d4,d5,d6,d7,d8,rfl,TrC.sub (fun b hb _=>hb.1) _ _ (F.t j hj),F.P,F.out.gr⟩
theorem zL0 {C:Pc} {Q:Nat→Prop} {x:Tr} {s:Ps} {w:World} {d0 d1 d2 d3 d4 d5 d6 d7 d8:Value} (h:Pa C s w) (KA:onP C.L [91] s=true→∀W,Pa C (zB s) W→zc C (zB s) W .assign) (hQ:∀b,Q b→C.g < b) (ht:TrC w Q x [d0,d1,d2,d3,d4,d5,d6,d7,d8]) (h1:onP C.L [46] s=false) (h2:onP C.L [91] s=false):
 Calls prog 219 #[.pointer (some ⟨C.g,0,none⟩),.agg #[d0,d1,d2,d3,d4,d5,d6,d7,d8]] w (zQP C Q (zB9 C.L (zF C.L) x s) w):=by
 generalize hr:zB9 C.L (zF C.L) x s=r;have HR:=zA hr;clear hr;refine zQ1 h hQ ht fun HL hlen hsk W0 W R X hW0 hW hRw hz0 hX F0=>?_;have HKA:=zA KA;have HO1:=zA h1;have HO2:=zA h2;clear h1 h2;clear h ht hQ KA;go_enter func219,ntmps219;go_upto_region 1 with(fail);clear hW hW0 hRw hz0 hX;obtain⟨_,_,_,_,_,_,_,_,_⟩:=F0.sto 0;go_wp2_with fail;refine F0.kM (zA1 F0.P [46] HO1.out) fun w1 F1=>?_;go_wp2_with fail;refine F1.kM (zA1 F1.P [91] HO2.out) fun w2 F2=>?_;obtain⟨_,_,_,_,_,_,_,_,_⟩:=F2.c 1;obtain⟨_,_,_,_,_,_,_,_,_⟩:=F2.c 2;obtain⟨_,_,_,_,_,_,_,_,_⟩:=F2.f 2;go_wp2_with fail;refine zM (F2.put 2 0) fun V3 F3=>?_;have q:=F3.c 2;exact F3.retM (b:=false) 0 rfl (by simp[results,results219,go_sem,q]) rfl (HR.out.symm.trans (by
  unfold zB9;rw[if_neg (by rw[HO1.out];decide),if_neg (by rw[HO2.out];decide)]))
theorem zGt {C:Pc} {Q:Nat→Prop} {x:Tr} {s:Ps} {w:World} {d0 d1 d2 d3 d4 d5 d6 d7 d8:Value} (h:Pa C s w) (KA:onP C.L [91] s=true→∀W,Pa C (zB s) W→zc C (zB s) W .assign) (hQ:∀b,Q b→C.g < b) (ht:TrC w Q x [d0,d1,d2,d3,d4,d5,d6,d7,d8]) (h1:onP C.L [46] s=false) (h2:onP C.L [91] s=true):
 Calls prog 219 #[.pointer (some ⟨C.g,0,none⟩),.agg #[d0,d1,d2,d3,d4,d5,d6,d7,d8]] w (zQP C Q (zB9 C.L (zF C.L) x s) w):=by
 generalize hr:zB9 C.L (zF C.L) x s=r;have HR:=zA hr;clear hr;refine zQ1 h hQ ht fun HL hlen hsk W0 W R X hW0 hW hRw hz0 hX F0=>?_;have HKA:=zA KA;have HO1:=zA h1;have HO2:=zA h2;clear h1 h2;clear h ht hQ KA;go_enter func219,ntmps219;go_upto_region 1 with(fail);clear hW hW0 hRw hz0 hX;go_wp2_with fail;refine F0.kM (zA1 F0.P [46] HO1.out) fun w1 F1=>?_;go_wp2_with fail;refine F1.kM (zAw F1.P [91] HO2.out) fun w2 F2=>?_;have CL3:=zA (fun Q=>F2.dr.kD (Q:=Q) (HKA.out HO2.out _ F2.dr.P));obtain⟨_,_,_,_,_,_,_,_,_⟩:=F2.c 1;go_wp2_with fail;go_region_law (first | (go_simp;go_at_call 140;(with_reducible refine CL3.out _ fun w3 d3_0 d3_1 d3_2 d3_3 d3_4 d3_5 d3_6 d3_7 d3_8 F3=>?_);obtain⟨_,_,_,_,_,_,_,_,_⟩:=F3.c 1;have LT3:=zA (fun Q=>F3.litK 53 (n:=2) (Q:=Q) (F3.ts2 0 3) rfl (by simp) rfl)) | (go_simp;go_at_call 58;(with_reducible refine LT3.out _ fun w4 F4=>?_);obtain⟨_,_,_,_,_,_,_,_,_⟩:=F4.c 1;obtain⟨_,_,_,_,_,_,_,_,_⟩:=F4.f 1))
 all_goals
  obtain⟨_,_,_,_,_,_,_,_,_⟩:=F4.c 1;obtain⟨_,_,_,_,_,_,_,_,_⟩:=F4.f 1;go_upto_region 10 with(fail);refine zCs (F4.put 1 4) fun w5 F5=>?_;go_wp2_with fail;refine F5.kN (zr F5.P [93]) fun w6 F6=>?_;obtain⟨_,_,_,_,_,_,_,_,_⟩:=F6.c 1;obtain⟨_,_,_,_,_,_,_,_,_⟩:=F6.sto 4;obtain⟨_,_,_,_,_,_,_,_,_⟩:=F6.c 2;obtain⟨_,_,_,_,_,_,_,_,_⟩:=F6.f 2;go_wp2_with fail;refine zM (F6.put 2 4) fun V7 F7=>?_;have q:=F7.c 2;exact F7.retM (b:=true) 4 rfl (by simp[results,results219,go_sem,q]) rfl (HR.out.symm.trans (by
   unfold zB9;rw[if_neg (by rw[HO1.out];decide),if_pos HO2.out]))
theorem zHi {C:Pc} {Q:Nat→Prop} {x:Tr} {s:Ps} {w:World} {d0 d1 d2 d3 d4 d5 d6 d7 d8:Value} (h:Pa C s w) (KA:onP C.L [91] s=true→∀W,Pa C (zB s) W→zc C (zB s) W .assign) (hQ:∀b,Q b→C.g < b) (ht:TrC w Q x [d0,d1,d2,d3,d4,d5,d6,d7,d8]) (h1:onP C.L [46] s=true) (hk:(zL C.L (zB s).k).kind=1):
 Calls prog 219 #[.pointer (some ⟨C.g,0,none⟩),.agg #[d0,d1,d2,d3,d4,d5,d6,d7,d8]] w (zQP C Q (zB9 C.L (zF C.L) x s) w):=by
 generalize hr:zB9 C.L (zF C.L) x s=r;have HR:=zA hr;clear hr;refine zQ1 h hQ ht fun HL hlen hsk W0 W R X hW0 hW hRw hz0 hX F0=>?_;have HKA:=zA KA;have HO1:=zA h1;have HKD:=zA hk;clear h1 hk;clear h ht hQ KA;go_enter func219,ntmps219;go_upto_region 1 with(fail);clear hW hW0 hRw hz0 hX;obtain⟨_,_,_,_,_,_,_,_,_⟩:=F0.sto 0;go_wp2_with fail;refine F0.kM (zAw F0.P [46] HO1.out) fun w1 F1=>?_;obtain⟨⟨kd,tx,st,nk,nn,mg,ps,nl⟩,HT⟩:=zP C.L (zB (s)).k;have HKD2:=zA (show kd=1 from by have:=HKD.out;rw[HT.out]at this;exact this);have e5:((kd:Int) !=1)=false:=by have:=HKD2.out;rw[bne_eq_false_iff_eq];omega
 go_wp2_with fail;refine F1.kT (zf F1.P HT.out) fun w2 As Am c1 c2 F2=>?_;have F3:=F2.bt 3 44 rfl;have hlo:=zA (HL.out.lt (s:=zB s) F3.P.hi (by rw[HT.out];have:=HKD2.out;show kd≠0;omega));obtain⟨_,_,_,_,_,_,_,_,_⟩:=F3.c 4;obtain⟨_,_,_,_,_,_,_,_,_⟩:=F3.c 1;obtain⟨xk4,fk4,bk4⟩:=F3.k1;have F4:=F3.step hlo.out;obtain⟨_,_,_,_,_,_,_,_,_⟩:=F4.c 1;obtain⟨_,_,_,_,_,_,_,_,_⟩:=F4.c 4;go_wp2_with fail;clear xk4 fk4 bk4;refine F4.litN _ _ (n:=1) (F4.ts1 0) rfl (by simp) (show _=w2.heap.size+1 by simp) fun w5 F5=>?_;obtain⟨_,_,_,_,_,_,_,_,_⟩:=F5.c 2;obtain⟨_,_,_,_,_,_,_,_,_⟩:=F5.f 2;go_wp2_with fail;refine zM (F5.put 2 5) fun V6 F6=>?_;have q:=F6.c 2;exact F6.retM (b:=true) 5 rfl (by simp[results,results219,go_sem,q]) rfl (HR.out.symm.trans (by
  unfold zB9;rw[if_pos HO1.out,if_neg (fun h=>by have:=HKD.out;omega),HT.out]))
theorem zHj {C:Pc} {Q:Nat→Prop} {x:Tr} {s:Ps} {w:World} {d0 d1 d2 d3 d4 d5 d6 d7 d8:Value} (h:Pa C s w) (KA:onP C.L [91] s=true→∀W,Pa C (zB s) W→zc C (zB s) W .assign) (hQ:∀b,Q b→C.g < b) (ht:TrC w Q x [d0,d1,d2,d3,d4,d5,d6,d7,d8]) (h1:onP C.L [46] s=true) (hk:(zL C.L (zB s).k).kind=6):
 Calls prog 219 #[.pointer (some ⟨C.g,0,none⟩),.agg #[d0,d1,d2,d3,d4,d5,d6,d7,d8]] w (zQP C Q (zB9 C.L (zF C.L) x s) w):=by
 generalize hr:zB9 C.L (zF C.L) x s=r;have HR:=zA hr;clear hr;refine zQ1 h hQ ht fun HL hlen hsk W0 W R X hW0 hW hRw hz0 hX F0=>?_;have HKA:=zA KA;have HO1:=zA h1;have HKD:=zA hk;clear h1 hk;clear h ht hQ KA;go_enter func219,ntmps219;go_upto_region 1 with(fail);clear hW hW0 hRw hz0 hX;obtain⟨_,_,_,_,_,_,_,_,_⟩:=F0.sto 0;go_wp2_with fail;refine F0.kM (zAw F0.P [46] HO1.out) fun w1 F1=>?_;obtain⟨⟨kd,tx,st,nk,nn,mg,ps,nl⟩,HT⟩:=zP C.L (zB (s)).k;have HKD2:=zA (show kd=6 from by have:=HKD.out;rw[HT.out]at this;exact this);have e5:((kd:Int) !=1)=true:=by have:=HKD2.out;rw[bne_iff_ne];omega
 have e6:((kd:Int) !=6)=false:=by have:=HKD2.out;rw[bne_eq_false_iff_eq];omega
 go_wp2_with fail;refine F1.kT (zf F1.P HT.out) fun w2 As Am c1 c2 F2=>?_;have F3:=F2.bt 3 44 rfl;have hlo:=zA (HL.out.lt (s:=zB s) F3.P.hi (by rw[HT.out];have:=HKD2.out;show kd≠0;omega));obtain⟨_,_,_,_,_,_,_,_,_⟩:=F3.c 4;obtain⟨_,_,_,_,_,_,_,_,_⟩:=F3.c 1;obtain⟨xk4,fk4,bk4⟩:=F3.k1;have F4:=F3.step hlo.out;obtain⟨_,_,_,_,_,_,_,_,_⟩:=F4.c 1;obtain⟨_,_,_,_,_,_,_,_,_⟩:=F4.c 4;go_wp2_with fail;clear xk4 fk4 bk4;refine F4.litN _ _ (n:=1) (F4.ts1 0) rfl (by simp) (show _=w2.heap.size+1 by simp) fun w5 F5=>?_;obtain⟨_,_,_,_,_,_,_,_,_⟩:=F5.c 2;obtain⟨_,_,_,_,_,_,_,_,_⟩:=F5.f 2;go_wp2_with fail;refine zM (F5.put 2 5) fun V6 F6=>?_;have q:=F6.c 2;exact F6.retM (b:=true) 5 rfl (by simp[results,results219,go_sem,q]) rfl (HR.out.symm.trans (by
  unfold zB9;rw[if_pos HO1.out,if_neg (fun h=>by have:=HKD.out;omega),HT.out]))
theorem zJl {C:Pc} {Q:Nat→Prop} {x:Tr} {s:Ps} {w:World} {d0 d1 d2 d3 d4 d5 d6 d7 d8:Value} (h:Pa C s w) (KA:onP C.L [91] s=true→∀W,Pa C (zB s) W→zc C (zB s) W .assign) (hQ:∀b,Q b→C.g < b) (ht:TrC w Q x [d0,d1,d2,d3,d4,d5,d6,d7,d8]) (h1:onP C.L [46] s=true) (hk:(zL C.L (zB s).k).kind≠1∧(zL C.L (zB s).k).kind≠6):
 Calls prog 219 #[.pointer (some ⟨C.g,0,none⟩),.agg #[d0,d1,d2,d3,d4,d5,d6,d7,d8]] w (zQP C Q (zB9 C.L (zF C.L) x s) w):=by
 generalize hr:zB9 C.L (zF C.L) x s=r;have HR:=zA hr;clear hr;refine zQ1 h hQ ht fun HL hlen hsk W0 W R X hW0 hW hRw hz0 hX F0=>?_;have HKA:=zA KA;have HO1:=zA h1;have HKD:=zA hk;clear h1 hk;clear h ht hQ KA;go_enter func219,ntmps219;go_upto_region 1 with(fail);clear hW hW0 hRw hz0 hX;obtain⟨_,_,_,_,_,_,_,_,_⟩:=F0.sto 0;go_wp2_with fail;refine F0.kM (zAw F0.P [46] HO1.out) fun w1 F1=>?_;obtain⟨⟨kd,tx,st,nk,nn,mg,ps,nl⟩,HT⟩:=zP C.L (zB (s)).k;have HKD2:=zA (show kd≠1∧kd≠6 from by have:=HKD.out;rw[HT.out]at this;exact this);have e5:((kd:Int) !=1)=true:=by have:=HKD2.out.1;rw[bne_iff_ne];omega
 have e6:((kd:Int) !=6)=true:=by have:=HKD2.out.2;rw[bne_iff_ne];omega
 go_wp2_with fail;refine F1.kT (zf F1.P HT.out) fun w2 As Am c1 c2 F2=>?_;have F3:=F2.bt 3 44 rfl;obtain⟨_,_,_,_,_,_,_,_,_⟩:=F3.c 4;go_wp2_with fail;refine F3.kN (zu F3.P) fun w4 F4=>?_;obtain⟨_,_,_,_,_,_,_,_,_⟩:=F4.c 1;obtain⟨_,_,_,_,_,_,_,_,_⟩:=F4.c 2;obtain⟨_,_,_,_,_,_,_,_,_⟩:=F4.f 2;go_wp2_with fail;refine zM (F4.put 2 0) fun V5 F5=>?_;have q:=F5.c 2;exact F5.retM (b:=false) 0 rfl (by simp[results,results219,go_sem,q]) rfl (HR.out.symm.trans (by
  unfold zB9;rw[if_pos HO1.out,if_pos HKD.out]))
theorem zJm {C:Pc} {Q:Nat→Prop} {x:Tr} {s:Ps} {w:World} {d0 d1 d2 d3 d4 d5 d6 d7 d8:Value} (h:Pa C s w) (KA:onP C.L [91] s=true→∀W,Pa C (zB s) W→zc C (zB s) W .assign) (hQ:∀b,Q b→C.g < b) (ht:TrC w Q x [d0,d1,d2,d3,d4,d5,d6,d7,d8]):
 Calls prog 219 #[.pointer (some ⟨C.g,0,none⟩),.agg #[d0,d1,d2,d3,d4,d5,d6,d7,d8]] w (zQP C Q (zB9 C.L (zF C.L) x s) w):=by
 cases h1:onP C.L [46] s with
 | false=>
  cases h2:onP C.L [91] s with
  | false=>exact zL0 h KA hQ ht h1 h2
  | true=>exact zGt h KA hQ ht h1 h2
 | true=>
  by_cases k1:(zL C.L (zB s).k).kind=1
  · exact zHi h KA hQ ht h1 k1
  · by_cases k6:(zL C.L (zB s).k).kind=6
    · exact zHj h KA hQ ht h1 k6
    · exact zJl h KA hQ ht h1 ⟨k1,k6⟩
theorem zL1 {C:Pc} {Q:Nat→Prop} {x xm:Tr} {bm:Bool} {s sm:Ps} {w:World} {d0 d1 d2 d3 d4 d5 d6 d7 d8:Value} (h:Pa C s w) (KA:onP C.L [91] s=true→∀W,Pa C (zB s) W→zc C (zB s) W .assign) (hQ:∀b,Q b→C.g < b) (ht:TrC w Q x [d0,d1,d2,d3,d4,d5,d6,d7,d8]) (hm:zB9 C.L (zF C.L) x s=((xm,bm),sm)):
 Calls prog 219 #[.pointer (some ⟨C.g,0,none⟩),.agg #[d0,d1,d2,d3,d4,d5,d6,d7,d8]] w (fun e w'=>∃m0 m1 m2 m3 m4 m5 m6 m7 m8,e=.returned (.tuple #[.agg #[m0,m1,m2,m3,m4,m5,m6,m7,m8],.bool bm])∧TrC w' (fun b=>Q b∨w.heap.size≤b) xm [m0,m1,m2,m3,m4,m5,m6,m7,m8]∧Pa C sm w'∧w.grownBy w' (some C.g)):=by
 have:=zJm h KA hQ ht;rw[hm]at this;exact this
theorem zIY {w w':World} {P Q F:Nat→Prop} {B n cp:Nat} {v':Value} {A:Option Addr} {l:List Tr} {t:Tr} {c ks:List Value}
 (ht:TrC w Q t c) (hr:RowK w Q (.slice A n cp) l ks F) (hn:l.length=n) (hb:Bx w B 72 c) (hQP:∀b,Q b→b < w.heap.size→P b) (hQB:¬Q B) (hPB:P B) (hP:P w.heap.size)
 (ho:w'.ownsRow 0 72 9 v' (1+n) (c++ks)) (hg:w.grownBy w' (some B)) (hw:v'.ownBlock=some B∨v'.ownBlock=some w.heap.size):RowP w' P v' (t::l):=by
 have hz:Fz w (fun b=>Q b∧b < w.heap.size) (some B):=.box hb (by decide) (by decide) (fun h=>hQB h.1);have hsz:=hg.size;refine⟨c++ks,fun b=>Q b∧b < w.heap.size,?_,?_,?_,?_,?_⟩
 · rw[List.length_cons,hn,Nat.add_comm];exact ho
 · intro b hb2;rcases hw with e | e
   · rw[e]at hb2;injection hb2 with hb2;subst hb2;exact hPB
   · rw[e]at hb2;injection hb2 with hb2;subst hb2;exact hP
 · refine .cons ?_ ?_
   · exact TrC.keep hg hz _ _ (.sub (fun b hb2 hl=>⟨hb2,hl⟩) _ _ ht)
   · exact TrsC.keep hg hz _ _ (.sub (fun b hb2 _=>hr.low b hb2) _ _ hr.subs)
 · intro b hb2 h2;rcases hw with e | e
   · rw[e]at hb2;injection hb2 with hb2;subst hb2;exact hQB h2.1
   · rw[e]at hb2;injection hb2 with hb2;subst hb2;omega
 · intro b h2;exact⟨hQP b h2.1 h2.2,yAA h2.2 hsz⟩
section
variable {w:World} {P Q:Nat→Prop} {B n cp:Nat} {A:Option Addr} {l:List Tr} {t:Tr} {c0 c1 c2 c3 c4 c5 c6 c7 c8:Value}
theorem zQQ (hb:Bx w B 72 [c0,c1,c2,c3,c4,c5,c6,c7,c8]) (ht:TrC w Q t [c0,c1,c2,c3,c4,c5,c6,c7,c8]) (hQP:∀b,Q b→b < w.heap.size→P b) (hQB:¬Q B) (hPB:P B):RowP w P (.slice (some ⟨B,0,none⟩) 1 1) [t]:=by
 refine⟨[c0,c1,c2,c3,c4,c5,c6,c7,c8],fun b=>Q b∧b < w.heap.size,⟨rfl,.inr ⟨B,1,#[c0,c1,c2,c3,c4,c5,c6,c7,c8],rfl,yAE _,hb,yAC _,by unfold maxLen;omega,rfl,rfl⟩⟩,?_,?_,?_,fun b h2=>⟨hQP b h2.1 h2.2,h2.2⟩⟩
 · intro b e;simp only[Value.ownBlock,Option.some.injEq]at e;subst e;exact hPB
 · exact .single (.sub (fun b hb2 hl=>⟨hb2,hl⟩) _ _ ht)
 · intro b e h2;simp only[Value.ownBlock,Option.some.injEq]at e;subst e;exact hQB h2.1
theorem zOH (ty:TypeId) (hn:l.length=n) (hb:Bx w B 72 [c0,c1,c2,c3,c4,c5,c6,c7,c8]) (ht:TrC w Q t [c0,c1,c2,c3,c4,c5,c6,c7,c8]) (hr:RowP w Q (.slice A n cp) l) (hQP:∀b,Q b→b < w.heap.size→P b) (hQB:¬Q B) (hPB:P B) (hP:P w.heap.size) (hl:n≤4097):
 ∃A' cp' w',(Builtin.append_ #[70,70] ty #[.slice (some ⟨B,0,none⟩) 1 1,.slice A n cp]).run prog w=.ok (.slice A' (n+1) cp') w'∧RowP w' P (.slice A' (n+1) cp') (t::l)∧w.grownBy w' (some B):=by
 obtain⟨ks,F,hk⟩:=hr;obtain⟨i,hi,hz0,hz1,hz2⟩:=info_parts Tryz.info_pnode;have own1:w.ownsRow 0 72 9 (.slice (some ⟨B,0,none⟩) 1 1) 1 [c0,c1,c2,c3,c4,c5,c6,c7,c8]:=
  ⟨rfl,.inr ⟨B,1,#[c0,c1,c2,c3,c4,c5,c6,c7,c8],rfl,yAE _,hb,yAC _,by unfold maxLen;omega,rfl,rfl⟩⟩
 have hown:=hk.own;rw[hn]at hown;rcases hown.2 with⟨e,e0⟩ | ⟨g,cap,cur,e,_,hg,h1,h2,h3,h4⟩
 · injection e with e1 e2 e3;subst e1 e2 e3;have hks:ks=[]:=List.eq_nil_of_length_eq_zero (by simpa using hown.1);refine⟨some ⟨B,0,none⟩,1,w,?_,?_,⟨rfl,rfl,rfl,yAC _,fun _ _ _=>rfl⟩⟩
   · simp[Builtin.append_,run_underlying underlying70,sizeOf,typeInfo,hi,Builtin.lenOf,Builtin.firstCells,storeCells]
   · refine zIY ht hk hn hb hQP hQB hPB hP ?_ ⟨rfl,rfl,rfl,yAC _,fun _ _ _=>rfl⟩ (.inl rfl);rw[hks,List.append_nil];exact own1
 · injection e with e1 e2 e3;subst e1 e3;have hnews:∀j u,ks[j]? =some u→w.cell? ((⟨g,0,none⟩:Addr).add j)=some u:=by
    intro j u hu;refine World.news_of_block hg j u ?_;rw[←h4,List.getElem?_take]at hu;split at hu
    · exact hu
    · cases hu
   obtain⟨v',w',hrun,ho,hgr,_,hat⟩:=run_append_own_at (P:=prog) w 0 70 ty 72 i _ 9 144 underlying70 hi hz0 hz1 hz2 rfl (by decide) (.slice (some ⟨B,0,none⟩) 1 1) 1 [c0,c1,c2,c3,c4,c5,c6,c7,c8] own1 ⟨g,0,none⟩ n cp ks hown.1 hnews (fun u hu=>List.all_eq_true.1 (TrsC.one hk.subs) u hu) (by unfold maxLen;omega) (by omega) (yAE _);have hrow:=zIY ht hk hn hb hQP hQB hPB hP ho hgr (by
    rcases hat with e | e
    · exact .inl e
    · exact .inr e)
   obtain⟨A',cp',e',_⟩:=hrow.shape;rw[List.length_cons,hn]at e';subst e';exact⟨A',cp',w',hrun,hrow,hgr⟩
theorem zL2 {Pz:Act→World→Prop} {o:Oper} {a:Act} {Qx:Exit→Act→World→Prop} (s x:Operand)
 (ho:o.op=.call {callee:=.builtin .append,args:=#[s,x],argTypes:=#[70,70]})
 (hs:a.eval s=.slice (some ⟨B,0,none⟩) 1 1) (hx:a.eval x=.slice A n cp)
 (hn:l.length=n) (hb:Bx w B 72 [c0,c1,c2,c3,c4,c5,c6,c7,c8]) (ht:TrC w Q t [c0,c1,c2,c3,c4,c5,c6,c7,c8]) (hr:RowP w Q (.slice A n cp) l) (hQP:∀b,Q b→b < w.heap.size→P b) (hQB:¬Q B) (hPB:P B) (hP:P w.heap.size) (hl:n≤4097)
 (h:∀A' cp' w',RowP w' P (.slice A' (n+1) cp') (t::l)→w.grownBy w' (some B)→Pz (a.put o.dst (.slice A' (n+1) cp')) w'):o.wp prog a w Pz Qx:=by
 obtain⟨A',cp',w',hrun,h1,h2⟩:=zOH (P:=P) o.type hn hb ht hr hQP hQB hPB hP hl;unfold Oper.wp execOp;simp only[ho,resolve,invoke,builtin,Sem.run_bind,Sem.run_pure,Result.andThen_ok,List.map_toArray,List.map_cons,List.map_nil,hs,hx,hrun];exact h A' cp' w' h1 h2
theorem zL3 {ops:Array Oper} {o:Oper} {a:Act} {K:Act→World→Prop} {Qx:Exit→Act→World→Prop} {E:Prop} (hgd:o.guard=none) (s x:Operand)
 (ho:o.op=.call {callee:=.builtin .append,args:=#[s,x],argTypes:=#[70,70]})
 (hs:a.eval s=.slice (some ⟨B,0,none⟩) 1 1) (hx:a.eval x=.slice A n cp)
 (hn:l.length=n) (hb:Bx w B 72 [c0,c1,c2,c3,c4,c5,c6,c7,c8]) (ht:TrC w Q t [c0,c1,c2,c3,c4,c5,c6,c7,c8]) (hr:RowP w Q (.slice A n cp) l) (hQP:∀b,Q b→b < w.heap.size→P b) (hQB:¬Q B) (hPB:P B) (hP:P w.heap.size) (hl:n≤4097)
 (h:∀A' cp' w',RowP w' P (.slice A' (n+1) cp') (t::l)→w.grownBy w' (some B)→K (a.put o.dst (.slice A' (n+1) cp')) w'):
 if Region.wanted o (yielded ops a.tmps)=true then Oper.wp prog o a w K Qx else E:=by
 have hw:Region.wanted o (yielded ops a.tmps)=true:=by simp[Region.wanted,hgd]
 rw[if_pos hw];exact zL2 s x ho hs hx hn hb ht hr hQP hQB hPB hP hl h
theorem zHk {ops:Array Oper} {rest:List Oper} {o:Oper} {a:Act} {Qx:Exit→Act→World→Prop} (hgd:o.guard=none) (s x:Operand)
 (ho:o.op=.call {callee:=.builtin .append,args:=#[s,x],argTypes:=#[70,70]})
 (hs:a.eval s=.slice (some ⟨B,0,none⟩) 1 1) (hx:a.eval x=.slice A n cp)
 (hn:l.length=n) (hb:Bx w B 72 [c0,c1,c2,c3,c4,c5,c6,c7,c8]) (ht:TrC w Q t [c0,c1,c2,c3,c4,c5,c6,c7,c8]) (hr:RowP w Q (.slice A n cp) l) (hQP:∀b,Q b→b < w.heap.size→P b) (hQB:¬Q B) (hPB:P B) (hP:P w.heap.size) (hl:n≤4097)
 (h:∀A' cp' w',RowP w' P (.slice A' (n+1) cp') (t::l)→w.grownBy w' (some B)→wpList prog ops Qx rest (a.put o.dst (.slice A' (n+1) cp')) w'):
 wpList prog ops Qx (o::rest) a w:=
 wpList_plain hgd fun _ hK=>zL2 s x ho hs hx hn hb ht hr hQP hQB hPB hP hl fun A' cp' w' h1 h2=>hK _ _ (h A' cp' w' h1 h2)
end
end Go.Proofs.YtlohaclgbfhijaaGreatDoor
