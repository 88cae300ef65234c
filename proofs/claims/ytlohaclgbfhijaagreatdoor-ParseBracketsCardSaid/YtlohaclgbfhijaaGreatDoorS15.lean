/- Joined for the claim ParseBlocks: the parser, the lexer and the trees as they are walked, made short by a program of mine. -/
import Derived.Deep.RegionLaw
import Derived.Test.YtlohaclgbfhijaaGreatDoorS11
import Derived.Test.YtlohaclgbfhijaaGreatDoorS14
import Derived.Test.YtlohaclgbfhijaaGreatDoorS13
import Derived.Deep.CutBlock
import Derived.Deep.DeepCutAuto
import Derived.Test.YtlohaclgbfhijaaGreatDoorS12
import Derived.Test.YtlohaclgbfhijaaGreatDoorS01
set_option maxHeartbeats 16000000
set_option maxRecDepth 1000000
namespace Go.Proofs.YtlohaclgbfhijaaGreatDoor
open Go.Proofs.Tryz
open Go.RowKit
theorem zDV {C:Pc} {s:Ps} {w:World} (h:Pa C s w) {b:Bool} (hb:zAR C.L s=b):Calls prog 174 #[.pointer (some ⟨C.g,0,none⟩)] w (zKa C s b w):=hb▸zNJ h
theorem zGh {L:List Tok} {s:Ps} (h:zAR L s=true):onP L [40] s=true:=by
 unfold zAR at h;rw[Bool.and_eq_true]at h;exact h.1
theorem zId {C:Pc} {s:Ps} {w:World} (hp:Pre C.L (.assign) s) (K:KP C (zf C.L (.assign) s)) (h:Pa C s w) (hc:(zH C.L s.k).kind=1∧isT (zx C.L s.k 1) [61,62]=true∧(zx C.L s.k 1).nl=false):zk C s w (.assign):=by
 refine zA0 hp h fun HL hlen hsk r W X HR hW hX F0=>?_;have HK:=zD K;clear K h hp;go_enter func140,ntmps140;go_upto_region 1 with(fail);clear hW hX;have HC:=zD hc;clear hc;obtain⟨⟨kd,tx,st,nk,nn,mg,ps,nl⟩,HT⟩:=zU C.L (s).k;go_wp2_with fail;refine F0.kT (zp F0.P HT.out) fun w1 As Am c1 c2 F1=>?_;have F2:=F1.bt 1 44 rfl;have hf6:=zKb;have e1:((kd:Int)==1)=true:=by have:=HC.out.1;rw[HT.out]at this;have:kd=1:=this;rw[beq_iff_eq];omega
 have hlt:=zD (HL.out.lt hsk (by rw[HC.out.1];decide));have hn:=F2.P.cx.n;obtain⟨⟨kd2,tx2,st2,nk2,nn2,mg2,ps2,nl2⟩,HT2⟩:=zU C.L (zB s).k;have HA:=zD (show isT ⟨kd2,tx2,st2,nk2,nn2,mg2,ps2,nl2⟩ [61,62]=true by rw[←HT2.out];exact HC.out.2.1);have hnl2:nl2=false:=by have:=HC.out.2.2;rw[show zx C.L s.k 1=zH C.L (zB s).k from rfl,HT2.out]at this;exact this
 subst hnl2;have HT2m:=zD (show zH C.L (min (s.k+1) (C.N - 1))=⟨kd2,tx2,st2,nk2,nn2,mg2,ps2,false⟩ by rw[show min (s.k+1) (C.N - 1)=s.k+1 by have:=hlt.out;omega];exact HT2.out);obtain⟨_,_,_,_,_,_,_,_,_⟩:=F2.c 2;go_wp2_with fail;refine F2.kT (zAv F2.P 1 1 rfl (by decide) HT2m.out) fun w3 As2 Am2 c12 c22 F3=>?_;go_wp2_with fail;refine F3.kQ (zCp [61,62] HA.out) fun w4 F4=>?_;go_wp2_with fail;refine F4.kT (zAv F4.P 1 1 rfl (by decide) HT2m.out) fun w5 As3 Am3 c13 c23 F5=>?_;obtain⟨xk6,fk6,bk6⟩:=F5.k1;have F6:=F5.step hlt.out;obtain⟨_,_,_,_,_,_,_,_,_⟩:=F6.c 2;go_wp2_with fail;refine(zCf 20 ⟨tx.toArray⟩ none 0 0).mono ?_;rintro ev7 w7 ⟨rfl,hg7⟩;have HPb:=zD ((F6.P.new hg7).alloc (.cells #[.int .i64 20,.string ⟨tx.toArray⟩,.slice none 0 0,.int .i64 0,.int .i64 0,.bool false,.slice none 0 0,.slice none 0 0,.slice none 0 0] 72));have hsz:((w5).setCell ⟨C.g,1,none⟩ (.int .i64 (((s).k:Int)+1))).heap.size≤w7.heap.size:=hg7.size;have HRB:=zD (show RowP ((w7).alloc (.cells #[.int .i64 20,.string ⟨tx.toArray⟩,.slice none 0 0,.int .i64 0,.int .i64 0,.bool false,.slice none 0 0,.slice none 0 0,.slice none 0 0] 72)) (((w5).setCell ⟨C.g,1,none⟩ (.int .i64 (((s).k:Int)+1))).heap.size≤·) (.slice (some ⟨w7.heap.size,0,none⟩) 1 1) [trN 20 tx []]from RowP.lit (n:=1) rfl (TrsC.cons (show TrC _ _ (trN 20 tx []) [.int .i64 20,.string ⟨tx.toArray⟩,.slice none 0 0,.int .i64 0,.int .i64 0,.bool false,.slice none 0 0,.slice none 0 0,.slice none 0 0]from(RowP.nil _ _).treeN) (.nil _ _)) hsz (by show 1≤maxLen;unfold maxLen;omega));have HGB:=zD (show((w5).setCell ⟨C.g,1,none⟩ (.int .i64 (((s).k:Int)+1))).grownBy ((w7).alloc (.cells #[.int .i64 20,.string ⟨tx.toArray⟩,.slice none 0 0,.int .i64 0,.int .i64 0,.bool false,.slice none 0 0,.slice none 0 0,.slice none 0 0] 72)) (some C.g)from zE (zAP hg7 _) (zI _ _ _));clear hg7 hsz;go_wp2_with fail;refine F6.kA ((HK.out.more (q:=.body [trN 20 tx []]) ⟨HPb.out.hi,trivial⟩ HPb.out (yAG s.k)) _ _ _ _ rfl (by simp) HGB.out F6.P.lt HRB.out) fun rq8 HRQ8 w8 d8_0 d8_1 d8_2 d8_3 d8_4 d8_5 d8_6 d8_7 d8_8 F8=>?_;obtain⟨_,_,_,_,_,_,_,_,_⟩:=F8.sto 5;obtain⟨_,_,_,_,_,_,_,_,_⟩:=F8.c 0;obtain⟨_,_,_,_,_,_,_,_,_⟩:=F8.f 0;go_wp2_with fail;refine zQ (F8.put 0 5) fun V9 F9=>?_;have q:=F9.c 0;exact F9.ret 5 rfl (by simp[results,results140,go_sem,q]) rfl (HR.out.symm.trans (by
  unfold zF;dsimp only;rw[if_pos HC.out,HT.out];simp only[HRQ8.out])) (fun _ h=>h)
theorem zFr {C:Pc} {s:Ps} {w:World} (hp:Pre C.L (.assign) s) (K:KP C (zf C.L (.assign) s)) (h:Pa C s w) (hc:(zH C.L s.k).kind≠1) (har:zAR C.L s=true):zk C s w (.assign):=by
 refine zA0 hp h fun HL hlen hsk r W X HR hW hX F0=>?_;have HK:=zD K;clear K h hp;go_enter func140,ntmps140;go_upto_region 1 with(fail);clear hW hX;have HC:=zD hc;clear hc;have Hhar:=zD har;clear har;obtain⟨⟨kd,tx,st,nk,nn,mg,ps,nl⟩,HT⟩:=zU C.L (s).k;go_wp2_with fail;refine F0.kT (zp F0.P HT.out) fun w1 As Am c1 c2 F1=>?_;have F2:=F1.bt 1 44 rfl;have hf6:=zKb;have HNO:=zD (show¬((zH C.L s.k).kind=1∧isT (zx C.L s.k 1) [61,62]=true∧(zx C.L s.k 1).nl=false)from fun h=>HC.out h.1);have e1:((kd:Int)==1)=false:=by have:=HC.out;rw[HT.out]at this;have:kd≠1:=this;rw[yA];omega
 obtain⟨_,_,_,_,_,_,_,_,_⟩:=F2.c 2;go_wp2_with fail;refine F2.kB (zDV F2.P Hhar.out) fun w3 F3=>?_;have hpl:=zD (zEx HL.out (s:=s) hsk);have hNN:=zD F3.P.cx.n;have hl0:=zD (HL.out.on hsk (zGh Hhar.out));have heat:=zD (show Eat C.L s (zG C.L .params s).2 from zS HL.out (p:=.params) (s:=s) ⟨hsk,trivial⟩);go_wp2_with fail;refine(Calls.mono (show Calls prog 144 #[.pointer (some ⟨C.g,0,none⟩)] _ (LstQ C (zG C.L .params s) _)from HK.out.rank (q:=.params) ⟨F3.P.hi,trivial⟩ F3.P (yAD _) (by simp[zn])) ?_);rintro ev0 w0 ⟨Ar,n0,cp,rfl,hln,hl2,hl3,hr0,hp0,hg0⟩;have HPz:=zD hp0;have HLN:=zD hln;have HRz:=zD hr0;have HGz:=zD hg0;clear hln hl2 hl3 hr0 hp0 hg0;go_wp2_with fail;refine F3.kA ((HK.out.more (q:=.body (zG C.L .params s).1.subs) ⟨HPz.out.hi,trivial⟩ HPz.out (heat.out.more hl0.out)) _ _ _ _ HLN.out (by have:=hpl.out;have:=hNN.out;have:=HLN.out;omega) HGz.out F3.P.lt HRz.out) fun rq4 HRQ4 w4 d4_0 d4_1 d4_2 d4_3 d4_4 d4_5 d4_6 d4_7 d4_8 F4=>?_;obtain⟨_,_,_,_,_,_,_,_,_⟩:=F4.sto 3;obtain⟨_,_,_,_,_,_,_,_,_⟩:=F4.c 0;obtain⟨_,_,_,_,_,_,_,_,_⟩:=F4.f 0;go_wp2_with fail;refine zQ (F4.put 0 3) fun V5 F5=>?_;have q:=F5.c 0;exact F5.ret 3 rfl (by simp[results,results140,go_sem,q]) rfl (HR.out.symm.trans (by
  unfold zF;dsimp only;rw[if_neg HNO.out,if_pos Hhar.out];simp only[HRQ4.out])) (fun _ h=>h)
theorem zFs {C:Pc} {s:Ps} {w:World} (hp:Pre C.L (.assign) s) (K:KP C (zf C.L (.assign) s)) (h:Pa C s w) (hc:(zH C.L s.k).kind=1∧isT (zx C.L s.k 1) [61,62]=false) (har:zAR C.L s=true):zk C s w (.assign):=by
 refine zA0 hp h fun HL hlen hsk r W X HR hW hX F0=>?_;have HK:=zD K;clear K h hp;go_enter func140,ntmps140;go_upto_region 1 with(fail);clear hW hX;have HC:=zD hc;clear hc;have Hhar:=zD har;clear har;obtain⟨⟨kd,tx,st,nk,nn,mg,ps,nl⟩,HT⟩:=zU C.L (s).k;go_wp2_with fail;refine F0.kT (zp F0.P HT.out) fun w1 As Am c1 c2 F1=>?_;have F2:=F1.bt 1 44 rfl;have hf6:=zKb;have e1:((kd:Int)==1)=true:=by have:=HC.out.1;rw[HT.out]at this;have:kd=1:=this;rw[beq_iff_eq];omega
 have hlt:=zD (HL.out.lt hsk (by rw[HC.out.1];decide));have hn:=F2.P.cx.n;have HNO:=zD (show¬((zH C.L s.k).kind=1∧isT (zx C.L s.k 1) [61,62]=true∧(zx C.L s.k 1).nl=false)from fun h=>by rw[HC.out.2]at h;cases h.2.1);obtain⟨⟨kd2,tx2,st2,nk2,nn2,mg2,ps2,nl2⟩,HT2⟩:=zU C.L (zB s).k;have HA:=zD (show isT ⟨kd2,tx2,st2,nk2,nn2,mg2,ps2,nl2⟩ [61,62]=false by rw[←HT2.out];exact HC.out.2);have HT2m:=zD (show zH C.L (min (s.k+1) (C.N - 1))=⟨kd2,tx2,st2,nk2,nn2,mg2,ps2,nl2⟩ by rw[show min (s.k+1) (C.N - 1)=s.k+1 by have:=hlt.out;omega];exact HT2.out);obtain⟨_,_,_,_,_,_,_,_,_⟩:=F2.c 2;go_wp2_with fail;refine F2.kT (zAv F2.P 1 1 rfl (by decide) HT2m.out) fun w3 As2 Am2 c12 c22 F3=>?_;go_wp2_with fail;refine F3.kQ (zCp [61,62] HA.out) fun w4 F4=>?_;go_wp2_with fail;refine F4.kB (zDV F4.P Hhar.out) fun w5 F5=>?_;have hpl:=zD (zEx HL.out (s:=s) hsk);have hNN:=zD F5.P.cx.n;have hl0:=zD (HL.out.on hsk (zGh Hhar.out));have heat:=zD (show Eat C.L s (zG C.L .params s).2 from zS HL.out (p:=.params) (s:=s) ⟨hsk,trivial⟩);go_wp2_with fail;refine(Calls.mono (show Calls prog 144 #[.pointer (some ⟨C.g,0,none⟩)] _ (LstQ C (zG C.L .params s) _)from HK.out.rank (q:=.params) ⟨F5.P.hi,trivial⟩ F5.P (yAD _) (by simp[zn])) ?_);rintro ev0 w0 ⟨Ar,n0,cp,rfl,hln,hl2,hl3,hr0,hp0,hg0⟩;have HPz:=zD hp0;have HLN:=zD hln;have HRz:=zD hr0;have HGz:=zD hg0;clear hln hl2 hl3 hr0 hp0 hg0;go_wp2_with fail;refine F5.kA ((HK.out.more (q:=.body (zG C.L .params s).1.subs) ⟨HPz.out.hi,trivial⟩ HPz.out (heat.out.more hl0.out)) _ _ _ _ HLN.out (by have:=hpl.out;have:=hNN.out;have:=HLN.out;omega) HGz.out F5.P.lt HRz.out) fun rq6 HRQ6 w6 d6_0 d6_1 d6_2 d6_3 d6_4 d6_5 d6_6 d6_7 d6_8 F6=>?_;obtain⟨_,_,_,_,_,_,_,_,_⟩:=F6.sto 4;obtain⟨_,_,_,_,_,_,_,_,_⟩:=F6.c 0;obtain⟨_,_,_,_,_,_,_,_,_⟩:=F6.f 0;go_wp2_with fail;refine zQ (F6.put 0 4) fun V7 F7=>?_;have q:=F7.c 0;exact F7.ret 4 rfl (by simp[results,results140,go_sem,q]) rfl (HR.out.symm.trans (by
  unfold zF;dsimp only;rw[if_neg HNO.out,if_pos Hhar.out];simp only[HRQ6.out])) (fun _ h=>h)
theorem zFt {C:Pc} {s:Ps} {w:World} (hp:Pre C.L (.assign) s) (K:KP C (zf C.L (.assign) s)) (h:Pa C s w) (hc:(zH C.L s.k).kind=1∧isT (zx C.L s.k 1) [61,62]=true∧(zx C.L s.k 1).nl=true) (har:zAR C.L s=true):zk C s w (.assign):=by
 refine zA0 hp h fun HL hlen hsk r W X HR hW hX F0=>?_;have HK:=zD K;clear K h hp;go_enter func140,ntmps140;go_upto_region 1 with(fail);clear hW hX;have HC:=zD hc;clear hc;have Hhar:=zD har;clear har;obtain⟨⟨kd,tx,st,nk,nn,mg,ps,nl⟩,HT⟩:=zU C.L (s).k;go_wp2_with fail;refine F0.kT (zp F0.P HT.out) fun w1 As Am c1 c2 F1=>?_;have F2:=F1.bt 1 44 rfl;have hf6:=zKb;have e1:((kd:Int)==1)=true:=by have:=HC.out.1;rw[HT.out]at this;have:kd=1:=this;rw[beq_iff_eq];omega
 have hlt:=zD (HL.out.lt hsk (by rw[HC.out.1];decide));have hn:=F2.P.cx.n;have HNO:=zD (show¬((zH C.L s.k).kind=1∧isT (zx C.L s.k 1) [61,62]=true∧(zx C.L s.k 1).nl=false)from fun h=>by rw[HC.out.2.2]at h;cases h.2.2);obtain⟨⟨kd2,tx2,st2,nk2,nn2,mg2,ps2,nl2⟩,HT2⟩:=zU C.L (zB s).k;have HA:=zD (show isT ⟨kd2,tx2,st2,nk2,nn2,mg2,ps2,nl2⟩ [61,62]=true by rw[←HT2.out];exact HC.out.2.1);have hnl2:nl2=true:=by have:=HC.out.2.2;rw[show zx C.L s.k 1=zH C.L (zB s).k from rfl,HT2.out]at this;exact this
 subst hnl2;have HT2m:=zD (show zH C.L (min (s.k+1) (C.N - 1))=⟨kd2,tx2,st2,nk2,nn2,mg2,ps2,true⟩ by rw[show min (s.k+1) (C.N - 1)=s.k+1 by have:=hlt.out;omega];exact HT2.out);obtain⟨_,_,_,_,_,_,_,_,_⟩:=F2.c 2;go_wp2_with fail;refine F2.kT (zAv F2.P 1 1 rfl (by decide) HT2m.out) fun w3 As2 Am2 c12 c22 F3=>?_;go_wp2_with fail;refine F3.kQ (zCp [61,62] HA.out) fun w4 F4=>?_;go_wp2_with fail;refine F4.kT (zAv F4.P 1 1 rfl (by decide) HT2m.out) fun w5 As3 Am3 c13 c23 F5=>?_;go_wp2_with fail;refine F5.kB (zDV F5.P Hhar.out) fun w6 F6=>?_;have hpl:=zD (zEx HL.out (s:=s) hsk);have hNN:=zD F6.P.cx.n;have hl0:=zD (HL.out.on hsk (zGh Hhar.out));have heat:=zD (show Eat C.L s (zG C.L .params s).2 from zS HL.out (p:=.params) (s:=s) ⟨hsk,trivial⟩);go_wp2_with fail;refine(Calls.mono (show Calls prog 144 #[.pointer (some ⟨C.g,0,none⟩)] _ (LstQ C (zG C.L .params s) _)from HK.out.rank (q:=.params) ⟨F6.P.hi,trivial⟩ F6.P (yAD _) (by simp[zn])) ?_);rintro ev0 w0 ⟨Ar,n0,cp,rfl,hln,hl2,hl3,hr0,hp0,hg0⟩;have HPz:=zD hp0;have HLN:=zD hln;have HRz:=zD hr0;have HGz:=zD hg0;clear hln hl2 hl3 hr0 hp0 hg0;go_wp2_with fail;refine F6.kA ((HK.out.more (q:=.body (zG C.L .params s).1.subs) ⟨HPz.out.hi,trivial⟩ HPz.out (heat.out.more hl0.out)) _ _ _ _ HLN.out (by have:=hpl.out;have:=hNN.out;have:=HLN.out;omega) HGz.out F6.P.lt HRz.out) fun rq7 HRQ7 w7 d7_0 d7_1 d7_2 d7_3 d7_4 d7_5 d7_6 d7_7 d7_8 F7=>?_;obtain⟨_,_,_,_,_,_,_,_,_⟩:=F7.sto 5;obtain⟨_,_,_,_,_,_,_,_,_⟩:=F7.c 0;obtain⟨_,_,_,_,_,_,_,_,_⟩:=F7.f 0;go_wp2_with fail;refine zQ (F7.put 0 5) fun V8 F8=>?_;have q:=F8.c 0;exact F8.ret 5 rfl (by simp[results,results140,go_sem,q]) rfl (HR.out.symm.trans (by
  unfold zF;dsimp only;rw[if_neg HNO.out,if_pos Hhar.out];simp only[HRQ7.out])) (fun _ h=>h)
theorem zGi {C:Pc} {s:Ps} {w:World} (hp:Pre C.L (.assign) s) (K:KP C (zf C.L (.assign) s)) (h:Pa C s w) (hc:(zH C.L s.k).kind≠1) (har:zAR C.L s=false):zk C s w (.assign):=by
 refine zA0 hp h fun HL hlen hsk r W X HR hW hX F0=>?_;have HK:=zD K;clear K h hp;go_enter func140,ntmps140;go_upto_region 1 with(fail);clear hW hX;have HC:=zD hc;clear hc;have Hhar:=zD har;clear har;obtain⟨⟨kd,tx,st,nk,nn,mg,ps,nl⟩,HT⟩:=zU C.L (s).k;go_wp2_with fail;refine F0.kT (zp F0.P HT.out) fun w1 As Am c1 c2 F1=>?_;have F2:=F1.bt 1 44 rfl;have hf6:=zKb;have HNO:=zD (show¬((zH C.L s.k).kind=1∧isT (zx C.L s.k 1) [61,62]=true∧(zx C.L s.k 1).nl=false)from fun h=>HC.out h.1);have e1:((kd:Int)==1)=false:=by have:=HC.out;rw[HT.out]at this;have:kd≠1:=this;rw[yA];omega
 obtain⟨_,_,_,_,_,_,_,_,_⟩:=F2.c 2;go_wp2_with fail;refine F2.kB (zDV F2.P Hhar.out) fun w3 F3=>?_;have hx:=zD (zS HL.out (p:=.cond) (s:=s) ⟨hsk,trivial⟩).adv;go_wp2_with fail;refine F3.kX (HK.out.rank (q:=.cond) ⟨F3.P.hi,trivial⟩ F3.P (yAD _) (by simp[zn])) fun rq4 HRQ4 w4 d4_0 d4_1 d4_2 d4_3 d4_4 d4_5 d4_6 d4_7 d4_8 F4=>?_;obtain⟨_,_,_,_,_,_,_,_,_⟩:=F4.sto 3;have hx2:=zD (show Adv C.L s (rq4.2) by have:=hx.out;rw[HRQ4.out]at this;exact this);obtain rfl:=(F4.t 3).kind;have F5:=F4.box [.int .i64 (rq4.1).nd.kind,d4_1,d4_2,d4_3,d4_4,d4_5,d4_6,d4_7,d4_8] 72 rfl (by decide) (by decide);obtain⟨⟨kdo,txo,sto,nko,nno,mgo,pso,nlo⟩,HTo⟩:=zU C.L (rq4.2).k;go_wp2_with fail;refine F5.kT (zp F5.P HTo.out) fun w6 Aso Amo c1o c2o F6=>?_;have F7:=F6.bt 5 44 rfl;obtain⟨ck,hck⟩:∃c,decide (kdo=5)=c:=⟨_,rfl⟩;obtain⟨co,hco⟩:∃c,decide (txo∈zIB)=c:=⟨_,rfl⟩;obtain⟨bt,hbt⟩:∃bt,zAH (rq4.1).nd.kind=bt:=⟨_,rfl⟩;have HCO:=zD hco;have HBT:=zD hbt;clear hco hbt;cases ck with
 | false=>
  have hk5:kdo≠5:=by simpa using hck
  have e5:((kdo:Int)==5)=false:=by rw[yA];omega
  have e6:((kdo:Int) !=5)=true:=by rw[bne,e5];rfl
  have HK5:=zD hk5;clear hck hk5;obtain⟨_,_,_,_,_,_,_,_,_⟩:=F7.c 6;go_upto_region 10 with(fail);refine zDo F7 fun w8 F8=>?_;obtain⟨_,_,_,_,_,_,_,_,_⟩:=F8.c 4;obtain⟨_,_,_,_,_,_,_,_,_⟩:=F8.sto 3;obtain⟨_,_,_,_,_,_,_,_,_⟩:=F8.c 0;obtain⟨_,_,_,_,_,_,_,_,_⟩:=F8.f 0;go_wp2_with fail;refine zQ (F8.put 0 3) fun V9 F9=>?_;have q:=F9.c 0;exact F9.ret 3 rfl (by simp[results,results140,go_sem,q]) rfl (HR.out.symm.trans (by
   unfold zF;dsimp only;rw[if_neg HNO.out,if_neg (by rw[Hhar.out];decide)]
   try dsimp only
   rw[HRQ4.out,HTo.out];rw[if_pos (.inl HK5.out)])) (fun _ h=>h)
 | true=>
  have hk5:kdo=5:=by simpa using hck
  have e5:((kdo:Int)==5)=true:=by rw[beq_iff_eq];omega
  have e6:((kdo:Int) !=5)=false:=by rw[bne,e5];rfl
  have HK5:=zD hk5;clear hck hk5;obtain⟨_,_,_,_,_,_,_,_,_⟩:=F7.c 6;go_wp2_with fail;refine F7.kQ (zM8 txo HCO.out) fun w10 F10=>?_;cases co with
  | true=>
   obtain⟨_,_,_,_,_,_,_,_,_⟩:=F10.c 4;go_wp2_with fail;refine(zBf _ _).mono ?_;rintro ev11 wx11 ⟨rfl,rfl⟩;rw[HBT.out];cases bt with
   | true=>
    have hl2:=zD (HL.out.lt (s:=rq4.2) hx2.out.hi (by rw[HTo.out];show kdo≠0;have:=HK5.out;omega));obtain⟨xk12,fk12,bk12⟩:=F10.k1;have F12:=F10.step hl2.out;go_upto_region 15 with(fail);refine zDo F12 fun w13 F13=>?_;have CL14:=zD (fun Q=>F13.dr.kX (Q:=Q) (HK.out.more (q:=.assign) ⟨F13.dr.P.hi,trivial⟩ F13.dr.P (Nat.lt_succ_of_le hx2.out.le)));obtain⟨_,_,_,_,_,_,_,_,_⟩:=F13.c 4;obtain⟨_,_,_,_,_,_,_,_,_⟩:=F13.c 6;go_upto_region 15 with(fail)
    go_cut [70] (fun _ wx=>∃(rq:Tr×Ps) (BB:Nat),Hid (zG C.L (.assign) (zB (rq4.2))=rq)∧Fr C (w.heap.size≤·) w [X] [.bx X 72 [.int .i64 49,.string ⟨(txo).toArray⟩,.slice none 0 0,.int .i64 0,.int .i64 0,.bool false,.slice none 0 0,.slice none 0 0,.slice (some ⟨BB,0,none⟩) 2 2],.tr (trN 49 (txo) [rq4.1,rq.1]) [.int .i64 49,.string ⟨(txo).toArray⟩,.slice none 0 0,.int .i64 0,.int .i64 0,.bool false,.slice none 0 0,.slice none 0 0,.slice (some ⟨BB,0,none⟩) 2 2]] rq.2 wx)
    case first=>
     go_region_law (first | (go_simp;go_at_call 140;(with_reducible refine CL14.out _ fun rq HRQ w14 d14_0 d14_1 d14_2 d14_3 d14_4 d14_5 d14_6 d14_7 d14_8 F14=>?_);obtain⟨_,_,_,_,_,_,_,_,_⟩:=F14.c 4;obtain⟨_,_,_,_,_,_,_,_,_⟩:=F14.c 6;obtain⟨_,_,_,_,_,_,_,_,_⟩:=(F14.al (.cells #[.int .i64 (rq4.1).nd.kind,d4_1,d4_2,d4_3,d4_4,d4_5,d4_6,d4_7,d4_8,d14_0,d14_1,d14_2,d14_3,d14_4,d14_5,d14_6,d14_7,d14_8] 72)).c 6;have LT14:=zD (fun Q=>F14.litN 49 txo (n:=2) (Q:=Q) (F14.ts2 3 7) rfl (by simp) rfl)) | (go_simp;go_at_call 139;(with_reducible refine LT14.out _ fun w15 F15=>?_);obtain⟨_,_,_,_,_,_,_,_,_⟩:=F15.c 0;obtain⟨_,_,_,_,_,_,_,_,_⟩:=F15.f 0))
     all_goals
      go_wp2_with fail;go_meet;exact⟨rq,w14.heap.size,HRQ,(F15.put 0 8).pk1 [X] [0,8] (by simp) (by decide) rfl (by simp)⟩
    case rest=>
     obtain⟨rq,BB,HRA,Fq⟩:=hcut;obtain⟨_,_,_,_,_,_,_,_,_⟩:=Fq.c 0;go_wp2_with fail;have q:=Fq.c 0;exact Fq.ret 1 rfl (by simp[results,results140,go_sem,q]) rfl (HR.out.symm.trans (by
      unfold zF;dsimp only;rw[if_neg HNO.out,if_neg (by rw[Hhar.out];decide)]
      try dsimp only
      rw[HRQ4.out,HTo.out];rw[if_neg (fun h=>h.elim (fun h=>h HK5.out) (fun h=>h (by have:=HCO.out;simpa using this)))];rw[if_neg (by rw[HBT.out];decide),HRA.out])) (fun _ h=>h)
   | false=>
    go_wp2_with fail;refine F10.kN (zCR F10.P 5 (by decide)) fun w16 F16=>?_;obtain⟨_,_,_,_,_,_,_,_,_⟩:=F16.c 4;obtain⟨_,_,_,_,_,_,_,_,_⟩:=F16.sto 3;obtain⟨_,_,_,_,_,_,_,_,_⟩:=F16.c 0;obtain⟨_,_,_,_,_,_,_,_,_⟩:=F16.f 0;go_wp2_with fail;refine zQ (F16.put 0 3) fun V17 F17=>?_;have q:=F17.c 0;exact F17.ret 3 rfl (by simp[results,results140,go_sem,q]) rfl (HR.out.symm.trans (by
     unfold zF;dsimp only;rw[if_neg HNO.out,if_neg (by rw[Hhar.out];decide)]
     try dsimp only
     rw[HRQ4.out,HTo.out];rw[if_neg (fun h=>h.elim (fun h=>h HK5.out) (fun h=>h (by have:=HCO.out;simpa using this)))];rw[if_pos HBT.out])) (fun _ h=>h)
  | false=>
   go_upto_region 10 with(fail);refine zDo F10 fun w18 F18=>?_;obtain⟨_,_,_,_,_,_,_,_,_⟩:=F18.c 4;obtain⟨_,_,_,_,_,_,_,_,_⟩:=F18.sto 3;obtain⟨_,_,_,_,_,_,_,_,_⟩:=F18.c 0;obtain⟨_,_,_,_,_,_,_,_,_⟩:=F18.f 0;go_wp2_with fail;refine zQ (F18.put 0 3) fun V19 F19=>?_;have q:=F19.c 0;exact F19.ret 3 rfl (by simp[results,results140,go_sem,q]) rfl (HR.out.symm.trans (by
    unfold zF;dsimp only;rw[if_neg HNO.out,if_neg (by rw[Hhar.out];decide)]
    try dsimp only
    rw[HRQ4.out,HTo.out];rw[if_pos (.inr (by have:=HCO.out;simpa using this))])) (fun _ h=>h)
theorem zGj {C:Pc} {s:Ps} {w:World} (hp:Pre C.L (.assign) s) (K:KP C (zf C.L (.assign) s)) (h:Pa C s w) (hc:(zH C.L s.k).kind=1∧isT (zx C.L s.k 1) [61,62]=false) (har:zAR C.L s=false):zk C s w (.assign):=by
 refine zA0 hp h fun HL hlen hsk r W X HR hW hX F0=>?_;have HK:=zD K;clear K h hp;go_enter func140,ntmps140;go_upto_region 1 with(fail);clear hW hX;have HC:=zD hc;clear hc;have Hhar:=zD har;clear har;obtain⟨⟨kd,tx,st,nk,nn,mg,ps,nl⟩,HT⟩:=zU C.L (s).k;go_wp2_with fail;refine F0.kT (zp F0.P HT.out) fun w1 As Am c1 c2 F1=>?_;have F2:=F1.bt 1 44 rfl;have hf6:=zKb;have e1:((kd:Int)==1)=true:=by have:=HC.out.1;rw[HT.out]at this;have:kd=1:=this;rw[beq_iff_eq];omega
 have hlt:=zD (HL.out.lt hsk (by rw[HC.out.1];decide));have hn:=F2.P.cx.n;have HNO:=zD (show¬((zH C.L s.k).kind=1∧isT (zx C.L s.k 1) [61,62]=true∧(zx C.L s.k 1).nl=false)from fun h=>by rw[HC.out.2]at h;cases h.2.1);obtain⟨⟨kd2,tx2,st2,nk2,nn2,mg2,ps2,nl2⟩,HT2⟩:=zU C.L (zB s).k;have HA:=zD (show isT ⟨kd2,tx2,st2,nk2,nn2,mg2,ps2,nl2⟩ [61,62]=false by rw[←HT2.out];exact HC.out.2);have HT2m:=zD (show zH C.L (min (s.k+1) (C.N - 1))=⟨kd2,tx2,st2,nk2,nn2,mg2,ps2,nl2⟩ by rw[show min (s.k+1) (C.N - 1)=s.k+1 by have:=hlt.out;omega];exact HT2.out);obtain⟨_,_,_,_,_,_,_,_,_⟩:=F2.c 2;go_wp2_with fail;refine F2.kT (zAv F2.P 1 1 rfl (by decide) HT2m.out) fun w3 As2 Am2 c12 c22 F3=>?_;go_wp2_with fail;refine F3.kQ (zCp [61,62] HA.out) fun w4 F4=>?_;go_wp2_with fail;refine F4.kB (zDV F4.P Hhar.out) fun w5 F5=>?_;have hx:=zD (zS HL.out (p:=.cond) (s:=s) ⟨hsk,trivial⟩).adv;go_wp2_with fail;refine F5.kX (HK.out.rank (q:=.cond) ⟨F5.P.hi,trivial⟩ F5.P (yAD _) (by simp[zn])) fun rq6 HRQ6 w6 d6_0 d6_1 d6_2 d6_3 d6_4 d6_5 d6_6 d6_7 d6_8 F6=>?_;obtain⟨_,_,_,_,_,_,_,_,_⟩:=F6.sto 4;have hx2:=zD (show Adv C.L s (rq6.2) by have:=hx.out;rw[HRQ6.out]at this;exact this);obtain rfl:=(F6.t 4).kind;have F7:=F6.box [.int .i64 (rq6.1).nd.kind,d6_1,d6_2,d6_3,d6_4,d6_5,d6_6,d6_7,d6_8] 72 rfl (by decide) (by decide);obtain⟨⟨kdo,txo,sto,nko,nno,mgo,pso,nlo⟩,HTo⟩:=zU C.L (rq6.2).k;go_wp2_with fail;refine F7.kT (zp F7.P HTo.out) fun w8 Aso Amo c1o c2o F8=>?_;have F9:=F8.bt 6 44 rfl;obtain⟨ck,hck⟩:∃c,decide (kdo=5)=c:=⟨_,rfl⟩;obtain⟨co,hco⟩:∃c,decide (txo∈zIB)=c:=⟨_,rfl⟩;obtain⟨bt,hbt⟩:∃bt,zAH (rq6.1).nd.kind=bt:=⟨_,rfl⟩;have HCO:=zD hco;have HBT:=zD hbt;clear hco hbt;cases ck with
 | false=>
  have hk5:kdo≠5:=by simpa using hck
  have e5:((kdo:Int)==5)=false:=by rw[yA];omega
  have e6:((kdo:Int) !=5)=true:=by rw[bne,e5];rfl
  have HK5:=zD hk5;clear hck hk5;obtain⟨_,_,_,_,_,_,_,_,_⟩:=F9.c 7;go_upto_region 10 with(fail);refine zDo F9 fun w10 F10=>?_;obtain⟨_,_,_,_,_,_,_,_,_⟩:=F10.c 5;obtain⟨_,_,_,_,_,_,_,_,_⟩:=F10.sto 4;obtain⟨_,_,_,_,_,_,_,_,_⟩:=F10.c 0;obtain⟨_,_,_,_,_,_,_,_,_⟩:=F10.f 0;go_wp2_with fail;refine zQ (F10.put 0 4) fun V11 F11=>?_;have q:=F11.c 0;exact F11.ret 4 rfl (by simp[results,results140,go_sem,q]) rfl (HR.out.symm.trans (by
   unfold zF;dsimp only;rw[if_neg HNO.out,if_neg (by rw[Hhar.out];decide)]
   try dsimp only
   rw[HRQ6.out,HTo.out];rw[if_pos (.inl HK5.out)])) (fun _ h=>h)
 | true=>
  have hk5:kdo=5:=by simpa using hck
  have e5:((kdo:Int)==5)=true:=by rw[beq_iff_eq];omega
  have e6:((kdo:Int) !=5)=false:=by rw[bne,e5];rfl
  have HK5:=zD hk5;clear hck hk5;obtain⟨_,_,_,_,_,_,_,_,_⟩:=F9.c 7;go_wp2_with fail;refine F9.kQ (zM8 txo HCO.out) fun w12 F12=>?_;cases co with
  | true=>
   obtain⟨_,_,_,_,_,_,_,_,_⟩:=F12.c 5;go_wp2_with fail;refine(zBf _ _).mono ?_;rintro ev13 wx13 ⟨rfl,rfl⟩;rw[HBT.out];cases bt with
   | true=>
    have hl2:=zD (HL.out.lt (s:=rq6.2) hx2.out.hi (by rw[HTo.out];show kdo≠0;have:=HK5.out;omega));obtain⟨xk14,fk14,bk14⟩:=F12.k1;have F14:=F12.step hl2.out;go_upto_region 15 with(fail);refine zDo F14 fun w15 F15=>?_;have CL16:=zD (fun Q=>F15.dr.kX (Q:=Q) (HK.out.more (q:=.assign) ⟨F15.dr.P.hi,trivial⟩ F15.dr.P (Nat.lt_succ_of_le hx2.out.le)));obtain⟨_,_,_,_,_,_,_,_,_⟩:=F15.c 5;obtain⟨_,_,_,_,_,_,_,_,_⟩:=F15.c 7;go_upto_region 15 with(fail)
    go_cut [70] (fun _ wx=>∃(rq:Tr×Ps) (BB:Nat),Hid (zG C.L (.assign) (zB (rq6.2))=rq)∧Fr C (w.heap.size≤·) w [X] [.bx X 72 [.int .i64 49,.string ⟨(txo).toArray⟩,.slice none 0 0,.int .i64 0,.int .i64 0,.bool false,.slice none 0 0,.slice none 0 0,.slice (some ⟨BB,0,none⟩) 2 2],.tr (trN 49 (txo) [rq6.1,rq.1]) [.int .i64 49,.string ⟨(txo).toArray⟩,.slice none 0 0,.int .i64 0,.int .i64 0,.bool false,.slice none 0 0,.slice none 0 0,.slice (some ⟨BB,0,none⟩) 2 2]] rq.2 wx)
    case first=>
     go_region_law (first | (go_simp;go_at_call 140;(with_reducible refine CL16.out _ fun rq HRQ w16 d16_0 d16_1 d16_2 d16_3 d16_4 d16_5 d16_6 d16_7 d16_8 F16=>?_);obtain⟨_,_,_,_,_,_,_,_,_⟩:=F16.c 5;obtain⟨_,_,_,_,_,_,_,_,_⟩:=F16.c 7;obtain⟨_,_,_,_,_,_,_,_,_⟩:=(F16.al (.cells #[.int .i64 (rq6.1).nd.kind,d6_1,d6_2,d6_3,d6_4,d6_5,d6_6,d6_7,d6_8,d16_0,d16_1,d16_2,d16_3,d16_4,d16_5,d16_6,d16_7,d16_8] 72)).c 7;have LT16:=zD (fun Q=>F16.litN 49 txo (n:=2) (Q:=Q) (F16.ts2 4 8) rfl (by simp) rfl)) | (go_simp;go_at_call 139;(with_reducible refine LT16.out _ fun w17 F17=>?_);obtain⟨_,_,_,_,_,_,_,_,_⟩:=F17.c 0;obtain⟨_,_,_,_,_,_,_,_,_⟩:=F17.f 0))
     all_goals
      go_wp2_with fail;go_meet;exact⟨rq,w16.heap.size,HRQ,(F17.put 0 9).pk1 [X] [0,9] (by simp) (by decide) rfl (by simp)⟩
    case rest=>
     obtain⟨rq,BB,HRA,Fq⟩:=hcut;obtain⟨_,_,_,_,_,_,_,_,_⟩:=Fq.c 0;go_wp2_with fail;have q:=Fq.c 0;exact Fq.ret 1 rfl (by simp[results,results140,go_sem,q]) rfl (HR.out.symm.trans (by
      unfold zF;dsimp only;rw[if_neg HNO.out,if_neg (by rw[Hhar.out];decide)]
      try dsimp only
      rw[HRQ6.out,HTo.out];rw[if_neg (fun h=>h.elim (fun h=>h HK5.out) (fun h=>h (by have:=HCO.out;simpa using this)))];rw[if_neg (by rw[HBT.out];decide),HRA.out])) (fun _ h=>h)
   | false=>
    go_wp2_with fail;refine F12.kN (zCR F12.P 5 (by decide)) fun w18 F18=>?_;obtain⟨_,_,_,_,_,_,_,_,_⟩:=F18.c 5;obtain⟨_,_,_,_,_,_,_,_,_⟩:=F18.sto 4;obtain⟨_,_,_,_,_,_,_,_,_⟩:=F18.c 0;obtain⟨_,_,_,_,_,_,_,_,_⟩:=F18.f 0;go_wp2_with fail;refine zQ (F18.put 0 4) fun V19 F19=>?_;have q:=F19.c 0;exact F19.ret 4 rfl (by simp[results,results140,go_sem,q]) rfl (HR.out.symm.trans (by
     unfold zF;dsimp only;rw[if_neg HNO.out,if_neg (by rw[Hhar.out];decide)]
     try dsimp only
     rw[HRQ6.out,HTo.out];rw[if_neg (fun h=>h.elim (fun h=>h HK5.out) (fun h=>h (by have:=HCO.out;simpa using this)))];rw[if_pos HBT.out])) (fun _ h=>h)
  | false=>
   go_upto_region 10 with(fail);refine zDo F12 fun w20 F20=>?_;obtain⟨_,_,_,_,_,_,_,_,_⟩:=F20.c 5;obtain⟨_,_,_,_,_,_,_,_,_⟩:=F20.sto 4;obtain⟨_,_,_,_,_,_,_,_,_⟩:=F20.c 0;obtain⟨_,_,_,_,_,_,_,_,_⟩:=F20.f 0;go_wp2_with fail;refine zQ (F20.put 0 4) fun V21 F21=>?_;have q:=F21.c 0;exact F21.ret 4 rfl (by simp[results,results140,go_sem,q]) rfl (HR.out.symm.trans (by
    unfold zF;dsimp only;rw[if_neg HNO.out,if_neg (by rw[Hhar.out];decide)]
    try dsimp only
    rw[HRQ6.out,HTo.out];rw[if_pos (.inr (by have:=HCO.out;simpa using this))])) (fun _ h=>h)
theorem zGk {C:Pc} {s:Ps} {w:World} (hp:Pre C.L (.assign) s) (K:KP C (zf C.L (.assign) s)) (h:Pa C s w) (hc:(zH C.L s.k).kind=1∧isT (zx C.L s.k 1) [61,62]=true∧(zx C.L s.k 1).nl=true) (har:zAR C.L s=false):zk C s w (.assign):=by
 refine zA0 hp h fun HL hlen hsk r W X HR hW hX F0=>?_;have HK:=zD K;clear K h hp;go_enter func140,ntmps140;go_upto_region 1 with(fail);clear hW hX;have HC:=zD hc;clear hc;have Hhar:=zD har;clear har;obtain⟨⟨kd,tx,st,nk,nn,mg,ps,nl⟩,HT⟩:=zU C.L (s).k;go_wp2_with fail;refine F0.kT (zp F0.P HT.out) fun w1 As Am c1 c2 F1=>?_;have F2:=F1.bt 1 44 rfl;have hf6:=zKb;have e1:((kd:Int)==1)=true:=by have:=HC.out.1;rw[HT.out]at this;have:kd=1:=this;rw[beq_iff_eq];omega
 have hlt:=zD (HL.out.lt hsk (by rw[HC.out.1];decide));have hn:=F2.P.cx.n;have HNO:=zD (show¬((zH C.L s.k).kind=1∧isT (zx C.L s.k 1) [61,62]=true∧(zx C.L s.k 1).nl=false)from fun h=>by rw[HC.out.2.2]at h;cases h.2.2);obtain⟨⟨kd2,tx2,st2,nk2,nn2,mg2,ps2,nl2⟩,HT2⟩:=zU C.L (zB s).k;have HA:=zD (show isT ⟨kd2,tx2,st2,nk2,nn2,mg2,ps2,nl2⟩ [61,62]=true by rw[←HT2.out];exact HC.out.2.1);have hnl2:nl2=true:=by have:=HC.out.2.2;rw[show zx C.L s.k 1=zH C.L (zB s).k from rfl,HT2.out]at this;exact this
 subst hnl2;have HT2m:=zD (show zH C.L (min (s.k+1) (C.N - 1))=⟨kd2,tx2,st2,nk2,nn2,mg2,ps2,true⟩ by rw[show min (s.k+1) (C.N - 1)=s.k+1 by have:=hlt.out;omega];exact HT2.out);obtain⟨_,_,_,_,_,_,_,_,_⟩:=F2.c 2;go_wp2_with fail;refine F2.kT (zAv F2.P 1 1 rfl (by decide) HT2m.out) fun w3 As2 Am2 c12 c22 F3=>?_;go_wp2_with fail;refine F3.kQ (zCp [61,62] HA.out) fun w4 F4=>?_;go_wp2_with fail;refine F4.kT (zAv F4.P 1 1 rfl (by decide) HT2m.out) fun w5 As3 Am3 c13 c23 F5=>?_;go_wp2_with fail;refine F5.kB (zDV F5.P Hhar.out) fun w6 F6=>?_;have hx:=zD (zS HL.out (p:=.cond) (s:=s) ⟨hsk,trivial⟩).adv;go_wp2_with fail;refine F6.kX (HK.out.rank (q:=.cond) ⟨F6.P.hi,trivial⟩ F6.P (yAD _) (by simp[zn])) fun rq7 HRQ7 w7 d7_0 d7_1 d7_2 d7_3 d7_4 d7_5 d7_6 d7_7 d7_8 F7=>?_;obtain⟨_,_,_,_,_,_,_,_,_⟩:=F7.sto 5;have hx2:=zD (show Adv C.L s (rq7.2) by have:=hx.out;rw[HRQ7.out]at this;exact this);obtain rfl:=(F7.t 5).kind;have F8:=F7.box [.int .i64 (rq7.1).nd.kind,d7_1,d7_2,d7_3,d7_4,d7_5,d7_6,d7_7,d7_8] 72 rfl (by decide) (by decide);obtain⟨⟨kdo,txo,sto,nko,nno,mgo,pso,nlo⟩,HTo⟩:=zU C.L (rq7.2).k;go_wp2_with fail;refine F8.kT (zp F8.P HTo.out) fun w9 Aso Amo c1o c2o F9=>?_;have F10:=F9.bt 7 44 rfl;obtain⟨ck,hck⟩:∃c,decide (kdo=5)=c:=⟨_,rfl⟩;obtain⟨co,hco⟩:∃c,decide (txo∈zIB)=c:=⟨_,rfl⟩;obtain⟨bt,hbt⟩:∃bt,zAH (rq7.1).nd.kind=bt:=⟨_,rfl⟩;have HCO:=zD hco;have HBT:=zD hbt;clear hco hbt;cases ck with
 | false=>
  have hk5:kdo≠5:=by simpa using hck
  have e5:((kdo:Int)==5)=false:=by rw[yA];omega
  have e6:((kdo:Int) !=5)=true:=by rw[bne,e5];rfl
  have HK5:=zD hk5;clear hck hk5;obtain⟨_,_,_,_,_,_,_,_,_⟩:=F10.c 8;go_upto_region 10 with(fail);refine zDo F10 fun w11 F11=>?_;obtain⟨_,_,_,_,_,_,_,_,_⟩:=F11.c 6;obtain⟨_,_,_,_,_,_,_,_,_⟩:=F11.sto 5;obtain⟨_,_,_,_,_,_,_,_,_⟩:=F11.c 0;obtain⟨_,_,_,_,_,_,_,_,_⟩:=F11.f 0;go_wp2_with fail;refine zQ (F11.put 0 5) fun V12 F12=>?_;have q:=F12.c 0;exact F12.ret 5 rfl (by simp[results,results140,go_sem,q]) rfl (HR.out.symm.trans (by
   unfold zF;dsimp only;rw[if_neg HNO.out,if_neg (by rw[Hhar.out];decide)]
   try dsimp only
   rw[HRQ7.out,HTo.out];rw[if_pos (.inl HK5.out)])) (fun _ h=>h)
 | true=>
  have hk5:kdo=5:=by simpa using hck
  have e5:((kdo:Int)==5)=true:=by rw[beq_iff_eq];omega
  have e6:((kdo:Int) !=5)=false:=by rw[bne,e5];rfl
  have HK5:=zD hk5;clear hck hk5;obtain⟨_,_,_,_,_,_,_,_,_⟩:=F10.c 8;go_wp2_with fail;refine F10.kQ (zM8 txo HCO.out) fun w13 F13=>?_;cases co with
  | true=>
   obtain⟨_,_,_,_,_,_,_,_,_⟩:=F13.c 6;go_wp2_with fail;refine(zBf _ _).mono ?_;rintro ev14 wx14 ⟨rfl,rfl⟩;rw[HBT.out];cases bt with
   | true=>
    have hl2:=zD (HL.out.lt (s:=rq7.2) hx2.out.hi (by rw[HTo.out];show kdo≠0;have:=HK5.out;omega));obtain⟨xk15,fk15,bk15⟩:=F13.k1;have F15:=F13.step hl2.out;go_upto_region 15 with(fail);refine zDo F15 fun w16 F16=>?_;have CL17:=zD (fun Q=>F16.dr.kX (Q:=Q) (HK.out.more (q:=.assign) ⟨F16.dr.P.hi,trivial⟩ F16.dr.P (Nat.lt_succ_of_le hx2.out.le)));obtain⟨_,_,_,_,_,_,_,_,_⟩:=F16.c 6;obtain⟨_,_,_,_,_,_,_,_,_⟩:=F16.c 8;go_upto_region 15 with(fail)
    go_cut [70] (fun _ wx=>∃(rq:Tr×Ps) (BB:Nat),Hid (zG C.L (.assign) (zB (rq7.2))=rq)∧Fr C (w.heap.size≤·) w [X] [.bx X 72 [.int .i64 49,.string ⟨(txo).toArray⟩,.slice none 0 0,.int .i64 0,.int .i64 0,.bool false,.slice none 0 0,.slice none 0 0,.slice (some ⟨BB,0,none⟩) 2 2],.tr (trN 49 (txo) [rq7.1,rq.1]) [.int .i64 49,.string ⟨(txo).toArray⟩,.slice none 0 0,.int .i64 0,.int .i64 0,.bool false,.slice none 0 0,.slice none 0 0,.slice (some ⟨BB,0,none⟩) 2 2]] rq.2 wx)
    case first=>
     go_region_law (first | (go_simp;go_at_call 140;(with_reducible refine CL17.out _ fun rq HRQ w17 d17_0 d17_1 d17_2 d17_3 d17_4 d17_5 d17_6 d17_7 d17_8 F17=>?_);obtain⟨_,_,_,_,_,_,_,_,_⟩:=F17.c 6;obtain⟨_,_,_,_,_,_,_,_,_⟩:=F17.c 8;obtain⟨_,_,_,_,_,_,_,_,_⟩:=(F17.al (.cells #[.int .i64 (rq7.1).nd.kind,d7_1,d7_2,d7_3,d7_4,d7_5,d7_6,d7_7,d7_8,d17_0,d17_1,d17_2,d17_3,d17_4,d17_5,d17_6,d17_7,d17_8] 72)).c 8;have LT17:=zD (fun Q=>F17.litN 49 txo (n:=2) (Q:=Q) (F17.ts2 5 9) rfl (by simp) rfl)) | (go_simp;go_at_call 139;(with_reducible refine LT17.out _ fun w18 F18=>?_);obtain⟨_,_,_,_,_,_,_,_,_⟩:=F18.c 0;obtain⟨_,_,_,_,_,_,_,_,_⟩:=F18.f 0))
     all_goals
      go_wp2_with fail;go_meet;exact⟨rq,w17.heap.size,HRQ,(F18.put 0 10).pk1 [X] [0,10] (by simp) (by decide) rfl (by simp)⟩
    case rest=>
     obtain⟨rq,BB,HRA,Fq⟩:=hcut;obtain⟨_,_,_,_,_,_,_,_,_⟩:=Fq.c 0;go_wp2_with fail;have q:=Fq.c 0;exact Fq.ret 1 rfl (by simp[results,results140,go_sem,q]) rfl (HR.out.symm.trans (by
      unfold zF;dsimp only;rw[if_neg HNO.out,if_neg (by rw[Hhar.out];decide)]
      try dsimp only
      rw[HRQ7.out,HTo.out];rw[if_neg (fun h=>h.elim (fun h=>h HK5.out) (fun h=>h (by have:=HCO.out;simpa using this)))];rw[if_neg (by rw[HBT.out];decide),HRA.out])) (fun _ h=>h)
   | false=>
    go_wp2_with fail;refine F13.kN (zCR F13.P 5 (by decide)) fun w19 F19=>?_;obtain⟨_,_,_,_,_,_,_,_,_⟩:=F19.c 6;obtain⟨_,_,_,_,_,_,_,_,_⟩:=F19.sto 5;obtain⟨_,_,_,_,_,_,_,_,_⟩:=F19.c 0;obtain⟨_,_,_,_,_,_,_,_,_⟩:=F19.f 0;go_wp2_with fail;refine zQ (F19.put 0 5) fun V20 F20=>?_;have q:=F20.c 0;exact F20.ret 5 rfl (by simp[results,results140,go_sem,q]) rfl (HR.out.symm.trans (by
     unfold zF;dsimp only;rw[if_neg HNO.out,if_neg (by rw[Hhar.out];decide)]
     try dsimp only
     rw[HRQ7.out,HTo.out];rw[if_neg (fun h=>h.elim (fun h=>h HK5.out) (fun h=>h (by have:=HCO.out;simpa using this)))];rw[if_pos HBT.out])) (fun _ h=>h)
  | false=>
   go_upto_region 10 with(fail);refine zDo F13 fun w21 F21=>?_;obtain⟨_,_,_,_,_,_,_,_,_⟩:=F21.c 6;obtain⟨_,_,_,_,_,_,_,_,_⟩:=F21.sto 5;obtain⟨_,_,_,_,_,_,_,_,_⟩:=F21.c 0;obtain⟨_,_,_,_,_,_,_,_,_⟩:=F21.f 0;go_wp2_with fail;refine zQ (F21.put 0 5) fun V22 F22=>?_;have q:=F22.c 0;exact F22.ret 5 rfl (by simp[results,results140,go_sem,q]) rfl (HR.out.symm.trans (by
    unfold zF;dsimp only;rw[if_neg HNO.out,if_neg (by rw[Hhar.out];decide)]
    try dsimp only
    rw[HRQ7.out,HTo.out];rw[if_pos (.inr (by have:=HCO.out;simpa using this))])) (fun _ h=>h)
theorem zKx {C:Pc} {s:Ps} {w:World} (hp:Pre C.L .assign s) (K:KP C (zf C.L .assign s)) (h:Pa C s w):zk C s w .assign:=by
 by_cases h1:(zH C.L s.k).kind=1
 · cases h2:isT (zx C.L s.k 1) [61,62]with
   | true=>
    cases h3:(zx C.L s.k 1).nl with
    | false=>exact zId hp K h ⟨h1,h2,h3⟩
    | true=>
     cases h4:zAR C.L s with
     | true=>exact zFt hp K h ⟨h1,h2,h3⟩ h4
     | false=>exact zGk hp K h ⟨h1,h2,h3⟩ h4
   | false=>
    cases h4:zAR C.L s with
    | true=>exact zFs hp K h ⟨h1,h2⟩ h4
    | false=>exact zGj hp K h ⟨h1,h2⟩ h4
 · cases h4:zAR C.L s with
   | true=>exact zFr hp K h h1 h4
   | false=>exact zGi hp K h h1 h4
theorem zHg {C:Pc} {s:Ps} {w:World} (hp:Pre C.L (.primary) s) (_K:KP C (zf C.L (.primary) s)) (h:Pa C s w) (hc:(zH C.L s.k).kind≠0∧(zH C.L s.k).kind≠2∧(zH C.L s.k).kind≠3∧(zH C.L s.k).kind≠4∧(zH C.L s.k).kind≠1) (hx:(zH C.L s.k).text=[116,114,117,101]):zk C s w (.primary):=by
 refine zA0 hp h fun HL hlen hsk r W X HR hW hX F0=>?_;clear h hp;go_enter func220,ntmps220;go_upto_region 1 with(fail);clear hW hX;have HC:=zD hc;have HX:=zD hx;clear hc hx;have hlt:=zD (HL.out.lt hsk HC.out.1);obtain⟨⟨kd,tx,st,nk,nn,mg,ps,nl⟩,HT⟩:=zU C.L (s).k;go_wp2_with fail;refine F0.kT (zp F0.P HT.out) fun w1 As Am c1 c2 F1=>?_;have F2:=F1.bt 1 44 rfl;have hkd:kd≠0∧kd≠2∧kd≠3∧kd≠4∧kd≠1:=by have:=HC.out;rw[HT.out]at this;exact this
 have htx:tx=[116,114,117,101]:=by have:=HX.out;rw[HT.out]at this;exact this
 have e0:((kd:Int)==0)=false:=by rw[yA];omega
 have e1:((kd:Int)==1)=false:=by rw[yA];omega
 have e2:((kd:Int)==2)=false:=by rw[yA];omega
 have e3:((kd:Int)==3)=false:=by rw[yA];omega
 have e4:((kd:Int)==4)=false:=by rw[yA];omega
 have n0:(tx==[116,114,117,101])=true:=by rw[htx];decide
 clear hkd htx;obtain⟨_,_,_,_,_,_,_,_,_⟩:=F2.c 2;obtain⟨xk3,fk3,bk3⟩:=F2.k1;have F3:=F2.step hlt.out;obtain⟨_,_,_,_,_,_,_,_,_⟩:=F3.c 2;go_wp2_with fail;refine F3.made0 _ fun w4 F4=>?_;obtain⟨_,_,_,_,_,_,_,_,_⟩:=F4.c 0;obtain⟨_,_,_,_,_,_,_,_,_⟩:=F4.f 0;go_wp2_with fail;refine zQ (F4.put 0 3) fun V5 F5=>?_;have q:=F5.c 0;exact F5.ret 3 rfl (by simp[results,results220,go_sem,q]) rfl (HR.out.symm.trans (by
  unfold zF;dsimp only;rw[if_neg HC.out.1,if_neg HC.out.2.1,if_neg HC.out.2.2.1,if_neg HC.out.2.2.2.1,if_neg HC.out.2.2.2.2,if_pos HX.out])) (fun _ h=>h)
theorem zGl {C:Pc} {s:Ps} {w:World} (hp:Pre C.L (.primary) s) (_K:KP C (zf C.L (.primary) s)) (h:Pa C s w) (hc:(zH C.L s.k).kind≠0∧(zH C.L s.k).kind≠2∧(zH C.L s.k).kind≠3∧(zH C.L s.k).kind≠4∧(zH C.L s.k).kind≠1) (hx:(zH C.L s.k).text=[102,97,108,115,101]):zk C s w (.primary):=by
 refine zA0 hp h fun HL hlen hsk r W X HR hW hX F0=>?_;clear h hp;go_enter func220,ntmps220;go_upto_region 1 with(fail);clear hW hX;have HC:=zD hc;have HX:=zD hx;clear hc hx;have hlt:=zD (HL.out.lt hsk HC.out.1);obtain⟨⟨kd,tx,st,nk,nn,mg,ps,nl⟩,HT⟩:=zU C.L (s).k;go_wp2_with fail;refine F0.kT (zp F0.P HT.out) fun w1 As Am c1 c2 F1=>?_;have F2:=F1.bt 1 44 rfl;have hkd:kd≠0∧kd≠2∧kd≠3∧kd≠4∧kd≠1:=by have:=HC.out;rw[HT.out]at this;exact this
 have htx:tx=[102,97,108,115,101]:=by have:=HX.out;rw[HT.out]at this;exact this
 have e0:((kd:Int)==0)=false:=by rw[yA];omega
 have e1:((kd:Int)==1)=false:=by rw[yA];omega
 have e2:((kd:Int)==2)=false:=by rw[yA];omega
 have e3:((kd:Int)==3)=false:=by rw[yA];omega
 have e4:((kd:Int)==4)=false:=by rw[yA];omega
 have n0:(tx==[116,114,117,101])=false:=by rw[htx];decide
 have n1:(tx==[102,97,108,115,101])=true:=by rw[htx];decide
 clear hkd htx;obtain⟨_,_,_,_,_,_,_,_,_⟩:=F2.c 2;obtain⟨xk3,fk3,bk3⟩:=F2.k1;have F3:=F2.step hlt.out;obtain⟨_,_,_,_,_,_,_,_,_⟩:=F3.c 2;go_wp2_with fail;refine F3.made0 _ fun w4 F4=>?_;obtain⟨_,_,_,_,_,_,_,_,_⟩:=F4.c 0;obtain⟨_,_,_,_,_,_,_,_,_⟩:=F4.f 0;go_wp2_with fail;refine zQ (F4.put 0 3) fun V5 F5=>?_;have q:=F5.c 0;exact F5.ret 3 rfl (by simp[results,results220,go_sem,q]) rfl (HR.out.symm.trans (by
  unfold zF;dsimp only;rw[if_neg HC.out.1,if_neg HC.out.2.1,if_neg HC.out.2.2.1,if_neg HC.out.2.2.2.1,if_neg HC.out.2.2.2.2,if_neg (by rw[HX.out];decide),if_pos HX.out])) (fun _ h=>h)
theorem zHh {C:Pc} {s:Ps} {w:World} (hp:Pre C.L (.primary) s) (_K:KP C (zf C.L (.primary) s)) (h:Pa C s w) (hc:(zH C.L s.k).kind≠0∧(zH C.L s.k).kind≠2∧(zH C.L s.k).kind≠3∧(zH C.L s.k).kind≠4∧(zH C.L s.k).kind≠1) (hx:(zH C.L s.k).text=[110,117,108,108]):zk C s w (.primary):=by
 refine zA0 hp h fun HL hlen hsk r W X HR hW hX F0=>?_;clear h hp;go_enter func220,ntmps220;go_upto_region 1 with(fail);clear hW hX;have HC:=zD hc;have HX:=zD hx;clear hc hx;have hlt:=zD (HL.out.lt hsk HC.out.1);obtain⟨⟨kd,tx,st,nk,nn,mg,ps,nl⟩,HT⟩:=zU C.L (s).k;go_wp2_with fail;refine F0.kT (zp F0.P HT.out) fun w1 As Am c1 c2 F1=>?_;have F2:=F1.bt 1 44 rfl;have hkd:kd≠0∧kd≠2∧kd≠3∧kd≠4∧kd≠1:=by have:=HC.out;rw[HT.out]at this;exact this
 have htx:tx=[110,117,108,108]:=by have:=HX.out;rw[HT.out]at this;exact this
 have e0:((kd:Int)==0)=false:=by rw[yA];omega
 have e1:((kd:Int)==1)=false:=by rw[yA];omega
 have e2:((kd:Int)==2)=false:=by rw[yA];omega
 have e3:((kd:Int)==3)=false:=by rw[yA];omega
 have e4:((kd:Int)==4)=false:=by rw[yA];omega
 have n0:(tx==[116,114,117,101])=false:=by rw[htx];decide
 have n1:(tx==[102,97,108,115,101])=false:=by rw[htx];decide
 have n2:(tx==[110,117,108,108])=true:=by rw[htx];decide
 clear hkd htx;obtain⟨_,_,_,_,_,_,_,_,_⟩:=F2.c 2;obtain⟨xk3,fk3,bk3⟩:=F2.k1;have F3:=F2.step hlt.out;obtain⟨_,_,_,_,_,_,_,_,_⟩:=F3.c 2;go_wp2_with fail;refine F3.made0 _ fun w4 F4=>?_;obtain⟨_,_,_,_,_,_,_,_,_⟩:=F4.c 0;obtain⟨_,_,_,_,_,_,_,_,_⟩:=F4.f 0;go_wp2_with fail;refine zQ (F4.put 0 3) fun V5 F5=>?_;have q:=F5.c 0;exact F5.ret 3 rfl (by simp[results,results220,go_sem,q]) rfl (HR.out.symm.trans (by
  unfold zF;dsimp only;rw[if_neg HC.out.1,if_neg HC.out.2.1,if_neg HC.out.2.2.1,if_neg HC.out.2.2.2.1,if_neg HC.out.2.2.2.2,if_neg (by rw[HX.out];decide),if_neg (by rw[HX.out];decide),if_pos HX.out])) (fun _ h=>h)
theorem zHi {C:Pc} {s:Ps} {w:World} (hp:Pre C.L (.primary) s) (_K:KP C (zf C.L (.primary) s)) (h:Pa C s w) (hc:(zH C.L s.k).kind≠0∧(zH C.L s.k).kind≠2∧(zH C.L s.k).kind≠3∧(zH C.L s.k).kind≠4∧(zH C.L s.k).kind≠1) (hx:(zH C.L s.k).text=[116,104,105,115]):zk C s w (.primary):=by
 refine zA0 hp h fun HL hlen hsk r W X HR hW hX F0=>?_;clear h hp;go_enter func220,ntmps220;go_upto_region 1 with(fail);clear hW hX;have HC:=zD hc;have HX:=zD hx;clear hc hx;have hlt:=zD (HL.out.lt hsk HC.out.1);obtain⟨⟨kd,tx,st,nk,nn,mg,ps,nl⟩,HT⟩:=zU C.L (s).k;go_wp2_with fail;refine F0.kT (zp F0.P HT.out) fun w1 As Am c1 c2 F1=>?_;have F2:=F1.bt 1 44 rfl;have hkd:kd≠0∧kd≠2∧kd≠3∧kd≠4∧kd≠1:=by have:=HC.out;rw[HT.out]at this;exact this
 have htx:tx=[116,104,105,115]:=by have:=HX.out;rw[HT.out]at this;exact this
 have e0:((kd:Int)==0)=false:=by rw[yA];omega
 have e1:((kd:Int)==1)=false:=by rw[yA];omega
 have e2:((kd:Int)==2)=false:=by rw[yA];omega
 have e3:((kd:Int)==3)=false:=by rw[yA];omega
 have e4:((kd:Int)==4)=false:=by rw[yA];omega
 have n0:(tx==[116,114,117,101])=false:=by rw[htx];decide
 have n1:(tx==[102,97,108,115,101])=false:=by rw[htx];decide
 have n2:(tx==[110,117,108,108])=false:=by rw[htx];decide
 have n3:(tx==[116,104,105,115])=true:=by rw[htx];decide
 clear hkd htx;obtain⟨_,_,_,_,_,_,_,_,_⟩:=F2.c 2;obtain⟨xk3,fk3,bk3⟩:=F2.k1;have F3:=F2.step hlt.out;obtain⟨_,_,_,_,_,_,_,_,_⟩:=F3.c 2;go_wp2_with fail;refine F3.made0 _ fun w4 F4=>?_;obtain⟨_,_,_,_,_,_,_,_,_⟩:=F4.c 0;obtain⟨_,_,_,_,_,_,_,_,_⟩:=F4.f 0;go_wp2_with fail;refine zQ (F4.put 0 3) fun V5 F5=>?_;have q:=F5.c 0;exact F5.ret 3 rfl (by simp[results,results220,go_sem,q]) rfl (HR.out.symm.trans (by
  unfold zF;dsimp only;rw[if_neg HC.out.1,if_neg HC.out.2.1,if_neg HC.out.2.2.1,if_neg HC.out.2.2.2.1,if_neg HC.out.2.2.2.2,if_neg (by rw[HX.out];decide),if_neg (by rw[HX.out];decide),if_neg (by rw[HX.out];decide),if_pos HX.out])) (fun _ h=>h)
theorem zFu {C:Pc} {s:Ps} {w:World} (hp:Pre C.L (.primary) s) (K:KP C (zf C.L (.primary) s)) (h:Pa C s w) (hc:(zH C.L s.k).kind≠0∧(zH C.L s.k).kind≠2∧(zH C.L s.k).kind≠3∧(zH C.L s.k).kind≠4∧(zH C.L s.k).kind≠1) (hx:(zH C.L s.k).text=[123]):zk C s w (.primary):=by
 refine zA0 hp h fun HL hlen hsk r W X HR hW hX F0=>?_;have HK:=zD K;clear K h hp;go_enter func220,ntmps220;go_upto_region 1 with(fail);clear hW hX;have HC:=zD hc;have HX:=zD hx;clear hc hx;have hlt:=zD (HL.out.lt hsk HC.out.1);obtain⟨⟨kd,tx,st,nk,nn,mg,ps,nl⟩,HT⟩:=zU C.L (s).k;go_wp2_with fail;refine F0.kT (zp F0.P HT.out) fun w1 As Am c1 c2 F1=>?_;have F2:=F1.bt 1 44 rfl;have hkd:kd≠0∧kd≠2∧kd≠3∧kd≠4∧kd≠1:=by have:=HC.out;rw[HT.out]at this;exact this
 have htx:tx=[123]:=by have:=HX.out;rw[HT.out]at this;exact this
 have e0:((kd:Int)==0)=false:=by rw[yA];omega
 have e1:((kd:Int)==1)=false:=by rw[yA];omega
 have e2:((kd:Int)==2)=false:=by rw[yA];omega
 have e3:((kd:Int)==3)=false:=by rw[yA];omega
 have e4:((kd:Int)==4)=false:=by rw[yA];omega
 have n0:(tx==[116,114,117,101])=false:=by rw[htx];decide
 have n1:(tx==[102,97,108,115,101])=false:=by rw[htx];decide
 have n2:(tx==[110,117,108,108])=false:=by rw[htx];decide
 have n3:(tx==[116,104,105,115])=false:=by rw[htx];decide
 have n4:(tx==[91])=false:=by rw[htx];decide
 have n5:(tx==[123])=true:=by rw[htx];decide
 clear hkd htx;obtain⟨_,_,_,_,_,_,_,_,_⟩:=F2.c 2;obtain⟨xk3,fk3,bk3⟩:=F2.k1;have F3:=F2.step hlt.out;obtain⟨_,_,_,_,_,_,_,_,_⟩:=F3.c 2;go_wp2_with fail;refine F3.kX (HK.out.more (q:=.object) ⟨F3.P.hi,trivial⟩ F3.P (yAG s.k)) fun rq4 HRQ4 w4 d4_0 d4_1 d4_2 d4_3 d4_4 d4_5 d4_6 d4_7 d4_8 F4=>?_;obtain⟨_,_,_,_,_,_,_,_,_⟩:=F4.sto 3;obtain⟨_,_,_,_,_,_,_,_,_⟩:=F4.c 0;obtain⟨_,_,_,_,_,_,_,_,_⟩:=F4.f 0;go_wp2_with fail;refine zQ (F4.put 0 3) fun V5 F5=>?_;have q:=F5.c 0;exact F5.ret 3 rfl (by simp[results,results220,go_sem,q]) rfl (HR.out.symm.trans (by
  unfold zF;dsimp only;rw[if_neg HC.out.1,if_neg HC.out.2.1,if_neg HC.out.2.2.1,if_neg HC.out.2.2.2.1,if_neg HC.out.2.2.2.2,if_neg (by rw[HX.out];decide),if_neg (by rw[HX.out];decide),if_neg (by rw[HX.out];decide),if_neg (by rw[HX.out];decide),if_neg (by rw[HX.out];decide),if_pos HX.out];simp only[HRQ4.out])) (fun _ h=>h)
theorem zGm {C:Pc} {s:Ps} {w:World} (hp:Pre C.L (.primary) s) (K:KP C (zf C.L (.primary) s)) (h:Pa C s w) (hc:(zH C.L s.k).kind≠0∧(zH C.L s.k).kind≠2∧(zH C.L s.k).kind≠3∧(zH C.L s.k).kind≠4∧(zH C.L s.k).kind≠1) (hx:(zH C.L s.k).text=[40]):zk C s w (.primary):=by
 refine zA0 hp h fun HL hlen hsk r W X HR hW hX F0=>?_;have HK:=zD K;clear K h hp;go_enter func220,ntmps220;go_upto_region 1 with(fail);clear hW hX;have HC:=zD hc;have HX:=zD hx;clear hc hx;have hlt:=zD (HL.out.lt hsk HC.out.1);obtain⟨⟨kd,tx,st,nk,nn,mg,ps,nl⟩,HT⟩:=zU C.L (s).k;go_wp2_with fail;refine F0.kT (zp F0.P HT.out) fun w1 As Am c1 c2 F1=>?_;have F2:=F1.bt 1 44 rfl;have hkd:kd≠0∧kd≠2∧kd≠3∧kd≠4∧kd≠1:=by have:=HC.out;rw[HT.out]at this;exact this
 have htx:tx=[40]:=by have:=HX.out;rw[HT.out]at this;exact this
 have e0:((kd:Int)==0)=false:=by rw[yA];omega
 have e1:((kd:Int)==1)=false:=by rw[yA];omega
 have e2:((kd:Int)==2)=false:=by rw[yA];omega
 have e3:((kd:Int)==3)=false:=by rw[yA];omega
 have e4:((kd:Int)==4)=false:=by rw[yA];omega
 have n0:(tx==[116,114,117,101])=false:=by rw[htx];decide
 have n1:(tx==[102,97,108,115,101])=false:=by rw[htx];decide
 have n2:(tx==[110,117,108,108])=false:=by rw[htx];decide
 have n3:(tx==[116,104,105,115])=false:=by rw[htx];decide
 have n4:(tx==[91])=false:=by rw[htx];decide
 have n5:(tx==[123])=false:=by rw[htx];decide
 have n6:(tx==[102,117,110,99,116,105,111,110])=false:=by rw[htx];decide
 have n7:(tx==[40])=true:=by rw[htx];decide
 clear hkd htx;obtain⟨_,_,_,_,_,_,_,_,_⟩:=F2.c 2;obtain⟨xk3,fk3,bk3⟩:=F2.k1;have F3:=F2.step hlt.out;obtain⟨_,_,_,_,_,_,_,_,_⟩:=F3.c 2;go_wp2_with fail;refine F3.kX (HK.out.more (q:=.assign) ⟨F3.P.hi,trivial⟩ F3.P (yAG s.k)) fun rq4 HRQ4 w4 d4_0 d4_1 d4_2 d4_3 d4_4 d4_5 d4_6 d4_7 d4_8 F4=>?_;obtain⟨_,_,_,_,_,_,_,_,_⟩:=F4.sto 3;have F5:=F4.bt 3 72 rfl;go_wp2_with fail;refine F5.kN (zAE F5.P [41]) fun w6 F6=>?_;obtain⟨_,_,_,_,_,_,_,_,_⟩:=F6.c 4;obtain⟨_,_,_,_,_,_,_,_,_⟩:=F6.c 0;obtain⟨_,_,_,_,_,_,_,_,_⟩:=F6.f 0;go_wp2_with fail;refine zQ (F6.put 0 3) fun V7 F7=>?_;have q:=F7.c 0;exact F7.ret 3 rfl (by simp[results,results220,go_sem,q]) rfl (HR.out.symm.trans (by
  unfold zF;dsimp only;rw[if_neg HC.out.1,if_neg HC.out.2.1,if_neg HC.out.2.2.1,if_neg HC.out.2.2.2.1,if_neg HC.out.2.2.2.2,if_neg (by rw[HX.out];decide),if_neg (by rw[HX.out];decide),if_neg (by rw[HX.out];decide),if_neg (by rw[HX.out];decide),if_neg (by rw[HX.out];decide),if_neg (by rw[HX.out];decide),if_neg (by rw[HX.out];decide),if_pos HX.out];simp only[HRQ4.out])) (fun _ h=>h)
theorem zHj {C:Pc} {s:Ps} {w:World} (hp:Pre C.L (.primary) s) (K:KP C (zf C.L (.primary) s)) (h:Pa C s w) (hc:(zH C.L s.k).kind≠0∧(zH C.L s.k).kind≠2∧(zH C.L s.k).kind≠3∧(zH C.L s.k).kind≠4∧(zH C.L s.k).kind≠1) (hx:(zH C.L s.k).text=[91]):zk C s w (.primary):=by
 refine zA0 hp h fun HL hlen hsk r W X HR hW hX F0=>?_;have HK:=zD K;clear K h hp;go_enter func220,ntmps220;go_upto_region 1 with(fail);clear hW hX;have HC:=zD hc;have HX:=zD hx;clear hc hx;have hlt:=zD (HL.out.lt hsk HC.out.1);obtain⟨⟨kd,tx,st,nk,nn,mg,ps,nl⟩,HT⟩:=zU C.L (s).k;go_wp2_with fail;refine F0.kT (zp F0.P HT.out) fun w1 As Am c1 c2 F1=>?_;have F2:=F1.bt 1 44 rfl;have hkd:kd≠0∧kd≠2∧kd≠3∧kd≠4∧kd≠1:=by have:=HC.out;rw[HT.out]at this;exact this
 have htx:tx=[91]:=by have:=HX.out;rw[HT.out]at this;exact this
 have e0:((kd:Int)==0)=false:=by rw[yA];omega
 have e1:((kd:Int)==1)=false:=by rw[yA];omega
 have e2:((kd:Int)==2)=false:=by rw[yA];omega
 have e3:((kd:Int)==3)=false:=by rw[yA];omega
 have e4:((kd:Int)==4)=false:=by rw[yA];omega
 have n0:(tx==[116,114,117,101])=false:=by rw[htx];decide
 have n1:(tx==[102,97,108,115,101])=false:=by rw[htx];decide
 have n2:(tx==[110,117,108,108])=false:=by rw[htx];decide
 have n3:(tx==[116,104,105,115])=false:=by rw[htx];decide
 have n4:(tx==[91])=true:=by rw[htx];decide
 clear hkd htx;obtain⟨_,_,_,_,_,_,_,_,_⟩:=F2.c 2;obtain⟨xk3,fk3,bk3⟩:=F2.k1;have F3:=F2.step hlt.out;obtain⟨_,_,_,_,_,_,_,_,_⟩:=F3.c 2;go_wp2_with fail;refine F3.kL (HK.out.more (q:=.list [93]) ⟨F3.P.hi,trivial⟩ F3.P (yAG s.k)) fun w4 Ar n0 cp hl4 _ hc4 F4=>?_;go_wp2_with fail;refine F4.kQ (zAk _ _ _ _) fun w5 F5=>?_;have F6:=F5.rowK 3 rfl 38;obtain⟨_,_,_,_,_,_,_,_,_⟩:=F6.c 0;obtain⟨_,_,_,_,_,_,_,_,_⟩:=F6.f 0;go_wp2_with fail;refine zQ (F6.put 0 4) fun V7 F7=>?_;have q:=F7.c 0;exact F7.ret 4 rfl (by simp[results,results220,go_sem,q]) rfl (HR.out.symm.trans (by
  unfold zF;dsimp only;rw[if_neg HC.out.1,if_neg HC.out.2.1,if_neg HC.out.2.2.1,if_neg HC.out.2.2.2.1,if_neg HC.out.2.2.2.2,if_neg (by rw[HX.out];decide),if_neg (by rw[HX.out];decide),if_neg (by rw[HX.out];decide),if_neg (by rw[HX.out];decide),if_pos HX.out])) (fun _ h=>h)
theorem zHk {C:Pc} {s:Ps} {w:World} (hp:Pre C.L (.primary) s) (_K:KP C (zf C.L (.primary) s)) (h:Pa C s w) (hc:(zH C.L s.k).kind=1):zk C s w (.primary):=by
 refine zA0 hp h fun HL hlen hsk r W X HR hW hX F0=>?_;clear h hp;go_enter func220,ntmps220;go_upto_region 1 with(fail);clear hW hX;have HC:=zD hc;clear hc;have hlt:=zD (HL.out.lt hsk (by rw[HC.out];decide));obtain⟨⟨kd,tx,st,nk,nn,mg,ps,nl⟩,HT⟩:=zU C.L (s).k;go_wp2_with fail;refine F0.kT (zp F0.P HT.out) fun w1 As Am c1 c2 F1=>?_;have F2:=F1.bt 1 44 rfl;have hkd:kd=1:=by have:=HC.out;rw[HT.out]at this;exact this
 have e0:((kd:Int)==0)=false:=by rw[hkd];decide
 have e1:((kd:Int)==1)=true:=by rw[hkd];decide
 have e2:((kd:Int)==2)=false:=by rw[hkd];decide
 have e3:((kd:Int)==3)=false:=by rw[hkd];decide
 have e4:((kd:Int)==4)=false:=by rw[hkd];decide
 clear hkd;obtain⟨_,_,_,_,_,_,_,_,_⟩:=F2.c 2;obtain⟨xk3,fk3,bk3⟩:=F2.k1;have F3:=F2.step hlt.out;obtain⟨_,_,_,_,_,_,_,_,_⟩:=F3.c 2;go_wp2_with fail;refine F3.named0 _ tx fun w4 F4=>?_;obtain⟨_,_,_,_,_,_,_,_,_⟩:=F4.c 0;obtain⟨_,_,_,_,_,_,_,_,_⟩:=F4.f 0;go_wp2_with fail;refine zQ (F4.put 0 3) fun V5 F5=>?_;have q:=F5.c 0;exact F5.ret 3 rfl (by simp[results,results220,go_sem,q]) rfl (HR.out.symm.trans (by
  unfold zF;dsimp only;rw[if_neg (by rw[HC.out];decide),if_neg (by rw[HC.out];decide),if_neg (by rw[HC.out];decide),if_neg (by rw[HC.out];decide),if_pos HC.out,HT.out])) (fun _ h=>h)
theorem zCy {C:Pc} {s:Ps} {w:World} (hp:Pre C.L (.primary) s) (K:KP C (zf C.L (.primary) s)) (h:Pa C s w) (hc:(zH C.L s.k).kind≠0∧(zH C.L s.k).kind≠2∧(zH C.L s.k).kind≠3∧(zH C.L s.k).kind≠4∧(zH C.L s.k).kind≠1) (hx:(zH C.L s.k).text=[102,117,110,99,116,105,111,110]) (hn:(zH C.L (zB s).k).kind=1):zk C s w (.primary):=by
 refine zA0 hp h fun HL hlen hsk r W X HR hW hX F0=>?_;have HK:=zD K;clear K h hp;go_enter func220,ntmps220;go_upto_region 1 with(fail);clear hW hX;have HC:=zD hc;have HX:=zD hx;clear hc hx;have hlt:=zD (HL.out.lt hsk HC.out.1);obtain⟨⟨kd,tx,st,nk,nn,mg,ps,nl⟩,HT⟩:=zU C.L (s).k;go_wp2_with fail;refine F0.kT (zp F0.P HT.out) fun w1 As Am c1 c2 F1=>?_;have F2:=F1.bt 1 44 rfl;have hkd:kd≠0∧kd≠2∧kd≠3∧kd≠4∧kd≠1:=by have:=HC.out;rw[HT.out]at this;exact this
 have htx:tx=[102,117,110,99,116,105,111,110]:=by have:=HX.out;rw[HT.out]at this;exact this
 have e0:((kd:Int)==0)=false:=by rw[yA];omega
 have e1:((kd:Int)==1)=false:=by rw[yA];omega
 have e2:((kd:Int)==2)=false:=by rw[yA];omega
 have e3:((kd:Int)==3)=false:=by rw[yA];omega
 have e4:((kd:Int)==4)=false:=by rw[yA];omega
 have n0:(tx==[116,114,117,101])=false:=by rw[htx];decide
 have n1:(tx==[102,97,108,115,101])=false:=by rw[htx];decide
 have n2:(tx==[110,117,108,108])=false:=by rw[htx];decide
 have n3:(tx==[116,104,105,115])=false:=by rw[htx];decide
 have n4:(tx==[91])=false:=by rw[htx];decide
 have n5:(tx==[123])=false:=by rw[htx];decide
 have n6:(tx==[102,117,110,99,116,105,111,110])=true:=by rw[htx];decide
 clear hkd htx;obtain⟨_,_,_,_,_,_,_,_,_⟩:=F2.c 2;obtain⟨xk3,fk3,bk3⟩:=F2.k1;have F3:=F2.step hlt.out;obtain⟨_,_,_,_,_,_,_,_,_⟩:=F3.c 2;have HN:=zD hn;clear hn;have hf0:=zUY;obtain⟨⟨kd2,tx2,st2,nk2,nn2,mg2,ps2,nl2⟩,HT2⟩:=zU C.L (zB (s)).k;have hk2:kd2=1:=by have:=HN.out;rw[HT2.out]at this;exact this
 have f1:((kd2:Int)==1)=true:=by rw[beq_iff_eq];omega
 clear hk2;go_wp2_with fail;refine F3.kT (zp F3.P HT2.out) fun w4 As2 Am2 c12 c22 F4=>?_;go_wp2_with fail;refine F4.kS (zDU F4.P) fun w5 F5=>?_;go_wp2_with fail;refine F5.kX (HK.out.more (q:=.func 41 (zW C.L (zB s)).1) ⟨F5.P.hi,trivial⟩ F5.P (yAA (yAG s.k) (zAD (s:=zB s) HL.out hlt.out).adv.le)) fun rq6 HRQ6 w6 d6_0 d6_1 d6_2 d6_3 d6_4 d6_5 d6_6 d6_7 d6_8 F6=>?_;obtain⟨_,_,_,_,_,_,_,_,_⟩:=F6.sto 4;obtain⟨_,_,_,_,_,_,_,_,_⟩:=F6.c 0;obtain⟨_,_,_,_,_,_,_,_,_⟩:=F6.f 0;go_wp2_with fail;refine zQ (F6.put 0 4) fun V7 F7=>?_;have q:=F7.c 0;exact F7.ret 4 rfl (by simp[results,results220,go_sem,q]) rfl (HR.out.symm.trans (by
  unfold zF;dsimp only;rw[if_neg HC.out.1,if_neg HC.out.2.1,if_neg HC.out.2.2.1,if_neg HC.out.2.2.2.1,if_neg HC.out.2.2.2.2,if_neg (by rw[HX.out];decide),if_neg (by rw[HX.out];decide),if_neg (by rw[HX.out];decide),if_neg (by rw[HX.out];decide),if_neg (by rw[HX.out];decide),if_neg (by rw[HX.out];decide),if_pos HX.out,if_pos HN.out];simp only[HRQ6.out])) (fun _ h=>h)
theorem zDM {C:Pc} {s:Ps} {w:World} (hp:Pre C.L (.primary) s) (K:KP C (zf C.L (.primary) s)) (h:Pa C s w) (hc:(zH C.L s.k).kind≠0∧(zH C.L s.k).kind≠2∧(zH C.L s.k).kind≠3∧(zH C.L s.k).kind≠4∧(zH C.L s.k).kind≠1) (hx:(zH C.L s.k).text=[102,117,110,99,116,105,111,110]) (hn:(zH C.L (zB s).k).kind≠1):zk C s w (.primary):=by
 refine zA0 hp h fun HL hlen hsk r W X HR hW hX F0=>?_;have HK:=zD K;clear K h hp;go_enter func220,ntmps220;go_upto_region 1 with(fail);clear hW hX;have HC:=zD hc;have HX:=zD hx;clear hc hx;have hlt:=zD (HL.out.lt hsk HC.out.1);obtain⟨⟨kd,tx,st,nk,nn,mg,ps,nl⟩,HT⟩:=zU C.L (s).k;go_wp2_with fail;refine F0.kT (zp F0.P HT.out) fun w1 As Am c1 c2 F1=>?_;have F2:=F1.bt 1 44 rfl;have hkd:kd≠0∧kd≠2∧kd≠3∧kd≠4∧kd≠1:=by have:=HC.out;rw[HT.out]at this;exact this
 have htx:tx=[102,117,110,99,116,105,111,110]:=by have:=HX.out;rw[HT.out]at this;exact this
 have e0:((kd:Int)==0)=false:=by rw[yA];omega
 have e1:((kd:Int)==1)=false:=by rw[yA];omega
 have e2:((kd:Int)==2)=false:=by rw[yA];omega
 have e3:((kd:Int)==3)=false:=by rw[yA];omega
 have e4:((kd:Int)==4)=false:=by rw[yA];omega
 have n0:(tx==[116,114,117,101])=false:=by rw[htx];decide
 have n1:(tx==[102,97,108,115,101])=false:=by rw[htx];decide
 have n2:(tx==[110,117,108,108])=false:=by rw[htx];decide
 have n3:(tx==[116,104,105,115])=false:=by rw[htx];decide
 have n4:(tx==[91])=false:=by rw[htx];decide
 have n5:(tx==[123])=false:=by rw[htx];decide
 have n6:(tx==[102,117,110,99,116,105,111,110])=true:=by rw[htx];decide
 clear hkd htx;obtain⟨_,_,_,_,_,_,_,_,_⟩:=F2.c 2;obtain⟨xk3,fk3,bk3⟩:=F2.k1;have F3:=F2.step hlt.out;obtain⟨_,_,_,_,_,_,_,_,_⟩:=F3.c 2;have HN:=zD hn;clear hn;have hf0:=zUY;obtain⟨⟨kd2,tx2,st2,nk2,nn2,mg2,ps2,nl2⟩,HT2⟩:=zU C.L (zB (s)).k;have hk2:kd2≠1:=by have:=HN.out;rw[HT2.out]at this;exact this
 have f1:((kd2:Int)==1)=false:=by rw[yA];omega
 clear hk2;go_wp2_with fail;refine F3.kT (zp F3.P HT2.out) fun w4 As2 Am2 c12 c22 F4=>?_;go_wp2_with fail;refine F4.kX (HK.out.more (q:=.func 41 []) ⟨F4.P.hi,trivial⟩ F4.P (yAG s.k)) fun rq5 HRQ5 w5 d5_0 d5_1 d5_2 d5_3 d5_4 d5_5 d5_6 d5_7 d5_8 F5=>?_;obtain⟨_,_,_,_,_,_,_,_,_⟩:=F5.sto 4;obtain⟨_,_,_,_,_,_,_,_,_⟩:=F5.c 0;obtain⟨_,_,_,_,_,_,_,_,_⟩:=F5.f 0;go_wp2_with fail;refine zQ (F5.put 0 4) fun V6 F6=>?_;have q:=F6.c 0;exact F6.ret 4 rfl (by simp[results,results220,go_sem,q]) rfl (HR.out.symm.trans (by
  unfold zF;dsimp only;rw[if_neg HC.out.1,if_neg HC.out.2.1,if_neg HC.out.2.2.1,if_neg HC.out.2.2.2.1,if_neg HC.out.2.2.2.2,if_neg (by rw[HX.out];decide),if_neg (by rw[HX.out];decide),if_neg (by rw[HX.out];decide),if_neg (by rw[HX.out];decide),if_neg (by rw[HX.out];decide),if_neg (by rw[HX.out];decide),if_pos HX.out,if_neg HN.out];simp only[HRQ5.out])) (fun _ h=>h)
end Go.Proofs.YtlohaclgbfhijaaGreatDoor
