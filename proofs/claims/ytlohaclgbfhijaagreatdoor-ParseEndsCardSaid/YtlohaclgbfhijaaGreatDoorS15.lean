/- Joined for the claim ParseEnds: the parser, the lexer and the trees as they are walked, made short by a program of mine. -/
import Derived.Deep.RegionLaw
import Derived.Test.YtlohaclgbfhijaaGreatDoorS12
import Derived.Deep.LoopGhost
import Derived.Test.YtlohaclgbfhijaaGreatDoorS11
set_option maxHeartbeats 16000000
set_option maxRecDepth 1000000
namespace Go.Proofs.YtlohaclgbfhijaaGreatDoor
open Go.RowKit
theorem zEb {C:Pc} {s:Ps} {w:World} (hp:Pre C.L (.statement) s) (K:KP C (zh C.L (.statement) s)) (h:Pa C s w) (hk1:(zM C.L s.k).kind=1):zk C s w (.statement):=by
 refine zAl hp h fun HL hlen hsk r W X HR hW hX F0=>?_
 have HK:=zD K
 clear K h hp
 go_enter Tryz.func98,Tryz.ntmps98
 go_upto_region 1 with(fail)
 clear hW hX
 have HK1:=zD hk1
 clear hk1
 obtain⟨⟨kd,tx,st,nk,nn,mg,ps,nl⟩,HT⟩:=zU C.L (s).k
 go_wp2_with fail
 refine F0.kT (zm F0.P HT.out) fun w1 As Am c1 c2 F1=>?_
 have F2:=F1.bt 1 44 rfl
 have HKD:=zD (show kd=1 by have:=HK1.out;rw[HT.out]at this;exact this)
 have e1:((kd:Int)==1)=true:=by have:=HKD.out;rw[beq_iff_eq];omega
 have hlt:=zD (HL.out.lt hsk (by rw[HK1.out];decide))
 have hn:=F2.P.cx.n
 obtain⟨⟨kd2,tx2,st2,nk2,nn2,mg2,ps2,nl2⟩,HT2⟩:=zU C.L (stepP s).k
 have HT2m:=zD (show zM C.L (min (s.k+1) (C.N - 1))=⟨kd2,tx2,st2,nk2,nn2,mg2,ps2,nl2⟩ by rw[show min (s.k+1) (C.N - 1)=s.k+1 by have:=hlt.out;omega];exact HT2.out)
 obtain⟨b1,hb1⟩:∃b,isT ⟨kd2,tx2,st2,nk2,nn2,mg2,ps2,nl2⟩ [58]=b:=⟨_,rfl⟩
 have Hb1:=zD hb1
 clear hb1
 obtain⟨b3,hb3⟩:∃b,onP C.L [59] s=b:=⟨_,rfl⟩
 have Hb3:=zD hb3
 clear hb3
 obtain⟨b4,hb4⟩:∃b,onP C.L [123] s=b:=⟨_,rfl⟩
 have Hb4:=zD hb4
 clear hb4
 have HA:=zD (show isT (zAC C.L s.k 1) [58]=b1 by have:=Hb1.out;rw[←HT2.out]at this;exact this)
 obtain⟨_,_,_,_,_,_,_,_,_⟩:=F2.c 2
 go_wp2_with fail
 refine F2.kT (zAi F2.P 1 1 rfl (by decide) HT2m.out) fun w3 As2 Am2 c12 c22 F3=>?_
 go_wp2_with fail
 refine F3.kQ (zCN [58] Hb1.out) fun w4 F4=>?_
 cases b1 with
 | true=>
  have hlt2:=zD (HL.out.on (s:=stepP s) hlt.out HA.out)
  obtain⟨xk5,fk5,bk5⟩:=F4.k1
  have F5:=F4.step2 hlt2.out
  have CL6:=zD (fun Q=>F5.dr.kD (Q:=Q) (HK.out.more (q:=.statement) ⟨F5.dr.P.hi,trivial⟩ F5.dr.P (show s.k < s.k+1+1 by omega)))
  obtain⟨_,_,_,_,_,_,_,_,_⟩:=F5.c 2
  go_wp2_with fail
  go_region_law (first | (go_simp;go_at_call 98;(with_reducible refine CL6.out _ fun w6 d6_0 d6_1 d6_2 d6_3 d6_4 d6_5 d6_6 d6_7 d6_8 F6=>?_);obtain⟨_,_,_,_,_,_,_,_,_⟩:=F6.c 2;obtain⟨_,_,_,_,_,_,_,_,_⟩:=F6.c 0;obtain⟨_,_,_,_,_,_,_,_,_⟩:=(F6.al (.cells #[d6_0,d6_1,d6_2,d6_3,d6_4,d6_5,d6_6,d6_7,d6_8] 72)).c 2;have LT6:=zD (fun Q=>F6.litN 18 tx (n:=1) (Q:=Q) (F6.ts1 4) rfl (by simp) rfl)) | (go_simp;go_at_call 139;(with_reducible refine LT6.out _ fun w7 F7=>?_);obtain⟨_,_,_,_,_,_,_,_,_⟩:=F7.c 0;obtain⟨_,_,_,_,_,_,_,_,_⟩:=F7.f 0))
  all_goals
   obtain⟨_,_,_,_,_,_,_,_,_⟩:=F7.c 0
   obtain⟨_,_,_,_,_,_,_,_,_⟩:=F7.f 0
   go_wp2_with fail
   refine zP (F7.put 0 5) fun V8 F8=>?_
   have q:=F8.c 0
   exact F8.ret 5 rfl (by simp[results,Tryz.results98,go_sem,q]) rfl (HR.out.symm.trans (by
    unfold zE
    dsimp only
    rw[if_pos ⟨HK1.out,HA.out⟩,HT.out])) (fun _ h=>h)
 | false=>
  have e6:((kd:Int)==6)=false:=by have:=HKD.out;rw[beq_eq_false_iff_ne];omega
  obtain⟨_,_,_,_,_,_,_,_,_⟩:=F4.c 2
  cases b3 with
  | true=>
   go_wp2_with fail
   refine F4.kM (zA6 F4.P [59] Hb3.out) fun w9 F9=>?_
   go_wp2_with fail
   refine F9.made0 _ fun w10 F10=>?_
   obtain⟨_,_,_,_,_,_,_,_,_⟩:=F10.c 0
   obtain⟨_,_,_,_,_,_,_,_,_⟩:=F10.f 0
   go_wp2_with fail
   refine zP (F10.put 0 4) fun V11 F11=>?_
   have q:=F11.c 0
   exact F11.ret 4 rfl (by simp[results,Tryz.results98,go_sem,q]) rfl (HR.out.symm.trans (by
    unfold zE
    dsimp only
    rw[if_neg (fun h=>by rw[HA.out]at h;cases h.2),if_neg (by rw[HK1.out];decide)]
    simp[Hb3.out])) (fun _ h=>h)
  | false=>
   go_wp2_with fail
   refine F4.kM (zA9 F4.P [59] Hb3.out) fun w12 F12=>?_
   go_wp2_with fail
   refine F12.kB (zAR F12.P [123] Hb4.out) fun w13 F13=>?_
   cases b4 with
   | true=>
    go_wp2_with fail
    refine F13.kX (HK.out.rank (q:=.block) ⟨F13.P.hi,trivial⟩ F13.P (Nat.le_refl _) (by simp[zn])) fun rq14 HRQ14 w14 d14_0 d14_1 d14_2 d14_3 d14_4 d14_5 d14_6 d14_7 d14_8 F14=>?_
    obtain⟨_,_,_,_,_,_,_,_,_⟩:=F14.sto 4
    obtain⟨_,_,_,_,_,_,_,_,_⟩:=F14.c 0
    obtain⟨_,_,_,_,_,_,_,_,_⟩:=F14.f 0
    go_wp2_with fail
    refine zP (F14.put 0 4) fun V15 F15=>?_
    have q:=F15.c 0
    exact F15.ret 4 rfl (by simp[results,Tryz.results98,go_sem,q]) rfl (HR.out.symm.trans (by
     unfold zE
     dsimp only
     rw[if_neg (fun h=>by rw[HA.out]at h;cases h.2),if_neg (by rw[HK1.out];decide)]
     simp[Hb3.out,Hb4.out,HRQ14.out])) (fun _ h=>h)
   | false=>
    go_wp2_with fail
    refine F13.kX (HK.out.rank (q:=.simple) ⟨F13.P.hi,trivial⟩ F13.P (Nat.le_refl _) (by simp[zn])) fun rq16 HRQ16 w16 d16_0 d16_1 d16_2 d16_3 d16_4 d16_5 d16_6 d16_7 d16_8 F16=>?_
    obtain⟨_,_,_,_,_,_,_,_,_⟩:=F16.sto 4
    obtain⟨_,_,_,_,_,_,_,_,_⟩:=F16.c 0
    obtain⟨_,_,_,_,_,_,_,_,_⟩:=F16.f 0
    go_wp2_with fail
    refine zP (F16.put 0 4) fun V17 F17=>?_
    have q:=F17.c 0
    exact F17.ret 4 rfl (by simp[results,Tryz.results98,go_sem,q]) rfl (HR.out.symm.trans (by
     unfold zE
     dsimp only
     rw[if_neg (fun h=>by rw[HA.out]at h;cases h.2),if_neg (by rw[HK1.out];decide)]
     simp[Hb3.out,Hb4.out,HRQ16.out])) (fun _ h=>h)
theorem zEs {C:Pc} {s:Ps} {w:World} (hp:Pre C.L (.statement) s) (K:KP C (zh C.L (.statement) s)) (h:Pa C s w) (hk1:(zM C.L s.k).kind=6):zk C s w (.statement):=by
 refine zAl hp h fun HL hlen hsk r W X HR hW hX F0=>?_
 have HK:=zD K
 clear K h hp
 go_enter Tryz.func98,Tryz.ntmps98
 go_upto_region 1 with(fail)
 clear hW hX
 have HK1:=zD hk1
 clear hk1
 obtain⟨⟨kd,tx,st,nk,nn,mg,ps,nl⟩,HT⟩:=zU C.L (s).k
 go_wp2_with fail
 refine F0.kT (zm F0.P HT.out) fun w1 As Am c1 c2 F1=>?_
 have F2:=F1.bt 1 44 rfl
 have HKD:=zD (show kd=6 by have:=HK1.out;rw[HT.out]at this;exact this)
 have e1:((kd:Int)==1)=false:=by have:=HKD.out;rw[beq_eq_false_iff_ne];omega
 have e6:((kd:Int)==6)=true:=by have:=HKD.out;rw[beq_iff_eq];omega
 have hlt:=zD (HL.out.lt hsk (by rw[HK1.out];decide))
 obtain⟨_,_,_,_,_,_,_,_,_⟩:=F2.c 2
 go_wp2_with fail
 refine F2.kX (HK.out.rank (q:=.word tx) ⟨F2.P.hi,hlt.out⟩ F2.P (Nat.le_refl _) (by simp[zn])) fun rq3 HRQ3 w3 d3_0 d3_1 d3_2 d3_3 d3_4 d3_5 d3_6 d3_7 d3_8 F3=>?_
 obtain⟨_,_,_,_,_,_,_,_,_⟩:=F3.sto 3
 obtain⟨_,_,_,_,_,_,_,_,_⟩:=F3.c 0
 obtain⟨_,_,_,_,_,_,_,_,_⟩:=F3.f 0
 go_wp2_with fail
 refine zP (F3.put 0 3) fun V4 F4=>?_
 have q:=F4.c 0
 exact F4.ret 3 rfl (by simp[results,Tryz.results98,go_sem,q]) rfl (HR.out.symm.trans (by
  unfold zE
  dsimp only
  rw[if_neg (fun h=>by rw[HK1.out]at h;cases h.1),if_pos HK1.out,HT.out]
  simp only[HRQ3.out])) (fun _ h=>h)
theorem zEc {C:Pc} {s:Ps} {w:World} (hp:Pre C.L (.statement) s) (K:KP C (zh C.L (.statement) s)) (h:Pa C s w) (hk1:(zM C.L s.k).kind≠1) (hk6:(zM C.L s.k).kind≠6):zk C s w (.statement):=by
 refine zAl hp h fun HL hlen hsk r W X HR hW hX F0=>?_
 have HK:=zD K
 clear K h hp
 go_enter Tryz.func98,Tryz.ntmps98
 go_upto_region 1 with(fail)
 clear hW hX
 have HK1:=zD hk1
 have HK6:=zD hk6
 clear hk1 hk6
 obtain⟨⟨kd,tx,st,nk,nn,mg,ps,nl⟩,HT⟩:=zU C.L (s).k
 go_wp2_with fail
 refine F0.kT (zm F0.P HT.out) fun w1 As Am c1 c2 F1=>?_
 have F2:=F1.bt 1 44 rfl
 have e1:((kd:Int)==1)=false:=by have:=HK1.out;rw[HT.out]at this;have:kd≠1:=this;rw[beq_eq_false_iff_ne];omega
 have e6:((kd:Int)==6)=false:=by have:=HK6.out;rw[HT.out]at this;have:kd≠6:=this;rw[beq_eq_false_iff_ne];omega
 obtain⟨b3,hb3⟩:∃b,onP C.L [59] s=b:=⟨_,rfl⟩
 have Hb3:=zD hb3
 clear hb3
 obtain⟨b4,hb4⟩:∃b,onP C.L [123] s=b:=⟨_,rfl⟩
 have Hb4:=zD hb4
 clear hb4
 obtain⟨_,_,_,_,_,_,_,_,_⟩:=F2.c 2
 cases b3 with
 | true=>
  go_wp2_with fail
  refine F2.kM (zA6 F2.P [59] Hb3.out) fun w3 F3=>?_
  go_wp2_with fail
  refine F3.made0 _ fun w4 F4=>?_
  obtain⟨_,_,_,_,_,_,_,_,_⟩:=F4.c 0
  obtain⟨_,_,_,_,_,_,_,_,_⟩:=F4.f 0
  go_wp2_with fail
  refine zP (F4.put 0 3) fun V5 F5=>?_
  have q:=F5.c 0
  exact F5.ret 3 rfl (by simp[results,Tryz.results98,go_sem,q]) rfl (HR.out.symm.trans (by
   unfold zE
   dsimp only
   rw[if_neg (fun h=>HK1.out h.1),if_neg HK6.out]
   simp[Hb3.out])) (fun _ h=>h)
 | false=>
  go_wp2_with fail
  refine F2.kM (zA9 F2.P [59] Hb3.out) fun w6 F6=>?_
  go_wp2_with fail
  refine F6.kB (zAR F6.P [123] Hb4.out) fun w7 F7=>?_
  cases b4 with
  | true=>
   go_wp2_with fail
   refine F7.kX (HK.out.rank (q:=.block) ⟨F7.P.hi,trivial⟩ F7.P (Nat.le_refl _) (by simp[zn])) fun rq8 HRQ8 w8 d8_0 d8_1 d8_2 d8_3 d8_4 d8_5 d8_6 d8_7 d8_8 F8=>?_
   obtain⟨_,_,_,_,_,_,_,_,_⟩:=F8.sto 3
   obtain⟨_,_,_,_,_,_,_,_,_⟩:=F8.c 0
   obtain⟨_,_,_,_,_,_,_,_,_⟩:=F8.f 0
   go_wp2_with fail
   refine zP (F8.put 0 3) fun V9 F9=>?_
   have q:=F9.c 0
   exact F9.ret 3 rfl (by simp[results,Tryz.results98,go_sem,q]) rfl (HR.out.symm.trans (by
    unfold zE
    dsimp only
    rw[if_neg (fun h=>HK1.out h.1),if_neg HK6.out]
    simp[Hb3.out,Hb4.out,HRQ8.out])) (fun _ h=>h)
  | false=>
   go_wp2_with fail
   refine F7.kX (HK.out.rank (q:=.simple) ⟨F7.P.hi,trivial⟩ F7.P (Nat.le_refl _) (by simp[zn])) fun rq10 HRQ10 w10 d10_0 d10_1 d10_2 d10_3 d10_4 d10_5 d10_6 d10_7 d10_8 F10=>?_
   obtain⟨_,_,_,_,_,_,_,_,_⟩:=F10.sto 3
   obtain⟨_,_,_,_,_,_,_,_,_⟩:=F10.c 0
   obtain⟨_,_,_,_,_,_,_,_,_⟩:=F10.f 0
   go_wp2_with fail
   refine zP (F10.put 0 3) fun V11 F11=>?_
   have q:=F11.c 0
   exact F11.ret 3 rfl (by simp[results,Tryz.results98,go_sem,q]) rfl (HR.out.symm.trans (by
    unfold zE
    dsimp only
    rw[if_neg (fun h=>HK1.out h.1),if_neg HK6.out]
    simp[Hb3.out,Hb4.out,HRQ10.out])) (fun _ h=>h)
theorem zEt {C:Pc} {s:Ps} {w:World} (hp:Pre C.L .statement s) (K:KP C (zh C.L .statement s)) (h:Pa C s w):zk C s w .statement:=by
 by_cases h1:(zM C.L s.k).kind=1
 · exact zEb hp K h h1
 by_cases h6:(zM C.L s.k).kind=6
 · exact zEs hp K h h6
 exact zEc hp K h h1 h6
theorem zMo {C:Pc} {k:Int} {s:Ps} {w:World} (hp:Pre C.L (.jump k) s) (_K:KP C (zh C.L (.jump k) s)) (h:Pa C s w) (hk:(zM C.L (stepP s).k).kind=1) (hn:(zM C.L (stepP s).k).nl=false):zk C s w (.jump k):=by
 refine zAl hp h fun HL hlen hsk r W X HR hW hX F0=>?_
 have hlt:=zD hp.2
 clear h hp
 go_enter Tryz.func180,Tryz.ntmps180
 go_upto_region 1 with(fail)
 clear hW hX
 have HK1:=zD hk
 have HN1:=zD hn
 clear hk hn
 obtain⟨xk1,fk1,bk1⟩:=F0.k1
 have F1:=F0.step hlt.out
 go_wp2_with fail
 refine F1.made0 _ fun w2 F2=>?_
 have F3:=F2.bt 1 72 rfl
 obtain⟨⟨kd,tx,st,nk,nn,mg,ps,nl⟩,HT⟩:=zU C.L (stepP (s)).k
 go_wp2_with fail
 refine F3.kT (zm F3.P HT.out) fun w4 As Am c1 c2 F4=>?_
 have F5:=F4.bt 3 44 rfl
 obtain⟨_,_,_,_,_,_,_,_,_⟩:=F5.c 4
 have e1:((kd:Int)==1)=true:=by have:=HK1.out;rw[HT.out]at this;have:kd=1:=this;rw[beq_iff_eq];omega
 have hnl2:nl=false:=by have:=HN1.out;rw[HT.out]at this;exact this
 subst hnl2
 go_wp2_with fail
 refine F5.kS (zC0 F5.P) fun w6 F6=>?_
 obtain⟨_,_,_,_,_,_,_,_,_⟩:=F6.c 2
 obtain⟨_,_,_,_,_,_,_,_,_⟩:=F6.f 2
 have F7:=(F6.set 2 1 (.string ⟨((zg C.L (stepP s)).1).toArray⟩)).leafN k ((zg C.L (stepP s)).1)
 go_wp2_with fail
 refine F7.kN (zBW F7.P) fun w8 F8=>?_
 obtain⟨_,_,_,_,_,_,_,_,_⟩:=F8.c 2
 obtain⟨_,_,_,_,_,_,_,_,_⟩:=F8.c 0
 obtain⟨_,_,_,_,_,_,_,_,_⟩:=F8.f 0
 go_wp2_with fail
 refine zP (F8.put 0 5) fun V9 F9=>?_
 have q:=F9.c 0
 exact F9.ret 5 rfl (by simp[results,Tryz.results180,go_sem,q]) rfl (HR.out.symm.trans (by
  unfold zE
  dsimp only
  rw[if_pos ⟨HK1.out,HN1.out⟩])) (fun _ h=>h)
theorem zRG {C:Pc} {k:Int} {s:Ps} {w:World} (hp:Pre C.L (.jump k) s) (_K:KP C (zh C.L (.jump k) s)) (h:Pa C s w) (hn:(zM C.L (stepP s).k).kind=1∧(zM C.L (stepP s).k).nl=true):zk C s w (.jump k):=by
 refine zAl hp h fun HL hlen hsk r W X HR hW hX F0=>?_
 have hlt:=zD hp.2
 clear h hp
 go_enter Tryz.func180,Tryz.ntmps180
 go_upto_region 1 with(fail)
 clear hW hX
 have HN1:=zD hn
 clear hn
 obtain⟨xk1,fk1,bk1⟩:=F0.k1
 have F1:=F0.step hlt.out
 go_wp2_with fail
 refine F1.made0 _ fun w2 F2=>?_
 have F3:=F2.bt 1 72 rfl
 obtain⟨⟨kd,tx,st,nk,nn,mg,ps,nl⟩,HT⟩:=zU C.L (stepP (s)).k
 go_wp2_with fail
 refine F3.kT (zm F3.P HT.out) fun w4 As Am c1 c2 F4=>?_
 have F5:=F4.bt 3 44 rfl
 obtain⟨_,_,_,_,_,_,_,_,_⟩:=F5.c 4
 have e1:((kd:Int)==1)=true:=by have:=HN1.out.1;rw[HT.out]at this;have:kd=1:=this;rw[beq_iff_eq];omega
 have hnl2:nl=true:=by have:=HN1.out.2;rw[HT.out]at this;exact this
 subst hnl2
 go_wp2_with fail
 refine F5.kN (zBW F5.P) fun w6 F6=>?_
 obtain⟨_,_,_,_,_,_,_,_,_⟩:=F6.c 2
 obtain⟨_,_,_,_,_,_,_,_,_⟩:=F6.c 0
 obtain⟨_,_,_,_,_,_,_,_,_⟩:=F6.f 0
 go_wp2_with fail
 refine zP (F6.put 0 1) fun V7 F7=>?_
 have q:=F7.c 0
 exact F7.ret 1 rfl (by simp[results,Tryz.results180,go_sem,q]) rfl (HR.out.symm.trans (by
  unfold zE
  dsimp only
  rw[if_neg (fun h=>by rw[HN1.out.2]at h;cases h.2)])) (fun _ h=>h)
theorem zRH {C:Pc} {k:Int} {s:Ps} {w:World} (hp:Pre C.L (.jump k) s) (_K:KP C (zh C.L (.jump k) s)) (h:Pa C s w) (hn:(zM C.L (stepP s).k).kind≠1):zk C s w (.jump k):=by
 refine zAl hp h fun HL hlen hsk r W X HR hW hX F0=>?_
 have hlt:=zD hp.2
 clear h hp
 go_enter Tryz.func180,Tryz.ntmps180
 go_upto_region 1 with(fail)
 clear hW hX
 have HN1:=zD hn
 clear hn
 obtain⟨xk1,fk1,bk1⟩:=F0.k1
 have F1:=F0.step hlt.out
 go_wp2_with fail
 refine F1.made0 _ fun w2 F2=>?_
 have F3:=F2.bt 1 72 rfl
 obtain⟨⟨kd,tx,st,nk,nn,mg,ps,nl⟩,HT⟩:=zU C.L (stepP (s)).k
 go_wp2_with fail
 refine F3.kT (zm F3.P HT.out) fun w4 As Am c1 c2 F4=>?_
 have F5:=F4.bt 3 44 rfl
 obtain⟨_,_,_,_,_,_,_,_,_⟩:=F5.c 4
 have e1:((kd:Int)==1)=false:=by have:=HN1.out;rw[HT.out]at this;have:kd≠1:=this;rw[beq_eq_false_iff_ne];omega
 go_wp2_with fail
 refine F5.kN (zBW F5.P) fun w6 F6=>?_
 obtain⟨_,_,_,_,_,_,_,_,_⟩:=F6.c 2
 obtain⟨_,_,_,_,_,_,_,_,_⟩:=F6.c 0
 obtain⟨_,_,_,_,_,_,_,_,_⟩:=F6.f 0
 go_wp2_with fail
 refine zP (F6.put 0 1) fun V7 F7=>?_
 have q:=F7.c 0
 exact F7.ret 1 rfl (by simp[results,Tryz.results180,go_sem,q]) rfl (HR.out.symm.trans (by
  unfold zE
  dsimp only
  rw[if_neg (fun h=>HN1.out h.1)])) (fun _ h=>h)
theorem zO1 {C:Pc} {k:Int} {s:Ps} {w:World} (hp:Pre C.L (.jump k) s) (_K:KP C (zh C.L (.jump k) s)) (h:Pa C s w):zk C s w (.jump k):=by
 by_cases h1:(zM C.L (stepP s).k).kind=1
 · cases h2:(zM C.L (stepP s).k).nl with
   | false=>exact zMo hp _K h h1 h2
   | true=>exact zRG hp _K h ⟨h1,h2⟩
 · exact zRH hp _K h h1
theorem zKB {C:Pc} {s:Ps} {w:World} (hp:Pre C.L (.word [119,104,105,108,101]) s) (K:KP C (zh C.L (.word [119,104,105,108,101]) s)) (h:Pa C s w):zk C s w (.word [119,104,105,108,101]):=by
 refine zAl hp h fun HL hlen hsk r W X HR hW hX F0=>?_
 have HK:=zD K
 have hlt:=zD hp.2
 clear K h hp
 go_enter Tryz.func147,Tryz.ntmps147
 go_upto_region 1 with(fail)
 clear hW hX
 obtain⟨xk1,fk1,bk1⟩:=F0.k1
 have F1:=F0.step hlt.out
 have hpost:=zD (zV HL.out (p:=.within) (s:=stepP s) ⟨hlt.out,trivial⟩)
 go_wp2_with fail
 refine F1.kX (HK.out.more (q:=.within) ⟨F1.P.hi,trivial⟩ F1.P (Nat.lt_succ_self s.k)) fun rq2 HRQ2 w2 d2_0 d2_1 d2_2 d2_3 d2_4 d2_5 d2_6 d2_7 d2_8 F2=>?_
 obtain⟨_,_,_,_,_,_,_,_,_⟩:=F2.sto 1
 have hle:=zD (show s.k < rq2.2.k from by have:=hpost.out.adv.le;rw[HRQ2.out]at this;exact Nat.lt_of_lt_of_le (Nat.lt_succ_self s.k) this)
 go_wp2_with fail
 refine F2.kX (HK.out.more (q:=.statement) ⟨F2.P.hi,trivial⟩ F2.P hle.out) fun rq3 HRQ3 w3 d3_0 d3_1 d3_2 d3_3 d3_4 d3_5 d3_6 d3_7 d3_8 F3=>?_
 obtain⟨_,_,_,_,_,_,_,_,_⟩:=F3.sto 2
 go_wp2_with fail
 refine F3.litK _ (n:=2) (F3.ts2 1 2) rfl (by simp) rfl fun w4 F4=>?_
 obtain⟨_,_,_,_,_,_,_,_,_⟩:=F4.c 0
 obtain⟨_,_,_,_,_,_,_,_,_⟩:=F4.f 0
 go_wp2_with fail
 refine zP (F4.put 0 3) fun V5 F5=>?_
 have q:=F5.c 0
 exact F5.ret 3 rfl (by simp[results,Tryz.results147,go_sem,q]) rfl (HR.out.symm.trans (by
  unfold zE
  dsimp only
  rw[if_neg (by decide),if_pos rfl]
  simp only[HRQ2.out,HRQ3.out])) (fun _ h=>h)
theorem zO2 {C:Pc} {s:Ps} {w:World} (hp:Pre C.L (.word [102,111,114]) s) (K:KP C (zh C.L (.word [102,111,114]) s)) (h:Pa C s w):zk C s w (.word [102,111,114]):=by
 refine zAl hp h fun HL hlen hsk r W X HR hW hX F0=>?_
 have HK:=zD K
 have hlt:=zD hp.2
 clear K h hp
 go_enter Tryz.func147,Tryz.ntmps147
 go_upto_region 1 with(fail)
 clear hW hX
 go_wp2_with fail
 refine F0.kX (HK.out.rank (q:=.loop) ⟨F0.P.hi,hlt.out⟩ F0.P (Nat.le_refl _) (by simp[zn])) fun rq1 HRQ1 w1 d1_0 d1_1 d1_2 d1_3 d1_4 d1_5 d1_6 d1_7 d1_8 F1=>?_
 obtain⟨_,_,_,_,_,_,_,_,_⟩:=F1.sto 1
 obtain⟨_,_,_,_,_,_,_,_,_⟩:=F1.c 0
 obtain⟨_,_,_,_,_,_,_,_,_⟩:=F1.f 0
 go_wp2_with fail
 refine zP (F1.put 0 1) fun V2 F2=>?_
 have q:=F2.c 0
 exact F2.ret 1 rfl (by simp[results,Tryz.results147,go_sem,q]) rfl (HR.out.symm.trans (by
  unfold zE
  dsimp only
  rw[if_neg (by decide),if_neg (by decide),if_pos rfl]
  simp only[HRQ1.out])) (fun _ h=>h)
theorem zKC {C:Pc} {s:Ps} {w:World} (hp:Pre C.L (.word [98,114,101,97,107]) s) (K:KP C (zh C.L (.word [98,114,101,97,107]) s)) (h:Pa C s w):zk C s w (.word [98,114,101,97,107]):=by
 refine zAl hp h fun HL hlen hsk r W X HR hW hX F0=>?_
 have HK:=zD K
 have hlt:=zD hp.2
 clear K h hp
 go_enter Tryz.func147,Tryz.ntmps147
 go_upto_region 1 with(fail)
 clear hW hX
 go_wp2_with fail
 refine F0.kX (HK.out.rank (q:=.jump 12) ⟨F0.P.hi,hlt.out⟩ F0.P (Nat.le_refl _) (by simp[zn])) fun rq1 HRQ1 w1 d1_0 d1_1 d1_2 d1_3 d1_4 d1_5 d1_6 d1_7 d1_8 F1=>?_
 obtain⟨_,_,_,_,_,_,_,_,_⟩:=F1.sto 1
 obtain⟨_,_,_,_,_,_,_,_,_⟩:=F1.c 0
 obtain⟨_,_,_,_,_,_,_,_,_⟩:=F1.f 0
 go_wp2_with fail
 refine zP (F1.put 0 1) fun V2 F2=>?_
 have q:=F2.c 0
 exact F2.ret 1 rfl (by simp[results,Tryz.results147,go_sem,q]) rfl (HR.out.symm.trans (by
  unfold zE
  dsimp only
  rw[if_neg (by decide),if_neg (by decide),if_neg (by decide),if_pos rfl]
  simp only[HRQ1.out])) (fun _ h=>h)
theorem zFf {C:Pc} {s:Ps} {w:World} (hp:Pre C.L (.word [99,111,110,116,105,110,117,101]) s) (K:KP C (zh C.L (.word [99,111,110,116,105,110,117,101]) s)) (h:Pa C s w):zk C s w (.word [99,111,110,116,105,110,117,101]):=by
 refine zAl hp h fun HL hlen hsk r W X HR hW hX F0=>?_
 have HK:=zD K
 have hlt:=zD hp.2
 clear K h hp
 go_enter Tryz.func147,Tryz.ntmps147
 go_upto_region 1 with(fail)
 clear hW hX
 go_wp2_with fail
 refine F0.kX (HK.out.rank (q:=.jump 13) ⟨F0.P.hi,hlt.out⟩ F0.P (Nat.le_refl _) (by simp[zn])) fun rq1 HRQ1 w1 d1_0 d1_1 d1_2 d1_3 d1_4 d1_5 d1_6 d1_7 d1_8 F1=>?_
 obtain⟨_,_,_,_,_,_,_,_,_⟩:=F1.sto 1
 obtain⟨_,_,_,_,_,_,_,_,_⟩:=F1.c 0
 obtain⟨_,_,_,_,_,_,_,_,_⟩:=F1.f 0
 go_wp2_with fail
 refine zP (F1.put 0 1) fun V2 F2=>?_
 have q:=F2.c 0
 exact F2.ret 1 rfl (by simp[results,Tryz.results147,go_sem,q]) rfl (HR.out.symm.trans (by
  unfold zE
  dsimp only
  rw[if_neg (by decide),if_neg (by decide),if_neg (by decide),if_neg (by decide),if_pos rfl]
  simp only[HRQ1.out])) (fun _ h=>h)
theorem zO3 {C:Pc} {s:Ps} {w:World} (hp:Pre C.L (.word [116,114,121]) s) (K:KP C (zh C.L (.word [116,114,121]) s)) (h:Pa C s w):zk C s w (.word [116,114,121]):=by
 refine zAl hp h fun HL hlen hsk r W X HR hW hX F0=>?_
 have HK:=zD K
 have hlt:=zD hp.2
 clear K h hp
 go_enter Tryz.func147,Tryz.ntmps147
 go_upto_region 1 with(fail)
 clear hW hX
 go_wp2_with fail
 refine F0.kX (HK.out.rank (q:=.tries) ⟨F0.P.hi,hlt.out⟩ F0.P (Nat.le_refl _) (by simp[zn])) fun rq1 HRQ1 w1 d1_0 d1_1 d1_2 d1_3 d1_4 d1_5 d1_6 d1_7 d1_8 F1=>?_
 obtain⟨_,_,_,_,_,_,_,_,_⟩:=F1.sto 1
 obtain⟨_,_,_,_,_,_,_,_,_⟩:=F1.c 0
 obtain⟨_,_,_,_,_,_,_,_,_⟩:=F1.f 0
 go_wp2_with fail
 refine zP (F1.put 0 1) fun V2 F2=>?_
 have q:=F2.c 0
 exact F2.ret 1 rfl (by simp[results,Tryz.results147,go_sem,q]) rfl (HR.out.symm.trans (by
  unfold zE
  dsimp only
  rw[if_neg (by decide),if_neg (by decide),if_neg (by decide),if_neg (by decide),if_neg (by decide),if_neg (by decide),if_neg (by decide),if_pos rfl]
  simp only[HRQ1.out])) (fun _ h=>h)
theorem zEd {C:Pc} {s:Ps} {w:World} (hp:Pre C.L (.word [116,104,114,111,119]) s) (K:KP C (zh C.L (.word [116,104,114,111,119]) s)) (h:Pa C s w) (hnl:(zM C.L (stepP s).k).nl=true):zk C s w (.word [116,104,114,111,119]):=by
 refine zAl hp h fun HL hlen hsk r W X HR hW hX F0=>?_
 have HK:=zD K
 have hlt:=zD hp.2
 clear K h hp
 go_enter Tryz.func147,Tryz.ntmps147
 go_upto_region 1 with(fail)
 clear hW hX
 have HNL:=zD hnl
 clear hnl
 have hf6:=zJ4
 obtain⟨xk1,fk1,bk1⟩:=F0.k1
 have F1:=F0.step hlt.out
 obtain⟨⟨kd,tx,st,nk,nn,mg,ps,nl⟩,HT⟩:=zU C.L (stepP (s)).k
 have hnl2:nl=true:=by have:=HNL.out;rw[HT.out]at this;exact this
 subst hnl2
 go_wp2_with fail
 refine F1.kT (zm F1.P HT.out) fun w2 As Am c1 c2 F2=>?_
 go_wp2_with fail
 refine F2.kN (zx F2.P) fun w3 F3=>?_
 have hle:=zD (show(stepP s).k≤(zc C.L (stepP s)).k from(zp (s:=stepP s) hlt.out).adv.le)
 go_wp2_with fail
 refine F3.kX (HK.out.more (q:=.assign) ⟨F3.P.hi,trivial⟩ F3.P (Nat.lt_of_lt_of_le (Nat.lt_succ_self s.k) hle.out)) fun rq4 HRQ4 w4 d4_0 d4_1 d4_2 d4_3 d4_4 d4_5 d4_6 d4_7 d4_8 F4=>?_
 obtain⟨_,_,_,_,_,_,_,_,_⟩:=F4.sto 2
 go_wp2_with fail
 refine F4.litK _ (n:=1) (F4.ts1 2) rfl (by simp) rfl fun w5 F5=>?_
 have F6:=F5.bt 3 72 rfl
 go_wp2_with fail
 refine F6.kN (zBW F6.P) fun w7 F7=>?_
 obtain⟨_,_,_,_,_,_,_,_,_⟩:=F7.c 4
 obtain⟨_,_,_,_,_,_,_,_,_⟩:=F7.c 0
 obtain⟨_,_,_,_,_,_,_,_,_⟩:=F7.f 0
 go_wp2_with fail
 refine zP (F7.put 0 3) fun V8 F8=>?_
 have q:=F8.c 0
 exact F8.ret 3 rfl (by simp[results,Tryz.results147,go_sem,q]) rfl (HR.out.symm.trans (by
  unfold zE
  dsimp only
  rw[if_neg (by decide),if_neg (by decide),if_neg (by decide),if_neg (by decide),if_neg (by decide),if_neg (by decide),if_pos rfl]
  simp[HNL.out,HRQ4.out])) (fun _ h=>h)
theorem zD3 {C:Pc} {s:Ps} {w:World} (hp:Pre C.L (.word [116,104,114,111,119]) s) (K:KP C (zh C.L (.word [116,104,114,111,119]) s)) (h:Pa C s w) (hnl:(zM C.L (stepP s).k).nl=false):zk C s w (.word [116,104,114,111,119]):=by
 refine zAl hp h fun HL hlen hsk r W X HR hW hX F0=>?_
 have HK:=zD K
 have hlt:=zD hp.2
 clear K h hp
 go_enter Tryz.func147,Tryz.ntmps147
 go_upto_region 1 with(fail)
 clear hW hX
 have HNL:=zD hnl
 clear hnl
 have hf6:=zJ4
 obtain⟨xk1,fk1,bk1⟩:=F0.k1
 have F1:=F0.step hlt.out
 obtain⟨⟨kd,tx,st,nk,nn,mg,ps,nl⟩,HT⟩:=zU C.L (stepP (s)).k
 have hnl2:nl=false:=by have:=HNL.out;rw[HT.out]at this;exact this
 subst hnl2
 go_wp2_with fail
 refine F1.kT (zm F1.P HT.out) fun w2 As Am c1 c2 F2=>?_
 go_wp2_with fail
 refine F2.kX (HK.out.more (q:=.assign) ⟨F2.P.hi,trivial⟩ F2.P (Nat.lt_succ_self s.k)) fun rq3 HRQ3 w3 d3_0 d3_1 d3_2 d3_3 d3_4 d3_5 d3_6 d3_7 d3_8 F3=>?_
 obtain⟨_,_,_,_,_,_,_,_,_⟩:=F3.sto 2
 go_wp2_with fail
 refine F3.litK _ (n:=1) (F3.ts1 2) rfl (by simp) rfl fun w4 F4=>?_
 have F5:=F4.bt 3 72 rfl
 go_wp2_with fail
 refine F5.kN (zBW F5.P) fun w6 F6=>?_
 obtain⟨_,_,_,_,_,_,_,_,_⟩:=F6.c 4
 obtain⟨_,_,_,_,_,_,_,_,_⟩:=F6.c 0
 obtain⟨_,_,_,_,_,_,_,_,_⟩:=F6.f 0
 go_wp2_with fail
 refine zP (F6.put 0 3) fun V7 F7=>?_
 have q:=F7.c 0
 exact F7.ret 3 rfl (by simp[results,Tryz.results147,go_sem,q]) rfl (HR.out.symm.trans (by
  unfold zE
  dsimp only
  rw[if_neg (by decide),if_neg (by decide),if_neg (by decide),if_neg (by decide),if_neg (by decide),if_neg (by decide),if_pos rfl]
  simp[HNL.out,HRQ3.out])) (fun _ h=>h)
theorem zFg {C:Pc} {s:Ps} {w:World} (hp:Pre C.L (.word [102,117,110,99,116,105,111,110]) s) (_K:KP C (zh C.L (.word [102,117,110,99,116,105,111,110]) s)) (h:Pa C s w):zk C s w (.word [102,117,110,99,116,105,111,110]):=by
 refine zAl hp h fun HL hlen hsk r W X HR hW hX F0=>?_
 clear h hp
 go_enter Tryz.func147,Tryz.ntmps147
 go_upto_region 1 with(fail)
 clear hW hX
 go_wp2_with fail
 refine F0.kN (zx F0.P) fun w1 F1=>?_
 go_wp2_with fail
 refine F1.made0 _ fun w2 F2=>?_
 obtain⟨_,_,_,_,_,_,_,_,_⟩:=F2.c 0
 obtain⟨_,_,_,_,_,_,_,_,_⟩:=F2.f 0
 go_wp2_with fail
 refine zP (F2.put 0 1) fun V3 F3=>?_
 have q:=F3.c 0
 exact F3.ret 1 rfl (by simp[results,Tryz.results147,go_sem,q]) rfl (HR.out.symm.trans (by
  unfold zE
  dsimp only
  rw[if_neg (by decide),if_neg (by decide),if_neg (by decide),if_neg (by decide),if_neg (by decide),if_neg (by decide),if_neg (by decide),if_neg (by decide),if_pos (.inl rfl)])) (fun _ h=>h)
theorem zO4 {C:Pc} {s:Ps} {w:World} (hp:Pre C.L (.word [108,101,116]) s) (_K:KP C (zh C.L (.word [108,101,116]) s)) (h:Pa C s w):zk C s w (.word [108,101,116]):=by
 refine zAl hp h fun HL hlen hsk r W X HR hW hX F0=>?_
 clear h hp
 go_enter Tryz.func147,Tryz.ntmps147
 go_upto_region 1 with(fail)
 clear hW hX
 go_wp2_with fail
 refine F0.kN (zx F0.P) fun w1 F1=>?_
 go_wp2_with fail
 refine F1.made0 _ fun w2 F2=>?_
 obtain⟨_,_,_,_,_,_,_,_,_⟩:=F2.c 0
 obtain⟨_,_,_,_,_,_,_,_,_⟩:=F2.f 0
 go_wp2_with fail
 refine zP (F2.put 0 1) fun V3 F3=>?_
 have q:=F3.c 0
 exact F3.ret 1 rfl (by simp[results,Tryz.results147,go_sem,q]) rfl (HR.out.symm.trans (by
  unfold zE
  dsimp only
  rw[if_neg (by decide),if_neg (by decide),if_neg (by decide),if_neg (by decide),if_neg (by decide),if_neg (by decide),if_neg (by decide),if_neg (by decide),if_pos (.inr (.inl rfl))])) (fun _ h=>h)
theorem zKD {C:Pc} {s:Ps} {w:World} (hp:Pre C.L (.word [99,111,110,115,116]) s) (_K:KP C (zh C.L (.word [99,111,110,115,116]) s)) (h:Pa C s w):zk C s w (.word [99,111,110,115,116]):=by
 refine zAl hp h fun HL hlen hsk r W X HR hW hX F0=>?_
 clear h hp
 go_enter Tryz.func147,Tryz.ntmps147
 go_upto_region 1 with(fail)
 clear hW hX
 go_wp2_with fail
 refine F0.kN (zx F0.P) fun w1 F1=>?_
 go_wp2_with fail
 refine F1.made0 _ fun w2 F2=>?_
 obtain⟨_,_,_,_,_,_,_,_,_⟩:=F2.c 0
 obtain⟨_,_,_,_,_,_,_,_,_⟩:=F2.f 0
 go_wp2_with fail
 refine zP (F2.put 0 1) fun V3 F3=>?_
 have q:=F3.c 0
 exact F3.ret 1 rfl (by simp[results,Tryz.results147,go_sem,q]) rfl (HR.out.symm.trans (by
  unfold zE
  dsimp only
  rw[if_neg (by decide),if_neg (by decide),if_neg (by decide),if_neg (by decide),if_neg (by decide),if_neg (by decide),if_neg (by decide),if_neg (by decide),if_pos (.inr (.inr rfl))])) (fun _ h=>h)
theorem zKE {C:Pc} {v:List UInt8} {s:Ps} {w:World} (hp:Pre C.L (.word v) s) (K:KP C (zh C.L (.word v) s)) (h:Pa C s w) (h0:¬v=[105,102]) (h1:¬v=[119,104,105,108,101]) (h2:¬v=[102,111,114]) (h3:¬v=[98,114,101,97,107]) (h4:¬v=[99,111,110,116,105,110,117,101]) (h5:¬v=[114,101,116,117,114,110]) (h6:¬v=[116,104,114,111,119]) (h7:¬v=[116,114,121]) (h8:¬v=[102,117,110,99,116,105,111,110]) (h9:¬v=[108,101,116]) (h10:¬v=[99,111,110,115,116]):zk C s w (.word v):=by
 refine zAl hp h fun HL hlen hsk r W X HR hW hX F0=>?_
 have HK:=zD K
 clear K h hp
 go_enter Tryz.func147,Tryz.ntmps147
 go_upto_region 1 with(fail)
 clear hW hX
 have n0:(v==[105,102])=false:=beq_eq_false_iff_ne.mpr h0
 have n1:(v==[119,104,105,108,101])=false:=beq_eq_false_iff_ne.mpr h1
 have n2:(v==[102,111,114])=false:=beq_eq_false_iff_ne.mpr h2
 have n3:(v==[98,114,101,97,107])=false:=beq_eq_false_iff_ne.mpr h3
 have n4:(v==[99,111,110,116,105,110,117,101])=false:=beq_eq_false_iff_ne.mpr h4
 have n5:(v==[114,101,116,117,114,110])=false:=beq_eq_false_iff_ne.mpr h5
 have n6:(v==[116,104,114,111,119])=false:=beq_eq_false_iff_ne.mpr h6
 have n7:(v==[116,114,121])=false:=beq_eq_false_iff_ne.mpr h7
 have n8:(v==[102,117,110,99,116,105,111,110])=false:=beq_eq_false_iff_ne.mpr h8
 have n9:(v==[108,101,116])=false:=beq_eq_false_iff_ne.mpr h9
 have n10:(v==[99,111,110,115,116])=false:=beq_eq_false_iff_ne.mpr h10
 go_wp2_with fail
 refine F0.kX (HK.out.rank (q:=.simple) ⟨F0.P.hi,trivial⟩ F0.P (Nat.le_refl _) (by simp[zn])) fun rq1 HRQ1 w1 d1_0 d1_1 d1_2 d1_3 d1_4 d1_5 d1_6 d1_7 d1_8 F1=>?_
 obtain⟨_,_,_,_,_,_,_,_,_⟩:=F1.sto 1
 obtain⟨_,_,_,_,_,_,_,_,_⟩:=F1.c 0
 obtain⟨_,_,_,_,_,_,_,_,_⟩:=F1.f 0
 go_wp2_with fail
 refine zP (F1.put 0 1) fun V2 F2=>?_
 have q:=F2.c 0
 exact F2.ret 1 rfl (by simp[results,Tryz.results147,go_sem,q]) rfl (HR.out.symm.trans (by
  unfold zE
  dsimp only
  rw[if_neg h0,if_neg h1,if_neg h2,if_neg h3,if_neg h4,if_neg h5,if_neg h6,if_neg h7,if_neg (fun h=>h.elim h8 (fun h=>h.elim h9 h10))]
  simp only[HRQ1.out])) (fun _ h=>h)
theorem zKF {C:Pc} {s:Ps} {w:World} (hp:Pre C.L (.word [105,102]) s) (K:KP C (zh C.L (.word [105,102]) s)) (h:Pa C s w) (hel:onP C.L [101,108,115,101] (zI C.L .statement (zI C.L .within (stepP s)).2).2=false):zk C s w (.word [105,102]):=by
 refine zAl hp h fun HL hlen hsk r W X HR hW hX F0=>?_
 have HK:=zD K
 have hlt:=zD hp.2
 clear K h hp
 go_enter Tryz.func147,Tryz.ntmps147
 go_upto_region 1 with(fail)
 clear hW hX
 obtain⟨xk1,fk1,bk1⟩:=F0.k1
 have F1:=F0.step hlt.out
 have hpost:=zD (zV HL.out (p:=.within) (s:=stepP s) ⟨hlt.out,trivial⟩)
 go_wp2_with fail
 refine F1.kX (HK.out.more (q:=.within) ⟨F1.P.hi,trivial⟩ F1.P (Nat.lt_succ_self s.k)) fun rq2 HRQ2 w2 d2_0 d2_1 d2_2 d2_3 d2_4 d2_5 d2_6 d2_7 d2_8 F2=>?_
 obtain⟨_,_,_,_,_,_,_,_,_⟩:=F2.sto 1
 have hx:=zD (show Adv C.L (stepP s) (rq2.2) by have:=hpost.out.adv;rw[HRQ2.out]at this;exact this)
 have hle:=zD (show s.k < (rq2.2).k from Nat.lt_of_lt_of_le (Nat.lt_succ_self s.k) hx.out.le)
 have hpost2:=zD (zV HL.out (p:=.statement) (s:=rq2.2) ⟨hx.out.hi,trivial⟩)
 go_wp2_with fail
 refine F2.kX (HK.out.more (q:=.statement) ⟨F2.P.hi,trivial⟩ F2.P hle.out) fun rq3 HRQ3 w3 d3_0 d3_1 d3_2 d3_3 d3_4 d3_5 d3_6 d3_7 d3_8 F3=>?_
 obtain⟨_,_,_,_,_,_,_,_,_⟩:=F3.sto 2
 have hy:=zD (show s.k < (rq3.2).k from Nat.lt_of_lt_of_le hle.out (show _≤(rq3.2).k by have:=hpost2.out.adv.le;rw[HRQ3.out]at this;exact this))
 obtain⟨be,hbe⟩:∃b,onP C.L [101,108,115,101] (rq3.2)=b:=⟨_,rfl⟩
 have HBE:=zD hbe
 clear hbe
 go_wp2_with fail
 refine F3.litR _ (n:=2) (F3.ts2 1 2) rfl (by simp) rfl fun w4 F4=>?_
 have F5:=F4.bt 4 72 rfl
 have hel:=zD (show onP C.L [101,108,115,101] (rq3.2)=false by have:=hel;rw[HRQ2.out,HRQ3.out]at this;exact this)
 cases be with
 | true=>exact absurd HBE.out (by have:=hel.out;simp[this])
 | false=>
  go_wp2_with fail
  refine F5.kM (zA9 F5.P [101,108,115,101] HBE.out) fun w6 F6=>?_
  obtain⟨_,_,_,_,_,_,_,_,_⟩:=F6.c 5
  obtain⟨_,_,_,_,_,_,_,_,_⟩:=F6.c 0
  obtain⟨_,_,_,_,_,_,_,_,_⟩:=F6.f 0
  go_wp2_with fail
  refine zP (F6.put 0 4) fun V7 F7=>?_
  have q:=F7.c 0
  exact F7.ret 4 rfl (by simp[results,Tryz.results147,go_sem,q]) rfl (HR.out.symm.trans (by
   unfold zE
   dsimp only
   simp[HRQ2.out,HRQ3.out,HBE.out])) (fun _ h=>h)
theorem zGa {C:Pc} {s:Ps} {w:World} (hp:Pre C.L (.word [105,102]) s) (K:KP C (zh C.L (.word [105,102]) s)) (h:Pa C s w) (hel:onP C.L [101,108,115,101] (zI C.L .statement (zI C.L .within (stepP s)).2).2=true):zk C s w (.word [105,102]):=by
 refine zAl hp h fun HL hlen hsk r W X HR hW hX F0=>?_
 have HK:=zD K
 have hlt:=zD hp.2
 clear K h hp
 go_enter Tryz.func147,Tryz.ntmps147
 go_upto_region 1 with(fail)
 clear hW hX
 obtain⟨xk1,fk1,bk1⟩:=F0.k1
 have F1:=F0.step hlt.out
 have hpost:=zD (zV HL.out (p:=.within) (s:=stepP s) ⟨hlt.out,trivial⟩)
 go_wp2_with fail
 refine F1.kX (HK.out.more (q:=.within) ⟨F1.P.hi,trivial⟩ F1.P (Nat.lt_succ_self s.k)) fun rq2 HRQ2 w2 d2_0 d2_1 d2_2 d2_3 d2_4 d2_5 d2_6 d2_7 d2_8 F2=>?_
 obtain⟨_,_,_,_,_,_,_,_,_⟩:=F2.sto 1
 have hx:=zD (show Adv C.L (stepP s) (rq2.2) by have:=hpost.out.adv;rw[HRQ2.out]at this;exact this)
 have hle:=zD (show s.k < (rq2.2).k from Nat.lt_of_lt_of_le (Nat.lt_succ_self s.k) hx.out.le)
 have hpost2:=zD (zV HL.out (p:=.statement) (s:=rq2.2) ⟨hx.out.hi,trivial⟩)
 go_wp2_with fail
 refine F2.kX (HK.out.more (q:=.statement) ⟨F2.P.hi,trivial⟩ F2.P hle.out) fun rq3 HRQ3 w3 d3_0 d3_1 d3_2 d3_3 d3_4 d3_5 d3_6 d3_7 d3_8 F3=>?_
 obtain⟨_,_,_,_,_,_,_,_,_⟩:=F3.sto 2
 have hy:=zD (show s.k < (rq3.2).k from Nat.lt_of_lt_of_le hle.out (show _≤(rq3.2).k by have:=hpost2.out.adv.le;rw[HRQ3.out]at this;exact this))
 obtain⟨be,hbe⟩:∃b,onP C.L [101,108,115,101] (rq3.2)=b:=⟨_,rfl⟩
 have HBE:=zD hbe
 clear hbe
 go_wp2_with fail
 refine F3.litR _ (n:=2) (F3.ts2 1 2) rfl (by simp) rfl fun w4 F4=>?_
 have F5:=F4.bt 4 72 rfl
 have hel:=zD (show onP C.L [101,108,115,101] (rq3.2)=true by have:=hel;rw[HRQ2.out,HRQ3.out]at this;exact this)
 cases be with
 | false=>exact absurd HBE.out (by have:=hel.out;simp[this])
 | true=>
  go_wp2_with fail
  refine F5.kM (zA6 F5.P [101,108,115,101] HBE.out) fun w6 F6=>?_
  have CL7:=zD (fun Q=>F6.dr.kRX 3 rfl (Q:=Q) (HK.out.more (q:=.statement) ⟨F6.dr.P.hi,trivial⟩ F6.dr.P (Nat.lt_succ_of_lt hy.out)))
  obtain⟨_,_,_,_,_,_,_,_,_⟩:=F6.c 5
  go_wp2_with fail
  go_region_law (first | (go_simp;go_at_call 98;(with_reducible refine CL7.out _ fun rq7 HRQ7 w7 d7_0 d7_1 d7_2 d7_3 d7_4 d7_5 d7_6 d7_7 d7_8 F7=>?_);obtain⟨_,_,_,_,_,_,_,_,_⟩:=F7.c 5;obtain⟨_,_,_,_,_,_,_,_,_⟩:=(F7.al (.cells #[d7_0,d7_1,d7_2,d7_3,d7_4,d7_5,d7_6,d7_7,d7_8] 72)).c 5) | (refine F7.snocS 3 6 rfl rfl (fun _ h=>h) (by simp) rfl _ _ rfl rfl rfl fun A8 cp8 w8 F8=>?_;obtain⟨_,_,_,_,_,_,_,_,_⟩:=F8.c 5;obtain⟨_,_,_,_,_,_,_,_,_⟩:=F8.f 5))
  all_goals
   have F9:=F8.set 5 8 (.slice A8 (2+1) cp8)
   obtain⟨_,_,_,_,_,_,_,_,_⟩:=F9.c 5
   obtain⟨_,_,_,_,_,_,_,_,_⟩:=F9.c 0
   obtain⟨_,_,_,_,_,_,_,_,_⟩:=F9.f 0
   go_wp2_with fail
   have F10:=F9.rowK 3 rfl 8
   refine zP (F10.put 0 7) fun V11 F11=>?_
   have q:=F11.c 0
   exact F11.ret 7 rfl (by simp[results,Tryz.results147,go_sem,q]) rfl (HR.out.symm.trans (by
    unfold zE
    dsimp only
    simp[HRQ2.out,HRQ3.out,HRQ7.out,HBE.out])) (fun _ h=>h)
theorem zEe {C:Pc} {s:Ps} {w:World} (hp:Pre C.L (.word [114,101,116,117,114,110]) s) (_K:KP C (zh C.L (.word [114,101,116,117,114,110]) s)) (h:Pa C s w) (hbe:zBu C.L (stepP s)=true):zk C s w (.word [114,101,116,117,114,110]):=by
 refine zAl hp h fun HL hlen hsk r W X HR hW hX F0=>?_
 have hlt:=zD hp.2
 clear h hp
 go_enter Tryz.func147,Tryz.ntmps147
 go_upto_region 1 with(fail)
 clear hW hX
 have HBE:=zD hbe
 clear hbe
 obtain⟨xk1,fk1,bk1⟩:=F0.k1
 have F1:=F0.step hlt.out
 go_wp2_with fail
 refine F1.made0 _ fun w2 F2=>?_
 have F3:=F2.bt 1 72 rfl
 go_wp2_with fail
 refine F3.kB (zGW F3.P HBE.out) fun w4 F4=>?_
 go_wp2_with fail
 refine F4.kN (zBW F4.P) fun w5 F5=>?_
 obtain⟨_,_,_,_,_,_,_,_,_⟩:=F5.c 2
 obtain⟨_,_,_,_,_,_,_,_,_⟩:=F5.c 0
 obtain⟨_,_,_,_,_,_,_,_,_⟩:=F5.f 0
 go_wp2_with fail
 refine zP (F5.put 0 1) fun V6 F6=>?_
 have q:=F6.c 0
 exact F6.ret 1 rfl (by simp[results,Tryz.results147,go_sem,q]) rfl (HR.out.symm.trans (by
  unfold zE
  dsimp only
  simp[HBE.out])) (fun _ h=>h)
theorem zEu {C:Pc} {s:Ps} {w:World} (hp:Pre C.L (.word [114,101,116,117,114,110]) s) (K:KP C (zh C.L (.word [114,101,116,117,114,110]) s)) (h:Pa C s w) (hbe:zBu C.L (stepP s)=false):zk C s w (.word [114,101,116,117,114,110]):=by
 refine zAl hp h fun HL hlen hsk r W X HR hW hX F0=>?_
 have HK:=zD K
 have hlt:=zD hp.2
 clear K h hp
 go_enter Tryz.func147,Tryz.ntmps147
 go_upto_region 1 with(fail)
 clear hW hX
 have HBE:=zD hbe
 clear hbe
 obtain⟨xk1,fk1,bk1⟩:=F0.k1
 have F1:=F0.step hlt.out
 go_wp2_with fail
 refine F1.made0 _ fun w2 F2=>?_
 have F3:=F2.bt 1 72 rfl
 go_wp2_with fail
 refine F3.kB (zGW F3.P HBE.out) fun w4 F4=>?_
 have F5:=F4.nil
 have CL6:=zD (fun Q=>F5.dr.kRX 3 rfl (Q:=Q) (HK.out.more (q:=.assign) ⟨F5.dr.P.hi,trivial⟩ F5.dr.P (Nat.lt_succ_self s.k)))
 obtain⟨_,_,_,_,_,_,_,_,_⟩:=F5.c 2
 go_wp2_with fail
 go_region_law (first | (go_simp;go_at_call 140;(with_reducible refine CL6.out _ fun rq6 HRQ6 w6 d6_0 d6_1 d6_2 d6_3 d6_4 d6_5 d6_6 d6_7 d6_8 F6=>?_);obtain⟨_,_,_,_,_,_,_,_,_⟩:=F6.c 2;obtain⟨_,_,_,_,_,_,_,_,_⟩:=(F6.al (.cells #[d6_0,d6_1,d6_2,d6_3,d6_4,d6_5,d6_6,d6_7,d6_8] 72)).c 2) | (refine F6.snocS 3 4 rfl rfl (fun _ h=>h) (by simp) rfl _ _ rfl rfl rfl fun A7 cp7 w7 F7=>?_;obtain⟨_,_,_,_,_,_,_,_,_⟩:=F7.c 2;obtain⟨_,_,_,_,_,_,_,_,_⟩:=F7.f 2))
 all_goals
  have F8:=F7.set 2 8 (.slice A7 1 cp7)
  go_wp2_with fail
  refine F8.kN (zBW F8.P) fun w9 F9=>?_
  obtain⟨_,_,_,_,_,_,_,_,_⟩:=F9.c 2
  obtain⟨_,_,_,_,_,_,_,_,_⟩:=F9.c 0
  obtain⟨_,_,_,_,_,_,_,_,_⟩:=F9.f 0
  go_wp2_with fail
  have F10:=F9.rowK 3 rfl 14
  refine zP (F10.put 0 5) fun V11 F11=>?_
  have q:=F11.c 0
  exact F11.ret 5 rfl (by simp[results,Tryz.results147,go_sem,q]) rfl (HR.out.symm.trans (by
   unfold zE
   dsimp only
   simp[HBE.out,HRQ6.out])) (fun _ h=>h)
theorem zO5 {C:Pc} {v:List UInt8} {s:Ps} {w:World} (hp:Pre C.L (.word v) s) (K:KP C (zh C.L (.word v) s)) (h:Pa C s w):zk C s w (.word v):=by
 by_cases h0:v=[105,102]
 · subst h0
   cases hel:onP C.L [101,108,115,101] (zI C.L .statement (zI C.L .within (stepP s)).2).2 with
   | true=>exact zGa hp K h hel
   | false=>exact zKF hp K h hel
 by_cases h1:v=[119,104,105,108,101]
 · subst h1
   exact zKB hp K h
 by_cases h2:v=[102,111,114]
 · subst h2
   exact zO2 hp K h
 by_cases h3:v=[98,114,101,97,107]
 · subst h3
   exact zKC hp K h
 by_cases h4:v=[99,111,110,116,105,110,117,101]
 · subst h4
   exact zFf hp K h
 by_cases h5:v=[114,101,116,117,114,110]
 · subst h5
   cases hbe:zBu C.L (stepP s)with
   | true=>exact zEe hp K h hbe
   | false=>exact zEu hp K h hbe
 by_cases h6:v=[116,104,114,111,119]
 · subst h6
   cases hnl:(zM C.L (stepP s).k).nl with
   | true=>exact zEd hp K h hnl
   | false=>exact zD3 hp K h hnl
 by_cases h7:v=[116,114,121]
 · subst h7
   exact zO3 hp K h
 by_cases h8:v=[102,117,110,99,116,105,111,110]
 · subst h8
   exact zFg hp K h
 by_cases h9:v=[108,101,116]
 · subst h9
   exact zO4 hp K h
 by_cases h10:v=[99,111,110,115,116]
 · subst h10
   exact zKD hp K h
 exact zKE hp K h h0 h1 h2 h3 h4 h5 h6 h7 h8 h9 h10
def zCm (L:List Tok) (f i:Nat):Bool:=match zBE L f i with | none=>false | some j=>zA2 L j
theorem zMp {L:List Tok} {f i:Nat} (h:(zM L i).kind≠1):zCm L f i=false:=by
 unfold zCm
 cases f with
 | zero=>rfl
 | succ f=>unfold zBE;rw[if_neg h]
theorem zMq {L:List Tok} {f i:Nat} (h:(zM L i).kind=1) (hc:isT (zM L (i+1)) [44]=true):zCm L (f+1) i=zCm L f (i+2):=by
 unfold zCm
 rw[zBE,if_pos h,if_pos hc]
theorem zKG {L:List Tok} {f i:Nat} (h:(zM L i).kind=1) (hc:isT (zM L (i+1)) [44]=false):zCm L (f+1) i=zA2 L (i+1):=by
 unfold zCm
 rw[zBE,if_pos h,if_neg (by rw[hc];decide)]
theorem zH2 {L:List Tok} {s:Ps} (h:onP L [40] s=true):zAN L s=(if isT (zM L (s.k+1)) [41]=true then zA2 L (s.k+1)else zCm L L.length (s.k+1)):=by
 unfold zAN zCm
 rw[h,Bool.true_and]
 rfl
theorem zEf {L:List Tok} {i:Nat} (h:L.length≤i):zM L i=zo:=by
 unfold zM
 rw[List.getD_eq_getElem?_getD,List.getElem?_eq_none h]
 rfl
theorem zO6 {L:List Tok} (hL:Lst L) (i N:Nat) (hN:L.length=N):(zM L (min i (N - 1))).kind=(zM L i).kind:=by
 subst hN
 rcases Nat.lt_or_ge i L.length with h | h
 · rw[show min i (L.length - 1)=i by omega]
 · have hp:=hL.pos
   rw[show min i (L.length - 1)=L.length - 1 by omega,zEf h,hL.last]
   rfl
theorem zDv {L:List Tok} (hL:Lst L) (i N:Nat) (hN:L.length=N) (v:List UInt8):isT (zM L (min i (N - 1))) v=isT (zM L i) v:=by
 subst hN
 rcases Nat.lt_or_ge i L.length with h | h
 · rw[show min i (L.length - 1)=i by omega]
 · have hp:=hL.pos
   have h0:=hL.last
   rw[show min i (L.length - 1)=L.length - 1 by omega,zEf h]
   unfold isT
   rw[h0]
   simp[zo]
theorem zRI {L:List Tok} {i:Nat} (h:(zM L i).kind=1):i < L.length:=by
 rcases Nat.lt_or_ge i L.length with h2 | h2
 · exact h2
 · rw[zEf h2]at h
   exact absurd h (by decide)
theorem zMr {C:Pc} {s:Ps} {w:World} (h:Pa C s w):Calls Tryz.prog 174 #[.pointer (some ⟨C.g,0,none⟩)] w (zJ3 C s (zAN C.L s) w):=by
 have HL:=zD h.cx.lst
 have hlen:C.N≤4097:=h.cx.n4
 have hN:C.L.length=C.N:=h.cx.n
 have hkN:=h.kN
 have HP0:=zD h
 have hf0:=zSY
 obtain⟨b0,hb0⟩:∃b,onP C.L [40] s=b:=⟨_,rfl⟩
 obtain⟨b1,hb1⟩:∃b,isT (zM C.L (s.k+1)) [41]=b:=⟨_,rfl⟩
 obtain⟨r,hr⟩:∃r,zAN C.L s=r:=⟨_,rfl⟩
 rw[hr]
 have HR:=zD hr
 have HB0:=zD hb0
 have HB1:=zD hb1
 clear h hr hb0 hb1
 go_enter Tryz.func174,Tryz.ntmps174
 go_wp2_with fail
 refine(zAR HP0.out [40] HB0.out).mono ?_
 rintro e1 w1 ⟨rfl,hp1,hg1⟩
 have HP1:=zD hp1
 have HG1:=zD hg1
 clear hp1 hg1
 cases b0 with
 | false=>
  go_wp2_with fail
  go_ret
  exact⟨zf (by rw[←HR.out];unfold zAN;rw[HB0.out];rfl),HP1.out,HG1.out⟩
 | true=>
  obtain⟨⟨kda,txa,sta,nka,nna,mga,psa,nla⟩,htka⟩:∃tk,zM C.L (min (s.k+(1)) (C.N - 1))=tk:=⟨_,rfl⟩
  have HTa:=zD htka
  clear htka
  go_wp2_with fail
  refine(zAi HP1.out (1) _ (by first | omega | decide | rfl) (by omega) HTa.out).mono ?_
  rintro e2 w2 ⟨Asa,Ama,c1a,c2a,rfl,hs2,hm2,hp2,hg2⟩
  have HP2:=zD hp2
  have HG2:=zD (zF HG1.out hg2)
  clear hs2 hm2 hp2 hg2
  go_wp2_with fail
  refine(zCN [41] (show isT ⟨kda,txa,sta,nka,nna,mga,psa,nla⟩ [41]=b1 by rw[←HTa.out,zDv HL.out _ _ hN];exact HB1.out)).mono ?_
  rintro e3 w3 ⟨rfl,hg3⟩
  have HP3:=zD (HP2.out.new hg3)
  have HG3:=zD (zF HG2.out hg3)
  clear hg3
  cases b1 with
  | true=>
   obtain⟨b2t,hb2t⟩:∃b,isT (zM C.L (s.k+(1))) [41]=b:=⟨_,rfl⟩
   obtain⟨b3t,hb3t⟩:∃b,isT (zM C.L (s.k+(1+1))) [61,62]=b:=⟨_,rfl⟩
   have HB2t:=zD hb2t
   have HB3t:=zD hb3t
   clear hb2t hb3t
   have HE:=zD (show r=(b2t&&b3t) by
    rw[←HR.out,zH2 HB0.out,if_pos HB1.out]
    unfold zA2
    rw[←HB2t.out,←HB3t.out]
    all_goals first | rfl | (congr 3;omega))
   obtain⟨⟨kdet,txet,stet,nket,nnet,mget,pset,nlet⟩,htket⟩:∃tk,zM C.L (min (s.k+(1)) (C.N - 1))=tk:=⟨_,rfl⟩
   have HTet:=zD htket
   clear htket
   go_wp2_with fail
   refine(zAi HP3.out (1) _ (by first | omega | decide | rfl) (by omega) HTet.out).mono ?_
   rintro e4 w4 ⟨Aset,Amet,c1et,c2et,rfl,hs4,hm4,hp4,hg4⟩
   have HP4:=zD hp4
   have HG4:=zD (zF HG3.out hg4)
   clear hs4 hm4 hp4 hg4
   go_wp2_with fail
   refine(zCN [41] (show isT ⟨kdet,txet,stet,nket,nnet,mget,pset,nlet⟩ [41]=b2t by rw[←HTet.out,zDv HL.out _ _ hN];exact HB2t.out)).mono ?_
   rintro e5 w5 ⟨rfl,hg5⟩
   have HP5:=zD (HP4.out.new hg5)
   have HG5:=zD (zF HG4.out hg5)
   clear hg5
   cases b2t with
   | false=>
    go_wp2_with fail
    go_ret
    exact⟨zf HE.out.symm,HP5.out,HG5.out⟩
   | true=>
    obtain⟨⟨kdft,txft,stft,nkft,nnft,mgft,psft,nlft⟩,htkft⟩:∃tk,zM C.L (min (s.k+(1+1)) (C.N - 1))=tk:=⟨_,rfl⟩
    have HTft:=zD htkft
    clear htkft
    go_wp2_with fail
    refine(zAi HP5.out (1+1) _ (by first | omega | decide | rfl) (by omega) HTft.out).mono ?_
    rintro e6 w6 ⟨Asft,Amft,c1ft,c2ft,rfl,hs6,hm6,hp6,hg6⟩
    have HP6:=zD hp6
    have HG6:=zD (zF HG5.out hg6)
    clear hs6 hm6 hp6 hg6
    go_wp2_with fail
    refine(zCN [61,62] (show isT ⟨kdft,txft,stft,nkft,nnft,mgft,psft,nlft⟩ [61,62]=b3t by rw[←HTft.out,zDv HL.out _ _ hN];exact HB3t.out)).mono ?_
    rintro e7 w7 ⟨rfl,hg7⟩
    have HP7:=zD (HP6.out.new hg7)
    have HG7:=zD (zF HG6.out hg7)
    clear hg7
    go_wp2_with fail
    go_ret
    exact⟨zf (by rw[HE.out];rfl),HP7.out,HG7.out⟩
  | false=>
   have HR2:=zD (show zCm C.L C.L.length (s.k+1)=r by rw[←HR.out,zH2 HB0.out,if_neg (by rw[HB1.out];decide)])
   go_wp2_with fail
   go_loopg [3] C.L.length (fun f v wr=>∃i:Nat,C.L.length≤f+s.k+i∧v=.int .i64 (i:Int)∧i≤5000∧Hid (zCm C.L f (s.k+i)=r)∧Hid (Pa C s wr)∧Hid (w.grownBy wr none))
   case atStart=>exact⟨1,by omega,rfl,by omega,HR2.out,HP3.out,HG3.out⟩
   case round=>
    obtain⟨i,hgk,hv,hi,HRl,HPl,HGl⟩:=hrel
    subst hv
    obtain⟨ck,hck⟩:∃ck,decide ((zM C.L (s.k+i)).kind=1)=ck:=⟨_,rfl⟩
    have hw1:IntKind.i64.wrap ((i:Int)+1)=(i:Int)+1:=by rw[IntKind.wrap_i64];omega
    have hw2:IntKind.i64.wrap ((i:Int)+1+1)=(i:Int)+1+1:=by rw[IntKind.wrap_i64];omega
    obtain⟨⟨kdk,txk,stk,nkk,nnk,mgk,psk,nlk⟩,htkk⟩:∃tk,zM C.L (min (s.k+(i)) (C.N - 1))=tk:=⟨_,rfl⟩
    have HTk:=zD htkk
    clear htkk
    go_wp2_with fail
    refine(zAi HPl.out (i) _ (by first | omega | decide | rfl) (by omega) HTk.out).mono ?_
    rintro e8 w8 ⟨Ask,Amk,c1k,c2k,rfl,hs8,hm8,hp8,hg8⟩
    have HP8:=zD hp8
    have HG8:=zD (zF HGl.out hg8)
    clear hs8 hm8 hp8 hg8
    have hkk:kdk=(zM C.L (s.k+i)).kind:=by have:=zO6 HL.out (s.k+i) C.N hN;rw[HTk.out]at this;exact this
    cases ck with
    | false=>
     have hkn:(zM C.L (s.k+i)).kind≠1:=by simpa using hck
     have e1:((kdk:Int)==1)=false:=by rw[beq_eq_false_iff_ne];omega
     have e2:((kdk:Int) !=1)=true:=by rw[bne,e1];rfl
     have HZ:=zD (show r=false from HRl.out.symm.trans (zMp hkn))
     clear hkk hck hkn
     go_wp2_with fail
     go_ret
     exact⟨zf HZ.out.symm,HP8.out,HG8.out⟩
    | true=>
     have hkn:(zM C.L (s.k+i)).kind=1:=by simpa using hck
     have e1:((kdk:Int)==1)=true:=by rw[beq_iff_eq];omega
     have e2:((kdk:Int) !=1)=false:=by rw[bne,e1];rfl
     have hlt:=zRI hkn
     have HKN:=zD hkn
     clear hkk hck hkn
     obtain⟨f,rfl⟩:∃f,gk=f+1:=⟨gk - 1,by omega⟩
     obtain⟨bc,hbc⟩:∃b,isT (zM C.L (s.k+(i+1))) [44]=b:=⟨_,rfl⟩
     have HBC:=zD hbc
     clear hbc
     obtain⟨⟨kdc,txc,stc,nkc,nnc,mgc,psc,nlc⟩,htkc⟩:∃tk,zM C.L (min (s.k+(i+1)) (C.N - 1))=tk:=⟨_,rfl⟩
     have HTc:=zD htkc
     clear htkc
     go_wp2_with fail
     refine(zAi HP8.out (i+1) _ (by first | omega | decide | rfl) (by omega) HTc.out).mono ?_
     rintro e9 w9 ⟨Asc,Amc,c1c,c2c,rfl,hs9,hm9,hp9,hg9⟩
     have HP9:=zD hp9
     have HG9:=zD (zF HG8.out hg9)
     clear hs9 hm9 hp9 hg9
     go_wp2_with fail
     refine(zCN [44] (show isT ⟨kdc,txc,stc,nkc,nnc,mgc,psc,nlc⟩ [44]=bc by rw[←HTc.out,zDv HL.out _ _ hN];exact HBC.out)).mono ?_
     rintro e10 w10 ⟨rfl,hg10⟩
     have HP10:=zD (HP9.out.new hg10)
     have HG10:=zD (zF HG9.out hg10)
     clear hg10
     cases bc with
     | true=>
      go_wp2_with fail
      go_roundg f
      case measure=>omega
      case rel=>exact⟨i+2,by omega,congrArg (Value.int .i64) (by omega),by omega,(zMq HKN.out HBC.out).symm.trans HRl.out,HP10.out,HG10.out⟩
     | false=>
      obtain⟨b2l,hb2l⟩:∃b,isT (zM C.L (s.k+(i+1))) [41]=b:=⟨_,rfl⟩
      obtain⟨b3l,hb3l⟩:∃b,isT (zM C.L (s.k+(i+1+1))) [61,62]=b:=⟨_,rfl⟩
      have HB2l:=zD hb2l
      have HB3l:=zD hb3l
      clear hb2l hb3l
      have HE:=zD (show r=(b2l&&b3l) by
       rw[←HRl.out,zKG HKN.out HBC.out]
       unfold zA2
       rw[←HB2l.out,←HB3l.out]
       all_goals first | rfl | (congr 3;omega))
      obtain⟨⟨kdel,txel,stel,nkel,nnel,mgel,psel,nlel⟩,htkel⟩:∃tk,zM C.L (min (s.k+(i+1)) (C.N - 1))=tk:=⟨_,rfl⟩
      have HTel:=zD htkel
      clear htkel
      go_wp2_with fail
      refine(zAi HP10.out (i+1) _ (by first | omega | decide | rfl) (by omega) HTel.out).mono ?_
      rintro e11 w11 ⟨Asel,Amel,c1el,c2el,rfl,hs11,hm11,hp11,hg11⟩
      have HP11:=zD hp11
      have HG11:=zD (zF HG10.out hg11)
      clear hs11 hm11 hp11 hg11
      go_wp2_with fail
      refine(zCN [41] (show isT ⟨kdel,txel,stel,nkel,nnel,mgel,psel,nlel⟩ [41]=b2l by rw[←HTel.out,zDv HL.out _ _ hN];exact HB2l.out)).mono ?_
      rintro e12 w12 ⟨rfl,hg12⟩
      have HP12:=zD (HP11.out.new hg12)
      have HG12:=zD (zF HG11.out hg12)
      clear hg12
      cases b2l with
      | false=>
       go_wp2_with fail
       go_ret
       exact⟨zf HE.out.symm,HP12.out,HG12.out⟩
      | true=>
       obtain⟨⟨kdfl,txfl,stfl,nkfl,nnfl,mgfl,psfl,nlfl⟩,htkfl⟩:∃tk,zM C.L (min (s.k+(i+1+1)) (C.N - 1))=tk:=⟨_,rfl⟩
       have HTfl:=zD htkfl
       clear htkfl
       go_wp2_with fail
       refine(zAi HP12.out (i+1+1) _ (by first | omega | decide | rfl) (by omega) HTfl.out).mono ?_
       rintro e13 w13 ⟨Asfl,Amfl,c1fl,c2fl,rfl,hs13,hm13,hp13,hg13⟩
       have HP13:=zD hp13
       have HG13:=zD (zF HG12.out hg13)
       clear hs13 hm13 hp13 hg13
       go_wp2_with fail
       refine(zCN [61,62] (show isT ⟨kdfl,txfl,stfl,nkfl,nnfl,mgfl,psfl,nlfl⟩ [61,62]=b3l by rw[←HTfl.out,zDv HL.out _ _ hN];exact HB3l.out)).mono ?_
       rintro e14 w14 ⟨rfl,hg14⟩
       have HP14:=zD (HP13.out.new hg14)
       have HG14:=zD (zF HG13.out hg14)
       clear hg14
       go_wp2_with fail
       go_ret
       exact⟨zf (by rw[HE.out];rfl),HP14.out,HG14.out⟩
end Go.Proofs.YtlohaclgbfhijaaGreatDoor
