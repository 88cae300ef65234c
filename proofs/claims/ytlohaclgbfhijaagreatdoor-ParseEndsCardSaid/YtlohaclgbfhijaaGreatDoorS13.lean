/- Joined for the claim ParseEnds: the parser, the lexer and the trees as they are walked, made short by a program of mine. -/
import Derived.Deep.RegionLaw
import Derived.Test.YtlohaclgbfhijaaGreatDoorS12
import Derived.Deep.LoopGhost
set_option maxHeartbeats 16000000
set_option maxRecDepth 1000000
namespace Go.Proofs.YtlohaclgbfhijaaGreatDoor
open Go.RowKit
theorem zOo {C:Pc} {s:Ps} {w:World} (hp:Pre C.L (.unary) s) (K:KP C (zh C.L (.unary) s)) (h:Pa C s w) (hk:(zM C.L s.k).kind=5) (hw:(zM C.L s.k).text∈zEm):zk C s w (.unary):=by
 refine zAl hp h fun HL hlen hsk r W X HR hW hX F0=>?_
 have HK:=zD K
 clear K h hp
 go_enter Tryz.func207,Tryz.ntmps207
 go_upto_region 1 with(fail)
 clear hW hX
 have HKD:=zD hk
 have HW:=zD hw
 clear hk hw
 obtain⟨⟨kd,tx,st,nk,nn,mg,ps,nl⟩,HT⟩:=zU C.L (s).k
 have HKD2:=zD (show kd=5 from by have:=HKD.out;rw[HT.out]at this;exact this)
 have e5:((kd:Int)==5)=true:=by have:=HKD2.out;rw[beq_iff_eq];omega
 go_wp2_with fail
 refine F0.kT (zm F0.P HT.out) fun w1 As Am c1 c2 F1=>?_
 have F2:=F1.bt 1 44 rfl
 obtain⟨zt_0,zt_1,zt_2,zt_3,zt_4,zt_5,zt_6,zt_7,zt_8⟩:=(F2.b 2).nine
 go_wp2_with fail
 refine F2.kQ (zFG tx (show decide (tx∈zEm)=true from by have:=HW.out;rw[HT.out]at this;simpa using this)) fun w3 F3=>?_
 have hlt:=zD (HL.out.lt hsk (by rw[HT.out];have:=HKD2.out;show kd≠0;omega))
 obtain⟨xk4,fk4,bk4⟩:=F3.k1
 have F4:=F3.step hlt.out
 have CL5:=zD (fun Q=>F4.dr.kD (Q:=Q) (HK.out.more (q:=.unary) ⟨F4.dr.P.hi,trivial⟩ F4.dr.P (Nat.lt_succ_self s.k)))
 obtain⟨_,_,_,_,_,_,_,_,_⟩:=F4.c 2
 go_wp2_with fail
 go_region_law (first | (go_simp;go_at_call 207;(with_reducible refine CL5.out _ fun w5 d5_0 d5_1 d5_2 d5_3 d5_4 d5_5 d5_6 d5_7 d5_8 F5=>?_);obtain⟨_,_,_,_,_,_,_,_,_⟩:=F5.c 2;obtain⟨_,_,_,_,_,_,_,_,_⟩:=F5.c 0;obtain⟨_,_,_,_,_,_,_,_,_⟩:=(F5.al (.cells #[d5_0,d5_1,d5_2,d5_3,d5_4,d5_5,d5_6,d5_7,d5_8] 72)).c 2;have LT5:=zD (fun Q=>F5.litN 43 tx (n:=1) (Q:=Q) (F5.ts1 3) rfl (by simp) rfl)) | (go_simp;go_at_call 139;(with_reducible refine LT5.out _ fun w6 F6=>?_);obtain⟨_,_,_,_,_,_,_,_,_⟩:=F6.c 0;obtain⟨_,_,_,_,_,_,_,_,_⟩:=F6.f 0))
 all_goals
  obtain⟨_,_,_,_,_,_,_,_,_⟩:=F6.c 0
  obtain⟨_,_,_,_,_,_,_,_,_⟩:=F6.f 0
  go_wp2_with fail
  refine zP (F6.put 0 4) fun V7 F7=>?_
  have q:=F7.c 0
  exact F7.ret 4 rfl (by simp[results,Tryz.results207,go_sem,q]) rfl (HR.out.symm.trans (by
   unfold zE
   dsimp only
   rw[HT.out,if_pos ⟨by have:=HKD2.out;show kd=5∨kd=6;omega,by have:=HW.out;rw[HT.out]at this;exact this⟩])) (fun _ h=>h)
theorem zOp {C:Pc} {s:Ps} {w:World} (hp:Pre C.L (.unary) s) (K:KP C (zh C.L (.unary) s)) (h:Pa C s w) (hk:(zM C.L s.k).kind=5) (hw:¬(zM C.L s.k).text∈zEm) (hw2:(zM C.L s.k).text∈zCs):zk C s w (.unary):=by
 refine zAl hp h fun HL hlen hsk r W X HR hW hX F0=>?_
 have HK:=zD K
 clear K h hp
 go_enter Tryz.func207,Tryz.ntmps207
 go_upto_region 1 with(fail)
 clear hW hX
 have HKD:=zD hk
 have HW:=zD hw
 have HW2:=zD hw2
 clear hk hw hw2
 obtain⟨⟨kd,tx,st,nk,nn,mg,ps,nl⟩,HT⟩:=zU C.L (s).k
 have HKD2:=zD (show kd=5 from by have:=HKD.out;rw[HT.out]at this;exact this)
 have e5:((kd:Int)==5)=true:=by have:=HKD2.out;rw[beq_iff_eq];omega
 go_wp2_with fail
 refine F0.kT (zm F0.P HT.out) fun w1 As Am c1 c2 F1=>?_
 have F2:=F1.bt 1 44 rfl
 obtain⟨zt_0,zt_1,zt_2,zt_3,zt_4,zt_5,zt_6,zt_7,zt_8⟩:=(F2.b 2).nine
 go_wp2_with fail
 refine F2.kQ (zFG tx (show decide (tx∈zEm)=false from by have:=HW.out;rw[HT.out]at this;simpa using this)) fun w3 F3=>?_
 obtain⟨zt_0,zt_1,zt_2,zt_3,zt_4,zt_5,zt_6,zt_7,zt_8⟩:=(F3.b 2).nine
 go_wp2_with fail
 refine F3.kQ (zH1 tx (show decide (tx∈zCs)=true from by have:=HW2.out;rw[HT.out]at this;simpa using this)) fun w4 F4=>?_
 have hlt:=zD (HL.out.lt hsk (by rw[HT.out];have:=HKD2.out;show kd≠0;omega))
 obtain⟨xk5,fk5,bk5⟩:=F4.k1
 have F5:=F4.step hlt.out
 obtain⟨_,_,_,_,_,_,_,_,_⟩:=F5.c 2
 go_wp2_with fail
 clear xk5 fk5 bk5
 refine F5.kD (HK.out.more (q:=.unary) ⟨F5.P.hi,trivial⟩ F5.P (Nat.lt_succ_self s.k)) fun w6 d6_0 d6_1 d6_2 d6_3 d6_4 d6_5 d6_6 d6_7 d6_8 F6=>?_
 obtain⟨_,_,_,_,_,_,_,_,_⟩:=F6.sto 3
 obtain rfl:=(F6.t 3).kind
 have F7:=F6.box [.int .i64 ((zI C.L (.unary) (stepP (s))).1).nd.kind,d6_1,d6_2,d6_3,d6_4,d6_5,d6_6,d6_7,d6_8] 72 rfl (by decide) (by decide)
 by_cases hb:((zI C.L (.unary) (stepP (s))).2).bad=0
 · have HBD:=zD (show(((zI C.L (.unary) (stepP (s))).2).bad==0)=true by rw[hb];rfl)
   have HBZ:=zD hb
   clear hb
   go_wp2_with fail
   refine F7.kB (zAu F7.P HBD.out) fun w8 F8=>?_
   obtain⟨_,_,_,_,_,_,_,_,_⟩:=F8.c 4
   go_wp2_with fail
   refine(zBD _ _).mono ?_
   rintro ev9 wx9 ⟨rfl,rfl⟩
   obtain⟨bt,hbt⟩:∃bt,zAQ ((zI C.L (.unary) (stepP (s))).1).nd.kind=bt:=⟨_,rfl⟩
   rw[hbt]
   have HBT:=zD hbt
   clear hbt
   cases bt with
   | true=>
    obtain⟨_,_,_,_,_,_,_,_,_⟩:=F8.c 2
    obtain⟨_,_,_,_,_,_,_,_,_⟩:=F8.c 4
    go_wp2_with fail
    refine F8.litN _ _ (n:=1) (F8.ts1 3) rfl (by simp) rfl fun w10 F10=>?_
    obtain⟨_,_,_,_,_,_,_,_,_⟩:=F10.c 0
    obtain⟨_,_,_,_,_,_,_,_,_⟩:=F10.f 0
    go_wp2_with fail
    refine zP (F10.put 0 5) fun V11 F11=>?_
    have q:=F11.c 0
    exact F11.ret 5 rfl (by simp[results,Tryz.results207,go_sem,q]) rfl (HR.out.symm.trans (by
     unfold zE
     dsimp only
     rw[HT.out,if_neg (fun h=>by have:=HW.out;rw[HT.out]at this;exact this h.2),if_pos ⟨by have:=HKD2.out;show kd=5∨kd=6;omega,by have:=HW2.out;rw[HT.out]at this;exact this⟩]
     try dsimp only
     rw[HBT.out,if_neg (by simp)])) (fun _ h=>h)
   | false=>
    go_wp2_with fail
    refine F8.kN (zx F8.P) fun w12 F12=>?_
    obtain⟨_,_,_,_,_,_,_,_,_⟩:=F12.c 2
    obtain⟨_,_,_,_,_,_,_,_,_⟩:=F12.c 4
    go_wp2_with fail
    refine F12.litN _ _ (n:=1) (F12.ts1 3) rfl (by simp) rfl fun w13 F13=>?_
    obtain⟨_,_,_,_,_,_,_,_,_⟩:=F13.c 0
    obtain⟨_,_,_,_,_,_,_,_,_⟩:=F13.f 0
    go_wp2_with fail
    refine zP (F13.put 0 5) fun V14 F14=>?_
    have q:=F14.c 0
    exact F14.ret 5 rfl (by simp[results,Tryz.results207,go_sem,q]) rfl (HR.out.symm.trans (by
     unfold zE
     dsimp only
     rw[HT.out,if_neg (fun h=>by have:=HW.out;rw[HT.out]at this;exact this h.2),if_pos ⟨by have:=HKD2.out;show kd=5∨kd=6;omega,by have:=HW2.out;rw[HT.out]at this;exact this⟩]
     try dsimp only
     rw[HBT.out,if_pos ⟨HBZ.out,rfl⟩])) (fun _ h=>h)
 · have HBD:=zD (show(((zI C.L (.unary) (stepP (s))).2).bad==0)=false by rw[beq_eq_false_iff_ne];exact hb)
   have HBZ:=zD hb
   clear hb
   go_wp2_with fail
   refine F7.kB (zAu F7.P HBD.out) fun w15 F15=>?_
   obtain⟨_,_,_,_,_,_,_,_,_⟩:=F15.c 2
   obtain⟨_,_,_,_,_,_,_,_,_⟩:=F15.c 4
   go_wp2_with fail
   refine F15.litN _ _ (n:=1) (F15.ts1 3) rfl (by simp) rfl fun w16 F16=>?_
   obtain⟨_,_,_,_,_,_,_,_,_⟩:=F16.c 0
   obtain⟨_,_,_,_,_,_,_,_,_⟩:=F16.f 0
   go_wp2_with fail
   refine zP (F16.put 0 5) fun V17 F17=>?_
   have q:=F17.c 0
   exact F17.ret 5 rfl (by simp[results,Tryz.results207,go_sem,q]) rfl (HR.out.symm.trans (by
    unfold zE
    dsimp only
    rw[HT.out,if_neg (fun h=>by have:=HW.out;rw[HT.out]at this;exact this h.2),if_pos ⟨by have:=HKD2.out;show kd=5∨kd=6;omega,by have:=HW2.out;rw[HT.out]at this;exact this⟩]
    try dsimp only
    rw[if_neg (fun h=>HBZ.out h.1)])) (fun _ h=>h)
theorem zOq {C:Pc} {s:Ps} {w:World} (hp:Pre C.L (.unary) s) (K:KP C (zh C.L (.unary) s)) (h:Pa C s w) (hk:(zM C.L s.k).kind=5) (hw:¬(zM C.L s.k).text∈zEm) (hw2:¬(zM C.L s.k).text∈zCs):zk C s w (.unary):=by
 refine zAl hp h fun HL hlen hsk r W X HR hW hX F0=>?_
 have HK:=zD K
 clear K h hp
 go_enter Tryz.func207,Tryz.ntmps207
 go_upto_region 1 with(fail)
 clear hW hX
 have HKD:=zD hk
 have HW:=zD hw
 have HW2:=zD hw2
 clear hk hw hw2
 obtain⟨⟨kd,tx,st,nk,nn,mg,ps,nl⟩,HT⟩:=zU C.L (s).k
 have HKD2:=zD (show kd=5 from by have:=HKD.out;rw[HT.out]at this;exact this)
 have e5:((kd:Int)==5)=true:=by have:=HKD2.out;rw[beq_iff_eq];omega
 go_wp2_with fail
 refine F0.kT (zm F0.P HT.out) fun w1 As Am c1 c2 F1=>?_
 have F2:=F1.bt 1 44 rfl
 obtain⟨zt_0,zt_1,zt_2,zt_3,zt_4,zt_5,zt_6,zt_7,zt_8⟩:=(F2.b 2).nine
 go_wp2_with fail
 refine F2.kQ (zFG tx (show decide (tx∈zEm)=false from by have:=HW.out;rw[HT.out]at this;simpa using this)) fun w3 F3=>?_
 obtain⟨zt_0,zt_1,zt_2,zt_3,zt_4,zt_5,zt_6,zt_7,zt_8⟩:=(F3.b 2).nine
 go_wp2_with fail
 refine F3.kQ (zH1 tx (show decide (tx∈zCs)=false from by have:=HW2.out;rw[HT.out]at this;simpa using this)) fun w4 F4=>?_
 go_wp2_with fail
 refine F4.kD (HK.out.rank (q:=.calls) ⟨F4.P.hi,trivial⟩ F4.P (Nat.le_refl _) (by simp[zn])) fun w5 d5_0 d5_1 d5_2 d5_3 d5_4 d5_5 d5_6 d5_7 d5_8 F5=>?_
 obtain⟨_,_,_,_,_,_,_,_,_⟩:=F5.sto 3
 obtain rfl:=(F5.t 3).kind
 have hlo1:=(F5.b 2).lt
 have F6:=F5.box [.int .i64 ((zI C.L (.calls) (s)).1).nd.kind,d5_1,d5_2,d5_3,d5_4,d5_5,d5_6,d5_7,d5_8] 72 rfl (by decide) (by decide)
 obtain⟨⟨kdo,txo,sto,nko,nno,mgo,pso,nlo⟩,HTo⟩:=zU C.L ((zI C.L (.calls) (s)).2).k
 go_wp2_with fail
 refine F6.kT (zm F6.P HTo.out) fun w7 Aso Amo c1o c2o F7=>?_
 obtain⟨_,_,_,_,_,_,_,_,_⟩:=F7.c 2
 obtain⟨_,_,_,_,_,_,_,_,_⟩:=F7.f 2
 go_upto_region 14 with(fail)
 refine zDB (F7.put 2 5) fun w8 F8=>?_
 obtain⟨_,_,_,_,_,_,_,_,_⟩:=F8.c 2
 by_cases hk5:kdo=5
 · have HK5:=zD hk5
   have eo5:((kdo:Int)==5)=true:=by rw[beq_iff_eq];omega
   clear hk5
   by_cases hop:txo∈zCs
   · have HOP:=zD hop
     clear hop
     go_wp2_with fail
     refine F8.kQ (zFH txo (show decide (txo∈zCs)=true from by simpa using HOP.out)) fun w9 F9=>?_
     obtain⟨_,_,_,_,_,_,_,_,_⟩:=F9.c 2
     obtain⟨_,_,_,_,_,_,_,_,_⟩:=F9.c 4
     cases nlo with
     | true=>
      obtain⟨_,_,_,_,_,_,_,_,_⟩:=F9.c 0
      obtain⟨_,_,_,_,_,_,_,_,_⟩:=F9.f 0
      go_wp2_with fail
      refine zP (F9.put 0 3) fun V10 F10=>?_
      have q:=F10.c 0
      exact F10.ret 3 rfl (by simp[results,Tryz.results207,go_sem,q]) rfl (HR.out.symm.trans (by
       unfold zE
       dsimp only
       rw[HT.out,if_neg (fun h=>by have:=HW.out;rw[HT.out]at this;exact this h.2),if_neg (fun h=>by have:=HW2.out;rw[HT.out]at this;exact this h.2)]
       try dsimp only
       rw[HTo.out]
       try dsimp only
       rw[if_neg (by simp)])) (fun _ h=>h)
     | false=>
      go_wp2_with fail
      refine(zBD _ _).mono ?_
      rintro ev11 wx11 ⟨rfl,rfl⟩
      obtain⟨bt,hbt⟩:∃bt,zAQ ((zI C.L (.calls) (s)).1).nd.kind=bt:=⟨_,rfl⟩
      rw[hbt]
      have HBT:=zD hbt
      clear hbt
      cases bt with
      | true=>
       have hlo:=zD (HL.out.lt (s:=(zI C.L (.calls) (s)).2) F9.P.hi (by rw[HTo.out];have:=HK5.out;show kdo≠0;omega))
       obtain⟨xk12,fk12,bk12⟩:=F9.k1
       have F12:=F9.step hlo.out
       obtain⟨_,_,_,_,_,_,_,_,_⟩:=F12.c 2
       obtain⟨_,_,_,_,_,_,_,_,_⟩:=F12.c 4
       go_wp2_with fail
       clear xk12 fk12 bk12
       refine F12.litN _ _ (n:=1) (F12.ts1 3) rfl (by simp) (show _=w9.heap.size by simp) fun w13 F13=>?_
       obtain⟨_,_,_,_,_,_,_,_,_⟩:=F13.c 0
       obtain⟨_,_,_,_,_,_,_,_,_⟩:=F13.f 0
       go_wp2_with fail
       refine zP (F13.put 0 6) fun V14 F14=>?_
       have q:=F14.c 0
       exact F14.ret 6 rfl (by simp[results,Tryz.results207,go_sem,q]) rfl (HR.out.symm.trans (by
        unfold zE
        dsimp only
        rw[HT.out,if_neg (fun h=>by have:=HW.out;rw[HT.out]at this;exact this h.2),if_neg (fun h=>by have:=HW2.out;rw[HT.out]at this;exact this h.2)]
        try dsimp only
        rw[HTo.out]
        try dsimp only
        rw[if_pos ⟨HK5.out,HOP.out,rfl⟩,HBT.out,if_neg (by simp)])) (fun _ h=>h)
      | false=>
       go_wp2_with fail
       refine F9.kN (zx F9.P) fun w15 F15=>?_
       obtain⟨_,_,_,_,_,_,_,_,_⟩:=F15.c 4
       obtain⟨_,_,_,_,_,_,_,_,_⟩:=F15.c 0
       obtain⟨_,_,_,_,_,_,_,_,_⟩:=F15.f 0
       go_wp2_with fail
       refine zP (F15.put 0 3) fun V16 F16=>?_
       have q:=F16.c 0
       exact F16.ret 3 rfl (by simp[results,Tryz.results207,go_sem,q]) rfl (HR.out.symm.trans (by
        unfold zE
        dsimp only
        rw[HT.out,if_neg (fun h=>by have:=HW.out;rw[HT.out]at this;exact this h.2),if_neg (fun h=>by have:=HW2.out;rw[HT.out]at this;exact this h.2)]
        try dsimp only
        rw[HTo.out]
        try dsimp only
        rw[if_pos ⟨HK5.out,HOP.out,rfl⟩,HBT.out,if_pos rfl])) (fun _ h=>h)
   · have HOP:=zD hop
     clear hop
     go_wp2_with fail
     refine F8.kQ (zFH txo (show decide (txo∈zCs)=false from by simpa using HOP.out)) fun w17 F17=>?_
     obtain⟨_,_,_,_,_,_,_,_,_⟩:=F17.c 2
     obtain⟨_,_,_,_,_,_,_,_,_⟩:=F17.c 4
     obtain⟨_,_,_,_,_,_,_,_,_⟩:=F17.c 0
     obtain⟨_,_,_,_,_,_,_,_,_⟩:=F17.f 0
     go_wp2_with fail
     refine zP (F17.put 0 3) fun V18 F18=>?_
     have q:=F18.c 0
     exact F18.ret 3 rfl (by simp[results,Tryz.results207,go_sem,q]) rfl (HR.out.symm.trans (by
      unfold zE
      dsimp only
      rw[HT.out,if_neg (fun h=>by have:=HW.out;rw[HT.out]at this;exact this h.2),if_neg (fun h=>by have:=HW2.out;rw[HT.out]at this;exact this h.2)]
      try dsimp only
      rw[HTo.out]
      try dsimp only
      rw[if_neg (fun h=>HOP.out h.2.1)])) (fun _ h=>h)
 · have HK5:=zD hk5
   have eo5:((kdo:Int)==5)=false:=by rw[beq_eq_false_iff_ne];omega
   clear hk5
   obtain⟨_,_,_,_,_,_,_,_,_⟩:=F8.c 4
   obtain⟨_,_,_,_,_,_,_,_,_⟩:=F8.c 0
   obtain⟨_,_,_,_,_,_,_,_,_⟩:=F8.f 0
   go_wp2_with fail
   refine zP (F8.put 0 3) fun V19 F19=>?_
   have q:=F19.c 0
   exact F19.ret 3 rfl (by simp[results,Tryz.results207,go_sem,q]) rfl (HR.out.symm.trans (by
    unfold zE
    dsimp only
    rw[HT.out,if_neg (fun h=>by have:=HW.out;rw[HT.out]at this;exact this h.2),if_neg (fun h=>by have:=HW2.out;rw[HT.out]at this;exact this h.2)]
    try dsimp only
    rw[HTo.out]
    try dsimp only
    rw[if_neg (fun h=>HK5.out h.1)])) (fun _ h=>h)
theorem zOr {C:Pc} {s:Ps} {w:World} (hp:Pre C.L (.unary) s) (K:KP C (zh C.L (.unary) s)) (h:Pa C s w) (hk:(zM C.L s.k).kind=6) (hw:(zM C.L s.k).text∈zEm):zk C s w (.unary):=by
 refine zAl hp h fun HL hlen hsk r W X HR hW hX F0=>?_
 have HK:=zD K
 clear K h hp
 go_enter Tryz.func207,Tryz.ntmps207
 go_upto_region 1 with(fail)
 clear hW hX
 have HKD:=zD hk
 have HW:=zD hw
 clear hk hw
 obtain⟨⟨kd,tx,st,nk,nn,mg,ps,nl⟩,HT⟩:=zU C.L (s).k
 have HKD2:=zD (show kd=6 from by have:=HKD.out;rw[HT.out]at this;exact this)
 have e5:((kd:Int)==5)=false:=by have:=HKD2.out;rw[beq_eq_false_iff_ne];omega
 have e6:((kd:Int)==6)=true:=by have:=HKD2.out;rw[beq_iff_eq];omega
 go_wp2_with fail
 refine F0.kT (zm F0.P HT.out) fun w1 As Am c1 c2 F1=>?_
 have F2:=F1.bt 1 44 rfl
 obtain⟨zt_0,zt_1,zt_2,zt_3,zt_4,zt_5,zt_6,zt_7,zt_8⟩:=(F2.b 2).nine
 go_wp2_with fail
 refine F2.kQ (zFG tx (show decide (tx∈zEm)=true from by have:=HW.out;rw[HT.out]at this;simpa using this)) fun w3 F3=>?_
 have hlt:=zD (HL.out.lt hsk (by rw[HT.out];have:=HKD2.out;show kd≠0;omega))
 obtain⟨xk4,fk4,bk4⟩:=F3.k1
 have F4:=F3.step hlt.out
 have CL5:=zD (fun Q=>F4.dr.kD (Q:=Q) (HK.out.more (q:=.unary) ⟨F4.dr.P.hi,trivial⟩ F4.dr.P (Nat.lt_succ_self s.k)))
 obtain⟨_,_,_,_,_,_,_,_,_⟩:=F4.c 2
 go_wp2_with fail
 go_region_law (first | (go_simp;go_at_call 207;(with_reducible refine CL5.out _ fun w5 d5_0 d5_1 d5_2 d5_3 d5_4 d5_5 d5_6 d5_7 d5_8 F5=>?_);obtain⟨_,_,_,_,_,_,_,_,_⟩:=F5.c 2;obtain⟨_,_,_,_,_,_,_,_,_⟩:=F5.c 0;obtain⟨_,_,_,_,_,_,_,_,_⟩:=(F5.al (.cells #[d5_0,d5_1,d5_2,d5_3,d5_4,d5_5,d5_6,d5_7,d5_8] 72)).c 2;have LT5:=zD (fun Q=>F5.litN 43 tx (n:=1) (Q:=Q) (F5.ts1 3) rfl (by simp) rfl)) | (go_simp;go_at_call 139;(with_reducible refine LT5.out _ fun w6 F6=>?_);obtain⟨_,_,_,_,_,_,_,_,_⟩:=F6.c 0;obtain⟨_,_,_,_,_,_,_,_,_⟩:=F6.f 0))
 all_goals
  obtain⟨_,_,_,_,_,_,_,_,_⟩:=F6.c 0
  obtain⟨_,_,_,_,_,_,_,_,_⟩:=F6.f 0
  go_wp2_with fail
  refine zP (F6.put 0 4) fun V7 F7=>?_
  have q:=F7.c 0
  exact F7.ret 4 rfl (by simp[results,Tryz.results207,go_sem,q]) rfl (HR.out.symm.trans (by
   unfold zE
   dsimp only
   rw[HT.out,if_pos ⟨by have:=HKD2.out;show kd=5∨kd=6;omega,by have:=HW.out;rw[HT.out]at this;exact this⟩])) (fun _ h=>h)
theorem zOs {C:Pc} {s:Ps} {w:World} (hp:Pre C.L (.unary) s) (K:KP C (zh C.L (.unary) s)) (h:Pa C s w) (hk:(zM C.L s.k).kind=6) (hw:¬(zM C.L s.k).text∈zEm) (hw2:(zM C.L s.k).text∈zCs):zk C s w (.unary):=by
 refine zAl hp h fun HL hlen hsk r W X HR hW hX F0=>?_
 have HK:=zD K
 clear K h hp
 go_enter Tryz.func207,Tryz.ntmps207
 go_upto_region 1 with(fail)
 clear hW hX
 have HKD:=zD hk
 have HW:=zD hw
 have HW2:=zD hw2
 clear hk hw hw2
 obtain⟨⟨kd,tx,st,nk,nn,mg,ps,nl⟩,HT⟩:=zU C.L (s).k
 have HKD2:=zD (show kd=6 from by have:=HKD.out;rw[HT.out]at this;exact this)
 have e5:((kd:Int)==5)=false:=by have:=HKD2.out;rw[beq_eq_false_iff_ne];omega
 have e6:((kd:Int)==6)=true:=by have:=HKD2.out;rw[beq_iff_eq];omega
 go_wp2_with fail
 refine F0.kT (zm F0.P HT.out) fun w1 As Am c1 c2 F1=>?_
 have F2:=F1.bt 1 44 rfl
 obtain⟨zt_0,zt_1,zt_2,zt_3,zt_4,zt_5,zt_6,zt_7,zt_8⟩:=(F2.b 2).nine
 go_wp2_with fail
 refine F2.kQ (zFG tx (show decide (tx∈zEm)=false from by have:=HW.out;rw[HT.out]at this;simpa using this)) fun w3 F3=>?_
 obtain⟨zt_0,zt_1,zt_2,zt_3,zt_4,zt_5,zt_6,zt_7,zt_8⟩:=(F3.b 2).nine
 go_wp2_with fail
 refine F3.kQ (zH1 tx (show decide (tx∈zCs)=true from by have:=HW2.out;rw[HT.out]at this;simpa using this)) fun w4 F4=>?_
 have hlt:=zD (HL.out.lt hsk (by rw[HT.out];have:=HKD2.out;show kd≠0;omega))
 obtain⟨xk5,fk5,bk5⟩:=F4.k1
 have F5:=F4.step hlt.out
 obtain⟨_,_,_,_,_,_,_,_,_⟩:=F5.c 2
 go_wp2_with fail
 clear xk5 fk5 bk5
 refine F5.kD (HK.out.more (q:=.unary) ⟨F5.P.hi,trivial⟩ F5.P (Nat.lt_succ_self s.k)) fun w6 d6_0 d6_1 d6_2 d6_3 d6_4 d6_5 d6_6 d6_7 d6_8 F6=>?_
 obtain⟨_,_,_,_,_,_,_,_,_⟩:=F6.sto 3
 obtain rfl:=(F6.t 3).kind
 have F7:=F6.box [.int .i64 ((zI C.L (.unary) (stepP (s))).1).nd.kind,d6_1,d6_2,d6_3,d6_4,d6_5,d6_6,d6_7,d6_8] 72 rfl (by decide) (by decide)
 by_cases hb:((zI C.L (.unary) (stepP (s))).2).bad=0
 · have HBD:=zD (show(((zI C.L (.unary) (stepP (s))).2).bad==0)=true by rw[hb];rfl)
   have HBZ:=zD hb
   clear hb
   go_wp2_with fail
   refine F7.kB (zAu F7.P HBD.out) fun w8 F8=>?_
   obtain⟨_,_,_,_,_,_,_,_,_⟩:=F8.c 4
   go_wp2_with fail
   refine(zBD _ _).mono ?_
   rintro ev9 wx9 ⟨rfl,rfl⟩
   obtain⟨bt,hbt⟩:∃bt,zAQ ((zI C.L (.unary) (stepP (s))).1).nd.kind=bt:=⟨_,rfl⟩
   rw[hbt]
   have HBT:=zD hbt
   clear hbt
   cases bt with
   | true=>
    obtain⟨_,_,_,_,_,_,_,_,_⟩:=F8.c 2
    obtain⟨_,_,_,_,_,_,_,_,_⟩:=F8.c 4
    go_wp2_with fail
    refine F8.litN _ _ (n:=1) (F8.ts1 3) rfl (by simp) rfl fun w10 F10=>?_
    obtain⟨_,_,_,_,_,_,_,_,_⟩:=F10.c 0
    obtain⟨_,_,_,_,_,_,_,_,_⟩:=F10.f 0
    go_wp2_with fail
    refine zP (F10.put 0 5) fun V11 F11=>?_
    have q:=F11.c 0
    exact F11.ret 5 rfl (by simp[results,Tryz.results207,go_sem,q]) rfl (HR.out.symm.trans (by
     unfold zE
     dsimp only
     rw[HT.out,if_neg (fun h=>by have:=HW.out;rw[HT.out]at this;exact this h.2),if_pos ⟨by have:=HKD2.out;show kd=5∨kd=6;omega,by have:=HW2.out;rw[HT.out]at this;exact this⟩]
     try dsimp only
     rw[HBT.out,if_neg (by simp)])) (fun _ h=>h)
   | false=>
    go_wp2_with fail
    refine F8.kN (zx F8.P) fun w12 F12=>?_
    obtain⟨_,_,_,_,_,_,_,_,_⟩:=F12.c 2
    obtain⟨_,_,_,_,_,_,_,_,_⟩:=F12.c 4
    go_wp2_with fail
    refine F12.litN _ _ (n:=1) (F12.ts1 3) rfl (by simp) rfl fun w13 F13=>?_
    obtain⟨_,_,_,_,_,_,_,_,_⟩:=F13.c 0
    obtain⟨_,_,_,_,_,_,_,_,_⟩:=F13.f 0
    go_wp2_with fail
    refine zP (F13.put 0 5) fun V14 F14=>?_
    have q:=F14.c 0
    exact F14.ret 5 rfl (by simp[results,Tryz.results207,go_sem,q]) rfl (HR.out.symm.trans (by
     unfold zE
     dsimp only
     rw[HT.out,if_neg (fun h=>by have:=HW.out;rw[HT.out]at this;exact this h.2),if_pos ⟨by have:=HKD2.out;show kd=5∨kd=6;omega,by have:=HW2.out;rw[HT.out]at this;exact this⟩]
     try dsimp only
     rw[HBT.out,if_pos ⟨HBZ.out,rfl⟩])) (fun _ h=>h)
 · have HBD:=zD (show(((zI C.L (.unary) (stepP (s))).2).bad==0)=false by rw[beq_eq_false_iff_ne];exact hb)
   have HBZ:=zD hb
   clear hb
   go_wp2_with fail
   refine F7.kB (zAu F7.P HBD.out) fun w15 F15=>?_
   obtain⟨_,_,_,_,_,_,_,_,_⟩:=F15.c 2
   obtain⟨_,_,_,_,_,_,_,_,_⟩:=F15.c 4
   go_wp2_with fail
   refine F15.litN _ _ (n:=1) (F15.ts1 3) rfl (by simp) rfl fun w16 F16=>?_
   obtain⟨_,_,_,_,_,_,_,_,_⟩:=F16.c 0
   obtain⟨_,_,_,_,_,_,_,_,_⟩:=F16.f 0
   go_wp2_with fail
   refine zP (F16.put 0 5) fun V17 F17=>?_
   have q:=F17.c 0
   exact F17.ret 5 rfl (by simp[results,Tryz.results207,go_sem,q]) rfl (HR.out.symm.trans (by
    unfold zE
    dsimp only
    rw[HT.out,if_neg (fun h=>by have:=HW.out;rw[HT.out]at this;exact this h.2),if_pos ⟨by have:=HKD2.out;show kd=5∨kd=6;omega,by have:=HW2.out;rw[HT.out]at this;exact this⟩]
    try dsimp only
    rw[if_neg (fun h=>HBZ.out h.1)])) (fun _ h=>h)
theorem zOt {C:Pc} {s:Ps} {w:World} (hp:Pre C.L (.unary) s) (K:KP C (zh C.L (.unary) s)) (h:Pa C s w) (hk:(zM C.L s.k).kind=6) (hw:¬(zM C.L s.k).text∈zEm) (hw2:¬(zM C.L s.k).text∈zCs):zk C s w (.unary):=by
 refine zAl hp h fun HL hlen hsk r W X HR hW hX F0=>?_
 have HK:=zD K
 clear K h hp
 go_enter Tryz.func207,Tryz.ntmps207
 go_upto_region 1 with(fail)
 clear hW hX
 have HKD:=zD hk
 have HW:=zD hw
 have HW2:=zD hw2
 clear hk hw hw2
 obtain⟨⟨kd,tx,st,nk,nn,mg,ps,nl⟩,HT⟩:=zU C.L (s).k
 have HKD2:=zD (show kd=6 from by have:=HKD.out;rw[HT.out]at this;exact this)
 have e5:((kd:Int)==5)=false:=by have:=HKD2.out;rw[beq_eq_false_iff_ne];omega
 have e6:((kd:Int)==6)=true:=by have:=HKD2.out;rw[beq_iff_eq];omega
 go_wp2_with fail
 refine F0.kT (zm F0.P HT.out) fun w1 As Am c1 c2 F1=>?_
 have F2:=F1.bt 1 44 rfl
 obtain⟨zt_0,zt_1,zt_2,zt_3,zt_4,zt_5,zt_6,zt_7,zt_8⟩:=(F2.b 2).nine
 go_wp2_with fail
 refine F2.kQ (zFG tx (show decide (tx∈zEm)=false from by have:=HW.out;rw[HT.out]at this;simpa using this)) fun w3 F3=>?_
 obtain⟨zt_0,zt_1,zt_2,zt_3,zt_4,zt_5,zt_6,zt_7,zt_8⟩:=(F3.b 2).nine
 go_wp2_with fail
 refine F3.kQ (zH1 tx (show decide (tx∈zCs)=false from by have:=HW2.out;rw[HT.out]at this;simpa using this)) fun w4 F4=>?_
 go_wp2_with fail
 refine F4.kD (HK.out.rank (q:=.calls) ⟨F4.P.hi,trivial⟩ F4.P (Nat.le_refl _) (by simp[zn])) fun w5 d5_0 d5_1 d5_2 d5_3 d5_4 d5_5 d5_6 d5_7 d5_8 F5=>?_
 obtain⟨_,_,_,_,_,_,_,_,_⟩:=F5.sto 3
 obtain rfl:=(F5.t 3).kind
 have hlo1:=(F5.b 2).lt
 have F6:=F5.box [.int .i64 ((zI C.L (.calls) (s)).1).nd.kind,d5_1,d5_2,d5_3,d5_4,d5_5,d5_6,d5_7,d5_8] 72 rfl (by decide) (by decide)
 obtain⟨⟨kdo,txo,sto,nko,nno,mgo,pso,nlo⟩,HTo⟩:=zU C.L ((zI C.L (.calls) (s)).2).k
 go_wp2_with fail
 refine F6.kT (zm F6.P HTo.out) fun w7 Aso Amo c1o c2o F7=>?_
 obtain⟨_,_,_,_,_,_,_,_,_⟩:=F7.c 2
 obtain⟨_,_,_,_,_,_,_,_,_⟩:=F7.f 2
 go_upto_region 14 with(fail)
 refine zDB (F7.put 2 5) fun w8 F8=>?_
 obtain⟨_,_,_,_,_,_,_,_,_⟩:=F8.c 2
 by_cases hk5:kdo=5
 · have HK5:=zD hk5
   have eo5:((kdo:Int)==5)=true:=by rw[beq_iff_eq];omega
   clear hk5
   by_cases hop:txo∈zCs
   · have HOP:=zD hop
     clear hop
     go_wp2_with fail
     refine F8.kQ (zFH txo (show decide (txo∈zCs)=true from by simpa using HOP.out)) fun w9 F9=>?_
     obtain⟨_,_,_,_,_,_,_,_,_⟩:=F9.c 2
     obtain⟨_,_,_,_,_,_,_,_,_⟩:=F9.c 4
     cases nlo with
     | true=>
      obtain⟨_,_,_,_,_,_,_,_,_⟩:=F9.c 0
      obtain⟨_,_,_,_,_,_,_,_,_⟩:=F9.f 0
      go_wp2_with fail
      refine zP (F9.put 0 3) fun V10 F10=>?_
      have q:=F10.c 0
      exact F10.ret 3 rfl (by simp[results,Tryz.results207,go_sem,q]) rfl (HR.out.symm.trans (by
       unfold zE
       dsimp only
       rw[HT.out,if_neg (fun h=>by have:=HW.out;rw[HT.out]at this;exact this h.2),if_neg (fun h=>by have:=HW2.out;rw[HT.out]at this;exact this h.2)]
       try dsimp only
       rw[HTo.out]
       try dsimp only
       rw[if_neg (by simp)])) (fun _ h=>h)
     | false=>
      go_wp2_with fail
      refine(zBD _ _).mono ?_
      rintro ev11 wx11 ⟨rfl,rfl⟩
      obtain⟨bt,hbt⟩:∃bt,zAQ ((zI C.L (.calls) (s)).1).nd.kind=bt:=⟨_,rfl⟩
      rw[hbt]
      have HBT:=zD hbt
      clear hbt
      cases bt with
      | true=>
       have hlo:=zD (HL.out.lt (s:=(zI C.L (.calls) (s)).2) F9.P.hi (by rw[HTo.out];have:=HK5.out;show kdo≠0;omega))
       obtain⟨xk12,fk12,bk12⟩:=F9.k1
       have F12:=F9.step hlo.out
       obtain⟨_,_,_,_,_,_,_,_,_⟩:=F12.c 2
       obtain⟨_,_,_,_,_,_,_,_,_⟩:=F12.c 4
       go_wp2_with fail
       clear xk12 fk12 bk12
       refine F12.litN _ _ (n:=1) (F12.ts1 3) rfl (by simp) (show _=w9.heap.size by simp) fun w13 F13=>?_
       obtain⟨_,_,_,_,_,_,_,_,_⟩:=F13.c 0
       obtain⟨_,_,_,_,_,_,_,_,_⟩:=F13.f 0
       go_wp2_with fail
       refine zP (F13.put 0 6) fun V14 F14=>?_
       have q:=F14.c 0
       exact F14.ret 6 rfl (by simp[results,Tryz.results207,go_sem,q]) rfl (HR.out.symm.trans (by
        unfold zE
        dsimp only
        rw[HT.out,if_neg (fun h=>by have:=HW.out;rw[HT.out]at this;exact this h.2),if_neg (fun h=>by have:=HW2.out;rw[HT.out]at this;exact this h.2)]
        try dsimp only
        rw[HTo.out]
        try dsimp only
        rw[if_pos ⟨HK5.out,HOP.out,rfl⟩,HBT.out,if_neg (by simp)])) (fun _ h=>h)
      | false=>
       go_wp2_with fail
       refine F9.kN (zx F9.P) fun w15 F15=>?_
       obtain⟨_,_,_,_,_,_,_,_,_⟩:=F15.c 4
       obtain⟨_,_,_,_,_,_,_,_,_⟩:=F15.c 0
       obtain⟨_,_,_,_,_,_,_,_,_⟩:=F15.f 0
       go_wp2_with fail
       refine zP (F15.put 0 3) fun V16 F16=>?_
       have q:=F16.c 0
       exact F16.ret 3 rfl (by simp[results,Tryz.results207,go_sem,q]) rfl (HR.out.symm.trans (by
        unfold zE
        dsimp only
        rw[HT.out,if_neg (fun h=>by have:=HW.out;rw[HT.out]at this;exact this h.2),if_neg (fun h=>by have:=HW2.out;rw[HT.out]at this;exact this h.2)]
        try dsimp only
        rw[HTo.out]
        try dsimp only
        rw[if_pos ⟨HK5.out,HOP.out,rfl⟩,HBT.out,if_pos rfl])) (fun _ h=>h)
   · have HOP:=zD hop
     clear hop
     go_wp2_with fail
     refine F8.kQ (zFH txo (show decide (txo∈zCs)=false from by simpa using HOP.out)) fun w17 F17=>?_
     obtain⟨_,_,_,_,_,_,_,_,_⟩:=F17.c 2
     obtain⟨_,_,_,_,_,_,_,_,_⟩:=F17.c 4
     obtain⟨_,_,_,_,_,_,_,_,_⟩:=F17.c 0
     obtain⟨_,_,_,_,_,_,_,_,_⟩:=F17.f 0
     go_wp2_with fail
     refine zP (F17.put 0 3) fun V18 F18=>?_
     have q:=F18.c 0
     exact F18.ret 3 rfl (by simp[results,Tryz.results207,go_sem,q]) rfl (HR.out.symm.trans (by
      unfold zE
      dsimp only
      rw[HT.out,if_neg (fun h=>by have:=HW.out;rw[HT.out]at this;exact this h.2),if_neg (fun h=>by have:=HW2.out;rw[HT.out]at this;exact this h.2)]
      try dsimp only
      rw[HTo.out]
      try dsimp only
      rw[if_neg (fun h=>HOP.out h.2.1)])) (fun _ h=>h)
 · have HK5:=zD hk5
   have eo5:((kdo:Int)==5)=false:=by rw[beq_eq_false_iff_ne];omega
   clear hk5
   obtain⟨_,_,_,_,_,_,_,_,_⟩:=F8.c 4
   obtain⟨_,_,_,_,_,_,_,_,_⟩:=F8.c 0
   obtain⟨_,_,_,_,_,_,_,_,_⟩:=F8.f 0
   go_wp2_with fail
   refine zP (F8.put 0 3) fun V19 F19=>?_
   have q:=F19.c 0
   exact F19.ret 3 rfl (by simp[results,Tryz.results207,go_sem,q]) rfl (HR.out.symm.trans (by
    unfold zE
    dsimp only
    rw[HT.out,if_neg (fun h=>by have:=HW.out;rw[HT.out]at this;exact this h.2),if_neg (fun h=>by have:=HW2.out;rw[HT.out]at this;exact this h.2)]
    try dsimp only
    rw[HTo.out]
    try dsimp only
    rw[if_neg (fun h=>HK5.out h.1)])) (fun _ h=>h)
theorem zOu {C:Pc} {s:Ps} {w:World} (hp:Pre C.L (.unary) s) (K:KP C (zh C.L (.unary) s)) (h:Pa C s w) (hk:((zM C.L s.k).kind≠5∧(zM C.L s.k).kind≠6)) (hw:True):zk C s w (.unary):=by
 refine zAl hp h fun HL hlen hsk r W X HR hW hX F0=>?_
 have HK:=zD K
 clear K h hp
 go_enter Tryz.func207,Tryz.ntmps207
 go_upto_region 1 with(fail)
 clear hW hX
 have HKD:=zD hk
 have HW:=zD hw
 clear hk hw
 obtain⟨⟨kd,tx,st,nk,nn,mg,ps,nl⟩,HT⟩:=zU C.L (s).k
 have HKD2:=zD (show kd≠5∧kd≠6 from by have:=HKD.out;rw[HT.out]at this;exact this)
 have e5:((kd:Int)==5)=false:=by have:=HKD2.out.1;rw[beq_eq_false_iff_ne];omega
 have e6:((kd:Int)==6)=false:=by have:=HKD2.out.2;rw[beq_eq_false_iff_ne];omega
 go_wp2_with fail
 refine F0.kT (zm F0.P HT.out) fun w1 As Am c1 c2 F1=>?_
 have F2:=F1.bt 1 44 rfl
 obtain⟨zt_0,zt_1,zt_2,zt_3,zt_4,zt_5,zt_6,zt_7,zt_8⟩:=(F2.b 2).nine
 go_wp2_with fail
 refine F2.kD (HK.out.rank (q:=.calls) ⟨F2.P.hi,trivial⟩ F2.P (Nat.le_refl _) (by simp[zn])) fun w3 d3_0 d3_1 d3_2 d3_3 d3_4 d3_5 d3_6 d3_7 d3_8 F3=>?_
 obtain⟨_,_,_,_,_,_,_,_,_⟩:=F3.sto 3
 obtain rfl:=(F3.t 3).kind
 have hlo1:=(F3.b 2).lt
 have F4:=F3.box [.int .i64 ((zI C.L (.calls) (s)).1).nd.kind,d3_1,d3_2,d3_3,d3_4,d3_5,d3_6,d3_7,d3_8] 72 rfl (by decide) (by decide)
 obtain⟨⟨kdo,txo,sto,nko,nno,mgo,pso,nlo⟩,HTo⟩:=zU C.L ((zI C.L (.calls) (s)).2).k
 go_wp2_with fail
 refine F4.kT (zm F4.P HTo.out) fun w5 Aso Amo c1o c2o F5=>?_
 obtain⟨_,_,_,_,_,_,_,_,_⟩:=F5.c 2
 obtain⟨_,_,_,_,_,_,_,_,_⟩:=F5.f 2
 go_upto_region 14 with(fail)
 refine zDB (F5.put 2 5) fun w6 F6=>?_
 obtain⟨_,_,_,_,_,_,_,_,_⟩:=F6.c 2
 by_cases hk5:kdo=5
 · have HK5:=zD hk5
   have eo5:((kdo:Int)==5)=true:=by rw[beq_iff_eq];omega
   clear hk5
   by_cases hop:txo∈zCs
   · have HOP:=zD hop
     clear hop
     go_wp2_with fail
     refine F6.kQ (zFH txo (show decide (txo∈zCs)=true from by simpa using HOP.out)) fun w7 F7=>?_
     obtain⟨_,_,_,_,_,_,_,_,_⟩:=F7.c 2
     obtain⟨_,_,_,_,_,_,_,_,_⟩:=F7.c 4
     cases nlo with
     | true=>
      obtain⟨_,_,_,_,_,_,_,_,_⟩:=F7.c 0
      obtain⟨_,_,_,_,_,_,_,_,_⟩:=F7.f 0
      go_wp2_with fail
      refine zP (F7.put 0 3) fun V8 F8=>?_
      have q:=F8.c 0
      exact F8.ret 3 rfl (by simp[results,Tryz.results207,go_sem,q]) rfl (HR.out.symm.trans (by
       unfold zE
       dsimp only
       rw[HT.out,if_neg (fun h=>h.1.elim (fun e=>HKD2.out.1 e) (fun e=>HKD2.out.2 e)),if_neg (fun h=>h.1.elim (fun e=>HKD2.out.1 e) (fun e=>HKD2.out.2 e))]
       try dsimp only
       rw[HTo.out]
       try dsimp only
       rw[if_neg (by simp)])) (fun _ h=>h)
     | false=>
      go_wp2_with fail
      refine(zBD _ _).mono ?_
      rintro ev9 wx9 ⟨rfl,rfl⟩
      obtain⟨bt,hbt⟩:∃bt,zAQ ((zI C.L (.calls) (s)).1).nd.kind=bt:=⟨_,rfl⟩
      rw[hbt]
      have HBT:=zD hbt
      clear hbt
      cases bt with
      | true=>
       have hlo:=zD (HL.out.lt (s:=(zI C.L (.calls) (s)).2) F7.P.hi (by rw[HTo.out];have:=HK5.out;show kdo≠0;omega))
       obtain⟨xk10,fk10,bk10⟩:=F7.k1
       have F10:=F7.step hlo.out
       obtain⟨_,_,_,_,_,_,_,_,_⟩:=F10.c 2
       obtain⟨_,_,_,_,_,_,_,_,_⟩:=F10.c 4
       go_wp2_with fail
       clear xk10 fk10 bk10
       refine F10.litN _ _ (n:=1) (F10.ts1 3) rfl (by simp) (show _=w7.heap.size by simp) fun w11 F11=>?_
       obtain⟨_,_,_,_,_,_,_,_,_⟩:=F11.c 0
       obtain⟨_,_,_,_,_,_,_,_,_⟩:=F11.f 0
       go_wp2_with fail
       refine zP (F11.put 0 6) fun V12 F12=>?_
       have q:=F12.c 0
       exact F12.ret 6 rfl (by simp[results,Tryz.results207,go_sem,q]) rfl (HR.out.symm.trans (by
        unfold zE
        dsimp only
        rw[HT.out,if_neg (fun h=>h.1.elim (fun e=>HKD2.out.1 e) (fun e=>HKD2.out.2 e)),if_neg (fun h=>h.1.elim (fun e=>HKD2.out.1 e) (fun e=>HKD2.out.2 e))]
        try dsimp only
        rw[HTo.out]
        try dsimp only
        rw[if_pos ⟨HK5.out,HOP.out,rfl⟩,HBT.out,if_neg (by simp)])) (fun _ h=>h)
      | false=>
       go_wp2_with fail
       refine F7.kN (zx F7.P) fun w13 F13=>?_
       obtain⟨_,_,_,_,_,_,_,_,_⟩:=F13.c 4
       obtain⟨_,_,_,_,_,_,_,_,_⟩:=F13.c 0
       obtain⟨_,_,_,_,_,_,_,_,_⟩:=F13.f 0
       go_wp2_with fail
       refine zP (F13.put 0 3) fun V14 F14=>?_
       have q:=F14.c 0
       exact F14.ret 3 rfl (by simp[results,Tryz.results207,go_sem,q]) rfl (HR.out.symm.trans (by
        unfold zE
        dsimp only
        rw[HT.out,if_neg (fun h=>h.1.elim (fun e=>HKD2.out.1 e) (fun e=>HKD2.out.2 e)),if_neg (fun h=>h.1.elim (fun e=>HKD2.out.1 e) (fun e=>HKD2.out.2 e))]
        try dsimp only
        rw[HTo.out]
        try dsimp only
        rw[if_pos ⟨HK5.out,HOP.out,rfl⟩,HBT.out,if_pos rfl])) (fun _ h=>h)
   · have HOP:=zD hop
     clear hop
     go_wp2_with fail
     refine F6.kQ (zFH txo (show decide (txo∈zCs)=false from by simpa using HOP.out)) fun w15 F15=>?_
     obtain⟨_,_,_,_,_,_,_,_,_⟩:=F15.c 2
     obtain⟨_,_,_,_,_,_,_,_,_⟩:=F15.c 4
     obtain⟨_,_,_,_,_,_,_,_,_⟩:=F15.c 0
     obtain⟨_,_,_,_,_,_,_,_,_⟩:=F15.f 0
     go_wp2_with fail
     refine zP (F15.put 0 3) fun V16 F16=>?_
     have q:=F16.c 0
     exact F16.ret 3 rfl (by simp[results,Tryz.results207,go_sem,q]) rfl (HR.out.symm.trans (by
      unfold zE
      dsimp only
      rw[HT.out,if_neg (fun h=>h.1.elim (fun e=>HKD2.out.1 e) (fun e=>HKD2.out.2 e)),if_neg (fun h=>h.1.elim (fun e=>HKD2.out.1 e) (fun e=>HKD2.out.2 e))]
      try dsimp only
      rw[HTo.out]
      try dsimp only
      rw[if_neg (fun h=>HOP.out h.2.1)])) (fun _ h=>h)
 · have HK5:=zD hk5
   have eo5:((kdo:Int)==5)=false:=by rw[beq_eq_false_iff_ne];omega
   clear hk5
   obtain⟨_,_,_,_,_,_,_,_,_⟩:=F6.c 4
   obtain⟨_,_,_,_,_,_,_,_,_⟩:=F6.c 0
   obtain⟨_,_,_,_,_,_,_,_,_⟩:=F6.f 0
   go_wp2_with fail
   refine zP (F6.put 0 3) fun V17 F17=>?_
   have q:=F17.c 0
   exact F17.ret 3 rfl (by simp[results,Tryz.results207,go_sem,q]) rfl (HR.out.symm.trans (by
    unfold zE
    dsimp only
    rw[HT.out,if_neg (fun h=>h.1.elim (fun e=>HKD2.out.1 e) (fun e=>HKD2.out.2 e)),if_neg (fun h=>h.1.elim (fun e=>HKD2.out.1 e) (fun e=>HKD2.out.2 e))]
    try dsimp only
    rw[HTo.out]
    try dsimp only
    rw[if_neg (fun h=>HK5.out h.1)])) (fun _ h=>h)
theorem zMh {C:Pc} {s:Ps} {w:World} (hp:Pre C.L .unary s) (K:KP C (zh C.L .unary s)) (h:Pa C s w):zk C s w .unary:=by
 by_cases k5:(zM C.L s.k).kind=5
 · by_cases u:(zM C.L s.k).text∈zEm
   · exact zOo hp K h k5 u
   · by_cases p:(zM C.L s.k).text∈zCs
     · exact zOp hp K h k5 u p
     · exact zOq hp K h k5 u p
 · by_cases k6:(zM C.L s.k).kind=6
   · by_cases u:(zM C.L s.k).text∈zEm
     · exact zOr hp K h k6 u
     · by_cases p:(zM C.L s.k).text∈zCs
       · exact zOs hp K h k6 u p
       · exact zOt hp K h k6 u p
   · exact zOu hp K h ⟨k5,k6⟩ trivial
theorem zMi {m n:Nat} (hn:n < 8) (h:m=n):(zGX m==(n:Int))=true:=by
 subst h
 unfold zGX
 rw[if_neg (by omega)]
 simp
theorem zMj {m n:Nat} (h:¬m=n):(zGX m==(n:Int))=false:=by
 rw[beq_eq_false_iff_ne]
 unfold zGX
 split<;>omega
theorem zMk {C:Pc} {n:Nat} {s:Ps} {w:World} (hp:Pre C.L (.level n) s) (K:KP C (zh C.L (.level n) s)) (h:Pa C s w):zk C s w (.level n):=by
 refine zAl hp h fun HL hlen hsk r W X HR hW hX F0=>?_
 have HK:=zD K
 have hn9:n≤8:=hp.2
 clear K h hp
 go_enter Tryz.func201,Tryz.ntmps201
 go_upto_region 1 with(fail)
 clear hW hX
 by_cases hn:n=8
 · subst hn
   go_wp2_with fail
   refine F0.kD (HK.out.rank (q:=.unary) ⟨F0.P.hi,trivial⟩ F0.P (Nat.le_refl _) (by simp[zn])) fun w1 d1_0 d1_1 d1_2 d1_3 d1_4 d1_5 d1_6 d1_7 d1_8 F1=>?_
   obtain⟨_,_,_,_,_,_,_,_,_⟩:=F1.sto 1
   obtain⟨_,_,_,_,_,_,_,_,_⟩:=F1.c 0
   obtain⟨_,_,_,_,_,_,_,_,_⟩:=F1.f 0
   go_wp2_with fail
   refine zP (F1.put 0 1) fun V2 F2=>?_
   have q:=F2.c 0
   exact F2.ret 1 rfl (by simp[results,Tryz.results201,go_sem,q]) rfl (HR.out.symm.trans (by
    unfold zE
    dsimp only
    rw[if_pos rfl])) (fun _ h=>h)
 · have hn8:n < 8:=by omega
   have hwr:IntKind.i64.wrap ((n:Int)+1)=(n:Int)+1:=by rw[IntKind.wrap_i64];omega
   have e8:((n:Int)==8)=false:=by rw[beq_eq_false_iff_ne];omega
   have HN:=zD hn
   clear hn
   have HRK:=zD (show zn (.level (n+1)) s < zn (.level n) s by simp only[zn];omega)
   go_wp2_with fail
   refine F0.kD (HK.out.rank (q:=.level (n+1)) ⟨F0.P.hi,hn8⟩ F0.P (Nat.le_refl _) HRK.out) fun w3 d3_0 d3_1 d3_2 d3_3 d3_4 d3_5 d3_6 d3_7 d3_8 F3=>?_
   obtain⟨_,_,_,_,_,_,_,_,_⟩:=F3.sto 1
   have F4:=F3.bt 1 72 rfl
   have HA1:=zD (zV HL.out (p:=.level (n+1)) (s:=s) ⟨hsk,hn8⟩).adv.le
   have HR1:=zD (show zI C.L (.levelL n ((zI C.L (.level (n+1)) (s)).1)) ((zI C.L (.level (n+1)) (s)).2)=r by
    refine Eq.trans ?_ HR.out
    unfold zE
    dsimp only
    rw[if_neg HN.out])
   have HLE:=zD (show C.L.length - ((zI C.L (.level (n+1)) (s)).2).k≤C.L.length - s.k by have:=HA1.out;omega)
   go_wp2_with fail
   go_loopg [6] (C.L.length - ((zI C.L (.level (n+1)) (s)).2).k) (fun gk _ wr=>∃(x':Tr) (s':Ps) (e0 e1 e2 e3 e4 e5 e6 e7 e8:Value),C.L.length - s'.k≤gk∧s.k≤s'.k∧Hid (zI C.L (.levelL n x') s'=r)∧Hid (Fr C (w.heap.size≤·) w [(w3.heap.size),X] [.bx X 72 [.int .i64 0,.string ⟨#[]⟩,.slice none 0 0,.int .i64 0,.int .i64 0,.bool false,.slice none 0 0,.slice none 0 0,.slice none 0 0],.bx (w3.heap.size) 72 [e0,e1,e2,e3,e4,e5,e6,e7,e8],.tr x' [e0,e1,e2,e3,e4,e5,e6,e7,e8]] s' wr))
   case atStart=>exact⟨(zI C.L (.level (n+1)) (s)).1,(zI C.L (.level (n+1)) (s)).2,d3_0,d3_1,d3_2,d3_3,d3_4,d3_5,d3_6,d3_7,d3_8,by omega,HA1.out,HR1.out,F4.pk [(w3.heap.size),X] [0,2,1] (by simp) (by decide) rfl (by simp) (by simp)⟩
   case round=>
    obtain⟨x',s',e0,e1,e2,e3,e4,e5,e6,e7,e8,hgk,hsk',HRl,Fl⟩:=hrel
    obtain⟨⟨kd,tx,st,nk,nn,mg,ps,nl⟩,HT⟩:=zU C.L (s').k
    go_wp2_with fail
    refine Fl.kT (zm Fl.P HT.out) fun w6 As Am c1 c2 F6=>?_
    by_cases hb:zA5 ⟨kd,tx,st,nk,nn,mg,ps,nl⟩=n
    · have elv:=zMi hn8 hb
      have HBN:=zD hb
      clear hb
      go_wp2_with fail
      refine F6.kQ (zHy) fun w7 F7=>?_
      have hf1:=zS3
      go_wp2_with fail
      refine F7.kT (zm F7.P HT.out) fun w8 As2 Am2 c12 c22 F8=>?_
      have hlt:=zD (HL.out.lt (s:=s') F8.P.hi (by rw[HT.out];exact zCv (by rw[HBN.out];omega)))
      obtain⟨xk9,fk9,bk9⟩:=F8.k1
      have F9:=F8.step hlt.out
      have hpost:=zD (zV HL.out (p:=.level (n+1)) (s:=stepP s') ⟨hlt.out,hn8⟩)
      have CL10:=zD (fun Q=>F9.dr.kD (Q:=Q) (args:=#[.pointer (some ⟨C.g,0,none⟩),.int .i64 ((n:Int)+1)]) (HK.out.more (q:=.level (n+1)) ⟨F9.dr.P.hi,hn8⟩ F9.dr.P (by show s.k < s'.k+1;omega)))
      obtain⟨_,_,_,_,_,_,_,_,_⟩:=F9.c 1
      go_wp2_with fail
      go_region_law (first | (go_simp;go_at_call 201;(with_reducible refine CL10.out _ fun w10 d10_0 d10_1 d10_2 d10_3 d10_4 d10_5 d10_6 d10_7 d10_8 F10=>?_);obtain⟨_,_,_,_,_,_,_,_,_⟩:=F10.c 1;have LT10:=zD (fun Q=>F10.litN 46 tx (n:=2) (Q:=Q) (F10.ts2 2 5) rfl (by simp) rfl)) | (go_simp;go_at_call 139;(with_reducible refine LT10.out _ fun w11 F11=>?_);obtain⟨_,_,_,_,_,_,_,_,_⟩:=F11.c 1;obtain⟨_,_,_,_,_,_,_,_,_⟩:=F11.f 1))
      all_goals
       have HQR:=zD (show zI C.L (.levelL n x') s'=zI C.L (.levelL n (trN 46 (tx) [x',(zI C.L (.level (n+1)) (stepP (s'))).1])) ((zI C.L (.level (n+1)) (stepP (s'))).2) by
        rw[zt HL.out (p:=.levelL n x') ⟨(Nat.le_of_lt hlt.out),hn8⟩]
        unfold zE
        dsimp only
        rw[HT.out,if_pos HBN.out])
       have hst:(stepP s').k=s'.k+1:=rfl
       have hle:=hpost.out.adv.le
       have hlx:=hlt.out
       go_wp2_with fail
       go_roundg (C.L.length - ((zI C.L (.level (n+1)) (stepP (s'))).2).k)
       case measure=>omega
       case rel=>
        exact⟨_,_,_,_,_,_,_,_,_,_,_,Nat.le_refl _,(by omega),HQR.out.symm.trans HRl.out,(F11.put 1 6).pk [(w3.heap.size),X] [0,1,6] (by simp) (by decide) rfl (by simp) (by simp)⟩
    · have elv:=zMj (n:=n) hb
      have HBN:=zD hb
      clear hb
      go_wp2_with fail
      refine F6.kQ (zHy) fun w12 F12=>?_
      obtain⟨_,_,_,_,_,_,_,_,_⟩:=F12.c 1
      obtain⟨_,_,_,_,_,_,_,_,_⟩:=F12.sto 2
      have HQR:=zD (show zI C.L (.levelL n x') s'=(x',s') by
       rw[zt HL.out (p:=.levelL n x') ⟨F12.P.hi,hn8⟩]
       unfold zE
       dsimp only
       rw[HT.out,if_neg HBN.out])
      obtain⟨_,_,_,_,_,_,_,_,_⟩:=F12.c 0
      obtain⟨_,_,_,_,_,_,_,_,_⟩:=F12.f 0
      go_wp2_with fail
      refine zP (F12.put 0 2) fun V13 F13=>?_
      have q:=F13.c 0
      exact F13.ret 2 rfl (by simp[results,Tryz.results201,go_sem,q]) rfl (HRl.out.symm.trans HQR.out) (fun _ h=>h)
theorem zHG {C:Pc} {s:Ps} {w:World} (hp:Pre C.L (.either) s) (K:KP C (zh C.L (.either) s)) (h:Pa C s w) (hon:onP C.L [63,63] (zI C.L (.level 0) s).2=true):zk C s w (.either):=by
 refine zAl hp h fun HL hlen hsk r W X HR hW hX F0=>?_
 have HK:=zD K
 clear K h hp
 go_enter Tryz.func196,Tryz.ntmps196
 go_upto_region 1 with(fail)
 clear hW hX
 have HO:=zD hon
 clear hon
 go_wp2_with fail
 refine F0.kD (HK.out.rank (q:=.level 0) ⟨F0.P.hi,Nat.zero_le _⟩ F0.P (Nat.le_refl _) (by simp[zn])) fun w1 d1_0 d1_1 d1_2 d1_3 d1_4 d1_5 d1_6 d1_7 d1_8 F1=>?_
 obtain⟨_,_,_,_,_,_,_,_,_⟩:=F1.sto 1
 have F2:=F1.bt 1 72 rfl
 have HA1:=zD (zV HL.out (p:=.level 0) (s:=s) ⟨hsk,Nat.zero_le _⟩).adv.le
 go_wp2_with fail
 refine F2.kB (zAR F2.P [63,63] HO.out) fun w3 F3=>?_
 obtain⟨q,hq⟩:∃q,zI C.L (.nullL ((zI C.L (.level 0) (s)).1)) ((zI C.L (.level 0) (s)).2)=q:=⟨_,rfl⟩
 have HQ:=zD hq
 clear hq
 have HRQ:=zD (show r=(q.1,if(onP C.L [124,124] q.2 || onP C.L [38,38] q.2)=true then zc C.L q.2 else q.2)from by
  refine HR.out.symm.trans ?_
  unfold zE
  dsimp only
  rw[if_pos HO.out,HQ.out])
 go_wp2_with fail
 go_loopg [9] (C.L.length - ((zI C.L (.level 0) (s)).2).k) (fun gk _ wr=>∃(x':Tr) (s':Ps) (e0 e1 e2 e3 e4 e5 e6 e7 e8:Value),C.L.length - s'.k≤gk∧s.k≤s'.k∧Hid (zI C.L (.nullL x') s'=q)∧Hid (Fr C (w.heap.size≤·) w [(w1.heap.size),X] [.bx X 72 [.int .i64 0,.string ⟨#[]⟩,.slice none 0 0,.int .i64 0,.int .i64 0,.bool false,.slice none 0 0,.slice none 0 0,.slice none 0 0],.bx (w1.heap.size) 72 [e0,e1,e2,e3,e4,e5,e6,e7,e8],.tr x' [e0,e1,e2,e3,e4,e5,e6,e7,e8]] s' wr))
 case atStart=>exact⟨(zI C.L (.level 0) (s)).1,(zI C.L (.level 0) (s)).2,d1_0,d1_1,d1_2,d1_3,d1_4,d1_5,d1_6,d1_7,d1_8,by omega,HA1.out,HQ.out,F3.pk [(w1.heap.size),X] [0,2,1] (by simp) (by decide) rfl (by simp) (by simp)⟩
 case round=>
  obtain⟨x',s',e0,e1,e2,e3,e4,e5,e6,e7,e8,hgk,hsk',HRl,Fl⟩:=hrel
  by_cases hon:onP C.L [63,63] s'=true
  · have HO:=zD hon
    clear hon
    have hlt:=zD (HL.out.on Fl.P.hi HO.out)
    go_wp2_with fail
    refine Fl.kM (zA6 Fl.P [63,63] HO.out) fun w5 F5=>?_
    have hpost:=zD (zV HL.out (p:=.level 0) (s:=stepP s') ⟨hlt.out,Nat.zero_le _⟩)
    have CL6:=zD (fun Q=>F5.dr.kD (Q:=Q) (args:=#[.pointer (some ⟨C.g,0,none⟩),.int .i64 0]) (HK.out.more (q:=.level 0) ⟨F5.dr.P.hi,Nat.zero_le _⟩ F5.dr.P (by show s.k < s'.k+1;omega)))
    obtain⟨_,_,_,_,_,_,_,_,_⟩:=F5.c 1
    go_wp2_with fail
    go_region_law (first | (go_simp;go_at_call 201;(with_reducible refine CL6.out _ fun w6 d6_0 d6_1 d6_2 d6_3 d6_4 d6_5 d6_6 d6_7 d6_8 F6=>?_);obtain⟨_,_,_,_,_,_,_,_,_⟩:=F6.c 1;have LT6:=zD (fun Q=>F6.litN 47 [63,63] (n:=2) (Q:=Q) (F6.ts2 2 3) rfl (by simp) rfl)) | (go_simp;go_at_call 139;(with_reducible refine LT6.out _ fun w7 F7=>?_);obtain⟨_,_,_,_,_,_,_,_,_⟩:=F7.c 1;obtain⟨_,_,_,_,_,_,_,_,_⟩:=F7.f 1))
    all_goals
     have HQR:=zD (show zI C.L (.nullL x') s'=zI C.L (.nullL (trN 47 ([63,63]) [x',(zI C.L (.level 0) (stepP (s'))).1])) ((zI C.L (.level 0) (stepP (s'))).2) by
      rw[zt HL.out (p:=.nullL x') ⟨(Nat.le_of_lt hlt.out),trivial⟩]
      unfold zE
      dsimp only
      rw[if_pos HO.out])
     have hst:(stepP s').k=s'.k+1:=rfl
     have hle:=hpost.out.adv.le
     have hlx:=hlt.out
     go_wp2_with fail
     go_roundg (C.L.length - ((zI C.L (.level 0) (stepP (s'))).2).k)
     case measure=>omega
     case rel=>
      exact⟨_,_,_,_,_,_,_,_,_,_,_,Nat.le_refl _,(by omega),HQR.out.symm.trans HRl.out,(F7.put 1 4).pk [(w1.heap.size),X] [0,1,4] (by simp) (by decide) rfl (by simp) (by simp)⟩
  · have HO:=zD (show onP C.L [63,63] s'=false by simpa using hon)
    clear hon
    go_wp2_with fail
    refine Fl.kM (zA9 Fl.P [63,63] HO.out) fun w8 F8=>?_
    have HQR:=zD (show q=(x',s')from HRl.out.symm.trans (by
     rw[zt HL.out (p:=.nullL x') ⟨F8.P.hi,trivial⟩]
     unfold zE
     dsimp only
     rw[if_neg (by rw[HO.out];decide)]))
    obtain⟨b1,hb1⟩:∃b,onP C.L [124,124] s'=b:=⟨_,rfl⟩
    obtain⟨b2,hb2⟩:∃b,onP C.L [38,38] s'=b:=⟨_,rfl⟩
    have HB1:=zD hb1
    have HB2:=zD hb2
    clear hb1 hb2
    go_wp2_with fail
    refine F8.kB (zAR F8.P [124,124] HB1.out) fun w9 F9=>?_
    cases b1 with
    | true=>
     go_wp2_with fail
     refine F9.kN (zx F9.P) fun w10 F10=>?_
     obtain⟨_,_,_,_,_,_,_,_,_⟩:=F10.c 1
     obtain⟨_,_,_,_,_,_,_,_,_⟩:=F10.sto 2
     obtain⟨_,_,_,_,_,_,_,_,_⟩:=F10.c 0
     obtain⟨_,_,_,_,_,_,_,_,_⟩:=F10.f 0
     go_wp2_with fail
     refine zP (F10.put 0 2) fun V11 F11=>?_
     have q:=F11.c 0
     exact F11.ret 2 rfl (by simp[results,Tryz.results196,go_sem,q]) rfl (by rw[HRQ.out,HQR.out];simp[HB1.out,HB2.out]) (fun _ h=>h)
    | false=>
     go_wp2_with fail
     refine F9.kB (zAR F9.P [38,38] HB2.out) fun w12 F12=>?_
     cases b2 with
     | true=>
      go_wp2_with fail
      refine F12.kN (zx F12.P) fun w13 F13=>?_
      obtain⟨_,_,_,_,_,_,_,_,_⟩:=F13.c 1
      obtain⟨_,_,_,_,_,_,_,_,_⟩:=F13.sto 2
      obtain⟨_,_,_,_,_,_,_,_,_⟩:=F13.c 0
      obtain⟨_,_,_,_,_,_,_,_,_⟩:=F13.f 0
      go_wp2_with fail
      refine zP (F13.put 0 2) fun V14 F14=>?_
      have q:=F14.c 0
      exact F14.ret 2 rfl (by simp[results,Tryz.results196,go_sem,q]) rfl (by rw[HRQ.out,HQR.out];simp[HB1.out,HB2.out]) (fun _ h=>h)
     | false=>
      obtain⟨_,_,_,_,_,_,_,_,_⟩:=F12.c 1
      obtain⟨_,_,_,_,_,_,_,_,_⟩:=F12.sto 2
      obtain⟨_,_,_,_,_,_,_,_,_⟩:=F12.c 0
      obtain⟨_,_,_,_,_,_,_,_,_⟩:=F12.f 0
      go_wp2_with fail
      refine zP (F12.put 0 2) fun V15 F15=>?_
      have q:=F15.c 0
      exact F15.ret 2 rfl (by simp[results,Tryz.results196,go_sem,q]) rfl (by rw[HRQ.out,HQR.out];simp[HB1.out,HB2.out]) (fun _ h=>h)
theorem zMl {C:Pc} {s:Ps} {w:World} (hp:Pre C.L (.either) s) (K:KP C (zh C.L (.either) s)) (h:Pa C s w) (hon:¬onP C.L [63,63] (zI C.L (.level 0) s).2=true):zk C s w (.either):=by
 refine zAl hp h fun HL hlen hsk r W X HR hW hX F0=>?_
 have HK:=zD K
 clear K h hp
 go_enter Tryz.func196,Tryz.ntmps196
 go_upto_region 1 with(fail)
 clear hW hX
 have HO:=zD (show onP C.L [63,63] (zI C.L (.level 0) s).2=false by simpa using hon)
 clear hon
 go_wp2_with fail
 refine F0.kD (HK.out.rank (q:=.level 0) ⟨F0.P.hi,Nat.zero_le _⟩ F0.P (Nat.le_refl _) (by simp[zn])) fun w1 d1_0 d1_1 d1_2 d1_3 d1_4 d1_5 d1_6 d1_7 d1_8 F1=>?_
 obtain⟨_,_,_,_,_,_,_,_,_⟩:=F1.sto 1
 have F2:=F1.bt 1 72 rfl
 have HA1:=zD (zV HL.out (p:=.level 0) (s:=s) ⟨hsk,Nat.zero_le _⟩).adv.le
 go_wp2_with fail
 refine F2.kB (zAR F2.P [63,63] HO.out) fun w3 F3=>?_
 obtain⟨_,_,_,_,_,_,_,_,_⟩:=F3.c 2
 go_wp2_with fail
 refine F3.kO (F3.both 1 rfl (HK.out.rank (q:=.both ((zI C.L (.level 0) (s)).1)) ⟨F3.P.hi,trivial⟩ F3.P HA1.out (by simp[zn]))) fun w4 d4_0 d4_1 d4_2 d4_3 d4_4 d4_5 d4_6 d4_7 d4_8 F4=>?_
 obtain⟨_,_,_,_,_,_,_,_,_⟩:=F4.sto 3
 obtain⟨_,_,_,_,_,_,_,_,_⟩:=F4.c 2
 obtain⟨_,_,_,_,_,_,_,_,_⟩:=F4.f 2
 obtain⟨q,hq⟩:∃q,zI C.L (.orL ((zI C.L (.both ((zI C.L (.level 0) (s)).1)) ((zI C.L (.level 0) (s)).2)).1)) ((zI C.L (.both ((zI C.L (.level 0) (s)).1)) ((zI C.L (.level 0) (s)).2)).2)=q:=⟨_,rfl⟩
 have HQ:=zD hq
 clear hq
 have HRQ:=zD (show r=(q.1,if onP C.L [63,63] q.2=true then zc C.L q.2 else q.2)from by
  refine HR.out.symm.trans ?_
  unfold zE
  dsimp only
  rw[if_neg (by rw[HO.out];decide),HQ.out])
 have HA2:=zD (Nat.le_trans HA1.out (zV HL.out (p:=.both ((zI C.L (.level 0) (s)).1)) (s:=(zI C.L (.level 0) (s)).2) ⟨(zV HL.out (p:=.level 0) (s:=s) ⟨hsk,Nat.zero_le _⟩).adv.hi,trivial⟩).adv.le)
 go_wp2_with fail
 go_loopg [28] (C.L.length - ((zI C.L (.both ((zI C.L (.level 0) (s)).1)) ((zI C.L (.level 0) (s)).2)).2).k) (fun gk _ wr=>∃(x':Tr) (s':Ps) (e0 e1 e2 e3 e4 e5 e6 e7 e8:Value),C.L.length - s'.k≤gk∧s.k≤s'.k∧Hid (zI C.L (.orL x') s'=q)∧Hid (Fr C (w.heap.size≤·) w [(w1.heap.size),X] [.bx X 72 [.int .i64 0,.string ⟨#[]⟩,.slice none 0 0,.int .i64 0,.int .i64 0,.bool false,.slice none 0 0,.slice none 0 0,.slice none 0 0],.bx (w1.heap.size) 72 [e0,e1,e2,e3,e4,e5,e6,e7,e8],.tr x' [e0,e1,e2,e3,e4,e5,e6,e7,e8]] s' wr))
 case atStart=>exact⟨(zI C.L (.both ((zI C.L (.level 0) (s)).1)) ((zI C.L (.level 0) (s)).2)).1,(zI C.L (.both ((zI C.L (.level 0) (s)).1)) ((zI C.L (.level 0) (s)).2)).2,d4_0,d4_1,d4_2,d4_3,d4_4,d4_5,d4_6,d4_7,d4_8,Nat.le_refl _,HA2.out,HQ.out,(F4.put 2 3).pk [(w1.heap.size),X] [0,2,3] (by simp) (by decide) rfl (by simp) (by simp)⟩
 case round=>
  obtain⟨x',s',e0,e1,e2,e3,e4,e5,e6,e7,e8,hgk,hsk',HRl,Fl⟩:=hrel
  by_cases hon:onP C.L [124,124] s'=true
  · have HO:=zD hon
    clear hon
    have hlt:=zD (HL.out.on Fl.P.hi HO.out)
    go_wp2_with fail
    refine Fl.kM (zA6 Fl.P [124,124] HO.out) fun w6 F6=>?_
    have hpost:=zD (zV HL.out (p:=.level 0) (s:=stepP s') ⟨hlt.out,Nat.zero_le _⟩)
    have hpost2:=zD (zV HL.out (p:=.both ((zI C.L (.level 0) (stepP s')).1)) (s:=(zI C.L (.level 0) (stepP s')).2) ⟨hpost.out.adv.hi,trivial⟩)
    have CLv:=zD (fun Q=>F6.dr.kD (Q:=Q) (args:=#[.pointer (some ⟨C.g,0,none⟩),.int .i64 0]) (HK.out.more (q:=.level 0) ⟨F6.dr.P.hi,Nat.zero_le _⟩ F6.dr.P (by show s.k < s'.k+1;omega)))
    obtain⟨_,_,_,_,_,_,_,_,_⟩:=F6.c 1
    go_wp2_with fail
    go_region_law (first | (go_simp;go_at_call 201;(with_reducible refine CLv.out _ fun w71 a0 a1 a2 a3 a4 a5 a6 a7 a8 F71=>?_);obtain⟨_,_,_,_,_,_,_,_,_⟩:=F71.c 1;have CBo:=zD (fun Q=>F71.kO (Q:=Q) (F71.both 3 rfl (HK.out.rank (q:=.both ((zI C.L (.level 0) (stepP s')).1)) ⟨F71.P.hi,trivial⟩ F71.P (by have:=hpost.out.adv.le;have:(stepP s').k=s'.k+1:=rfl;omega) (by simp[zn]))))) | (go_simp;go_at_call 202;(with_reducible refine CBo.out _ fun w72 b0 b1 b2 b3 b4 b5 b6 b7 b8 F72=>?_);obtain⟨_,_,_,_,_,_,_,_,_⟩:=F72.c 1;have LT:=zD (fun Q=>F72.litN 47 [124,124] (n:=2) (Q:=Q) (F72.ts2 2 4) rfl (by simp) rfl)) | (go_simp;go_at_call 139;(with_reducible refine LT.out _ fun w73 F73=>?_);obtain⟨_,_,_,_,_,_,_,_,_⟩:=F73.c 1;obtain⟨_,_,_,_,_,_,_,_,_⟩:=F73.f 1))
    all_goals
     have HQR:=zD (show zI C.L (.orL x') s'=zI C.L (.orL (trN 47 ([124,124]) [x',(zI C.L (.both ((zI C.L (.level 0) (stepP s')).1)) ((zI C.L (.level 0) (stepP s')).2)).1])) ((zI C.L (.both ((zI C.L (.level 0) (stepP s')).1)) ((zI C.L (.level 0) (stepP s')).2)).2) by
      rw[zt HL.out (p:=.orL x') ⟨(Nat.le_of_lt hlt.out),trivial⟩]
      unfold zE
      dsimp only
      rw[if_pos HO.out])
     have hst:(stepP s').k=s'.k+1:=rfl
     have hle:=hpost.out.adv.le
     have hle2:=hpost2.out.adv.le
     have hlx:=hlt.out
     go_wp2_with fail
     go_roundg (C.L.length - ((zI C.L (.both ((zI C.L (.level 0) (stepP s')).1)) ((zI C.L (.level 0) (stepP s')).2)).2).k)
     case measure=>omega
     case rel=>
      exact⟨_,_,_,_,_,_,_,_,_,_,_,Nat.le_refl _,(by omega),HQR.out.symm.trans HRl.out,(F73.put 1 5).pk [(w1.heap.size),X] [0,1,5] (by simp) (by decide) rfl (by simp) (by simp)⟩
  · have HO:=zD (show onP C.L [124,124] s'=false by simpa using hon)
    clear hon
    go_wp2_with fail
    refine Fl.kM (zA9 Fl.P [124,124] HO.out) fun w7 F7=>?_
    have HQR:=zD (show q=(x',s')from HRl.out.symm.trans (by
     rw[zt HL.out (p:=.orL x') ⟨F7.P.hi,trivial⟩]
     unfold zE
     dsimp only
     rw[if_neg (by rw[HO.out];decide)]))
    obtain⟨b1,hb1⟩:∃b,onP C.L [63,63] s'=b:=⟨_,rfl⟩
    have HB1:=zD hb1
    have HB2:=zD hb1
    clear hb1
    go_wp2_with fail
    refine F7.kB (zAR F7.P [63,63] HB1.out) fun w8 F8=>?_
    cases b1 with
    | true=>
     go_wp2_with fail
     refine F8.kN (zx F8.P) fun w9 F9=>?_
     obtain⟨_,_,_,_,_,_,_,_,_⟩:=F9.c 1
     obtain⟨_,_,_,_,_,_,_,_,_⟩:=F9.sto 2
     obtain⟨_,_,_,_,_,_,_,_,_⟩:=F9.c 0
     obtain⟨_,_,_,_,_,_,_,_,_⟩:=F9.f 0
     go_wp2_with fail
     refine zP (F9.put 0 2) fun V10 F10=>?_
     have q:=F10.c 0
     exact F10.ret 2 rfl (by simp[results,Tryz.results196,go_sem,q]) rfl (by rw[HRQ.out,HQR.out];simp[HB1.out]) (fun _ h=>h)
    | false=>
     obtain⟨_,_,_,_,_,_,_,_,_⟩:=F8.c 1
     obtain⟨_,_,_,_,_,_,_,_,_⟩:=F8.sto 2
     obtain⟨_,_,_,_,_,_,_,_,_⟩:=F8.c 0
     obtain⟨_,_,_,_,_,_,_,_,_⟩:=F8.f 0
     go_wp2_with fail
     refine zP (F8.put 0 2) fun V11 F11=>?_
     have q:=F11.c 0
     exact F11.ret 2 rfl (by simp[results,Tryz.results196,go_sem,q]) rfl (by rw[HRQ.out,HQR.out];simp[HB1.out]) (fun _ h=>h)
theorem zJ9 {C:Pc} {s:Ps} {w:World} (hp:Pre C.L .either s) (K:KP C (zh C.L .either s)) (h:Pa C s w):zk C s w .either:=by
 by_cases hon:onP C.L [63,63] (zI C.L (.level 0) s).2=true
 · exact zHG hp K h hon
 · exact zMl hp K h hon
end Go.Proofs.YtlohaclgbfhijaaGreatDoor
