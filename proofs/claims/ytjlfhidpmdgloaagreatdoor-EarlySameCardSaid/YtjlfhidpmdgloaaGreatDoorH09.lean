/- Joined for the claim EarlySame: the parser, the lexer and the trees as they are walked, made short by a program of mine. -/
import Derived.Deep.RegionLaw
import Derived.Deep.CutBlock
import Derived.Deep.DeepCutAuto
import Derived.Test.YtjlfhidpmdgloaaGreatDoorH07
import Derived.Test.YtjlfhidpmdgloaaGreatDoorH08
import Derived.Deep.LoopGhost
import Derived.Test.YtjlfhidpmdgloaaGreatDoorH01
set_option maxHeartbeats 16000000
set_option maxRecDepth 1000000
namespace Go.Proofs.YtjlfhidpmdgloaaGreatDoor
open Go.Proofs.Tryz
open Go.RowKit
variable {x:Tr} {ops:Array Oper} {L:List Tok} {f:Exit→Act→World→Prop} {d0 d1 d2 d3 d4 d5 d6 d7 d8:Value} {o:Oper} {K:Act→World→Prop} {rest:List Oper} {R i:Nat} {E:Prop} {d:Act}
theorem zIc {C:Pc} {s:Ps} {w:World}:zi C (.assign) s w (∀(_:(zH C.L s.k).kind≠1) (_:zAb C.L s=false),zf C s w (.assign)):=fun hp K h hc G=>by
 refine zBG hp h fun HL c0 b4 r W X Y hW hX F0=>?_;have HK:=zA K;clear K h hp;go_enter func122,ntmps122;go_upto_region 1 with(fail);clear hW hX;have HC:=zA hc;clear hc;have e:=zA G;clear G;obtain⟨⟨kd,tx,st,nk,nn,mg,ps,nl⟩,HT⟩:=zR C.L (s).k;go_wp2_with fail;refine F0.kT (zj F0.P HT) fun w1 As Am c1 c2 F1=>?_;have F2:=F1.bt 1 78 rfl;have c9:=zNp;have B:=zA (show¬((zH C.L s.k).kind=1∧isT (zAm C.L s.k 1) [61,62]=true∧(zAm C.L s.k 1).nl=false)from fun h=>HC.out h.1);have e1:((kd:Int)==1)=false:=by have:=HC.out;rw[HT.out]at this;have:kd≠1:=this;rw[yA];omega
 have:=F2.c 2;go_wp2_with fail;refine F2.kB (zD9 F2.P e) fun w3 F3=>?_;have hx:=zA (zZ HL (p:=.cond) (s:=s) ⟨b4,trivial⟩).adv;go_wp2_with fail;refine F3.kX (HK.out.rank (q:=.cond) ⟨F3.P.hi,trivial⟩ F3.P (yAC _) (by simp[zAa])) fun b g w4 c3 H I J M N O R S F4=>?_;have:=F4.sto 3;have a9:=zA (show Adv C.L s (b.2) by have:=hx.out;rwa[g.out]at this);obtain rfl:=(F4.t 3).kind;have F5:=F4.box [.int .i64 (b.1).nd.kind,H,I,J,M,N,O,R,S] 61 rfl jd jd;obtain⟨⟨d,j,sto,d0,d1,d2,d3,d4⟩,l⟩:=zR C.L (b.2).k;go_wp2_with fail;refine F5.kT (zj F5.P l) fun w6 d5 d6 d7 d8 F6=>?_;have F7:=F6.bt 5 78 rfl;obtain⟨ck,D⟩:=jx (decide (d=5));obtain⟨co,b0⟩:=jx (decide (j∈zKO));obtain⟨bt,b1⟩:=jx (zAN (b.1).nd.kind);have E:=zA b0;have T:=zA b1;clear b0 b1;cases ck with
 | false=>
  have o:d≠5:=by simpa using D
  have e5:((d:Int)==5)=false:=by rw[yA];omega
  have e6:((d:Int) !=5)=true:=by rw[bne,e5];rfl
  have u:=zA o;clear D o;have:=F7.c 6;go_upto_region 10 with(fail);refine zEf F7 fun w8 U=>?_;have:=U.c 4;have:=U.sto 3;have:=U.c 0;have:=U.f 0;go_wp2_with fail;exact U.fin 0 3 rfl (Y.out.symm.trans (by
   unfold zD;dsimp only;rw[if_neg B.out,if_neg (by rw[e.out];decide)]
   try dsimp only
   rw[g.out,l.out];rw[if_pos (.inl u.out)]))
 | true=>
  have o:d=5:=by simpa using D
  have e5:((d:Int)==5)=true:=by rw[yBL];omega
  have e6:((d:Int) !=5)=false:=by rw[bne,e5];rfl
  have u:=zA o;clear D o;have:=F7.c 6;go_wp2_with fail;refine F7.kQ (zQl j E) fun d9 m=>?_;cases co with
  | true=>
   have:=m.c 4;go_wp2_with fail;refine(zB1 _ _).mono ?_;rintro c4 c5 ⟨rfl,rfl⟩;rw[T.out];cases bt with
   | true=>
    have b5:=zA (HL.out.lt (s:=b.2) a9.out.hi (by rw[l.out];show d≠0;have:=u.out;omega));obtain⟨c6,c7,c8⟩:=m.k1;have b6:=m.step b5;go_upto_region 15 with(fail);refine zEf b6 fun e0 v=>?_;have b2:=zA (fun Q=>v.dr.kX (Q:=Q) (HK.out.more (q:=.assign) ⟨v.dr.P.hi,trivial⟩ v.dr.P (yBP a9.out.le)));have:=v.c 4;have:=v.c 6;go_upto_region 15 with(fail)
    go_cut [70] (fun _ wx=>∃(F:Tr×Ps) (BB:Nat),Hid (zE C.L (.assign) (zB (b.2))=F)∧Fr C (w.heap.size≤·) w [X] [.bx X 61 [(49:Int),(j),(),(0:Int),(0:Int),false,(),(),.slice (some ⟨BB,0,none⟩) 2 2],.tr (trN 49 (j) [b.1,F.1]) [(49:Int),(j),(),(0:Int),(0:Int),false,(),(),.slice (some ⟨BB,0,none⟩) 2 2]] F.2 wx)
    case first=>
     go_region_law (first | (go_simp;go_at_call 122;(with_reducible refine b2.out _ fun F b7 b8 a0 a1 a2 a3 a4 a5 a6 a7 a8 y=>?_);have:=y.c 4;have:=y.c 6;have:=(y.al (.cells #[.int .i64 (b.1).nd.kind,H,I,J,M,N,O,R,S,a0,a1,a2,a3,a4,a5,a6,a7,a8] 61)).c 6;have b3:=zA (fun Q=>y.litN 49 j (n:=2) (Q:=Q) (y.ts2 3 7) rfl js rfl)) | (go_simp;go_at_call 121;(with_reducible refine b3.out _ fun e2 V=>?_);have:=V.c 0;have:=V.f 0))
     all_goals
      go_wp2_with fail;go_meet;exact⟨F,b8.heap.size,b7,(V.put 0 8).pk1 [X] [0,8] js jd rfl js⟩
    case rest=>
     obtain⟨F,BB,b9,Fq⟩:=hcut;have:=Fq.c 0;go_wp2_with fail;have q:=Fq.c 0;exact Fq.ret 1 rfl (by simp[results,results122,go_sem,q]) rfl (Y.out.symm.trans (by
      unfold zD;dsimp only;rw[if_neg B.out,if_neg (by rw[e.out];decide)]
      try dsimp only
      rw[g.out,l.out];rw[if_neg (fun h=>h.elim (fun h=>h u.out) (fun h=>h (by have:=E.out;simpa using this)))];rw[if_neg (by rw[T.out];decide),b9.out])) (fun _ h=>h)
   | false=>
    go_wp2_with fail;refine m.kN (zCv m.P 5 jd) fun e3 z=>?_;have:=z.c 4;have:=z.sto 3;have:=z.c 0;have:=z.f 0;go_wp2_with fail;exact z.fin 0 3 rfl (Y.out.symm.trans (by
     unfold zD;dsimp only;rw[if_neg B.out,if_neg (by rw[e.out];decide)]
     try dsimp only
     rw[g.out,l.out];rw[if_neg (fun h=>h.elim (fun h=>h u.out) (fun h=>h (by have:=E.out;simpa using this)))];rw[if_pos T.out]))
  | false=>
   go_upto_region 10 with(fail);refine zEf m fun e4 A=>?_;have:=A.c 4;have:=A.sto 3;have:=A.c 0;have:=A.f 0;go_wp2_with fail;exact A.fin 0 3 rfl (Y.out.symm.trans (by
    unfold zD;dsimp only;rw[if_neg B.out,if_neg (by rw[e.out];decide)]
    try dsimp only
    rw[g.out,l.out];rw[if_pos (.inr (by have:=E.out;simpa using this))]))
theorem zId {C:Pc} {s:Ps} {w:World}:zi C (.assign) s w (∀(_:(zH C.L s.k).kind=1∧isT (zAm C.L s.k 1) [61,62]=false) (_:zAb C.L s=false),zf C s w (.assign)):=fun hp K h hc H=>by
 refine zBG hp h fun HL d2 a9 r W X HR hW hX F0=>?_;have HK:=zA K;clear K h hp;go_enter func122,ntmps122;go_upto_region 1 with(fail);clear hW hX;have HC:=zA hc;clear hc;have e:=zA H;clear H;obtain⟨⟨kd,tx,st,nk,nn,mg,ps,nl⟩,HT⟩:=zR C.L (s).k;go_wp2_with fail;refine F0.kT (zj F0.P HT) fun w1 As Am c1 c2 F1=>?_;have F2:=F1.bt 1 78 rfl;have d9:=zNp;have e1:((kd:Int)==1)=true:=by have:=HC.out.1;rw[HT.out]at this;have:kd=1:=this;rw[yBL];omega
 have c6:=zA (HL.out.lt a9 (by rw[HC.out.1];decide));have hn:=F2.P.cx.n;have D:=zA (show¬((zH C.L s.k).kind=1∧isT (zAm C.L s.k 1) [61,62]=true∧(zAm C.L s.k 1).nl=false)from fun h=>by rw[HC.out.2]at h;cases h.2.1);obtain⟨⟨b0,b1,b2,b3,b4,b5,ps2,b6⟩,b7⟩:=zR C.L (zB s).k;have HA:=zA (show isT ⟨b0,b1,b2,b3,b4,b5,ps2,b6⟩ [61,62]=false by rw[←b7.out];exact HC.out.2);have c3:=zA (show zH C.L (min (s.k+1) (C.N - 1))=⟨b0,b1,b2,b3,b4,b5,ps2,b6⟩ by rw[show min (s.k+1) (C.N - 1)=s.k+1 by have:=c6.out;omega];exact b7.out);have:=F2.c 2;go_wp2_with fail;refine F2.kT (zA9 F2.P 1 1 rfl jd c3) fun w3 e0 e2 e3 e4 F3=>?_;go_wp2_with fail;refine F3.kQ (zDP [61,62] HA) fun w4 F4=>?_;go_wp2_with fail;refine F4.kB (zD9 F4.P e) fun w5 F5=>?_;have hx:=zA (zZ HL (p:=.cond) (s:=s) ⟨a9,trivial⟩).adv;go_wp2_with fail;refine F5.kX (HK.out.rank (q:=.cond) ⟨F5.P.hi,trivial⟩ F5.P (yAC _) (by simp[zAa])) fun b g w6 d3 I J M O R S T U F6=>?_;have:=F6.sto 4;have b8:=zA (show Adv C.L s (b.2) by have:=hx.out;rwa[g.out]at this);obtain rfl:=(F6.t 4).kind;have F7:=F6.box [.int .i64 (b.1).nd.kind,I,J,M,O,R,S,T,U] 61 rfl jd jd;obtain⟨⟨d,j,sto,e7,e8,e9,f0,f1⟩,l⟩:=zR C.L (b.2).k;go_wp2_with fail;refine F7.kT (zj F7.P l) fun w8 f2 f3 f4 f5 F8=>?_;have F9:=F8.bt 6 78 rfl;obtain⟨ck,E⟩:=jx (decide (d=5));obtain⟨co,b9⟩:=jx (decide (j∈zKO));obtain⟨bt,c0⟩:=jx (zAN (b.1).nd.kind);have F:=zA b9;have V:=zA c0;clear b9 c0;cases ck with
 | false=>
  have o:d≠5:=by simpa using E
  have e5:((d:Int)==5)=false:=by rw[yA];omega
  have e6:((d:Int) !=5)=true:=by rw[bne,e5];rfl
  have u:=zA o;clear E o;have:=F9.c 7;go_upto_region 10 with(fail);refine zEf F9 fun f6 v=>?_;have:=v.c 5;have:=v.sto 4;have:=v.c 0;have:=v.f 0;go_wp2_with fail;exact v.fin 0 4 rfl (HR.out.symm.trans (by
   unfold zD;dsimp only;rw[if_neg D.out,if_neg (by rw[e.out];decide)]
   try dsimp only
   rw[g.out,l.out];rw[if_pos (.inl u.out)]))
 | true=>
  have o:d=5:=by simpa using E
  have e5:((d:Int)==5)=true:=by rw[yBL];omega
  have e6:((d:Int) !=5)=false:=by rw[bne,e5];rfl
  have u:=zA o;clear E o;have:=F9.c 7;go_wp2_with fail;refine F9.kQ (zQl j F) fun f7 m=>?_;cases co with
  | true=>
   have:=m.c 5;go_wp2_with fail;refine(zB1 _ _).mono ?_;rintro d4 d5 ⟨rfl,rfl⟩;rw[V.out];cases bt with
   | true=>
    have c7:=zA (HL.out.lt (s:=b.2) b8.out.hi (by rw[l.out];show d≠0;have:=u.out;omega));obtain⟨d6,d7,d8⟩:=m.k1;have c8:=m.step c7;go_upto_region 15 with(fail);refine zEf c8 fun f8 y=>?_;have c4:=zA (fun Q=>y.dr.kX (Q:=Q) (HK.out.more (q:=.assign) ⟨y.dr.P.hi,trivial⟩ y.dr.P (yBP b8.out.le)));have:=y.c 5;have:=y.c 7;go_upto_region 15 with(fail)
    go_cut [70] (fun _ wx=>∃(G:Tr×Ps) (BB:Nat),Hid (zE C.L (.assign) (zB (b.2))=G)∧Fr C (w.heap.size≤·) w [X] [.bx X 61 [(49:Int),(j),(),(0:Int),(0:Int),false,(),(),.slice (some ⟨BB,0,none⟩) 2 2],.tr (trN 49 (j) [b.1,G.1]) [(49:Int),(j),(),(0:Int),(0:Int),false,(),(),.slice (some ⟨BB,0,none⟩) 2 2]] G.2 wx)
    case first=>
     go_region_law (first | (go_simp;go_at_call 122;(with_reducible refine c4.out _ fun G c9 d0 a0 a1 a2 a3 a4 a5 a6 a7 a8 z=>?_);have:=z.c 5;have:=z.c 7;have:=(z.al (.cells #[.int .i64 (b.1).nd.kind,I,J,M,O,R,S,T,U,a0,a1,a2,a3,a4,a5,a6,a7,a8] 61)).c 7;have c5:=zA (fun Q=>z.litN 49 j (n:=2) (Q:=Q) (z.ts2 4 8) rfl js rfl)) | (go_simp;go_at_call 121;(with_reducible refine c5.out _ fun f9 Y=>?_);have:=Y.c 0;have:=Y.f 0))
     all_goals
      go_wp2_with fail;go_meet;exact⟨G,d0.heap.size,c9,(Y.put 0 9).pk1 [X] [0,9] js jd rfl js⟩
    case rest=>
     obtain⟨G,BB,d1,Fq⟩:=hcut;have:=Fq.c 0;go_wp2_with fail;have q:=Fq.c 0;exact Fq.ret 1 rfl (by simp[results,results122,go_sem,q]) rfl (HR.out.symm.trans (by
      unfold zD;dsimp only;rw[if_neg D.out,if_neg (by rw[e.out];decide)]
      try dsimp only
      rw[g.out,l.out];rw[if_neg (fun h=>h.elim (fun h=>h u.out) (fun h=>h (by have:=F.out;simpa using this)))];rw[if_neg (by rw[V.out];decide),d1.out])) (fun _ h=>h)
   | false=>
    go_wp2_with fail;refine m.kN (zCv m.P 5 jd) fun g0 A=>?_;have:=A.c 5;have:=A.sto 4;have:=A.c 0;have:=A.f 0;go_wp2_with fail;exact A.fin 0 4 rfl (HR.out.symm.trans (by
     unfold zD;dsimp only;rw[if_neg D.out,if_neg (by rw[e.out];decide)]
     try dsimp only
     rw[g.out,l.out];rw[if_neg (fun h=>h.elim (fun h=>h u.out) (fun h=>h (by have:=F.out;simpa using this)))];rw[if_pos V.out]))
  | false=>
   go_upto_region 10 with(fail);refine zEf m fun g1 B=>?_;have:=B.c 5;have:=B.sto 4;have:=B.c 0;have:=B.f 0;go_wp2_with fail;exact B.fin 0 4 rfl (HR.out.symm.trans (by
    unfold zD;dsimp only;rw[if_neg D.out,if_neg (by rw[e.out];decide)]
    try dsimp only
    rw[g.out,l.out];rw[if_pos (.inr (by have:=F.out;simpa using this))]))
theorem zIe {C:Pc} {s:Ps} {w:World}:zi C (.assign) s w (∀(_:(zH C.L s.k).kind=1∧isT (zAm C.L s.k 1) [61,62]=true∧(zAm C.L s.k 1).nl=true) (_:zAb C.L s=false),zf C s w (.assign)):=fun hp K h hc I=>by
 refine zBG hp h fun HL d5 b3 r W X HR hW hX F0=>?_;have HK:=zA K;clear K h hp;go_enter func122,ntmps122;go_upto_region 1 with(fail);clear hW hX;have J:=zA hc;clear hc;have e:=zA I;clear I;obtain⟨⟨kd,tx,st,nk,nn,mg,ps,nl⟩,HT⟩:=zR C.L (s).k;go_wp2_with fail;refine F0.kT (zj F0.P HT) fun w1 As Am c1 c2 F1=>?_;have F2:=F1.bt 1 78 rfl;have e3:=zNp;have e1:((kd:Int)==1)=true:=by have:=J.out.1;rw[HT.out]at this;have:kd=1:=this;rw[yBL];omega
 have c9:=zA (HL.out.lt b3 (by rw[J.out.1];decide));have hn:=F2.P.cx.n;have D:=zA (show¬((zH C.L s.k).kind=1∧isT (zAm C.L s.k 1) [61,62]=true∧(zAm C.L s.k 1).nl=false)from fun h=>by rw[J.out.2.2]at h;cases h.2.2);obtain⟨⟨b4,b5,b6,b7,b8,b9,ps2,c0⟩,M⟩:=zR C.L (zB s).k;have HA:=zA (show isT ⟨b4,b5,b6,b7,b8,b9,ps2,c0⟩ [61,62]=true by rw[←M.out];exact J.out.2.1);have c6:c0=true:=by have:=J.out.2.2;rwa[show zAm C.L s.k 1=zH C.L (zB s).k from rfl,M.out]at this
 subst c6;have O:=zA (show zH C.L (min (s.k+1) (C.N - 1))=⟨b4,b5,b6,b7,b8,b9,ps2,true⟩ by rw[show min (s.k+1) (C.N - 1)=s.k+1 by have:=c9.out;omega];exact M.out);have:=F2.c 2;go_wp2_with fail;refine F2.kT (zA9 F2.P 1 1 rfl jd O) fun w3 e4 e7 e8 e9 F3=>?_;go_wp2_with fail;refine F3.kQ (zDP [61,62] HA) fun w4 F4=>?_;go_wp2_with fail;refine F4.kT (zA9 F4.P 1 1 rfl jd O) fun w5 f0 f1 f2 f3 F5=>?_;go_wp2_with fail;refine F5.kB (zD9 F5.P e) fun w6 F6=>?_;have hx:=zA (zZ HL (p:=.cond) (s:=s) ⟨b3,trivial⟩).adv;go_wp2_with fail;refine F6.kX (HK.out.rank (q:=.cond) ⟨F6.P.hi,trivial⟩ F6.P (yAC _) (by simp[zAa])) fun b g w7 d6 R S T U V Y a0 a1 F7=>?_;have:=F7.sto 5;have c3:=zA (show Adv C.L s (b.2) by have:=hx.out;rwa[g.out]at this);obtain rfl:=(F7.t 5).kind;have F8:=F7.box [.int .i64 (b.1).nd.kind,R,S,T,U,V,Y,a0,a1] 61 rfl jd jd;obtain⟨⟨d,j,sto,f4,f5,f6,f7,f8⟩,l⟩:=zR C.L (b.2).k;go_wp2_with fail;refine F8.kT (zj F8.P l) fun w9 f9 g0 g1 g2 F9=>?_;have E:=F9.bt 7 78 rfl;obtain⟨ck,F⟩:=jx (decide (d=5));obtain⟨co,c4⟩:=jx (decide (j∈zKO));obtain⟨bt,c5⟩:=jx (zAN (b.1).nd.kind);have G:=zA c4;have a2:=zA c5;clear c4 c5;cases ck with
 | false=>
  have o:d≠5:=by simpa using F
  have e5:((d:Int)==5)=false:=by rw[yA];omega
  have e6:((d:Int) !=5)=true:=by rw[bne,e5];rfl
  have u:=zA o;clear F o;have:=E.c 8;go_upto_region 10 with(fail);refine zEf E fun g3 v=>?_;have:=v.c 6;have:=v.sto 5;have:=v.c 0;have:=v.f 0;go_wp2_with fail;exact v.fin 0 5 rfl (HR.out.symm.trans (by
   unfold zD;dsimp only;rw[if_neg D.out,if_neg (by rw[e.out];decide)]
   try dsimp only
   rw[g.out,l.out];rw[if_pos (.inl u.out)]))
 | true=>
  have o:d=5:=by simpa using F
  have e5:((d:Int)==5)=true:=by rw[yBL];omega
  have e6:((d:Int) !=5)=false:=by rw[bne,e5];rfl
  have u:=zA o;clear F o;have:=E.c 8;go_wp2_with fail;refine E.kQ (zQl j G) fun g4 m=>?_;cases co with
  | true=>
   have:=m.c 6;go_wp2_with fail;refine(zB1 _ _).mono ?_;rintro d7 d8 ⟨rfl,rfl⟩;rw[a2.out];cases bt with
   | true=>
    have d0:=zA (HL.out.lt (s:=b.2) c3.out.hi (by rw[l.out];show d≠0;have:=u.out;omega));obtain⟨d9,e0,e2⟩:=m.k1;have d1:=m.step d0;go_upto_region 15 with(fail);refine zEf d1 fun g5 y=>?_;have c7:=zA (fun Q=>y.dr.kX (Q:=Q) (HK.out.more (q:=.assign) ⟨y.dr.P.hi,trivial⟩ y.dr.P (yBP c3.out.le)));have:=y.c 6;have:=y.c 8;go_upto_region 15 with(fail)
    go_cut [70] (fun _ wx=>∃(H:Tr×Ps) (BB:Nat),Hid (zE C.L (.assign) (zB (b.2))=H)∧Fr C (w.heap.size≤·) w [X] [.bx X 61 [(49:Int),(j),(),(0:Int),(0:Int),false,(),(),.slice (some ⟨BB,0,none⟩) 2 2],.tr (trN 49 (j) [b.1,H.1]) [(49:Int),(j),(),(0:Int),(0:Int),false,(),(),.slice (some ⟨BB,0,none⟩) 2 2]] H.2 wx)
    case first=>
     go_region_law (first | (go_simp;go_at_call 122;(with_reducible refine c7.out _ fun H d2 d3 a4 a5 a6 a7 a8 a9 b0 b1 b2 z=>?_);have:=z.c 6;have:=z.c 8;have:=(z.al (.cells #[.int .i64 (b.1).nd.kind,R,S,T,U,V,Y,a0,a1,a4,a5,a6,a7,a8,a9,b0,b1,b2] 61)).c 8;have c8:=zA (fun Q=>z.litN 49 j (n:=2) (Q:=Q) (z.ts2 5 9) rfl js rfl)) | (go_simp;go_at_call 121;(with_reducible refine c8.out _ fun g6 a3=>?_);have:=a3.c 0;have:=a3.f 0))
     all_goals
      go_wp2_with fail;go_meet;exact⟨H,d3.heap.size,d2,(a3.put 0 10).pk1 [X] [0,10] js jd rfl js⟩
    case rest=>
     obtain⟨H,BB,d4,Fq⟩:=hcut;have:=Fq.c 0;go_wp2_with fail;have q:=Fq.c 0;exact Fq.ret 1 rfl (by simp[results,results122,go_sem,q]) rfl (HR.out.symm.trans (by
      unfold zD;dsimp only;rw[if_neg D.out,if_neg (by rw[e.out];decide)]
      try dsimp only
      rw[g.out,l.out];rw[if_neg (fun h=>h.elim (fun h=>h u.out) (fun h=>h (by have:=G.out;simpa using this)))];rw[if_neg (by rw[a2.out];decide),d4.out])) (fun _ h=>h)
   | false=>
    go_wp2_with fail;refine m.kN (zCv m.P 5 jd) fun g7 A=>?_;have:=A.c 6;have:=A.sto 5;have:=A.c 0;have:=A.f 0;go_wp2_with fail;exact A.fin 0 5 rfl (HR.out.symm.trans (by
     unfold zD;dsimp only;rw[if_neg D.out,if_neg (by rw[e.out];decide)]
     try dsimp only
     rw[g.out,l.out];rw[if_neg (fun h=>h.elim (fun h=>h u.out) (fun h=>h (by have:=G.out;simpa using this)))];rw[if_pos a2.out]))
  | false=>
   go_upto_region 10 with(fail);refine zEf m fun g8 B=>?_;have:=B.c 6;have:=B.sto 5;have:=B.c 0;have:=B.f 0;go_wp2_with fail;exact B.fin 0 5 rfl (HR.out.symm.trans (by
    unfold zD;dsimp only;rw[if_neg D.out,if_neg (by rw[e.out];decide)]
    try dsimp only
    rw[g.out,l.out];rw[if_pos (.inr (by have:=G.out;simpa using this))]))
theorem zN2 {C:Pc} {s:Ps} {w:World}:zi C .assign s w (zf C s w .assign):=fun b K h=>by
 by_cases h1:(zH C.L s.k).kind=1
 · cases h2:isT (zAm C.L s.k 1) [61,62]with
   | true=>
    cases h3:(zAm C.L s.k 1).nl with
    | false=>exact zK6 b K h ⟨h1,h2,h3⟩
    | true=>
     cases h4:zAb C.L s with
     | true=>exact zHW b K h ⟨h1,h2,h3⟩ h4
     | false=>exact zIe b K h ⟨h1,h2,h3⟩ h4
   | false=>
    cases h4:zAb C.L s with
    | true=>exact zHV b K h ⟨h1,h2⟩ h4
    | false=>exact zId b K h ⟨h1,h2⟩ h4
 · cases h4:zAb C.L s with
   | true=>exact zHU b K h h1 h4
   | false=>exact zIc b K h h1 h4
theorem zJq {C:Pc} {s:Ps} {w:World}:zi C (.primary) s w (∀(_:(zH C.L s.k).kind≠0∧(zH C.L s.k).kind≠2∧(zH C.L s.k).kind≠3∧(zH C.L s.k).kind≠4∧(zH C.L s.k).kind≠1) (_:(zH C.L s.k).text=[116,114,117,101]),zf C s w (.primary)):=fun o _K h e g=>by
 refine zBG o h fun z A p r W X B D E q=>?_;clear h o;go_enter func194,ntmps194;go_upto_region 1 with(fail);clear D E;have b:=zA e;have t:=zA g;clear e g;have u:=zA (z.out.lt p b.out.1);obtain⟨⟨kd,tx,J,nk,nn,M,ps,nl⟩,j⟩:=zR C.L (s).k;go_wp2_with fail;refine q.kT (zj q.P j) fun w1 As Am c1 c2 F=>?_;have l:=F.bt 1 78 rfl;have v:kd≠0∧kd≠2∧kd≠3∧kd≠4∧kd≠1:=by have:=b.out;rwa[j.out]at this
 have d:tx=[116,114,117,101]:=by have:=t.out;rwa[j.out]at this
 have e0:((kd:Int)==0)=false:=by rw[yA];omega
 have e1:((kd:Int)==1)=false:=by rw[yA];omega
 have e2:((kd:Int)==2)=false:=by rw[yA];omega
 have e3:((kd:Int)==3)=false:=by rw[yA];omega
 have e4:((kd:Int)==4)=false:=by rw[yA];omega
 have N:(tx==[116,114,117,101])=true:=by rw[d];decide
 clear v d;have:=l.c 2;obtain⟨G,H,I⟩:=l.k1;have y:=l.step u;have:=y.c 2;go_wp2_with fail;refine y.made0 _ fun O m=>?_;have:=m.c 0;have:=m.f 0;go_wp2_with fail;exact m.fin 0 3 rfl (B.out.symm.trans (by
  unfold zD;dsimp only;rw[if_neg b.out.1,if_neg b.out.2.1,if_neg b.out.2.2.1,if_neg b.out.2.2.2.1,if_neg b.out.2.2.2.2,if_pos t.out]))
theorem zIf {C:Pc} {s:Ps} {w:World}:zi C (.primary) s w (∀(_:(zH C.L s.k).kind≠0∧(zH C.L s.k).kind≠2∧(zH C.L s.k).kind≠3∧(zH C.L s.k).kind≠4∧(zH C.L s.k).kind≠1) (_:(zH C.L s.k).text=[102,97,108,115,101]),zf C s w (.primary)):=fun p _K h e g=>by
 refine zBG p h fun z A q r W X B D E t=>?_;clear h p;go_enter func194,ntmps194;go_upto_region 1 with(fail);clear D E;have b:=zA e;have j:=zA g;clear e g;have u:=zA (z.out.lt q b.out.1);obtain⟨⟨kd,tx,J,nk,nn,M,ps,nl⟩,l⟩:=zR C.L (s).k;go_wp2_with fail;refine t.kT (zj t.P l) fun w1 As Am c1 c2 F=>?_;have m:=F.bt 1 78 rfl;have v:kd≠0∧kd≠2∧kd≠3∧kd≠4∧kd≠1:=by have:=b.out;rwa[l.out]at this
 have d:tx=[102,97,108,115,101]:=by have:=j.out;rwa[l.out]at this
 have e0:((kd:Int)==0)=false:=by rw[yA];omega
 have e1:((kd:Int)==1)=false:=by rw[yA];omega
 have e2:((kd:Int)==2)=false:=by rw[yA];omega
 have e3:((kd:Int)==3)=false:=by rw[yA];omega
 have e4:((kd:Int)==4)=false:=by rw[yA];omega
 have N:(tx==[116,114,117,101])=false:=by rw[d];decide
 have O:(tx==[102,97,108,115,101])=true:=by rw[d];decide
 clear v d;have:=m.c 2;obtain⟨G,H,I⟩:=m.k1;have y:=m.step u;have:=y.c 2;go_wp2_with fail;refine y.made0 _ fun Q o=>?_;have:=o.c 0;have:=o.f 0;go_wp2_with fail;exact o.fin 0 3 rfl (B.out.symm.trans (by
  unfold zD;dsimp only;rw[if_neg b.out.1,if_neg b.out.2.1,if_neg b.out.2.2.1,if_neg b.out.2.2.2.1,if_neg b.out.2.2.2.2,if_neg (by rw[j.out];decide),if_pos j.out]))
theorem zJr {C:Pc} {s:Ps} {w:World}:zi C (.primary) s w (∀(_:(zH C.L s.k).kind≠0∧(zH C.L s.k).kind≠2∧(zH C.L s.k).kind≠3∧(zH C.L s.k).kind≠4∧(zH C.L s.k).kind≠1) (_:(zH C.L s.k).text=[110,117,108,108]),zf C s w (.primary)):=fun p _K h g j=>by
 refine zBG p h fun z A q r W X B D E t=>?_;clear h p;go_enter func194,ntmps194;go_upto_region 1 with(fail);clear D E;have b:=zA g;have e:=zA j;clear g j;have u:=zA (z.out.lt q b.out.1);obtain⟨⟨kd,tx,J,nk,nn,M,ps,nl⟩,l⟩:=zR C.L (s).k;go_wp2_with fail;refine t.kT (zj t.P l) fun w1 As Am c1 c2 F=>?_;have m:=F.bt 1 78 rfl;have v:kd≠0∧kd≠2∧kd≠3∧kd≠4∧kd≠1:=by have:=b.out;rwa[l.out]at this
 have d:tx=[110,117,108,108]:=by have:=e.out;rwa[l.out]at this
 have e0:((kd:Int)==0)=false:=by rw[yA];omega
 have e1:((kd:Int)==1)=false:=by rw[yA];omega
 have e2:((kd:Int)==2)=false:=by rw[yA];omega
 have e3:((kd:Int)==3)=false:=by rw[yA];omega
 have e4:((kd:Int)==4)=false:=by rw[yA];omega
 have N:(tx==[116,114,117,101])=false:=by rw[d];decide
 have O:(tx==[102,97,108,115,101])=false:=by rw[d];decide
 have Q:(tx==[110,117,108,108])=true:=by rw[d];decide
 clear v d;have:=m.c 2;obtain⟨G,H,I⟩:=m.k1;have y:=m.step u;have:=y.c 2;go_wp2_with fail;refine y.made0 _ fun R o=>?_;have:=o.c 0;have:=o.f 0;go_wp2_with fail;exact o.fin 0 3 rfl (B.out.symm.trans (by
  unfold zD;dsimp only;rw[if_neg b.out.1,if_neg b.out.2.1,if_neg b.out.2.2.1,if_neg b.out.2.2.2.1,if_neg b.out.2.2.2.2,if_neg (by rw[e.out];decide),if_neg (by rw[e.out];decide),if_pos e.out]))
theorem zJs {C:Pc} {s:Ps} {w:World}:zi C (.primary) s w (∀(_:(zH C.L s.k).kind≠0∧(zH C.L s.k).kind≠2∧(zH C.L s.k).kind≠3∧(zH C.L s.k).kind≠4∧(zH C.L s.k).kind≠1) (_:(zH C.L s.k).text=[116,104,105,115]),zf C s w (.primary)):=fun p _K h g j=>by
 refine zBG p h fun z A q r W X B D E t=>?_;clear h p;go_enter func194,ntmps194;go_upto_region 1 with(fail);clear D E;have d:=zA g;have e:=zA j;clear g j;have u:=zA (z.out.lt q d.out.1);obtain⟨⟨kd,tx,J,nk,nn,M,ps,nl⟩,l⟩:=zR C.L (s).k;go_wp2_with fail;refine t.kT (zj t.P l) fun w1 As Am c1 c2 F=>?_;have m:=F.bt 1 78 rfl;have v:kd≠0∧kd≠2∧kd≠3∧kd≠4∧kd≠1:=by have:=d.out;rwa[l.out]at this
 have b:tx=[116,104,105,115]:=by have:=e.out;rwa[l.out]at this
 have e0:((kd:Int)==0)=false:=by rw[yA];omega
 have e1:((kd:Int)==1)=false:=by rw[yA];omega
 have e2:((kd:Int)==2)=false:=by rw[yA];omega
 have e3:((kd:Int)==3)=false:=by rw[yA];omega
 have e4:((kd:Int)==4)=false:=by rw[yA];omega
 have N:(tx==[116,114,117,101])=false:=by rw[b];decide
 have O:(tx==[102,97,108,115,101])=false:=by rw[b];decide
 have Q:(tx==[110,117,108,108])=false:=by rw[b];decide
 have R:(tx==[116,104,105,115])=true:=by rw[b];decide
 clear v b;have:=m.c 2;obtain⟨G,H,I⟩:=m.k1;have y:=m.step u;have:=y.c 2;go_wp2_with fail;refine y.made0 _ fun S o=>?_;have:=o.c 0;have:=o.f 0;go_wp2_with fail;exact o.fin 0 3 rfl (B.out.symm.trans (by
  unfold zD;dsimp only;rw[if_neg d.out.1,if_neg d.out.2.1,if_neg d.out.2.2.1,if_neg d.out.2.2.2.1,if_neg d.out.2.2.2.2,if_neg (by rw[e.out];decide),if_neg (by rw[e.out];decide),if_neg (by rw[e.out];decide),if_pos e.out]))
theorem zHX {C:Pc} {s:Ps} {w:World}:zi C (.primary) s w (∀(_:(zH C.L s.k).kind≠0∧(zH C.L s.k).kind≠2∧(zH C.L s.k).kind≠3∧(zH C.L s.k).kind≠4∧(zH C.L s.k).kind≠1) (_:(zH C.L s.k).text=[123]),zf C s w (.primary)):=fun u K h l m=>by
 refine zBG u h fun B D v r W X E F G y=>?_;have H:=zA K;clear K h u;go_enter func194,ntmps194;go_upto_region 1 with(fail);clear F G;have d:=zA l;have e:=zA m;clear l m;have z:=zA (B.out.lt v d.out.1);obtain⟨⟨kd,tx,st,nk,nn,mg,ps,nl⟩,o⟩:=zR C.L (s).k;go_wp2_with fail;refine y.kT (zj y.P o) fun w1 As Am c1 c2 I=>?_;have p:=I.bt 1 78 rfl;have A:kd≠0∧kd≠2∧kd≠3∧kd≠4∧kd≠1:=by have:=d.out;rwa[o.out]at this
 have b:tx=[123]:=by have:=e.out;rwa[o.out]at this
 have e0:((kd:Int)==0)=false:=by rw[yA];omega
 have e1:((kd:Int)==1)=false:=by rw[yA];omega
 have e2:((kd:Int)==2)=false:=by rw[yA];omega
 have e3:((kd:Int)==3)=false:=by rw[yA];omega
 have e4:((kd:Int)==4)=false:=by rw[yA];omega
 have n0:(tx==[116,114,117,101])=false:=by rw[b];decide
 have n1:(tx==[102,97,108,115,101])=false:=by rw[b];decide
 have n2:(tx==[110,117,108,108])=false:=by rw[b];decide
 have n3:(tx==[116,104,105,115])=false:=by rw[b];decide
 have n4:(tx==[91])=false:=by rw[b];decide
 have n5:(tx==[123])=true:=by rw[b];decide
 clear A b;have:=p.c 2;obtain⟨V,Y,a0⟩:=p.k1;have g:=p.step z;have:=g.c 2;go_wp2_with fail;refine g.kX (H.out.more (q:=.object) ⟨g.P.hi,trivial⟩ g.P (yAF s.k)) fun a1 t w4 J M N O Q R S T U j=>?_;have:=j.sto 3;have:=j.c 0;have:=j.f 0;go_wp2_with fail;exact j.fin 0 3 rfl (E.out.symm.trans (by
  unfold zD;dsimp only;rw[if_neg d.out.1,if_neg d.out.2.1,if_neg d.out.2.2.1,if_neg d.out.2.2.2.1,if_neg d.out.2.2.2.2,if_neg (by rw[e.out];decide),if_neg (by rw[e.out];decide),if_neg (by rw[e.out];decide),if_neg (by rw[e.out];decide),if_neg (by rw[e.out];decide),if_pos e.out];simp only[t.out]))
theorem zIg {C:Pc} {s:Ps} {w:World}:zi C (.primary) s w (∀(_:(zH C.L s.k).kind≠0∧(zH C.L s.k).kind≠2∧(zH C.L s.k).kind≠3∧(zH C.L s.k).kind≠4∧(zH C.L s.k).kind≠1) (_:(zH C.L s.k).text=[40]),zf C s w (.primary)):=fun u K h l m=>by
 refine zBG u h fun E F v r W X G H I y=>?_;have J:=zA K;clear K h u;go_enter func194,ntmps194;go_upto_region 1 with(fail);clear H I;have e:=zA l;have d:=zA m;clear l m;have z:=zA (E.out.lt v e.out.1);obtain⟨⟨kd,tx,st,nk,nn,mg,ps,nl⟩,o⟩:=zR C.L (s).k;go_wp2_with fail;refine y.kT (zj y.P o) fun w1 As Am c1 c2 M=>?_;have p:=M.bt 1 78 rfl;have A:kd≠0∧kd≠2∧kd≠3∧kd≠4∧kd≠1:=by have:=e.out;rwa[o.out]at this
 have b:tx=[40]:=by have:=d.out;rwa[o.out]at this
 have e0:((kd:Int)==0)=false:=by rw[yA];omega
 have e1:((kd:Int)==1)=false:=by rw[yA];omega
 have e2:((kd:Int)==2)=false:=by rw[yA];omega
 have e3:((kd:Int)==3)=false:=by rw[yA];omega
 have e4:((kd:Int)==4)=false:=by rw[yA];omega
 have n0:(tx==[116,114,117,101])=false:=by rw[b];decide
 have n1:(tx==[102,97,108,115,101])=false:=by rw[b];decide
 have n2:(tx==[110,117,108,108])=false:=by rw[b];decide
 have n3:(tx==[116,104,105,115])=false:=by rw[b];decide
 have n4:(tx==[91])=false:=by rw[b];decide
 have n5:(tx==[123])=false:=by rw[b];decide
 have n6:(tx==[102,117,110,99,116,105,111,110])=false:=by rw[b];decide
 have n7:(tx==[40])=true:=by rw[b];decide
 clear A b;have:=p.c 2;obtain⟨a0,a1,a2⟩:=p.k1;have g:=p.step z;have:=g.c 2;go_wp2_with fail;refine g.kX (J.out.more (q:=.assign) ⟨g.P.hi,trivial⟩ g.P (yAF s.k)) fun a3 t w4 N O Q R S T U V Y B=>?_;have:=B.sto 3;have D:=B.bt 3 61 rfl;go_wp2_with fail;refine D.kN (zAH D.P [41]) fun w6 j=>?_;have:=j.c 4;have:=j.c 0;have:=j.f 0;go_wp2_with fail;exact j.fin 0 3 rfl (G.out.symm.trans (by
  unfold zD;dsimp only;rw[if_neg e.out.1,if_neg e.out.2.1,if_neg e.out.2.2.1,if_neg e.out.2.2.2.1,if_neg e.out.2.2.2.2,if_neg (by rw[d.out];decide),if_neg (by rw[d.out];decide),if_neg (by rw[d.out];decide),if_neg (by rw[d.out];decide),if_neg (by rw[d.out];decide),if_neg (by rw[d.out];decide),if_neg (by rw[d.out];decide),if_pos d.out];simp only[t.out]))
theorem zJt {C:Pc} {s:Ps} {w:World}:zi C (.primary) s w (∀(_:(zH C.L s.k).kind≠0∧(zH C.L s.k).kind≠2∧(zH C.L s.k).kind≠3∧(zH C.L s.k).kind≠4∧(zH C.L s.k).kind≠1) (_:(zH C.L s.k).text=[91]),zf C s w (.primary)):=fun t K h j l=>by
 refine zBG t h fun A B u r W X D E F v=>?_;have G:=zA K;clear K h t;go_enter func194,ntmps194;go_upto_region 1 with(fail);clear E F;have d:=zA j;have e:=zA l;clear j l;have y:=zA (A.out.lt u d.out.1);obtain⟨⟨kd,tx,T,nk,nn,U,ps,nl⟩,m⟩:=zR C.L (s).k;go_wp2_with fail;refine v.kT (zj v.P m) fun w1 As Am c1 c2 H=>?_;have o:=H.bt 1 78 rfl;have z:kd≠0∧kd≠2∧kd≠3∧kd≠4∧kd≠1:=by have:=d.out;rwa[m.out]at this
 have b:tx=[91]:=by have:=e.out;rwa[m.out]at this
 have e0:((kd:Int)==0)=false:=by rw[yA];omega
 have e1:((kd:Int)==1)=false:=by rw[yA];omega
 have e2:((kd:Int)==2)=false:=by rw[yA];omega
 have e3:((kd:Int)==3)=false:=by rw[yA];omega
 have e4:((kd:Int)==4)=false:=by rw[yA];omega
 have I:(tx==[116,114,117,101])=false:=by rw[b];decide
 have V:(tx==[102,97,108,115,101])=false:=by rw[b];decide
 have Y:(tx==[110,117,108,108])=false:=by rw[b];decide
 have n3:(tx==[116,104,105,115])=false:=by rw[b];decide
 have n4:(tx==[91])=true:=by rw[b];decide
 clear z b;have:=o.c 2;obtain⟨N,O,Q⟩:=o.k1;have g:=o.step y;have:=g.c 2;go_wp2_with fail;refine g.kL (G.out.more (q:=.list [93]) ⟨g.P.hi,trivial⟩ g.P (yAF s.k)) fun w4 Ar I cp R _ S J=>?_;go_wp2_with fail;refine J.kQ (zAr _ _ _ _) fun w5 M=>?_;have p:=M.rowK 3 rfl 38;have:=p.c 0;have:=p.f 0;go_wp2_with fail;exact p.fin 0 4 rfl (D.out.symm.trans (by
  unfold zD;dsimp only;rw[if_neg d.out.1,if_neg d.out.2.1,if_neg d.out.2.2.1,if_neg d.out.2.2.2.1,if_neg d.out.2.2.2.2,if_neg (by rw[e.out];decide),if_neg (by rw[e.out];decide),if_neg (by rw[e.out];decide),if_neg (by rw[e.out];decide),if_pos e.out]))
theorem zJu {C:Pc} {s:Ps} {w:World}:zi C (.primary) s w (∀(_:(zH C.L s.k).kind=1),zf C s w (.primary)):=fun m _K h e=>by
 refine zBG m h fun u v o r W X y z A p=>?_;clear h m;go_enter func194,ntmps194;go_upto_region 1 with(fail);clear z A;have d:=zA e;clear e;have q:=zA (u.out.lt o (by rw[d.out];decide));obtain⟨⟨kd,tx,G,nk,nn,H,ps,nl⟩,g⟩:=zR C.L (s).k;go_wp2_with fail;refine p.kT (zj p.P g) fun w1 As Am c1 c2 B=>?_;have j:=B.bt 1 78 rfl;have b:kd=1:=by have:=d.out;rwa[g.out]at this
 have e0:((kd:Int)==0)=false:=by rw[b];decide
 have e1:((kd:Int)==1)=true:=by rw[b];decide
 have e2:((kd:Int)==2)=false:=by rw[b];decide
 have e3:((kd:Int)==3)=false:=by rw[b];decide
 have e4:((kd:Int)==4)=false:=by rw[b];decide
 clear b;have:=j.c 2;obtain⟨D,E,F⟩:=j.k1;have t:=j.step q;have:=t.c 2;go_wp2_with fail;refine t.named0 _ tx fun I l=>?_;have:=l.c 0;have:=l.f 0;go_wp2_with fail;exact l.fin 0 3 rfl (y.out.symm.trans (by
  unfold zD;dsimp only;rw[if_neg (by rw[d.out];decide),if_neg (by rw[d.out];decide),if_neg (by rw[d.out];decide),if_neg (by rw[d.out];decide),if_pos d.out,g.out]))
theorem zDY {C:Pc} {s:Ps} {w:World}:zi C (.primary) s w (∀(_:(zH C.L s.k).kind≠0∧(zH C.L s.k).kind≠2∧(zH C.L s.k).kind≠3∧(zH C.L s.k).kind≠4∧(zH C.L s.k).kind≠1) (_:(zH C.L s.k).text=[102,117,110,99,116,105,111,110]) (_:(zH C.L (zB s).k).kind=1),zf C s w (.primary)):=fun B K h o p t=>by
 refine zBG B h fun D M E r W X N O Q F=>?_;have R:=zA K;clear K h B;go_enter func194,ntmps194;go_upto_region 1 with(fail);clear O Q;have e:=zA o;have d:=zA p;clear o p;have j:=zA (D.out.lt E e.out.1);obtain⟨⟨kd,tx,st,nk,nn,mg,ps,nl⟩,u⟩:=zR C.L (s).k;go_wp2_with fail;refine F.kT (zj F.P u) fun w1 As Am c1 c2 S=>?_;have v:=S.bt 1 78 rfl;have G:kd≠0∧kd≠2∧kd≠3∧kd≠4∧kd≠1:=by have:=e.out;rwa[u.out]at this
 have b:tx=[102,117,110,99,116,105,111,110]:=by have:=d.out;rwa[u.out]at this
 have e0:((kd:Int)==0)=false:=by rw[yA];omega
 have e1:((kd:Int)==1)=false:=by rw[yA];omega
 have e2:((kd:Int)==2)=false:=by rw[yA];omega
 have e3:((kd:Int)==3)=false:=by rw[yA];omega
 have e4:((kd:Int)==4)=false:=by rw[yA];omega
 have n0:(tx==[116,114,117,101])=false:=by rw[b];decide
 have n1:(tx==[102,97,108,115,101])=false:=by rw[b];decide
 have n2:(tx==[110,117,108,108])=false:=by rw[b];decide
 have n3:(tx==[116,104,105,115])=false:=by rw[b];decide
 have n4:(tx==[91])=false:=by rw[b];decide
 have n5:(tx==[123])=false:=by rw[b];decide
 have n6:(tx==[102,117,110,99,116,105,111,110])=true:=by rw[b];decide
 clear G b;have:=v.c 2;obtain⟨a5,a6,a7⟩:=v.k1;have y:=v.step j;have:=y.c 2;have H:=zA t;clear t;have a8:=zY8;obtain⟨⟨l,a9,b0,b1,b2,b3,ps2,b4⟩,m⟩:=zR C.L (zB (s)).k;have I:l=1:=by have:=H.out;rwa[m.out]at this
 have f1:((l:Int)==1)=true:=by rw[yBL];omega
 clear I;go_wp2_with fail;refine y.kT (zj y.P m) fun w4 b5 b6 b7 b8 J=>?_;go_wp2_with fail;refine J.kS (zD8 J.P) fun w5 z=>?_;go_wp2_with fail;refine z.kX (R.out.more (q:=.func 41 (ze C.L (zB s)).1) ⟨z.P.hi,trivial⟩ z.P (yAA (yAF s.k) (zA7 (s:=zB s) D j).adv.le)) fun b9 A w6 T U V Y a0 a1 a2 a3 a4 g=>?_;have:=g.sto 4;have:=g.c 0;have:=g.f 0;go_wp2_with fail;exact g.fin 0 4 rfl (N.out.symm.trans (by
  unfold zD;dsimp only;rw[if_neg e.out.1,if_neg e.out.2.1,if_neg e.out.2.2.1,if_neg e.out.2.2.2.1,if_neg e.out.2.2.2.2,if_neg (by rw[d.out];decide),if_neg (by rw[d.out];decide),if_neg (by rw[d.out];decide),if_neg (by rw[d.out];decide),if_neg (by rw[d.out];decide),if_neg (by rw[d.out];decide),if_pos d.out,if_pos H.out];simp only[A.out]))
theorem zDx {C:Pc} {s:Ps} {w:World}:zi C (.primary) s w (∀(_:(zH C.L s.k).kind≠0∧(zH C.L s.k).kind≠2∧(zH C.L s.k).kind≠3∧(zH C.L s.k).kind≠4∧(zH C.L s.k).kind≠1) (_:(zH C.L s.k).text=[102,117,110,99,116,105,111,110]) (_:(zH C.L (zB s).k).kind≠1),zf C s w (.primary)):=fun A K h m o p=>by
 refine zBG A h fun I J B r W X M N O D=>?_;have Q:=zA K;clear K h A;go_enter func194,ntmps194;go_upto_region 1 with(fail);clear N O;have e:=zA m;have d:=zA o;clear m o;have E:=zA (I.out.lt B e.out.1);obtain⟨⟨kd,tx,st,nk,nn,mg,ps,nl⟩,t⟩:=zR C.L (s).k;go_wp2_with fail;refine D.kT (zj D.P t) fun w1 As Am c1 c2 R=>?_;have u:=R.bt 1 78 rfl;have F:kd≠0∧kd≠2∧kd≠3∧kd≠4∧kd≠1:=by have:=e.out;rwa[t.out]at this
 have b:tx=[102,117,110,99,116,105,111,110]:=by have:=d.out;rwa[t.out]at this
 have e0:((kd:Int)==0)=false:=by rw[yA];omega
 have e1:((kd:Int)==1)=false:=by rw[yA];omega
 have e2:((kd:Int)==2)=false:=by rw[yA];omega
 have e3:((kd:Int)==3)=false:=by rw[yA];omega
 have e4:((kd:Int)==4)=false:=by rw[yA];omega
 have n0:(tx==[116,114,117,101])=false:=by rw[b];decide
 have n1:(tx==[102,97,108,115,101])=false:=by rw[b];decide
 have n2:(tx==[110,117,108,108])=false:=by rw[b];decide
 have n3:(tx==[116,104,105,115])=false:=by rw[b];decide
 have n4:(tx==[91])=false:=by rw[b];decide
 have n5:(tx==[123])=false:=by rw[b];decide
 have n6:(tx==[102,117,110,99,116,105,111,110])=true:=by rw[b];decide
 clear F b;have:=u.c 2;obtain⟨a4,a5,a6⟩:=u.k1;have v:=u.step E;have:=v.c 2;have G:=zA p;clear p;have a7:=zY8;obtain⟨⟨j,a8,a9,b0,b1,b2,ps2,b3⟩,l⟩:=zR C.L (zB (s)).k;have H:j≠1:=by have:=G.out;rwa[l.out]at this
 have f1:((j:Int)==1)=false:=by rw[yA];omega
 clear H;go_wp2_with fail;refine v.kT (zj v.P l) fun w4 b4 b5 b6 b7 y=>?_;go_wp2_with fail;refine y.kX (Q.out.more (q:=.func 41 []) ⟨y.P.hi,trivial⟩ y.P (yAF s.k)) fun b8 z w5 S T U V Y a0 a1 a2 a3 g=>?_;have:=g.sto 4;have:=g.c 0;have:=g.f 0;go_wp2_with fail;exact g.fin 0 4 rfl (M.out.symm.trans (by
  unfold zD;dsimp only;rw[if_neg e.out.1,if_neg e.out.2.1,if_neg e.out.2.2.1,if_neg e.out.2.2.2.1,if_neg e.out.2.2.2.2,if_neg (by rw[d.out];decide),if_neg (by rw[d.out];decide),if_neg (by rw[d.out];decide),if_neg (by rw[d.out];decide),if_neg (by rw[d.out];decide),if_neg (by rw[d.out];decide),if_pos d.out,if_neg G.out];simp only[z.out]))
theorem zK7 {C:Pc} {s:Ps} {w:World}:zi C (.primary) s w (∀(_:(zH C.L s.k).kind=0),zf C s w (.primary)):=fun g _K h b=>by
 refine zBG g h fun z o y r W X p q t j=>?_;clear h g;go_enter func194,ntmps194;go_upto_region 1 with(fail);clear q t;have l:=zA b;clear b;obtain⟨⟨kd,tx,A,nk,nn,B,ps,nl⟩,m⟩:=zR C.L (s).k;go_wp2_with fail;refine j.kT (zj j.P m) fun w1 As Am c1 c2 u=>?_;have d:=u.bt 1 78 rfl;have e0:((kd:Int)==0)=true:=by have:=l.out;rw[m.out]at this;have:kd=0:=this;rw[this];decide
 have:=d.c 2;go_wp2_with fail;refine d.kN (zAJ d.P) fun w3 v=>?_;have e:=v.leafK 0;have:=e.c 0;have:=e.f 0;go_wp2_with fail;exact e.fin 0 3 rfl (p.out.symm.trans (by
  unfold zD;dsimp only;rw[if_pos l.out]))
theorem zIh {C:Pc} {s:Ps} {w:World}:zi C (.primary) s w (∀(_:(zH C.L s.k).kind≠0∧(zH C.L s.k).kind≠2∧(zH C.L s.k).kind≠3∧(zH C.L s.k).kind≠4∧(zH C.L s.k).kind≠1) (_:(zH C.L s.k).text≠[116,114,117,101]) (_:(zH C.L s.k).text≠[102,97,108,115,101]) (_:(zH C.L s.k).text≠[110,117,108,108]) (_:(zH C.L s.k).text≠[116,104,105,115]) (_:(zH C.L s.k).text≠[91]) (_:(zH C.L s.k).text≠[123]) (_:(zH C.L s.k).text≠[102,117,110,99,116,105,111,110]) (_:(zH C.L s.k).text≠[40]) (_:onP C.L [47] s=true),zf C s w (.primary)):=fun v _K h j x0 x1 l m o p q x7 v1=>by
 refine zBG v h fun Q R e r W X S T U y=>?_;clear h v;go_enter func194,ntmps194;go_upto_region 1 with(fail);clear T U;have d:=zA j;have g:=zA v1;have z:=zA x0;have A:=zA x1;have B:=zA l;have D:=zA m;have E:=zA o;have F:=zA p;have G:=zA q;have H:=zA x7;clear j v1 x0 x1 l m o p q x7;have I:=zA (Q.out.lt e d.out.1);obtain⟨⟨kd,tx,st,nk,nn,mg,ps,nl⟩,b⟩:=zR C.L (s).k;go_wp2_with fail;refine y.kT (zj y.P b) fun w1 As Am c1 c2 V=>?_;have t:=V.bt 1 78 rfl;have J:kd≠0∧kd≠2∧kd≠3∧kd≠4∧kd≠1:=by have:=d.out;rwa[b.out]at this
 have e0:((kd:Int)==0)=false:=by rw[yA];omega
 have e1:((kd:Int)==1)=false:=by rw[yA];omega
 have e2:((kd:Int)==2)=false:=by rw[yA];omega
 have e3:((kd:Int)==3)=false:=by rw[yA];omega
 have e4:((kd:Int)==4)=false:=by rw[yA];omega
 have n0:(tx==[116,114,117,101])=false:=by have:=z.out;rw[b.out]at this;exact yA.mpr this
 have n1:(tx==[102,97,108,115,101])=false:=by have:=A.out;rw[b.out]at this;exact yA.mpr this
 have n2:(tx==[110,117,108,108])=false:=by have:=B.out;rw[b.out]at this;exact yA.mpr this
 have n3:(tx==[116,104,105,115])=false:=by have:=D.out;rw[b.out]at this;exact yA.mpr this
 have n4:(tx==[91])=false:=by have:=E.out;rw[b.out]at this;exact yA.mpr this
 have n5:(tx==[123])=false:=by have:=F.out;rw[b.out]at this;exact yA.mpr this
 have n6:(tx==[102,117,110,99,116,105,111,110])=false:=by have:=G.out;rw[b.out]at this;exact yA.mpr this
 have n7:(tx==[40])=false:=by have:=H.out;rw[b.out]at this;exact yA.mpr this
 clear J;have:=t.c 2;obtain⟨a0,a1,a2⟩:=t.k1;have M:=t.step I;have:=M.c 2;have N:=M.back e;go_wp2_with fail;refine N.kB (zAi N.P [47] g) fun w5 O=>?_;go_wp2_with fail;refine O.kN (zCv O.P 6 jd) fun w6 Y=>?_;have u:=Y.leafK 0;have:=u.c 0;have:=u.f 0;go_wp2_with fail;exact u.fin 0 3 rfl (S.out.symm.trans (by
  unfold zD;dsimp only;rw[if_neg d.out.1,if_neg d.out.2.1,if_neg d.out.2.2.1,if_neg d.out.2.2.2.1,if_neg d.out.2.2.2.2,if_neg z.out,if_neg A.out,if_neg B.out,if_neg D.out,if_neg E.out,if_neg F.out,if_neg G.out,if_neg H.out];simp[g.out]))
theorem zHY {C:Pc} {s:Ps} {w:World}:zi C (.primary) s w (∀(_:(zH C.L s.k).kind≠0∧(zH C.L s.k).kind≠2∧(zH C.L s.k).kind≠3∧(zH C.L s.k).kind≠4∧(zH C.L s.k).kind≠1) (_:(zH C.L s.k).text≠[116,114,117,101]) (_:(zH C.L s.k).text≠[102,97,108,115,101]) (_:(zH C.L s.k).text≠[110,117,108,108]) (_:(zH C.L s.k).text≠[116,104,105,115]) (_:(zH C.L s.k).text≠[91]) (_:(zH C.L s.k).text≠[123]) (_:(zH C.L s.k).text≠[102,117,110,99,116,105,111,110]) (_:(zH C.L s.k).text≠[40]) (_:onP C.L [47] s=false) (_:onP C.L [47,61] s=true),zf C s w (.primary)):=fun y _K h l x0 x1 m o p q t x7 v1 v2=>by
 refine zBG y h fun S T e r W X U V Y z=>?_;clear h y;go_enter func194,ntmps194;go_upto_region 1 with(fail);clear V Y;have d:=zA l;have g:=zA v1;have j:=zA v2;have A:=zA x0;have B:=zA x1;have D:=zA m;have E:=zA o;have F:=zA p;have G:=zA q;have H:=zA t;have I:=zA x7;clear l v1 v2 x0 x1 m o p q t x7;have J:=zA (S.out.lt e d.out.1);obtain⟨⟨kd,tx,st,nk,nn,mg,ps,nl⟩,b⟩:=zR C.L (s).k;go_wp2_with fail;refine z.kT (zj z.P b) fun w1 As Am c1 c2 F1=>?_;have u:=F1.bt 1 78 rfl;have M:kd≠0∧kd≠2∧kd≠3∧kd≠4∧kd≠1:=by have:=d.out;rwa[b.out]at this
 have e0:((kd:Int)==0)=false:=by rw[yA];omega
 have e1:((kd:Int)==1)=false:=by rw[yA];omega
 have e2:((kd:Int)==2)=false:=by rw[yA];omega
 have e3:((kd:Int)==3)=false:=by rw[yA];omega
 have e4:((kd:Int)==4)=false:=by rw[yA];omega
 have n0:(tx==[116,114,117,101])=false:=by have:=A.out;rw[b.out]at this;exact yA.mpr this
 have n1:(tx==[102,97,108,115,101])=false:=by have:=B.out;rw[b.out]at this;exact yA.mpr this
 have n2:(tx==[110,117,108,108])=false:=by have:=D.out;rw[b.out]at this;exact yA.mpr this
 have n3:(tx==[116,104,105,115])=false:=by have:=E.out;rw[b.out]at this;exact yA.mpr this
 have n4:(tx==[91])=false:=by have:=F.out;rw[b.out]at this;exact yA.mpr this
 have n5:(tx==[123])=false:=by have:=G.out;rw[b.out]at this;exact yA.mpr this
 have n6:(tx==[102,117,110,99,116,105,111,110])=false:=by have:=H.out;rw[b.out]at this;exact yA.mpr this
 have n7:(tx==[40])=false:=by have:=I.out;rw[b.out]at this;exact yA.mpr this
 clear M;have:=u.c 2;obtain⟨a0,a1,a2⟩:=u.k1;have N:=u.step J;have:=N.c 2;have O:=N.back e;go_wp2_with fail;refine O.kB (zAi O.P [47] g) fun w5 Q=>?_;go_wp2_with fail;refine Q.kB (zAi Q.P [47,61] j) fun w6 R=>?_;go_wp2_with fail;refine R.kN (zCv R.P 6 jd) fun w7 F7=>?_;have v:=F7.leafK 0;have:=v.c 0;have:=v.f 0;go_wp2_with fail;exact v.fin 0 3 rfl (U.out.symm.trans (by
  unfold zD;dsimp only;rw[if_neg d.out.1,if_neg d.out.2.1,if_neg d.out.2.2.1,if_neg d.out.2.2.2.1,if_neg d.out.2.2.2.2,if_neg A.out,if_neg B.out,if_neg D.out,if_neg E.out,if_neg F.out,if_neg G.out,if_neg H.out,if_neg I.out];simp[g.out,j.out]))
theorem zIi {C:Pc} {s:Ps} {w:World}:zi C (.primary) s w (∀(_:(zH C.L s.k).kind≠0∧(zH C.L s.k).kind≠2∧(zH C.L s.k).kind≠3∧(zH C.L s.k).kind≠4∧(zH C.L s.k).kind≠1) (_:(zH C.L s.k).text≠[116,114,117,101]) (_:(zH C.L s.k).text≠[102,97,108,115,101]) (_:(zH C.L s.k).text≠[110,117,108,108]) (_:(zH C.L s.k).text≠[116,104,105,115]) (_:(zH C.L s.k).text≠[91]) (_:(zH C.L s.k).text≠[123]) (_:(zH C.L s.k).text≠[102,117,110,99,116,105,111,110]) (_:(zH C.L s.k).text≠[40]) (_:onP C.L [47] s=false) (_:onP C.L [47,61] s=false),zf C s w (.primary)):=fun y _K h l x0 x1 m o p q t x7 v1 v2=>by
 refine zBG y h fun S T e r W X U V Y z=>?_;clear h y;go_enter func194,ntmps194;go_upto_region 1 with(fail);clear V Y;have d:=zA l;have g:=zA v1;have j:=zA v2;have A:=zA x0;have B:=zA x1;have D:=zA m;have E:=zA o;have F:=zA p;have G:=zA q;have H:=zA t;have I:=zA x7;clear l v1 v2 x0 x1 m o p q t x7;have J:=zA (S.out.lt e d.out.1);obtain⟨⟨kd,tx,st,nk,nn,mg,ps,nl⟩,b⟩:=zR C.L (s).k;go_wp2_with fail;refine z.kT (zj z.P b) fun w1 As Am c1 c2 F1=>?_;have u:=F1.bt 1 78 rfl;have M:kd≠0∧kd≠2∧kd≠3∧kd≠4∧kd≠1:=by have:=d.out;rwa[b.out]at this
 have e0:((kd:Int)==0)=false:=by rw[yA];omega
 have e1:((kd:Int)==1)=false:=by rw[yA];omega
 have e2:((kd:Int)==2)=false:=by rw[yA];omega
 have e3:((kd:Int)==3)=false:=by rw[yA];omega
 have e4:((kd:Int)==4)=false:=by rw[yA];omega
 have n0:(tx==[116,114,117,101])=false:=by have:=A.out;rw[b.out]at this;exact yA.mpr this
 have n1:(tx==[102,97,108,115,101])=false:=by have:=B.out;rw[b.out]at this;exact yA.mpr this
 have n2:(tx==[110,117,108,108])=false:=by have:=D.out;rw[b.out]at this;exact yA.mpr this
 have n3:(tx==[116,104,105,115])=false:=by have:=E.out;rw[b.out]at this;exact yA.mpr this
 have n4:(tx==[91])=false:=by have:=F.out;rw[b.out]at this;exact yA.mpr this
 have n5:(tx==[123])=false:=by have:=G.out;rw[b.out]at this;exact yA.mpr this
 have n6:(tx==[102,117,110,99,116,105,111,110])=false:=by have:=H.out;rw[b.out]at this;exact yA.mpr this
 have n7:(tx==[40])=false:=by have:=I.out;rw[b.out]at this;exact yA.mpr this
 clear M;have:=u.c 2;obtain⟨a0,a1,a2⟩:=u.k1;have N:=u.step J;have:=N.c 2;have O:=N.back e;go_wp2_with fail;refine O.kB (zAi O.P [47] g) fun w5 Q=>?_;go_wp2_with fail;refine Q.kB (zAi Q.P [47,61] j) fun w6 R=>?_;go_wp2_with fail;refine R.kN (zAJ R.P) fun w7 F7=>?_;have v:=F7.leafK 0;have:=v.c 0;have:=v.f 0;go_wp2_with fail;exact v.fin 0 3 rfl (U.out.symm.trans (by
  unfold zD;dsimp only;rw[if_neg d.out.1,if_neg d.out.2.1,if_neg d.out.2.2.1,if_neg d.out.2.2.2.1,if_neg d.out.2.2.2.2,if_neg A.out,if_neg B.out,if_neg D.out,if_neg E.out,if_neg F.out,if_neg G.out,if_neg H.out,if_neg I.out];simp[g.out,j.out]))
theorem zHZ {C:Pc} {s:Ps} {w:World}:zi C (.primary) s w (∀(_:(zH C.L s.k).kind=2),zf C s w (.primary)):=fun m _K h e=>by
 refine zBG m h fun y z o r W X A B D p=>?_;clear h m;go_enter func194,ntmps194;go_upto_region 1 with(fail);clear B D;have d:=zA e;clear e;have t:=zA (y.out.lt o (by rw[d.out];decide));obtain⟨⟨kd,tx,I,nk,nn,J,ps,nl⟩,g⟩:=zR C.L (s).k;go_wp2_with fail;refine p.kTl (zj p.P g) fun w1 As Am c1 c2 E=>?_;have j:=E.bt 1 78 rfl;have b:kd=2:=by have:=d.out;rwa[g.out]at this
 have e0:((kd:Int)==0)=false:=by rw[b];decide
 have e2:((kd:Int)==2)=true:=by rw[b];decide
 have e3:((kd:Int)==3)=false:=by rw[b];decide
 have e4:((kd:Int)==4)=false:=by rw[b];decide
 clear b;have:=j.c 4;obtain⟨F,G,H⟩:=j.k1;have u:=j.step t;have:=u.c 4;have l:=u.leafX {zB6 with kind:=30,nk:=nk,nn:=nn} rfl (yAJ _ _ _ _) (yAJ _ _ _ _);have:=l.c 0;have:=l.f 0;go_wp2_with fail;refine zCi (l.put 0 5) fun M v=>?_;have q:=v.c 0;exact v.ret 5 rfl (by simp[results,results194,go_sem,q,zB6]) rfl (A.out.symm.trans (by
  unfold zD;dsimp only;rw[if_neg (by rw[d.out];decide),if_pos d.out,g.out])) (fun _ h=>h)
theorem zK8 {C:Pc} {s:Ps} {w:World}:zi C (.primary) s w (∀(_:(zH C.L s.k).kind=3),zf C s w (.primary)):=fun p _K h e=>by
 refine zBG p h fun z A t r W X B D E u=>?_;clear h p;go_enter func194,ntmps194;go_upto_region 1 with(fail);clear D E;have d:=zA e;clear e;have v:=zA (z.out.lt t (by rw[d.out];decide));obtain⟨⟨kd,tx,M,nk,nn,F,ps,nl⟩,g⟩:=zR C.L (s).k;go_wp2_with fail;refine u.kTl (zj u.P g) fun w1 As Am c1 c2 G=>?_;have j:=G.bt 1 78 rfl;have b:kd=3:=by have:=d.out;rwa[g.out]at this
 have e0:((kd:Int)==0)=false:=by rw[b];decide
 have e2:((kd:Int)==2)=false:=by rw[b];decide
 have e3:((kd:Int)==3)=true:=by rw[b];decide
 have e4:((kd:Int)==4)=false:=by rw[b];decide
 clear b;have:=j.c 4;obtain⟨H,I,J⟩:=j.k1;have m:=j.step v;have:=m.c 4;have o:=m.leafX {zB6 with kind:=31,mag:=F} rfl (yAJ _ _ _ _) ((m.l 3));have:=o.c 0;have:=o.f 0;go_wp2_with fail;refine zCi (o.put 0 5) fun N y=>?_;have q:=y.c 0;exact y.ret 5 rfl (by simp[results,results194,go_sem,q,zB6]) rfl (B.out.symm.trans (by
  unfold zD;dsimp only;rw[if_neg (by rw[d.out];decide),if_neg (by rw[d.out];decide),if_pos d.out,g.out])) (fun _ h=>h)
theorem zHa {C:Pc} {s:Ps} {w:World}:zi C (.primary) s w (∀(_:(zH C.L s.k).kind=4),zf C s w (.primary)):=fun p _K h e=>by
 refine zBG p h fun z A t r W X B D E u=>?_;clear h p;go_enter func194,ntmps194;go_upto_region 1 with(fail);clear D E;have d:=zA e;clear e;have v:=zA (z.out.lt t (by rw[d.out];decide));obtain⟨⟨kd,tx,F,nk,nn,M,ps,nl⟩,g⟩:=zR C.L (s).k;go_wp2_with fail;refine u.kTl (zj u.P g) fun w1 As Am c1 c2 G=>?_;have j:=G.bt 1 78 rfl;have b:kd=4:=by have:=d.out;rwa[g.out]at this
 have e0:((kd:Int)==0)=false:=by rw[b];decide
 have e2:((kd:Int)==2)=false:=by rw[b];decide
 have e3:((kd:Int)==3)=false:=by rw[b];decide
 have e4:((kd:Int)==4)=true:=by rw[b];decide
 clear b;have:=j.c 4;obtain⟨H,I,J⟩:=j.k1;have m:=j.step v;have:=m.c 4;have o:=m.leafX {zB6 with kind:=32,str:=F} rfl ((m.l 2)) (yAJ _ _ _ _);have:=o.c 0;have:=o.f 0;go_wp2_with fail;refine zCi (o.put 0 5) fun N y=>?_;have q:=y.c 0;exact y.ret 5 rfl (by simp[results,results194,go_sem,q,zB6]) rfl (B.out.symm.trans (by
  unfold zD;dsimp only;rw[if_neg (by rw[d.out];decide),if_neg (by rw[d.out];decide),if_neg (by rw[d.out];decide),if_pos d.out,g.out])) (fun _ h=>h)
theorem zK9 {C:Pc} {s:Ps} {w:World}:zi C .primary s w (zf C s w .primary):=fun b K h=>by
 by_cases k0:(zH C.L s.k).kind=0
 · exact zK7 b K h k0
 by_cases k2:(zH C.L s.k).kind=2
 · exact zHZ b K h k2
 by_cases k3:(zH C.L s.k).kind=3
 · exact zK8 b K h k3
 by_cases k4:(zH C.L s.k).kind=4
 · exact zHa b K h k4
 by_cases k1:(zH C.L s.k).kind=1
 · exact zJu b K h k1
 have kk:=And.intro k0 (And.intro k2 (And.intro k3 (And.intro k4 k1)))
 by_cases x0:(zH C.L s.k).text=[116,114,117,101]
 · exact zJq b K h kk x0
 by_cases x1:(zH C.L s.k).text=[102,97,108,115,101]
 · exact zIf b K h kk x1
 by_cases d:(zH C.L s.k).text=[110,117,108,108]
 · exact zJr b K h kk d
 by_cases e:(zH C.L s.k).text=[116,104,105,115]
 · exact zJs b K h kk e
 by_cases f:(zH C.L s.k).text=[91]
 · exact zJt b K h kk f
 by_cases g:(zH C.L s.k).text=[123]
 · exact zHX b K h kk g
 by_cases c:(zH C.L s.k).text=[102,117,110,99,116,105,111,110]
 · by_cases j:(zH C.L (zB s).k).kind=1
   · exact zDY b K h kk c j
   · exact zDx b K h kk c j
 by_cases x7:(zH C.L s.k).text=[40]
 · exact zIg b K h kk x7
 cases v1:onP C.L [47] s with
 | true=>exact zIh b K h kk x0 x1 d e f g c x7 v1
 | false=>
  cases v2:onP C.L [47,61] s with
  | true=>exact zHY b K h kk x0 x1 d e f g c x7 v1 v2
  | false=>exact zIi b K h kk x0 x1 d e f g c x7 v1 v2
def zDU (L:List Tok) (R:Ph→Ps→Tr×Ps) (x:Tr) (s:Ps):(Tr×Bool)×Ps:=
 if onP L [46] s=true then
  (if(zH L (zB s).k).kind≠1∧(zH L (zB s).k).kind≠6 then((x,false),zb L (zB s))else((trN 52 (zH L (zB s).k).text [x],true),zB (zB s)))
 else if onP L [91] s=true then((trK 53 [x,(R .assign (zB s)).1],true),zO L [93] (R .assign (zB s)).2)
 else((x,false),s)
theorem zJv (b:Lst L) {s:Ps} (hs:s.k≤L.length - 1) (c:¬onP L [40] s=true):zE L (.callsL x) s=if(zDU L (zE L) x s).1.2=true then zE L (.callsL (zDU L (zE L) x s).1.1) (zDU L (zE L) x s).2 else(x,(zDU L (zE L) x s).2):=by
 rw[zQ b ⟨hs,trivial⟩];unfold zD zDU;dsimp only;rw[if_neg c];split
 · split<;>rfl
 · split<;>rfl
theorem zUJ (b:Lst L) {s:Ps} (hs:s.k≤L.length - 1):zE L (.headL x) s=if(zDU L (zE L) x s).1.2=true then zE L (.headL (zDU L (zE L) x s).1.1) (zDU L (zE L) x s).2 else(x,(zDU L (zE L) x s).2):=by
 rw[zQ b ⟨hs,trivial⟩];unfold zD zDU;dsimp only;split
 · split<;>rfl
 · split<;>rfl
theorem zYT {R:Ph→Ps→Tr×Ps} {s:Ps} (h:(zDU L R x s).1.2=false):(zDU L R x s).1.1=x:=by
 unfold zDU at h⊢;split
 · rename_i c
   rw[if_pos c]at h;split
   · rfl
   · rename_i c2;rw[if_neg c2]at h;cases h
 · rename_i c
   rw[if_neg c]at h;split
   · rename_i c2;rw[if_pos c2]at h;cases h
   · rfl
theorem zMR (b:Lst L) {s:Ps} (hs:s.k≤L.length - 1):s.k≤(zDU L (zE L) x s).2.k∧(zDU L (zE L) x s).2.k≤L.length - 1∧((zDU L (zE L) x s).1.2=true→s.k < (zDU L (zE L) x s).2.k):=by
 unfold zDU;split
 · rename_i c
   have h1:s.k+1≤L.length - 1:=b.on hs c;split
   · exact⟨hs,yAC _,fun h=>by cases h⟩
   · rename_i c2
     have d:s.k+1 < L.length - 1:=b.lt (s:=zB s) h1 jo;exact⟨(by show s.k≤s.k+1+1;omega),(by show s.k+1+1≤_;omega),fun _=>(by show s.k < s.k+1+1;omega)⟩
 · split
   · rename_i c
     have h1:s.k+1≤L.length - 1:=b.on hs c;have d:=(zZ b (p:=.assign) (s:=zB s) ⟨h1,trivial⟩).adv;have e:=(za (w:=[93]) b d.hi).adv;have:(zB s).k=s.k+1:=rfl;have:=d.le;have:=e.le;exact⟨by dsimp only;omega,e.hi,fun _=>by dsimp only;omega⟩
   · exact⟨yAC _,hs,fun h=>by cases h⟩
def zXK (C:Pc) (Q:Nat→Prop) (r:(Tr×Bool)×Ps) (w:World) (e:Ending) (w':World):Prop:=
 ∃d0 d1 d2 d3 d4 d5 d6 d7 d8,e=.returned (.tuple #[.agg #[d0,d1,d2,d3,d4,d5,d6,d7,d8],r.1.2])∧TrC w' (fun b=>Q b∨w.heap.size≤b) r.1.1 [d0,d1,d2,d3,d4,d5,d6,d7,d8]∧Pa C r.2 w'∧w.grownBy w' (some C.g)
theorem Fr.retM {C:Pc} {Q:Nat→Prop} {a w:World} {D:List Nat} {os:List Ob} {s:Ps} {Pg:Program} {fn:Func} {A:Act} {p:(Tr×Bool)×Ps} {t:Tr} {b:Bool} (F:Fr C (fun b=>Q b∨a.heap.size≤b) a D os s w) (j:Nat) (c:os[j]? =some (.tr t [d0,d1,d2,d3,d4,d5,d6,d7,d8])) (d:(results fn A.tmps).run Pg w=.ok (.tuple #[.agg #[d0,d1,d2,d3,d4,d5,d6,d7,d8],b]) w) (f:A.defers=[]) (e:p=((t,b),s)):bodyPost Pg fn (zXK C Q p a) .ret A w:=by
 subst e;exact bodyPost_ret d f ⟨d0,d1,d2,d3,d4,d5,d6,d7,d8,rfl,TrC.sub (fun b hb _=>hb.1) _ _ (F.t j c),F.P,F.out.gr⟩
theorem zQx {C:Pc} {Q:Nat→Prop} {s:Ps} {w:World} (h:Pa C s w) (l:onP C.L [91] s=true→∀W,Pa C (zB s) W→zf C (zB s) W .assign) (m:∀b,Q b→C.g < b) (o:TrC w Q x [d0,d1,d2,d3,d4,d5,d6,d7,d8]) (h1:onP C.L [46] s=false) (p:onP C.L [91] s=false):
 Calls prog 193 #[C,.agg #[d0,d1,d2,d3,d4,d5,d6,d7,d8]] w (zXK C Q (zDU C.L (zE C.L) x s) w):=by
 generalize hr:zDU C.L (zE C.L) x s=r;have A:=zA hr;clear hr;refine zYS h m o fun H B F I W R X t D u v E k=>?_;have G:=zA l;have e:=zA h1;have j:=zA p;clear h1 p;clear h o m l;go_enter func193,ntmps193;go_upto_region 1 with(fail);clear D t u v E;have:=k.sto 0;go_wp2_with fail;refine k.kM (zBd k.P [46] e) fun w1 y=>?_;go_wp2_with fail;refine y.kM (zBd y.P [91] j) fun w2 d=>?_;have:=d.c 1;have:=d.c 2;have:=d.f 2;go_wp2_with fail;refine zCi (d.put 2 0) fun J z=>?_;have q:=z.c 2;exact z.retM (b:=false) 0 rfl (by simp[results,results193,go_sem,q]) rfl (A.out.symm.trans (by
  unfold zDU;rw[if_neg (by rw[e.out];decide),if_neg (by rw[j.out];decide)]))
theorem zJw {C:Pc} {Q:Nat→Prop} {s:Ps} {w:World} (h:Pa C s w) (o:onP C.L [91] s=true→∀W,Pa C (zB s) W→zf C (zB s) W .assign) (p:∀b,Q b→C.g < b) (t:TrC w Q x [d0,d1,d2,d3,d4,d5,d6,d7,d8]) (h1:onP C.L [46] s=false) (u:onP C.L [91] s=true):
 Calls prog 193 #[C,.agg #[d0,d1,d2,d3,d4,d5,d6,d7,d8]] w (zXK C Q (zDU C.L (zE C.L) x s) w):=by
 generalize hr:zDU C.L (zE C.L) x s=r;have I:=zA hr;clear hr;refine zYS h p t fun HL J a3 W0 W R X v M y z N A=>?_;have B:=zA o;have k:=zA h1;have d:=zA u;clear h1 u;clear h t p o;go_enter func193,ntmps193;go_upto_region 1 with(fail);clear M v y z N;go_wp2_with fail;refine A.kM (zBd A.P [46] k) fun w1 D=>?_;go_wp2_with fail;refine D.kM (zBY D.P [91] d) fun w2 l=>?_;have E:=zA (fun Q=>l.dr.kD (Q:=Q) (B.out d _ l.dr.P));have:=l.c 1;go_wp2_with fail;go_region_law (first | (go_simp;go_at_call 122;(with_reducible refine E.out _ fun w3 O S T U V Y a0 a1 a2 m=>?_);have:=m.c 1;have F:=zA (fun Q=>m.litK 53 (n:=2) (Q:=Q) (m.ts2 0 3) rfl js rfl)) | (go_simp;go_at_call 31;(with_reducible refine F.out _ fun w4 e=>?_);have:=e.c 1;have:=e.f 1))
 all_goals
  have:=e.c 1;have:=e.f 1;go_upto_region 10 with(fail);refine zEf (e.put 1 4) fun w5 G=>?_;go_wp2_with fail;refine G.kN (zAH G.P [93]) fun w6 j=>?_;have:=j.c 1;have:=j.sto 4;have:=j.c 2;have:=j.f 2;go_wp2_with fail;refine zCi (j.put 2 4) fun V7 H=>?_;have q:=H.c 2;exact H.retM (b:=true) 4 rfl (by simp[results,results193,go_sem,q]) rfl (I.out.symm.trans (by
   unfold zDU;rw[if_neg (by rw[k.out];decide),if_pos d.out]))
theorem zLA {C:Pc} {Q:Nat→Prop} {s:Ps} {w:World} (h:Pa C s w) (u:onP C.L [91] s=true→∀W,Pa C (zB s) W→zf C (zB s) W .assign) (v:∀b,Q b→C.g < b) (y:TrC w Q x [d0,d1,d2,d3,d4,d5,d6,d7,d8]) (h1:onP C.L [46] s=true) (hk:(zH C.L (zB s).k).kind=1):
 Calls prog 193 #[C,.agg #[d0,d1,d2,d3,d4,d5,d6,d7,d8]] w (zXK C Q (zDU C.L (zE C.L) x s) w):=by
 generalize hr:zDU C.L (zE C.L) x s=r;have J:=zA hr;clear hr;refine zYS h v y fun M N U Y W R X z O A B S p=>?_;have V:=zA u;have m:=zA h1;have o:=zA hk;clear h1 hk;clear h y v u;go_enter func193,ntmps193;go_upto_region 1 with(fail);clear O z A B S;have:=p.sto 0;go_wp2_with fail;refine p.kM (zBY p.P [46] m) fun w1 D=>?_;obtain⟨⟨kd,tx,st,nk,nn,mg,ps,nl⟩,j⟩:=zR C.L (zB (s)).k;have d:=zA (show kd=1 from by have:=o.out;rwa[j.out]at this);have e5:((kd:Int) !=1)=false:=by have:=d.out;rw[bne_eq_false_iff_eq];omega
 go_wp2_with fail;refine D.kT (zj D.P j) fun w2 As Am c1 c2 T=>?_;have e:=T.bt 3 78 rfl;have E:=zA (M.out.lt (s:=zB s) e.P.hi (by rw[j.out];have:=d.out;show kd≠0;omega));have:=e.c 4;have:=e.c 1;obtain⟨F,G,H⟩:=e.k1;have l:=e.step E;have:=l.c 1;have:=l.c 4;go_wp2_with fail;clear F G H;refine l.litN _ _ (n:=1) (l.ts1 0) rfl js (show _=w2.heap.size+1 by simp) fun w5 t=>?_;have:=t.c 2;have:=t.f 2;go_wp2_with fail;refine zCi (t.put 2 5) fun V6 I=>?_;have q:=I.c 2;exact I.retM (b:=true) 5 rfl (by simp[results,results193,go_sem,q]) rfl (J.out.symm.trans (by
  unfold zDU;rw[if_pos m.out,if_neg (fun h=>by have:=o.out;omega),j.out]))
theorem zLB {C:Pc} {Q:Nat→Prop} {s:Ps} {w:World} (h:Pa C s w) (u:onP C.L [91] s=true→∀W,Pa C (zB s) W→zf C (zB s) W .assign) (v:∀b,Q b→C.g < b) (y:TrC w Q x [d0,d1,d2,d3,d4,d5,d6,d7,d8]) (h1:onP C.L [46] s=true) (hk:(zH C.L (zB s).k).kind=6):
 Calls prog 193 #[C,.agg #[d0,d1,d2,d3,d4,d5,d6,d7,d8]] w (zXK C Q (zDU C.L (zE C.L) x s) w):=by
 generalize hr:zDU C.L (zE C.L) x s=r;have J:=zA hr;clear hr;refine zYS h v y fun M N U Y W R X z O A B S p=>?_;have V:=zA u;have m:=zA h1;have o:=zA hk;clear h1 hk;clear h y v u;go_enter func193,ntmps193;go_upto_region 1 with(fail);clear O z A B S;have:=p.sto 0;go_wp2_with fail;refine p.kM (zBY p.P [46] m) fun w1 D=>?_;obtain⟨⟨kd,tx,st,nk,nn,mg,ps,nl⟩,j⟩:=zR C.L (zB (s)).k;have d:=zA (show kd=6 from by have:=o.out;rwa[j.out]at this);have e5:((kd:Int) !=1)=true:=by have:=d.out;rw[yBM];omega
 have e6:((kd:Int) !=6)=false:=by have:=d.out;rw[bne_eq_false_iff_eq];omega
 go_wp2_with fail;refine D.kT (zj D.P j) fun w2 As Am c1 c2 T=>?_;have e:=T.bt 3 78 rfl;have E:=zA (M.out.lt (s:=zB s) e.P.hi (by rw[j.out];have:=d.out;show kd≠0;omega));have:=e.c 4;have:=e.c 1;obtain⟨F,G,H⟩:=e.k1;have l:=e.step E;have:=l.c 1;have:=l.c 4;go_wp2_with fail;clear F G H;refine l.litN _ _ (n:=1) (l.ts1 0) rfl js (show _=w2.heap.size+1 by simp) fun w5 t=>?_;have:=t.c 2;have:=t.f 2;go_wp2_with fail;refine zCi (t.put 2 5) fun V6 I=>?_;have q:=I.c 2;exact I.retM (b:=true) 5 rfl (by simp[results,results193,go_sem,q]) rfl (J.out.symm.trans (by
  unfold zDU;rw[if_pos m.out,if_neg (fun h=>by have:=o.out;omega),j.out]))
theorem zN3 {C:Pc} {Q:Nat→Prop} {s:Ps} {w:World} (h:Pa C s w) (p:onP C.L [91] s=true→∀W,Pa C (zB s) W→zf C (zB s) W .assign) (t:∀b,Q b→C.g < b) (u:TrC w Q x [d0,d1,d2,d3,d4,d5,d6,d7,d8]) (h1:onP C.L [46] s=true) (hk:(zH C.L (zB s).k).kind≠1∧(zH C.L (zB s).k).kind≠6):
 Calls prog 193 #[C,.agg #[d0,d1,d2,d3,d4,d5,d6,d7,d8]] w (zXK C Q (zDU C.L (zE C.L) x s) w):=by
 generalize hr:zDU C.L (zE C.L) x s=r;have E:=zA hr;clear hr;refine zYS h t u fun N F J O W R X v G y z H m=>?_;have M:=zA p;have j:=zA h1;have l:=zA hk;clear h1 hk;clear h u t p;go_enter func193,ntmps193;go_upto_region 1 with(fail);clear G v y z H;have:=m.sto 0;go_wp2_with fail;refine m.kM (zBY m.P [46] j) fun w1 A=>?_;obtain⟨⟨kd,tx,S,nk,nn,T,ps,nl⟩,B⟩:=zR C.L (zB (s)).k;have d:=zA (show kd≠1∧kd≠6 from by have:=l.out;rwa[B.out]at this);have e5:((kd:Int) !=1)=true:=by have:=d.out.1;rw[yBM];omega
 have e6:((kd:Int) !=6)=true:=by have:=d.out.2;rw[yBM];omega
 go_wp2_with fail;refine A.kT (zj A.P B) fun w2 As Am c1 c2 I=>?_;have o:=I.bt 3 78 rfl;have:=o.c 4;go_wp2_with fail;refine o.kN (zAJ o.P) fun U e=>?_;have:=e.c 1;have:=e.c 2;have:=e.f 2;go_wp2_with fail;refine zCi (e.put 2 0) fun V D=>?_;have q:=D.c 2;exact D.retM (b:=false) 0 rfl (by simp[results,results193,go_sem,q]) rfl (E.out.symm.trans (by
  unfold zDU;rw[if_pos j.out,if_pos l.out]))
theorem zN4 {C:Pc} {Q:Nat→Prop} {s:Ps} {w:World} (h:Pa C s w) (c:onP C.L [91] s=true→∀W,Pa C (zB s) W→zf C (zB s) W .assign) (d:∀b,Q b→C.g < b) (e:TrC w Q x [d0,d1,d2,d3,d4,d5,d6,d7,d8]):
 Calls prog 193 #[C,.agg #[d0,d1,d2,d3,d4,d5,d6,d7,d8]] w (zXK C Q (zDU C.L (zE C.L) x s) w):=by
 cases h1:onP C.L [46] s with
 | false=>
  cases h2:onP C.L [91] s with
  | false=>exact zQx h c d e h1 h2
  | true=>exact zJw h c d e h1 h2
 | true=>
  by_cases k1:(zH C.L (zB s).k).kind=1
  · exact zLA h c d e h1 k1
  · by_cases k6:(zH C.L (zB s).k).kind=6
    · exact zLB h c d e h1 k6
    · exact zN3 h c d e h1 ⟨k1,k6⟩
theorem zQy {C:Pc} {Q:Nat→Prop} {c:Tr} {d:Bool} {s f:Ps} {w:World} (h:Pa C s w) (q:onP C.L [91] s=true→∀W,Pa C (zB s) W→zf C (zB s) W .assign) (r:∀b,Q b→C.g < b) (t:TrC w Q x [d0,d1,d2,d3,d4,d5,d6,d7,d8]) (u:zDU C.L (zE C.L) x s=((c,d),f)):
 Calls prog 193 #[C,.agg #[d0,d1,d2,d3,d4,d5,d6,d7,d8]] w (fun e w'=>∃j m1 m2 k l m m6 o p,e=.returned (.tuple #[.agg #[j,m1,m2,k,l,m,m6,o,p],d])∧TrC w' (fun b=>Q b∨w.heap.size≤b) c [j,m1,m2,k,l,m,m6,o,p]∧Pa C f w'∧w.grownBy w' (some C.g)):=by
 have:=zN4 h q r t;rwa[u]at this
theorem zMS {w w':World} {P Q F:Nat→Prop} {B n cp:Nat} {v':Value} {A:jQ} {l:List Tr} {t:Tr} {c ks:List Value}
 (r:TrC w Q t c) (j:RowK w Q (.slice A n cp) l ks F) (s:l.length=n) (hb:Bx w B 61 c) (k:∀b,Q b→b < w.heap.size→P b) (g:¬Q B) (m:P B) (u:P w.heap.size)
 (v:w'.ownsRow 0 61 9 v' (1+n) (c++ks)) (hg:w.grownBy w' (some B)) (o:v'.ownBlock=some B∨v'.ownBlock=some w.heap.size):RowP w' P v' (t::l):=by
 have p:Fz w (fun b=>Q b∧b < w.heap.size) (some B):=.box hb jd jd (fun h=>g h.1);have q:=hg.size;refine⟨c++ks,fun b=>Q b∧b < w.heap.size,?_,?_,?_,?_,?_⟩
 · rw[yAO,s,Nat.add_comm];exact v
 · intro b d;rcases o with e | e
   · rw[e]at d;injection d with d;subst d;exact m
   · rw[e]at d;injection d with d;subst d;exact u
 · refine .cons ?_ ?_
   · exact TrC.keep hg p _ _ (.sub (fun b d y=>⟨d,y⟩) _ _ r)
   · exact TrsC.keep hg p _ _ (.sub (fun b d _=>j.low b d) _ _ j.subs)
 · intro b d f;rcases o with e | e
   · rw[e]at d;injection d with d;subst d;exact g f.1
   · rw[e]at d;injection d with d;subst d;omega
 · intro b f;exact⟨k b f.1 f.2,yAA f.2 q⟩
section
variable {w:World} {P Q:Nat→Prop} {B n cp:Nat} {A:jQ} {l:List Tr} {t:Tr} {c0 c1 c2 c3 c4 c5 c6 c7 c8:Value}
theorem zXL (hb:Bx w B 61 [c0,c1,c2,c3,c4,c5,c6,c7,c8]) (k:TrC w Q t [c0,c1,c2,c3,c4,c5,c6,c7,c8]) (d:∀b,Q b→b < w.heap.size→P b) (f:¬Q B) (g:P B):RowP w P (.slice (some ⟨B,0,none⟩) 1 1) [t]:=by
 refine⟨[c0,c1,c2,c3,c4,c5,c6,c7,c8],fun b=>Q b∧b < w.heap.size,⟨rfl,.inr ⟨B,1,#[c0,c1,c2,c3,c4,c5,c6,c7,c8],rfl,yAE _,hb,yAC _,by unfold maxLen;omega,rfl,rfl⟩⟩,?_,?_,?_,fun b c=>⟨d b c.1 c.2,c.2⟩⟩
 · intro b e;simp only[Value.ownBlock,yCE]at e;subst e;exact g
 · exact .single (.sub (fun b j l=>⟨j,l⟩) _ _ k)
 · intro b e c;simp only[Value.ownBlock,yCE]at e;subst e;exact f c.1
theorem zUK (C:TypeId) (o:l.length=n) (hb:Bx w B 61 [c0,c1,c2,c3,c4,c5,c6,c7,c8]) (D:TrC w Q t [c0,c1,c2,c3,c4,c5,c6,c7,c8]) (M:RowP w Q (.slice A n cp) l) (r:∀b,Q b→b < w.heap.size→P b) (s:¬Q B) (v:P B) (E:P w.heap.size) (S:n≤4097):
 ∃p d w',(Builtin.append_ #[59,59] C #[.slice (some ⟨B,0,none⟩) 1 1,.slice A n cp]).run prog w=.ok (.slice p (n+1) d) w'∧RowP w' P (.slice p (n+1) d) (t::l)∧w.grownBy w' (some B):=by
 obtain⟨ks,F,hk⟩:=M;obtain⟨i,hi,G,H,I⟩:=info_parts Tryz.info_pnode;have k:w.ownsRow 0 61 9 (.slice (some ⟨B,0,none⟩) 1 1) 1 [c0,c1,c2,c3,c4,c5,c6,c7,c8]:=
  ⟨rfl,.inr ⟨B,1,#[c0,c1,c2,c3,c4,c5,c6,c7,c8],rfl,yAE _,hb,yAC _,by unfold maxLen;omega,rfl,rfl⟩⟩
 have c:=hk.own;rw[o]at c;rcases c.2 with⟨e,e0⟩ | ⟨g,cap,R,e,_,hg,h1,T,U,N⟩
 · injection e with e1 e2 e3;subst e1 e2 e3;have J:ks=[]:=yBB (by simpa using c.1);refine⟨some ⟨B,0,none⟩,1,w,?_,?_,⟨rfl,rfl,rfl,yAC _,fun _ _ _=>rfl⟩⟩
   · simp[Builtin.append_,run_underlying underlying59,sizeOf,typeInfo,hi,Builtin.lenOf,Builtin.firstCells,storeCells]
   · refine zMS D hk o hb r s v E ?_ ⟨rfl,rfl,rfl,yAC _,fun _ _ _=>rfl⟩ (.inl rfl);rw[J,yAS];exact k
 · injection e with e1 e2 e3;subst e1 e3;have q:∀j u,ks[j]? =some u→w.cell? ((⟨g,0,none⟩:Addr).add j)=some u:=by
    intro j u f;refine World.news_of_block hg j u ?_;rw[←N,List.getElem?_take]at f;split at f
    · exact f
    · cases f
   obtain⟨v',w',z,O,y,_,L⟩:=run_append_own_at (P:=prog) w 0 59 C 61 i _ 9 144 underlying59 hi G H I rfl jd (.slice (some ⟨B,0,none⟩) 1 1) 1 [c0,c1,c2,c3,c4,c5,c6,c7,c8] k ⟨g,0,none⟩ n cp ks c.1 q (fun u f=>yBH.1 (TrsC.one hk.subs) u f) (by unfold maxLen;omega) jo (yAE _);have m:=zMS D hk o hb r s v E O y (by
    rcases L with e | e
    · exact .inl e
    · exact .inr e)
   obtain⟨p,d,e',_⟩:=m.shape;rw[yAO,o]at e';subst e';exact⟨p,d,w',z,m,y⟩
theorem zQz {f:Act→World→Prop} {a:Act} {g:Exit→Act→World→Prop} (s x:Operand)
 (j:o.op=.call {callee:=.builtin .append,args:=#[s,x],argTypes:=#[59,59]})
 (hs:a.eval s=.slice (some ⟨B,0,none⟩) 1 1) (hx:a.eval x=.slice A n cp)
 (hn:l.length=n) (hb:Bx w B 61 [c0,c1,c2,c3,c4,c5,c6,c7,c8]) (ht:TrC w Q t [c0,c1,c2,c3,c4,c5,c6,c7,c8]) (hr:RowP w Q (.slice A n cp) l) (hQP:∀b,Q b→b < w.heap.size→P b) (hQB:¬Q B) (hPB:P B) (hP:P w.heap.size) (hl:n≤4097)
 (h:∀d c w',RowP w' P (.slice d (n+1) c) (t::l)→w.grownBy w' (some B)→f (a.put o.dst (.slice d (n+1) c)) w'):o.wp prog a w f g:=by
 obtain⟨d,c,w',e,h1,k⟩:=zUK (P:=P) o.type hn hb ht hr hQP hQB hPB hP hl;unfold Oper.wp execOp;simp only[j,resolve,invoke,builtin,Sem.run_bind,Sem.run_pure,Result.andThen_ok,List.map_toArray,List.map_cons,List.map_nil,hs,hx,e];exact h d c w' h1 k
theorem zQ0 {a:Act} (d:o.guard=none) (s x:Operand)
 (g:o.op=.call {callee:=.builtin .append,args:=#[s,x],argTypes:=#[59,59]})
 (hs:a.eval s=.slice (some ⟨B,0,none⟩) 1 1) (hx:a.eval x=.slice A n cp)
 (hn:l.length=n) (hb:Bx w B 61 [c0,c1,c2,c3,c4,c5,c6,c7,c8]) (ht:TrC w Q t [c0,c1,c2,c3,c4,c5,c6,c7,c8]) (hr:RowP w Q (.slice A n cp) l) (hQP:∀b,Q b→b < w.heap.size→P b) (hQB:¬Q B) (hPB:P B) (hP:P w.heap.size) (hl:n≤4097)
 (h:∀e c w',RowP w' P (.slice e (n+1) c) (t::l)→w.grownBy w' (some B)→K (a.put o.dst (.slice e (n+1) c)) w'):
 if Region.wanted o (yielded ops a.tmps)=true then Oper.wp prog o a w K f else E:=by
 have j:Region.wanted o (yielded ops a.tmps)=true:=by simp[Region.wanted,d]
 rw[if_pos j];exact zQz s x g hs hx hn hb ht hr hQP hQB hPB hP hl h
theorem zLC {a:Act} {e:Exit→Act→World→Prop} (f:o.guard=none) (s x:Operand)
 (g:o.op=.call {callee:=.builtin .append,args:=#[s,x],argTypes:=#[59,59]})
 (hs:a.eval s=.slice (some ⟨B,0,none⟩) 1 1) (hx:a.eval x=.slice A n cp)
 (hn:l.length=n) (hb:Bx w B 61 [c0,c1,c2,c3,c4,c5,c6,c7,c8]) (ht:TrC w Q t [c0,c1,c2,c3,c4,c5,c6,c7,c8]) (hr:RowP w Q (.slice A n cp) l) (hQP:∀b,Q b→b < w.heap.size→P b) (hQB:¬Q B) (hPB:P B) (hP:P w.heap.size) (hl:n≤4097)
 (h:∀d c w',RowP w' P (.slice d (n+1) c) (t::l)→w.grownBy w' (some B)→wpList prog ops e rest (a.put o.dst (.slice d (n+1) c)) w'):
 wpList prog ops e (o::rest) a w:=
 wpList_plain f fun _ j=>zQz s x g hs hx hn hb ht hr hQP hQB hPB hP hl fun d c w' h1 k=>j _ _ (h d c w' h1 k)
end
section
variable {C:Pc} {B:Nat→Prop} {a:World} {D:List Nat} {os:List Ob} {s s':Ps} {w w':World}
theorem Fr.kMb (F:Fr C B a D os s w) (j:Nat) {p:Tr} {q:Bool} {r:Ps} (u:os[j]? =some (.tr x [d0,d1,d2,d3,d4,d5,d6,d7,d8])) (v:onP C.L [91] s=true→∀W,Pa C (zB s) W→zf C (zB s) W .assign) (y:zDU C.L (zE C.L) x s=((p,q),r)) {Q:Ending→World→Prop} (k:∀w' c m1 m2 d e f m6 l o,Fr C B a D (os++[.tr p [c,m1,m2,d,e,f,m6,l,o]]) r w'→Q (.returned (.tuple #[.agg #[c,m1,m2,d,e,f,m6,l,o],q])) w'):Calls prog 193 #[C,.agg #[d0,d1,d2,d3,d4,d5,d6,d7,d8]] w Q:=
 (zQy F.P v (fun b hb=>F.out.bl b hb.1) (F.t j u) y).mono fun _ w' ⟨c,m1,m2,d,e,f,m6,l,o,h1,z,A,E⟩=>h1▸k w' c m1 m2 d e f m6 l o (.mk ((F.m A E).out.snoc (x:=.tr _ _) rfl (TrC.sub (fun _ hb _=>hb.elim id F.out.off) _ _ z)))
theorem Fr.kLX {f:FuncId} {args:Array Value} {p:Tr×Ps} (F:Fr C B a D os s w) (h:Calls prog f args w (LstQ C p w)) {Q:Ending→World→Prop} (k:∀x,Hid (p=x)→∀w' A n c,Hid (x.1.subs.length=n)→Fr C B a D (os++[.ro (.slice A n c) x.1.subs]) x.2 w'→Q (.returned (.slice A n c)) w'):Calls prog f args w Q:=
 F.kL h fun w' A n c h1 _ _ b=>k p (zA rfl) w' A n c h1 b
theorem FrR.join {T:TypeId} {cs:List Value} {v:Value} {l:List Tr} (F:FrR C B a (R::D) os s w) (hi:os[i]? =some (.bx R T cs)) (E:R∉D) (hg:w.grownBy w' (some R)) (p:RowP w' (Off B D) v l):FrR C B a D (os.set i (.vs [])++[.ro v l]) s w':=by
 obtain⟨h1,G,q,r⟩:=F.ob i _ hi;have u:=F.ds R js;have o:=zVx hi;have m:∀(j:Nat) (z:Ob),(os.set i (.vs []))[j]? =some z→(j=i∧z=.vs [])∨(j≠i∧os[j]? =some z):=by
  intro j z h;rw[yCQ]at h;split at h
  · rename_i e
    subst e
    (try rw[if_pos o]at h)
    injection h with h;exact .inl ⟨rfl,h.symm⟩
  · rename_i e;exact .inr ⟨fun h=>e h.symm,h⟩
 have hs:∀b,Off B (R::D) b→Off B D b:=fun b hb=>⟨hb.1,fun h=>hb.2 (yAV _ h)⟩;have A:FrR C B a D (os.set i (.vs [])) s w':=by
  refine⟨F.pa.grown hg (fun b hb=>by injection hb with hb;have:=F.lt;omega),zCF F.gr u.1 hg,F.bl,F.bh,fun b hb=>⟨(F.ds b (yAV _ hb)).1,yAA (F.ds b (yAV _ hb)).2 hg.size⟩,?_,?_⟩
  · intro j k y z R' d h6 c g;rcases m j y d with⟨_,rfl⟩ | ⟨_,d⟩
    · cases c
    rcases m k z h6 with⟨_,rfl⟩ | ⟨_,h6⟩
    · cases g
    exact F.nd j k y z R' d h6 c g
  · intro j y d;rcases m j y d with⟨_,rfl⟩ | ⟨h6,d⟩
    · trivial
    · have c:=(F.ob j y d).keep hg (.box h1 q r (fun h=>h.2 js)) (fun R' g e=>by injection e with e;subst e;exact h6 (F.nd j i y _ R d hi g rfl));cases y with
      | bx R' H f=>
       refine⟨c.1,?_,c.2.2⟩;rcases yAW.1 c.2.1 with e | e
       · subst e;exact absurd (F.nd j i _ _ R' d hi rfl rfl) h6
       · exact e
      | tr t f=>exact TrC.sub (fun b hb _=>hs b hb) _ _ c
      | tn lo t f=>exact⟨TrC.sub (fun b hb _=>⟨hs b hb.1,hb.2⟩) _ _ c.1,c.2⟩
      | ro v l=>exact RowP.sub c fun b hb _=>hs b hb
      | rn hi v l=>exact RowP.sub c fun b hb _=>⟨hs b hb.1,hb.2⟩
      | lf T v n xs=>exact c
      | vs f=>trivial
 exact A.snoc rfl p
theorem FrR.lone {j:Nat} {c0 c1 c2 c3 c4 c5 c6 c7 c8:Value} (F:FrR C B a (R::D) os s w) (hi:os[i]? =some (.bx R 61 [c0,c1,c2,c3,c4,c5,c6,c7,c8])) (c:os[j]? =some (.tr x [c0,c1,c2,c3,c4,c5,c6,c7,c8])) (d:R∉D):RowP w (Off B D) (.slice (some ⟨R,0,none⟩) 1 1) [x]:=
 zXL (F.ob i _ hi).1 (F.ob j _ c) (fun b hb _=>⟨hb.1,fun h=>hb.2 (yAV _ h)⟩) (fun h=>h.2 js) ⟨F.bh R (F.ds R js).1,d⟩
theorem Fr.joinS {k:Exit→Act→World→Prop} {n cp:Nat} {A:jQ} {l:List Tr} {t:Tr} {c0 c1 c2 c3 c4 c5 c6 c7 c8:Value} (F:Fr C B a (R::D) os s w) (i j m:Nat) (hi:os[i]? =some (.bx R 61 [c0,c1,c2,c3,c4,c5,c6,c7,c8])) (p:os[j]? =some (.tr t [c0,c1,c2,c3,c4,c5,c6,c7,c8])) (q:os[m]? =some (.ro (.slice A n cp) l)) (f:R∉D) (u:l.length=n) (v:n≤4097) (g:o.guard=none) (x y:Operand)
 (z:o.op=.call {callee:=.builtin .append,args:=#[x,y],argTypes:=#[59,59]})
 (hs:d.eval x=.slice (some ⟨R,0,none⟩) 1 1) (hx:d.eval y=.slice A n cp)
 (h:∀e c w',Fr C B a D (os.set i (.vs [])++[.ro (.slice e (n+1) c) (t::l)]) s w'→K (d.put o.dst (.slice e (n+1) c)) w'):
 if Region.wanted o (yielded ops d.tmps)=true then Oper.wp prog o d w K k else E:=
 zQ0 g x y z hs hx u (F.b i hi) (F.t j p) (F.r m q) (fun b hb _=>⟨hb.1,fun h=>hb.2 (yAV _ h)⟩) (fun h=>h.2 js) ⟨F.out.bh R (F.out.ds R js).1,f⟩ ⟨F.out.bh _ F.out.gr.size,fun h=>by have:=(F.out.ds _ (yAV _ h)).2;omega⟩ v fun e c w' h1 G=>h e c w' (.mk (F.out.join hi f G h1))
theorem Fr.joinL {n cp:Nat} {A:jQ} {l:List Tr} {t:Tr} {c0 c1 c2 c3 c4 c5 c6 c7 c8:Value} (F:Fr C B a (R::D) os s w) (i j m:Nat) (hi:os[i]? =some (.bx R 61 [c0,c1,c2,c3,c4,c5,c6,c7,c8])) (p:os[j]? =some (.tr t [c0,c1,c2,c3,c4,c5,c6,c7,c8])) (q:os[m]? =some (.ro (.slice A n cp) l)) (g:R∉D) (u:l.length=n) (v:n≤4097) (k:o.guard=none) (x y:Operand)
 (z:o.op=.call {callee:=.builtin .append,args:=#[x,y],argTypes:=#[59,59]})
 (hs:d.eval x=.slice (some ⟨R,0,none⟩) 1 1) (hx:d.eval y=.slice A n cp)
 (h:∀e c w',Fr C B a D (os.set i (.vs [])++[.ro (.slice e (n+1) c) (t::l)]) s w'→wpList prog ops f rest (d.put o.dst (.slice e (n+1) c)) w'):wpList prog ops f (o::rest) d w:=
 zLC k x y z hs hx u (F.b i hi) (F.t j p) (F.r m q) (fun b hb _=>⟨hb.1,fun h=>hb.2 (yAV _ h)⟩) (fun h=>h.2 js) ⟨F.out.bh R (F.out.ds R js).1,g⟩ ⟨F.out.bh _ F.out.gr.size,fun h=>by have:=(F.out.ds _ (yAV _ h)).2;omega⟩ v fun e c w' h1 E=>h e c w' (.mk (F.out.join hi g E h1))
theorem Fr.loneR {j:Nat} {c0 c1 c2 c3 c4 c5 c6 c7 c8:Value} (F:Fr C B a (R::D) os s w) (hi:os[i]? =some (.bx R 61 [c0,c1,c2,c3,c4,c5,c6,c7,c8])) (c:os[j]? =some (.tr x [c0,c1,c2,c3,c4,c5,c6,c7,c8])) (b:R∉D):Fr C B a D (os.set i (.vs [])++[.ro (.slice (some ⟨R,0,none⟩) 1 1) [x]]) s w:=.mk (F.out.join hi b ⟨rfl,rfl,rfl,yAC _,fun _ _ _=>rfl⟩ (F.out.lone hi c b))
end
theorem zQ1 {C:Pc} {s:Ps} {w:World}:zi C (.calls) s w (zf C s w (.calls)):=fun hp K h=>by
 refine zBG hp h fun o c4 b3 r W X HR O hX F0=>?_;have R:=zA K;clear K h hp;go_enter func190,ntmps190;go_wp2_with fail
 go_step3
 clear O hX;go_wp2_with fail;refine F0.kX (R.out.rank (q:=.head) ⟨F0.P.hi,trivial⟩ F0.P (yAC _) (by simp[zAa])) fun e D w1 a3 a4 a5 a6 a7 a8 a9 b0 b2 F1=>?_;have:=F1.sto 1;have F2:=F1.bt 1 61 rfl;have b4:=zA (show Adv C.L s (e.2) by have:=(zZ o (p:=.head) (s:=s) ⟨b3,trivial⟩).adv;rwa[D.out]at this);have b5:=zA (show zE C.L (.callsL e.1) e.2=r by
  refine Eq.trans ?_ HR;unfold zD;dsimp only;rw[D.out])
 go_wp2_with fail
 go_step3
 go_wp2_with fail
 go_loopg [5] (C.L.length - (e.2).k) (fun gk _ wr=>∃(d:Tr) (s':Ps) (e0 e1 e2 e3 e4 e5 e6 e7 e8:Value),C.L.length - s'.k≤gk∧s.k≤s'.k∧Hid (zE C.L (.callsL d) s'=r)∧Hid (Fr C (w.heap.size≤·) w [(w1.heap.size),X] [.bx X 61 [(0:Int),"",(),(0:Int),(0:Int),false,(),(),()],.bx (w1.heap.size) 61 [e0,e1,e2,e3,e4,e5,e6,e7,e8],.tr d [e0,e1,e2,e3,e4,e5,e6,e7,e8]] s' wr))
 case atStart=>exact⟨e.1,e.2,a3,a4,a5,a6,a7,a8,a9,b0,b2,by omega,b4.out.le,b5,F2.pk [(w1.heap.size),X] [0,2,1] js jd rfl js js⟩
 case round=>
  obtain⟨d,s',e0,e1,e2,e3,e4,e5,e6,e7,e8,c7,E,F,z⟩:=hrel;obtain⟨b1,U⟩:=jx (onP C.L [40] s');have t:=zA U;clear U;go_wp2_with fail;refine z.kB (zAi z.P [40] t) fun w4 l=>?_;cases b1 with
  | false=>
   obtain⟨⟨⟨xm,bm⟩,G⟩,A⟩:∃q,Hid (zDU C.L (zE C.L) d s'=q):=⟨_,zA rfl⟩;have V:=zA (by have Y:=zMR (x:=d) o l.P.hi;rw[A.out]at Y;exact Y);have:=l.c 1;go_wp2_with fail;refine l.kMb 2 rfl (fun h5 W O=>R.out.more (q:=.assign) ⟨O.hi,trivial⟩ O (show s.k < s'.k+1 by omega)) A fun w5 m0 m1 m2 m3 m4 m5 m6 m7 m8 F5=>?_;have:=F5.sto 3;have F6:=F5.bt 3 61 rfl;go_upto_region 5 with(fail);refine zEf F6 fun w7 m=>?_;cases bm with
   | true=>
    have:=m.c 4;have:=m.c 1;have:=m.f 1;have u:=zA (show zE C.L (.callsL d) s'=zE C.L (.callsL xm) G by
     rw[zJv o.out z.P.hi (by rw[t.out];decide),A.out];exact if_pos rfl)
    have c5:s'.k < G.k:=V.out.2.2 rfl;have c6:G.k≤C.L.length - 1:=V.out.2.1;go_wp2_with fail
    go_roundg (C.L.length - (G).k)
    case measure=>omega
    case rel=>
     exact⟨_,_,_,_,_,_,_,_,_,_,_,yAC _,jo,u.out.symm.trans F,(m.put 1 3).pk [(w1.heap.size),X] [0,1,3] js jd rfl js js⟩
   | false=>
    have u:=zA (show zE C.L (.callsL d) s'=(d,G) by
     rw[zJv o.out z.P.hi (by rw[t.out];decide),A.out];exact if_neg js)
    have:=m.c 1;have:=m.sto 2;have:=m.c 0;have:=m.f 0;go_wp2_with fail;exact m.fin 0 2 rfl (F.out.symm.trans u)
  | true=>
   have g:=zA (o.out.on z.P.hi t);have S:=zA (zZ o (p:=.args) (s:=s') ⟨z.P.hi,g⟩);have a0:=zA (zJo o g);have a1:=zA z.P.cx.n;have FA:=(l.bt 2 61 rfl).dr;have b6:=zA (fun Q=>FA.kLX (Q:=Q) (R.out.rank (q:=.args) ⟨FA.P.hi,g⟩ FA.P E (by simp[zAa])));have b7:=zA (fun Q=>l.dr.kLX (Q:=Q) (R.out.rank (q:=.args) ⟨l.dr.P.hi,g⟩ l.dr.P E (by simp[zAa])));have b8:=zA (fun h=>Nat.lt_irrefl _ (l.out.ds _ h).2);have:=l.c 1;go_wp2_with fail;go_region_law (first | (go_simp;go_at_call 192;first | ((with_reducible refine b6.out _ fun H v b9 A1 T c0 y B=>?_);have I:=zA (show T≤4097 by have:=a0.out;rw[v.out]at this;have:=y.out;have:=a1.out;omega);have:=B.c 1) | ((with_reducible refine b7.out _ fun H v b9 A1 T c0 y J=>?_);have I:=zA (show T≤4097 by have:=a0.out;rw[v.out]at this;have:=y.out;have:=a1.out;omega);have:=J.c 1;have c1:=zA (fun h=>Nat.lt_irrefl _ (J.out.ds _ h).2);have B:=J.bt 2 61 rfl)) | (refine B.joinS 3 2 4 rfl rfl rfl b8.out y.out I.out rfl _ _ rfl rfl rfl fun A3 a2 c2 j=>?_;have:=j.c 1;have:=j.f 1) | (refine B.joinS 4 2 3 rfl rfl rfl c1.out y.out I.out rfl _ _ rfl rfl rfl fun A3 a2 c2 j=>?_;have:=j.c 1;have:=j.f 1) | (go_simp;go_at_call 31;refine j.kQ (zAr 50 A3 (T+1) a2) fun c8 M=>?_;have:=M.c 1;have:=M.f 1))
   all_goals
    have c3:=M.rowK 5 rfl 50;have u:=zA (show zE C.L (.callsL d) s'=zE C.L (.callsL (trK 50 (d::H.1.subs))) H.2 by
     rw[zQ o.out (p:=.callsL d) ⟨(yAM g.out),trivial⟩];unfold zD;dsimp only;rw[if_pos t.out,v.out])
    have N:Eat C.L s' H.2:=(by have:=(show Eat C.L s' (zE C.L .args s').2 from S.out);rwa[v.out]at this);have c9:=N.more g;have d0:=N.adv.hi;clear N;go_wp2_with fail
    go_roundg (C.L.length - (H.2).k)
    case measure=>omega
    case rel=>
     exact⟨_,_,_,_,_,_,_,_,_,_,_,yAC _,jo,u.out.symm.trans F,(c3.put 1 6).pk [(w1.heap.size),X] [0,1,6] js jd rfl js js⟩
theorem zQ2 {C:Pc} {s:Ps} {w:World}:zi C (.head) s w (∀(_:onP C.L [110,101,119] s=false),zf C s w (.head)):=fun j K h b=>by
 refine zBG j h fun J m H r W X o p t k=>?_;have u:=zA K;clear K h j;go_enter func191,ntmps191;go_upto_region 1 with(fail);clear p t;have l:=zA b;clear b;go_wp2_with fail;refine k.kM (zBd k.P [110,101,119] l) fun w1 e=>?_;go_wp2_with fail;refine e.kX (u.out.rank (q:=.primary) ⟨e.P.hi,trivial⟩ e.P (yAC _) (by simp[zAa])) fun I g w2 v y z A B D E F G d=>?_;have:=d.sto 1;have:=d.c 0;have:=d.f 0;go_wp2_with fail;exact d.fin 0 1 rfl (o.out.symm.trans (by
  unfold zD;dsimp only;rw[if_neg (by rw[l.out];decide)];simp only[g.out]))
theorem zUL {C:Pc} {s:Ps} {w:World}:zi C (.head) s w (∀(_:onP C.L [110,101,119] s=true),zf C s w (.head)):=fun hp K h v=>by
 refine zBG hp h fun u c3 b1 r W X HR D hX F0=>?_;have U:=zA K;clear K h hp;go_enter func191,ntmps191;go_upto_region 1 with(fail);clear D hX;have V:=zA v;clear v;have b3:=zA (u.out.on b1 V);go_wp2_with fail;refine F0.kM (zBY F0.P [110,101,119] V) fun w1 Y=>?_;go_wp2_with fail;refine Y.kX (U.out.more (q:=.head) ⟨Y.P.hi,trivial⟩ Y.P (yAF s.k)) fun g y w2 a0 a1 a2 a3 a4 a5 a6 a7 a8 F2=>?_;have:=F2.sto 1;have F3:=F2.bt 1 61 rfl;have b4:=zA (show s.k < (g.2).k from yAA (yAF s.k) (show(zB s).k≤(g.2).k by have:=(zZ u (p:=.head) (s:=zB s) ⟨b3,trivial⟩).adv.le;rwa[y.out]at this));obtain⟨q,hq⟩:=jx (zE C.L (.headL g.1) g.2);have HQ:=zA hq;clear hq;have I:=zA (show r=(if onP C.L [40] q.2=true then(trK 51 (q.1::(zE C.L .args q.2).1.subs),(zE C.L .args q.2).2)else(trK 51 [q.1],q.2))from by
  refine HR.out.symm.trans ?_;unfold zD;dsimp only;rw[if_pos V.out,y.out,HQ.out])
 go_wp2_with fail
 go_loopg [4] (C.L.length) (fun gk v4 wr=>∃(l:Bool) (e:Tr) (s':Ps) (e0 e1 e2 e3 e4 e5 e6 e7 e8:Value),v4=.bool l∧(if l=true then C.L.length - s'.k else 0)≤gk∧s.k < s'.k∧Hid ((if l=true then zE C.L (.headL e) s' else(e,s'))=q)∧Fr C (w.heap.size≤·) w [(w2.heap.size),X] [.bx X 61 [(0:Int),"",(),(0:Int),(0:Int),false,(),(),()],.bx (w2.heap.size) 61 [e0,e1,e2,e3,e4,e5,e6,e7,e8],.tr e [e0,e1,e2,e3,e4,e5,e6,e7,e8]] s' wr)
 case atStart=>exact⟨true,g.1,g.2,a0,a1,a2,a3,a4,a5,a6,a7,a8,rfl,Nat.sub_le _ _,b4,HQ,F3.pk [(w2.heap.size),X] [0,2,1] js jd rfl js js⟩
 case round=>
  obtain⟨b5,e,s',e0,e1,e2,e3,e4,e5,e6,e7,e8,rfl,o,a9,J,d⟩:=hrel;cases b5 with
  | true=>
   have c4:C.L.length - s'.k≤gk:=by rw[if_pos rfl]at o;exact o
   clear o;have c7:=d.P.kN;have c8:=d.P.cx.n;obtain⟨⟨⟨E,l⟩,F⟩,m⟩:∃q,Hid (zDU C.L (zE C.L) e s'=q):=⟨_,zA rfl⟩;have z:=zA (by have M:=zMR (x:=e) u d.P.hi;rw[m.out]at M;exact M);have:=d.c 1;go_wp2_with fail;refine d.kMb 2 rfl (fun h5 W D=>U.out.more (q:=.assign) ⟨D.hi,trivial⟩ D (show s.k < s'.k+1 by omega)) m fun w4 m0 m1 m2 m3 m4 m5 m6 m7 m8 G=>?_;have:=G.sto 3;have b6:=zA (show(if l=true then zE C.L (.headL E) F else(E,F))=q from by
    refine Eq.trans (Eq.symm ?_) (show zE C.L (.headL e) s'=q by have h9:=J.out;simpa using h9);rw[zUJ u.out d.P.hi,m.out];cases l with
    | true=>rfl
    | false=>
     have hx:E=e:=by
      have:=zYT (L:=C.L) (R:=zE C.L) (x:=e) (s:=s') (by rw[m.out]);rwa[m.out]at this
     rw[hx])
   have c5:=z.out.1;have c6:=z.out.2.1;have b0:=z.out.2.2;have:=G.c 1;have:=G.f 1;go_wp2_with fail
   go_roundg (if l=true then C.L.length - F.k else 0)
   case measure=>
    cases l with
    | true=>rw[if_pos rfl];have:=b0 rfl;omega
    | false=>rw[ji];omega
   case rel=>exact⟨l,E,F,m0,m1,m2,m3,m4,m5,m6,m7,m8,rfl,yAC _,by omega,b6,(G.put 1 3).pk [(w2.heap.size),X] [0,1,3] js jd rfl js js⟩
  | false=>
   have N:=zA (show q=(e,s')from by have h9:=J.out;simpa using h9.symm);clear o;have:=d.sto 2;have:=d.c 1;have O:=zA (fun h=>Nat.lt_irrefl _ (d.out.ds _ h).2);have F5:=d.bt 2 61 rfl;obtain⟨b2,Q⟩:=jx (onP C.L [40] s');have t:=zA Q;clear Q;go_wp2_with fail;refine F5.kB (zAi F5.P [40] t) fun w6 H=>?_;cases b2 with
   | false=>
    have F7:=H.loneR (i:=3) (j:=2) rfl rfl O;go_wp2_with fail;refine F7.kQ (zAr _ _ _ _) fun w8 F8=>?_;have F9:=F8.rowK 4 rfl 51;have:=F9.c 0;have:=F9.f 0;go_wp2_with fail;exact F9.fin 0 5 rfl (by
     rw[I.out,N.out];dsimp only;rw[if_neg (by rw[t.out];decide)])
   | true=>
    have A:=zA (u.out.on d.P.hi t);have b7:=zA (zJo u A);have b8:=zA d.P.cx.n;go_wp2_with fail;refine H.kLX (U.out.more (q:=.args) ⟨H.P.hi,A⟩ H.P a9) fun ra S c9 A1 n1 d0 T b9=>?_;have c0:=zA (show n1≤4097 by have:=b7.out;rw[S.out]at this;have:=T.out;have:=b8.out;omega);go_wp2_with (at_builtin;refine b9.joinL 3 2 4 rfl rfl rfl O.out T.out c0.out rfl _ _ rfl rfl rfl fun A3 d1 d2 c1=>?_);go_wp2_with fail;refine c1.kQ (zAr _ _ _ _) fun d3 c2=>?_;have B:=c2.rowK 5 rfl 51;have:=B.c 0;have:=B.f 0;go_wp2_with fail;exact B.fin 0 6 rfl (by
     rw[I.out,N.out];dsimp only;rw[if_pos t.out,S.out])
theorem zUM {C:Pc} {s:Ps} {w:World}:zi C .head s w (zf C s w .head):=fun b K h=>by
 cases hon:onP C.L [110,101,119] s with
 | true=>exact zUL b K h hon
 | false=>exact zQ2 b K h hon
theorem zUN {C:Pc} {s:Ps} {w:World}:zi C (.loop) s w (∀(_:onP C.L [108,101,116] (zO C.L [40] (zB s))=true),zf C s w (.loop)):=fun hp K h N=>by
 refine zBG hp h fun M h2 j2 r W X HR hW hX F0=>?_;have HK:=zA K;have d5:=zA hp.2;clear K h hp;go_enter func155,ntmps155;go_upto_region 1 with(fail);clear hW hX;have d6:=zA N;clear N;have f6:=zA (za (w:=[40]) M (s:=zB s) d5);have j3:s.k < (zO C.L [40] (zB s)).k:=by have:=f6.out.adv.le;have:(zB s).k=s.k+1:=rfl;omega
 obtain⟨j4,j5,j6⟩:=F0.k1;have F1:=F0.step d5;go_wp2_with fail;refine F1.kN (zAH F1.P [40]) fun w2 F2=>?_;go_wp2_with fail;refine F2.made0 _ fun w3 F3=>?_;have F4:=F3.bt 1 61 rfl;go_wp2_with fail;refine F4.kB (zAi F4.P [108,101,116] d6) fun w5 F5=>?_;have O:=F5.nil;have f7:=zA (fun Q=>O.dr.kRX 3 rfl (Q:=Q) (HK.out.more (q:=.declares) ⟨O.dr.P.hi,trivial⟩ O.dr.P jo));have:=O.c 2;go_upto_region 5 with(fail)
 go_cut [20] (fun _ I=>∃(d:Tr×Ps) (A:jQ) (n cp:Nat),Hid (zE C.L (.declares) (zO C.L [40] (zB (s)))=d)∧Hid (n=1)∧Fr C (w.heap.size≤·) w [(w3.heap.size),X] [.bx X 61 [(0:Int),"",(),(0:Int),(0:Int),false,(),(),()],.bx (w3.heap.size) 61 [(10:Int),"",(),(0:Int),(0:Int),false,(),(),.slice A n cp],.ro (.slice A n cp) ([]++[d.1])] d.2 I)
 case first=>
  go_region_law (first | (go_simp;go_at_call 77;(with_reducible refine f7.out _ fun d l w7 e1 e2 e3 e4 e5 e6 e7 e8 e9 F7=>?_);have:=F7.c 2;have:=(F7.al (.cells #[e1,e2,e3,e4,e5,e6,e7,e8,e9] 61)).c 2) | (refine F7.snocS 3 4 rfl rfl (fun _ h=>h) js rfl _ _ rfl rfl rfl fun A8 d7 w8 F8=>?_;have:=F8.c 2;have:=F8.f 2))
  all_goals
   have F9:=F8.set 2 8 (.slice A8 (1) d7);go_wp2_with fail;go_meet;exact⟨d,A8,1,d7,l,zA rfl,F9.pk [(w3.heap.size),X] [0,2,3] js jd rfl js js⟩
 case rest=>
  obtain⟨b,h3,t,g4,B,u,R⟩:=hcut;obtain⟨h4,rfl⟩:∃x,x=wc:=⟨_,rfl⟩;have D:=zA (show Adv C.L (zO C.L [40] (zB (s))) b.2 by have:=(zZ M (p:=.declares) (s:=zO C.L [40] (zB (s))) ⟨O.P.hi,trivial⟩).adv;rwa[B.out]at this);have g5:s.k < b.2.k:=by have:=D.out.le;omega
  have f8:=zA (za (w:=[59]) M (s:=b.2) D.out.hi);have j7:s.k < (zO C.L [59] b.2).k:=by have:=f8.out.adv.le;omega
  go_wp2_with fail;refine R.kN (zAH R.P [59]) fun j8 E=>?_;have f0:=zA (fun Q=>E.dr.kRX 2 rfl (Q:=Q) (args:=#[C,.string ⟨#[59]⟩]) (HK.out.more (q:=.clause [59]) ⟨E.dr.P.hi,trivial⟩ E.dr.P jo));have:=E.c 1;have f1:t≤4097:=by have:=u.out;omega
  go_upto_region 8 with(fail)
  go_cut [36] (fun _ I=>∃(d:Tr×Ps) (A:jQ) (n cp:Nat),Hid (zE C.L (.clause [59]) (zO C.L [59] (b.2))=d)∧Hid (n=t+1)∧Fr C (w.heap.size≤·) w [(w3.heap.size),X] [.bx X 61 [(0:Int),"",(),(0:Int),(0:Int),false,(),(),()],.bx (w3.heap.size) 61 [(10:Int),"",(),(0:Int),(0:Int),false,(),(),.slice A n cp],.ro (.slice A n cp) ([]++[b.1]++[d.1])] d.2 I)
  case first=>
   go_region_law (first | (go_simp;go_at_call 172;(with_reducible refine f0.out _ fun d l j9 a6 a7 a8 a9 b0 b1 b2 b3 b4 S=>?_);have:=S.c 1;have:=(S.al (.cells #[a6,a7,a8,a9,b0,b1,b2,b3,b4] 61)).c 1) | (refine S.snocS 2 3 rfl rfl (fun _ h=>h) f1 rfl _ _ rfl rfl rfl fun d8 T k0 U=>?_;have:=U.c 1;have:=U.f 1))
   all_goals
    have f9:=U.set 1 8 (.slice d8 (t+1) T);go_wp2_with fail;go_meet;exact⟨d,d8,t+1,T,l,zA rfl,f9.pk [(w3.heap.size),X] [0,1,2] js jd rfl js js⟩
  case rest=>
   obtain⟨e,h5,v,g6,F,J,m⟩:=hcut;obtain⟨h6,rfl⟩:∃x,x=wc:=⟨_,rfl⟩;have V:=zA (show Adv C.L (zO C.L [59] (b.2)) e.2 by have:=(zZ M (p:=.clause [59]) (s:=zO C.L [59] (b.2)) ⟨E.P.hi,trivial⟩).adv;rwa[F.out]at this);have g7:s.k < e.2.k:=by have:=V.out.le;omega
   have f2:=zA (fun Q=>m.dr.kRX 2 rfl (Q:=Q) (args:=#[C,.string ⟨#[41]⟩]) (HK.out.more (q:=.clause [41]) ⟨m.dr.P.hi,trivial⟩ m.dr.P jo));have:=m.c 1;have f3:v≤4097:=by have:=u.out;have:=J.out;omega
   go_upto_region 9 with(fail)
   go_cut [43] (fun _ I=>∃(d:Tr×Ps) (A:jQ) (n cp:Nat),Hid (zE C.L (.clause [41]) (e.2)=d)∧Hid (n=v+1)∧Fr C (w.heap.size≤·) w [(w3.heap.size),X] [.bx X 61 [(0:Int),"",(),(0:Int),(0:Int),false,(),(),()],.bx (w3.heap.size) 61 [(10:Int),"",(),(0:Int),(0:Int),false,(),(),.slice A n cp],.ro (.slice A n cp) ([]++[b.1]++[e.1]++[d.1])] d.2 I)
   case first=>
    go_region_law (first | (go_simp;go_at_call 172;(with_reducible refine f2.out _ fun d l k2 b5 b6 b7 b8 b9 c0 c1 c2 c3 Y=>?_);have:=Y.c 1;have:=(Y.al (.cells #[b5,b6,b7,b8,b9,c0,c1,c2,c3] 61)).c 1) | (refine Y.snocS 2 3 rfl rfl (fun _ h=>h) f3 rfl _ _ rfl rfl rfl fun d9 a0 k3 a1=>?_;have:=a1.c 1;have:=a1.f 1))
    all_goals
     have g0:=a1.set 1 8 (.slice d9 (v+1) a0);go_wp2_with fail;go_meet;exact⟨d,d9,v+1,a0,l,zA rfl,g0.pk [(w3.heap.size),X] [0,1,2] js jd rfl js js⟩
   case rest=>
    obtain⟨j,h7,y,g8,G,c4,o⟩:=hcut;obtain⟨h8,rfl⟩:∃x,x=wc:=⟨_,rfl⟩;have a2:=zA (show Adv C.L (e.2) j.2 by have:=(zZ M (p:=.clause [41]) (s:=e.2) ⟨m.P.hi,trivial⟩).adv;rwa[G.out]at this);have g9:s.k < j.2.k:=by have:=a2.out.le;omega
    have f4:=zA (fun Q=>o.dr.kRX 2 rfl (Q:=Q) (HK.out.more (q:=.statement) ⟨o.dr.P.hi,trivial⟩ o.dr.P jo));have:=o.c 1;have f5:y≤4097:=by have:=u.out;have:=J.out;have:=c4.out;omega
    go_upto_region 10 with(fail)
    go_cut [50] (fun _ I=>∃(d:Tr×Ps) (A:jQ) (n cp:Nat),Hid (zE C.L (.statement) (j.2)=d)∧Hid (n=y+1)∧Fr C (w.heap.size≤·) w [(w3.heap.size),X] [.bx X 61 [(0:Int),"",(),(0:Int),(0:Int),false,(),(),()],.bx (w3.heap.size) 61 [(10:Int),"",(),(0:Int),(0:Int),false,(),(),.slice A n cp],.ro (.slice A n cp) ([]++[b.1]++[e.1]++[j.1]++[d.1])] d.2 I)
    case first=>
     go_region_law (first | (go_simp;go_at_call 82;(with_reducible refine f4.out _ fun d l k4 c5 c6 c7 c8 c9 d0 d1 d2 d3 a3=>?_);have:=a3.c 1;have:=(a3.al (.cells #[c5,c6,c7,c8,c9,d0,d1,d2,d3] 61)).c 1) | (refine a3.snocS 2 3 rfl rfl (fun _ h=>h) f5 rfl _ _ rfl rfl rfl fun e0 a4 k5 a5=>?_;have:=a5.c 1;have:=a5.f 1))
     all_goals
      have g1:=a5.set 1 8 (.slice e0 (y+1) a4);go_wp2_with fail;go_meet;exact⟨d,e0,y+1,a4,l,zA rfl,g1.pk [(w3.heap.size),X] [0,1,2] js jd rfl js js⟩
    case rest=>
     obtain⟨d4,h9,j0,h0,H,h1,z⟩:=hcut;obtain⟨j1,rfl⟩:∃x,x=wc:=⟨_,rfl⟩;have g2:=zA (show Adv C.L (j.2) d4.2 by have:=(zZ M (p:=.statement) (s:=j.2) ⟨o.P.hi,trivial⟩).adv;rwa[H.out]at this);have:=z.c 1;have:=z.c 0;have:=z.f 0;go_wp2_with fail;have g3:=z.rowK 2 rfl 10;exact g3.fin 0 3 rfl (HR.out.symm.trans (by
      unfold zD;dsimp only;simp[d6.out,B.out,F.out,G.out,H.out]))
theorem zN5 {C:Pc} {s:Ps} {w:World}:zi C (.loop) s w (∀(_:onP C.L [108,101,116] (zO C.L [40] (zB s))=false) (_:onP C.L [99,111,110,115,116] (zO C.L [40] (zB s))=true),zf C s w (.loop)):=fun hp K h N O=>by
 refine zBG hp h fun M h5 j5 r W X HR hW hX F0=>?_;have HK:=zA K;have d6:=zA hp.2;clear K h hp;go_enter func155,ntmps155;go_upto_region 1 with(fail);clear hW hX;have d7:=zA N;clear N;have d8:=zA O;clear O;have f8:=zA (za (w:=[40]) M (s:=zB s) d6);have j6:s.k < (zO C.L [40] (zB s)).k:=by have:=f8.out.adv.le;have:(zB s).k=s.k+1:=rfl;omega
 obtain⟨j7,j8,j9⟩:=F0.k1;have F1:=F0.step d6;go_wp2_with fail;refine F1.kN (zAH F1.P [40]) fun w2 F2=>?_;go_wp2_with fail;refine F2.made0 _ fun w3 F3=>?_;have F4:=F3.bt 1 61 rfl;go_wp2_with fail;refine F4.kB (zAi F4.P [108,101,116] d7) fun w5 F5=>?_;go_wp2_with fail;refine F5.kB (zAi F5.P [99,111,110,115,116] d8) fun w6 F6=>?_;have R:=F6.nil;have f9:=zA (fun Q=>R.dr.kRX 3 rfl (Q:=Q) (HK.out.more (q:=.declares) ⟨R.dr.P.hi,trivial⟩ R.dr.P jo));have:=R.c 2;go_upto_region 5 with(fail)
 go_cut [20] (fun _ I=>∃(d:Tr×Ps) (A:jQ) (n cp:Nat),Hid (zE C.L (.declares) (zO C.L [40] (zB (s)))=d)∧Hid (n=1)∧Fr C (w.heap.size≤·) w [(w3.heap.size),X] [.bx X 61 [(0:Int),"",(),(0:Int),(0:Int),false,(),(),()],.bx (w3.heap.size) 61 [(10:Int),"",(),(0:Int),(0:Int),false,(),(),.slice A n cp],.ro (.slice A n cp) ([]++[d.1])] d.2 I)
 case first=>
  go_region_law (first | (go_simp;go_at_call 77;(with_reducible refine f9.out _ fun d l w8 e3 e4 e5 e6 e7 e8 e9 f0 f1 F8=>?_);have:=F8.c 2;have:=(F8.al (.cells #[e3,e4,e5,e6,e7,e8,e9,f0,f1] 61)).c 2) | (refine F8.snocS 3 4 rfl rfl (fun _ h=>h) js rfl _ _ rfl rfl rfl fun A9 d9 w9 F9=>?_;have:=F9.c 2;have:=F9.f 2))
  all_goals
   have g0:=F9.set 2 8 (.slice A9 (1) d9);go_wp2_with fail;go_meet;exact⟨d,A9,1,d9,l,zA rfl,g0.pk [(w3.heap.size),X] [0,2,3] js jd rfl js js⟩
 case rest=>
  obtain⟨b,h6,t,g7,B,u,S⟩:=hcut;obtain⟨h7,rfl⟩:∃x,x=wc:=⟨_,rfl⟩;have D:=zA (show Adv C.L (zO C.L [40] (zB (s))) b.2 by have:=(zZ M (p:=.declares) (s:=zO C.L [40] (zB (s))) ⟨R.P.hi,trivial⟩).adv;rwa[B.out]at this);have g8:s.k < b.2.k:=by have:=D.out.le;omega
  have g1:=zA (za (w:=[59]) M (s:=b.2) D.out.hi);have k0:s.k < (zO C.L [59] b.2).k:=by have:=g1.out.adv.le;omega
  go_wp2_with fail;refine S.kN (zAH S.P [59]) fun k2 E=>?_;have f2:=zA (fun Q=>E.dr.kRX 2 rfl (Q:=Q) (args:=#[C,.string ⟨#[59]⟩]) (HK.out.more (q:=.clause [59]) ⟨E.dr.P.hi,trivial⟩ E.dr.P jo));have:=E.c 1;have f3:t≤4097:=by have:=u.out;omega
  go_upto_region 8 with(fail)
  go_cut [36] (fun _ I=>∃(d:Tr×Ps) (A:jQ) (n cp:Nat),Hid (zE C.L (.clause [59]) (zO C.L [59] (b.2))=d)∧Hid (n=t+1)∧Fr C (w.heap.size≤·) w [(w3.heap.size),X] [.bx X 61 [(0:Int),"",(),(0:Int),(0:Int),false,(),(),()],.bx (w3.heap.size) 61 [(10:Int),"",(),(0:Int),(0:Int),false,(),(),.slice A n cp],.ro (.slice A n cp) ([]++[b.1]++[d.1])] d.2 I)
  case first=>
   go_region_law (first | (go_simp;go_at_call 172;(with_reducible refine f2.out _ fun d l k3 a7 a8 a9 b0 b1 b2 b3 b4 b5 T=>?_);have:=T.c 1;have:=(T.al (.cells #[a7,a8,a9,b0,b1,b2,b3,b4,b5] 61)).c 1) | (refine T.snocS 2 3 rfl rfl (fun _ h=>h) f3 rfl _ _ rfl rfl rfl fun e0 U k4 V=>?_;have:=V.c 1;have:=V.f 1))
   all_goals
    have g2:=V.set 1 8 (.slice e0 (t+1) U);go_wp2_with fail;go_meet;exact⟨d,e0,t+1,U,l,zA rfl,g2.pk [(w3.heap.size),X] [0,1,2] js jd rfl js js⟩
  case rest=>
   obtain⟨e,h8,v,g9,F,J,m⟩:=hcut;obtain⟨h9,rfl⟩:∃x,x=wc:=⟨_,rfl⟩;have Y:=zA (show Adv C.L (zO C.L [59] (b.2)) e.2 by have:=(zZ M (p:=.clause [59]) (s:=zO C.L [59] (b.2)) ⟨E.P.hi,trivial⟩).adv;rwa[F.out]at this);have h0:s.k < e.2.k:=by have:=Y.out.le;omega
   have f4:=zA (fun Q=>m.dr.kRX 2 rfl (Q:=Q) (args:=#[C,.string ⟨#[41]⟩]) (HK.out.more (q:=.clause [41]) ⟨m.dr.P.hi,trivial⟩ m.dr.P jo));have:=m.c 1;have f5:v≤4097:=by have:=u.out;have:=J.out;omega
   go_upto_region 9 with(fail)
   go_cut [43] (fun _ I=>∃(d:Tr×Ps) (A:jQ) (n cp:Nat),Hid (zE C.L (.clause [41]) (e.2)=d)∧Hid (n=v+1)∧Fr C (w.heap.size≤·) w [(w3.heap.size),X] [.bx X 61 [(0:Int),"",(),(0:Int),(0:Int),false,(),(),()],.bx (w3.heap.size) 61 [(10:Int),"",(),(0:Int),(0:Int),false,(),(),.slice A n cp],.ro (.slice A n cp) ([]++[b.1]++[e.1]++[d.1])] d.2 I)
   case first=>
    go_region_law (first | (go_simp;go_at_call 172;(with_reducible refine f4.out _ fun d l k5 b6 b7 b8 b9 c0 c1 c2 c3 c4 a0=>?_);have:=a0.c 1;have:=(a0.al (.cells #[b6,b7,b8,b9,c0,c1,c2,c3,c4] 61)).c 1) | (refine a0.snocS 2 3 rfl rfl (fun _ h=>h) f5 rfl _ _ rfl rfl rfl fun e1 a1 k6 a2=>?_;have:=a2.c 1;have:=a2.f 1))
    all_goals
     have g3:=a2.set 1 8 (.slice e1 (v+1) a1);go_wp2_with fail;go_meet;exact⟨d,e1,v+1,a1,l,zA rfl,g3.pk [(w3.heap.size),X] [0,1,2] js jd rfl js js⟩
   case rest=>
    obtain⟨j,j0,y,h1,G,c5,o⟩:=hcut;obtain⟨j1,rfl⟩:∃x,x=wc:=⟨_,rfl⟩;have a3:=zA (show Adv C.L (e.2) j.2 by have:=(zZ M (p:=.clause [41]) (s:=e.2) ⟨m.P.hi,trivial⟩).adv;rwa[G.out]at this);have h2:s.k < j.2.k:=by have:=a3.out.le;omega
    have f6:=zA (fun Q=>o.dr.kRX 2 rfl (Q:=Q) (HK.out.more (q:=.statement) ⟨o.dr.P.hi,trivial⟩ o.dr.P jo));have:=o.c 1;have f7:y≤4097:=by have:=u.out;have:=J.out;have:=c5.out;omega
    go_upto_region 10 with(fail)
    go_cut [50] (fun _ I=>∃(d:Tr×Ps) (A:jQ) (n cp:Nat),Hid (zE C.L (.statement) (j.2)=d)∧Hid (n=y+1)∧Fr C (w.heap.size≤·) w [(w3.heap.size),X] [.bx X 61 [(0:Int),"",(),(0:Int),(0:Int),false,(),(),()],.bx (w3.heap.size) 61 [(10:Int),"",(),(0:Int),(0:Int),false,(),(),.slice A n cp],.ro (.slice A n cp) ([]++[b.1]++[e.1]++[j.1]++[d.1])] d.2 I)
    case first=>
     go_region_law (first | (go_simp;go_at_call 82;(with_reducible refine f6.out _ fun d l k7 c6 c7 c8 c9 d0 d1 d2 d3 d4 a4=>?_);have:=a4.c 1;have:=(a4.al (.cells #[c6,c7,c8,c9,d0,d1,d2,d3,d4] 61)).c 1) | (refine a4.snocS 2 3 rfl rfl (fun _ h=>h) f7 rfl _ _ rfl rfl rfl fun e2 a5 k8 a6=>?_;have:=a6.c 1;have:=a6.f 1))
     all_goals
      have g4:=a6.set 1 8 (.slice e2 (y+1) a5);go_wp2_with fail;go_meet;exact⟨d,e2,y+1,a5,l,zA rfl,g4.pk [(w3.heap.size),X] [0,1,2] js jd rfl js js⟩
    case rest=>
     obtain⟨d5,j2,j3,h3,H,h4,z⟩:=hcut;obtain⟨j4,rfl⟩:∃x,x=wc:=⟨_,rfl⟩;have g5:=zA (show Adv C.L (j.2) d5.2 by have:=(zZ M (p:=.statement) (s:=j.2) ⟨o.P.hi,trivial⟩).adv;rwa[H.out]at this);have:=z.c 1;have:=z.c 0;have:=z.f 0;go_wp2_with fail;have g6:=z.rowK 2 rfl 10;exact g6.fin 0 3 rfl (HR.out.symm.trans (by
      unfold zD;dsimp only;simp[d7.out,d8.out,B.out,F.out,G.out,H.out]))
theorem zLD {C:Pc} {s:Ps} {w:World}:zi C (.loop) s w (∀(_:onP C.L [108,101,116] (zO C.L [40] (zB s))=false) (_:onP C.L [99,111,110,115,116] (zO C.L [40] (zB s))=false),zf C s w (.loop)):=fun hp K h J M=>by
 refine zBG hp h fun N h3 j3 r W X HR hW hX F0=>?_;have HK:=zA K;have d5:=zA hp.2;clear K h hp;go_enter func155,ntmps155;go_upto_region 1 with(fail);clear hW hX;have d6:=zA J;clear J;have d7:=zA M;clear M;have f7:=zA (za (w:=[40]) N (s:=zB s) d5);have j4:s.k < (zO C.L [40] (zB s)).k:=by have:=f7.out.adv.le;have:(zB s).k=s.k+1:=rfl;omega
 obtain⟨j5,j6,j7⟩:=F0.k1;have F1:=F0.step d5;go_wp2_with fail;refine F1.kN (zAH F1.P [40]) fun w2 F2=>?_;go_wp2_with fail;refine F2.made0 _ fun w3 F3=>?_;have F4:=F3.bt 1 61 rfl;go_wp2_with fail;refine F4.kB (zAi F4.P [108,101,116] d6) fun w5 F5=>?_;go_wp2_with fail;refine F5.kB (zAi F5.P [99,111,110,115,116] d7) fun w6 F6=>?_;have O:=F6.nil;have f8:=zA (fun Q=>O.dr.kRX 3 rfl (Q:=Q) (args:=#[C,.string ⟨#[59]⟩]) (HK.out.more (q:=.clause [59]) ⟨O.dr.P.hi,trivial⟩ O.dr.P jo));have:=O.c 2;go_upto_region 7 with(fail)
 go_cut [29] (fun _ H=>∃(b:Tr×Ps) (A:jQ) (n cp:Nat),Hid (zE C.L (.clause [59]) (zO C.L [40] (zB (s)))=b)∧Hid (n=1)∧Fr C (w.heap.size≤·) w [(w3.heap.size),X] [.bx X 61 [(0:Int),"",(),(0:Int),(0:Int),false,(),(),()],.bx (w3.heap.size) 61 [(10:Int),"",(),(0:Int),(0:Int),false,(),(),.slice A n cp],.ro (.slice A n cp) ([]++[b.1])] b.2 H)
 case first=>
  go_region_law (first | (go_simp;go_at_call 172;(with_reducible refine f8.out _ fun b l w8 e2 e3 e4 e5 e6 e7 e8 e9 f0 F8=>?_);have:=F8.c 2;have:=(F8.al (.cells #[e2,e3,e4,e5,e6,e7,e8,e9,f0] 61)).c 2) | (refine F8.snocS 3 4 rfl rfl (fun _ h=>h) js rfl _ _ rfl rfl rfl fun A9 d8 w9 F9=>?_;have:=F9.c 2;have:=F9.f 2))
  all_goals
   have f9:=F9.set 2 8 (.slice A9 (1) d8);go_wp2_with fail;go_meet;exact⟨b,A9,1,d8,l,zA rfl,f9.pk [(w3.heap.size),X] [0,2,3] js jd rfl js js⟩
 case rest=>
  obtain⟨d,h4,u,g5,D,v,m⟩:=hcut;obtain⟨h5,rfl⟩:∃x,x=wc:=⟨_,rfl⟩;have R:=zA (show Adv C.L (zO C.L [40] (zB (s))) d.2 by have:=(zZ N (p:=.clause [59]) (s:=zO C.L [40] (zB (s))) ⟨O.P.hi,trivial⟩).adv;rwa[D.out]at this);have g6:s.k < d.2.k:=by have:=R.out.le;omega
  have f1:=zA (fun Q=>m.dr.kRX 2 rfl (Q:=Q) (args:=#[C,.string ⟨#[59]⟩]) (HK.out.more (q:=.clause [59]) ⟨m.dr.P.hi,trivial⟩ m.dr.P jo));have:=m.c 1;have f2:u≤4097:=by have:=v.out;omega
  go_upto_region 8 with(fail)
  go_cut [36] (fun _ H=>∃(b:Tr×Ps) (A:jQ) (n cp:Nat),Hid (zE C.L (.clause [59]) (d.2)=b)∧Hid (n=u+1)∧Fr C (w.heap.size≤·) w [(w3.heap.size),X] [.bx X 61 [(0:Int),"",(),(0:Int),(0:Int),false,(),(),()],.bx (w3.heap.size) 61 [(10:Int),"",(),(0:Int),(0:Int),false,(),(),.slice A n cp],.ro (.slice A n cp) ([]++[d.1]++[b.1])] b.2 H)
  case first=>
   go_region_law (first | (go_simp;go_at_call 172;(with_reducible refine f1.out _ fun b l j8 a6 a7 a8 a9 b0 b1 b2 b3 b4 S=>?_);have:=S.c 1;have:=(S.al (.cells #[a6,a7,a8,a9,b0,b1,b2,b3,b4] 61)).c 1) | (refine S.snocS 2 3 rfl rfl (fun _ h=>h) f2 rfl _ _ rfl rfl rfl fun d9 T j9 U=>?_;have:=U.c 1;have:=U.f 1))
   all_goals
    have g0:=U.set 1 8 (.slice d9 (u+1) T);go_wp2_with fail;go_meet;exact⟨b,d9,u+1,T,l,zA rfl,g0.pk [(w3.heap.size),X] [0,1,2] js jd rfl js js⟩
  case rest=>
   obtain⟨e,h6,y,g7,E,I,o⟩:=hcut;obtain⟨h7,rfl⟩:∃x,x=wc:=⟨_,rfl⟩;have V:=zA (show Adv C.L (d.2) e.2 by have:=(zZ N (p:=.clause [59]) (s:=d.2) ⟨m.P.hi,trivial⟩).adv;rwa[E.out]at this);have g8:s.k < e.2.k:=by have:=V.out.le;omega
   have f3:=zA (fun Q=>o.dr.kRX 2 rfl (Q:=Q) (args:=#[C,.string ⟨#[41]⟩]) (HK.out.more (q:=.clause [41]) ⟨o.dr.P.hi,trivial⟩ o.dr.P jo));have:=o.c 1;have f4:y≤4097:=by have:=v.out;have:=I.out;omega
   go_upto_region 9 with(fail)
   go_cut [43] (fun _ H=>∃(b:Tr×Ps) (A:jQ) (n cp:Nat),Hid (zE C.L (.clause [41]) (e.2)=b)∧Hid (n=y+1)∧Fr C (w.heap.size≤·) w [(w3.heap.size),X] [.bx X 61 [(0:Int),"",(),(0:Int),(0:Int),false,(),(),()],.bx (w3.heap.size) 61 [(10:Int),"",(),(0:Int),(0:Int),false,(),(),.slice A n cp],.ro (.slice A n cp) ([]++[d.1]++[e.1]++[b.1])] b.2 H)
   case first=>
    go_region_law (first | (go_simp;go_at_call 172;(with_reducible refine f3.out _ fun b l k0 b5 b6 b7 b8 b9 c0 c1 c2 c3 Y=>?_);have:=Y.c 1;have:=(Y.al (.cells #[b5,b6,b7,b8,b9,c0,c1,c2,c3] 61)).c 1) | (refine Y.snocS 2 3 rfl rfl (fun _ h=>h) f4 rfl _ _ rfl rfl rfl fun e0 a0 k2 a1=>?_;have:=a1.c 1;have:=a1.f 1))
    all_goals
     have g1:=a1.set 1 8 (.slice e0 (y+1) a0);go_wp2_with fail;go_meet;exact⟨b,e0,y+1,a0,l,zA rfl,g1.pk [(w3.heap.size),X] [0,1,2] js jd rfl js js⟩
   case rest=>
    obtain⟨j,h8,z,g9,F,c4,t⟩:=hcut;obtain⟨h9,rfl⟩:∃x,x=wc:=⟨_,rfl⟩;have a2:=zA (show Adv C.L (e.2) j.2 by have:=(zZ N (p:=.clause [41]) (s:=e.2) ⟨o.P.hi,trivial⟩).adv;rwa[F.out]at this);have h0:s.k < j.2.k:=by have:=a2.out.le;omega
    have f5:=zA (fun Q=>t.dr.kRX 2 rfl (Q:=Q) (HK.out.more (q:=.statement) ⟨t.dr.P.hi,trivial⟩ t.dr.P jo));have:=t.c 1;have f6:z≤4097:=by have:=v.out;have:=I.out;have:=c4.out;omega
    go_upto_region 10 with(fail)
    go_cut [50] (fun _ H=>∃(b:Tr×Ps) (A:jQ) (n cp:Nat),Hid (zE C.L (.statement) (j.2)=b)∧Hid (n=z+1)∧Fr C (w.heap.size≤·) w [(w3.heap.size),X] [.bx X 61 [(0:Int),"",(),(0:Int),(0:Int),false,(),(),()],.bx (w3.heap.size) 61 [(10:Int),"",(),(0:Int),(0:Int),false,(),(),.slice A n cp],.ro (.slice A n cp) ([]++[d.1]++[e.1]++[j.1]++[b.1])] b.2 H)
    case first=>
     go_region_law (first | (go_simp;go_at_call 82;(with_reducible refine f5.out _ fun b l k3 c5 c6 c7 c8 c9 d0 d1 d2 d3 a3=>?_);have:=a3.c 1;have:=(a3.al (.cells #[c5,c6,c7,c8,c9,d0,d1,d2,d3] 61)).c 1) | (refine a3.snocS 2 3 rfl rfl (fun _ h=>h) f6 rfl _ _ rfl rfl rfl fun e1 a4 k4 a5=>?_;have:=a5.c 1;have:=a5.f 1))
     all_goals
      have g2:=a5.set 1 8 (.slice e1 (z+1) a4);go_wp2_with fail;go_meet;exact⟨b,e1,z+1,a4,l,zA rfl,g2.pk [(w3.heap.size),X] [0,1,2] js jd rfl js js⟩
    case rest=>
     obtain⟨d4,j0,j1,h1,G,h2,B⟩:=hcut;obtain⟨j2,rfl⟩:∃x,x=wc:=⟨_,rfl⟩;have g3:=zA (show Adv C.L (j.2) d4.2 by have:=(zZ N (p:=.statement) (s:=j.2) ⟨t.P.hi,trivial⟩).adv;rwa[G.out]at this);have:=B.c 1;have:=B.c 0;have:=B.f 0;go_wp2_with fail;have g4:=B.rowK 2 rfl 10;exact g4.fin 0 3 rfl (HR.out.symm.trans (by
      unfold zD;dsimp only;simp[d6.out,d7.out,D.out,E.out,F.out,G.out]))
theorem zUO {C:Pc} {s:Ps} {w:World}:zi C .loop s w (zf C s w .loop):=fun b K h=>by
 cases b1:onP C.L [108,101,116] (zO C.L [40] (zB s))with
 | true=>exact zUN b K h b1
 | false=>
  cases b2:onP C.L [99,111,110,115,116] (zO C.L [40] (zB s))with
  | true=>exact zN5 b K h b1 b2
  | false=>exact zLD b K h b1 b2
theorem zJx {C:Pc} {s:Ps} {w:World}:zi C (.declares) s w (zf C s w (.declares)):=fun hp K h=>by
 refine zBG hp h fun o b8 Y r W X HR hW hX F0=>?_;have HK:=zA K;clear K h hp;go_enter func77,ntmps77;go_upto_region 1 with(fail);clear hW hX;go_wp2_with fail;refine F0.made0 _ fun w1 F1=>?_;have F2:=F1.bt 1 61 rfl;obtain⟨b,hb⟩:=jx (onP C.L [99,111,110,115,116] s);have S:=zA hb;clear hb;go_wp2_with fail;refine F2.kM (zA1 F2.P [99,111,110,115,116] S) fun w3 F3=>?_
 go_upto_if 7 with(fail)
 go_cut [8] (fun _ wx=>∃(kz:Int) (s1:Ps),Hid (zE C.L (.declL kz []) s1=r)∧s.k≤s1.k∧Fr C (w.heap.size≤·) w [(w1.heap.size),X] [.bx X 61 [(0:Int),"",(),(0:Int),(0:Int),false,(),(),()],.bx (w1.heap.size) 61 [kz,"",(),(0:Int),(0:Int),false,(),(),()]] s1 wx)
 case first=>
  cases b with
  | true=>
   have F4:=(show Fr _ _ _ _ _ (zB s) _ from F3);have a0:=zA (o.out.on Y S);go_wp2_with fail;refine F4.made0 _ fun w5 F5=>?_;have:=F5.c 2;have:=F5.f 2;go_wp2_with fail;go_meet;exact⟨6,zB s,zA (by
    refine Eq.trans ?_ HR;unfold zD;dsimp only;rw[if_pos S.out]),Nat.le_succ _,(F5.put 2 3).pk [(w1.heap.size),X] [0,2] js jd rfl js js⟩
  | false=>
   have F6:=(show Fr _ _ _ _ _ (s) _ from F3);go_wp2_with fail;refine F6.kN (zAH F6.P [108,101,116]) fun w7 F7=>?_;go_wp2_with fail;go_meet;exact⟨5,zO C.L [108,101,116] s,zA (by
    refine Eq.trans ?_ HR;unfold zD;dsimp only;rw[if_neg (by rw[S.out];decide)]),(za (w:=[108,101,116]) o Y).adv.le,F7.pk [(w1.heap.size),X] [0,2] js jd rfl js js⟩
 case rest=>
  obtain⟨k,s1,a6,a7,Fq⟩:=hcut;obtain⟨wq,rfl⟩:∃x,x=wc:=⟨_,rfl⟩;go_wp2_with fail
  go_loopg [4] (C.L.length - s1.k) (fun gk _ wr=>∃(j:List Tr) (s':Ps) (A:jQ) (n cp:Nat),C.L.length - s'.k≤gk∧s.k≤s'.k∧n≤s'.k∧Hid (zE C.L (.declL k j) s'=r)∧Fr C (w.heap.size≤·) w [(w1.heap.size),X] [.bx X 61 [(0:Int),"",(),(0:Int),(0:Int),false,(),(),()],.bx (w1.heap.size) 61 [k,"",(),(0:Int),(0:Int),false,(),(),.slice A n cp],.ro (.slice A n cp) j] s' wr)
  case atStart=>exact⟨[],s1,none,0,0,yAC _,a7,yAE _,a6,Fq.nil.pk [(w1.heap.size),X] [0,1,2] js jd rfl js js⟩
  case round=>
   obtain⟨j,s',A,n,cp,c1,b9,c2,I,z⟩:=hrel;obtain⟨⟨m,d⟩,t⟩:∃q,Hid (ze C.L s'=q):=⟨_,zA rfl⟩;have a8:=zA (show Calls prog 80 #[C] wr (zY6 C (m,d) wr) by have:=zD8 z.P;rwa[t.out]at this);have B:=zA (show Eat C.L s' d by have:=zA7 o z.P.hi;rwa[t.out]at this);go_wp2_with fail;refine z.kS2 a8 fun w8 F8=>?_;go_wp2_with fail;refine F8.named0 _ m fun T F9=>?_;have a1:=F9.bt 3 61 rfl;obtain⟨be,a2⟩:=jx (onP C.L [61] d);have D:=zA a2;clear a2;go_wp2_with fail;refine a1.kM (zA1 a1.P [61] D) fun c3 a3=>?_
   go_upto_if 15 with(fail)
   go_cut [16] (fun _ wx=>∃(l:List Tr) (e:Ps) (Ad:jQ) (nd J lo:Nat),Hid ((if onP C.L [61] d=true then(trN 7 m [(zE C.L .assign (zB d)).1],(zE C.L .assign (zB d)).2)else(trN 7 m [],d))=(trN 7 m l,e))∧Hid (Adv C.L d e)∧Fr C (w.heap.size≤·) w [(T.heap.size),(w1.heap.size),X] [.bx X 61 [(0:Int),"",(),(0:Int),(0:Int),false,(),(),()],.bx (w1.heap.size) 61 [k,"",(),(0:Int),(0:Int),false,(),(),.slice A n cp],.rn lo (.slice A n cp) j,.bx (T.heap.size) 61 [(7:Int),m,(),(0:Int),(0:Int),false,(),(),.slice Ad nd J],.tn lo (trN 7 m l) [(7:Int),m,(),(0:Int),(0:Int),false,(),(),.slice Ad nd J]] e wx)
   case first=>
    cases be with
    | true=>
     have u:=(show Fr _ _ _ _ _ (zB d) _ from a3);have a0:=zA (o.out.on B.out.adv.hi D);have a9:s.k < (zB d).k:=by have:=B.out.adv.le;have:(zB d).k=d.k+1:=rfl;omega
     have b0:=zA (fun Q=>u.dr.kRX 2 rfl (Q:=Q) (HK.out.more (q:=.assign) ⟨u.dr.P.hi,trivial⟩ u.dr.P a9));have:=u.c 4;go_wp2_with fail;go_region_law (first | (go_simp;go_at_call 122;(with_reducible refine b0.out _ fun rq a4 wa d0 d1 d2 d3 d4 d5 d6 d7 d8 Fa=>?_);have:=Fa.c 4;have:=(Fa.al (.cells #[d0,d1,d2,d3,d4,d5,d6,d7,d8] 61)).c 4) | (refine Fa.snoc0 5 7 m rfl rfl _ _ rfl rfl rfl fun M v wb Fb=>?_;have:=Fb.c 4;have:=Fb.f 4))
     all_goals
      have Fc:=Fb.set 4 8 (.slice M 1 v);go_wp2_with fail;go_meet;exact⟨[rq.1],rq.2,M,1,v,_,zA (by rw[if_pos D.out,a4.out]),zA ((zAL a0).trans (by have:=(zZ o (p:=.assign) (s:=zB d) ⟨u.P.hi,trivial⟩).adv;rwa[a4.out]at this)),Fc.pk3 [(T.heap.size),(w1.heap.size),X] [0,1,2,4,6] js jd rfl js js js⟩
    | false=>
     have b1:=(show Fr _ _ _ _ _ (d) _ from a3);go_wp2_with fail;go_meet;exact⟨[],d,none,0,0,_,zA (if_neg (by rw[D.out];decide)),zA (Adv.refl B.out.adv.hi),((b1.nar 2 rfl).leafM 7 m).pk3 [(T.heap.size),(w1.heap.size),X] [0,1,2,4,5] js jd rfl js js js⟩
   case rest=>
    obtain⟨l,e,Ad,nd,J,lo,N,a5,U⟩:=hcut;obtain⟨we,rfl⟩:∃x,x=wc:=⟨_,rfl⟩;have:=U.c 3;have:=U.c 1;have b2:n≤4097:=by have:=U.P.cx.n;have:=z.P.hi;omega
    go_wp2_with (at_builtin;refine U.snocL 2 4 rfl rfl (fun _ h=>h) b2 rfl _ _ rfl rfl rfl fun M v w3 Ff=>?_;have:=Ff.c 1;have:=Ff.f 1);have V:=Ff.set 1 8 (.slice M (n+1) v);have c4:=a5.out.le;have c5:=B.out.adv.le
    by_cases hb:e.bad=0
    · have O:=zA (show(e.bad==0)=true by rw[hb];rfl);have E:=zA hb;clear hb;go_wp2_with fail;refine V.kB (zBe V.P O) fun c6 F=>?_
      by_cases y:onP C.L [44] e=true
      · have R:=zA y;have b3:=zA (o.out.on a5.out.hi y);clear y;go_wp2_with fail;refine F.kM (zBY F.P [44] R) fun c7 b4=>?_;have b5:=zA (show zE C.L (.declL k (j++[trN 7 m l])) (zB e)=r from Eq.trans (Eq.symm (by
         rw[zQ o.out (p:=.declL k j) (s:=s') ⟨z.P.hi,trivial⟩];unfold zD;dsimp only;rw[t.out];dsimp only;rw[N.out];dsimp only;rw[if_neg (by rw[E.out];simp),if_pos R.out])) I)
        have c8:(zB e).k=e.k+1:=rfl;have c0:=b3.out;go_wp2_with fail
        go_roundg (C.L.length - (zB e).k)
        case measure=>omega
        case rel=>exact⟨_,_,M,n+1,v,yAC _,by omega,by omega,b5,b4.pk [(w1.heap.size),X] [0,1,2] js jd rfl js js⟩
      · have R:=zA (show onP C.L [44] e=false by simpa using y);clear y;go_wp2_with fail;refine F.kM (zBd F.P [44] R) fun c9 G=>?_;have:=G.c 1;have:=G.c 0;have:=G.f 0;go_wp2_with fail;have b6:=G.rowK 2 rfl k;exact b6.fin 0 5 rfl (I.out.symm.trans (by
         rw[zQ o.out (p:=.declL k j) ⟨z.P.hi,trivial⟩];unfold zD;dsimp only;rw[t.out];dsimp only;rw[N.out];dsimp only;rw[if_neg (by rw[E.out];simp),if_neg (by rw[R.out];decide)]))
    · have O:=zA (show(e.bad==0)=false by rw[yA];exact hb);have E:=zA hb;clear hb;go_wp2_with fail;refine V.kB (zBe V.P O) fun d9 H=>?_;have:=H.c 1;have:=H.c 0;have:=H.f 0;go_wp2_with fail;have b7:=H.rowK 2 rfl k;exact b7.fin 0 5 rfl (I.out.symm.trans (by
       rw[zQ o.out (p:=.declL k j) ⟨z.P.hi,trivial⟩];unfold zD;dsimp only;rw[t.out];dsimp only;rw[N.out];dsimp only;rw[if_pos E.out]))
end Go.Proofs.YtjlfhidpmdgloaaGreatDoor
