/- Joined for the claim ParseBlocks: the parser, the lexer and the trees as they are walked, made short by a program of mine. -/
import Derived.Test.YtlohaclgbfhijaaGreatDoorS11
import Derived.Test.YtlohaclgbfhijaaGreatDoorS13
import Derived.Deep.RegionLaw
import Derived.Deep.LoopGhost
import Derived.Test.YtlohaclgbfhijaaGreatDoorS10
import Derived.Test.YtlohaclgbfhijaaGreatDoorS01
set_option maxHeartbeats 16000000
set_option maxRecDepth 1000000
namespace Go.Proofs.YtlohaclgbfhijaaGreatDoor
open Go.Proofs.Tryz
open Go.RowKit
theorem zSu {C:Pc} {l:List Tr} {s:Ps} {w:World} (hp:Pre C.L (.body l) s) (K:KP C (zf C.L (.body l) s)) (h:Pa C s w) (a:World) (A:Option Addr) (n cp:Nat) (_hln:l.length=n) (hn7:n≤4097) (hga:a.grownBy w (some C.g)) (hgA:C.g < a.heap.size) (hrow:RowP w (a.heap.size≤·) (.slice A n cp) l) (hnl:(zH C.L s.k).nl=true) (hbr:onP C.L [123] (zM C.L [61,62] (zV C.L s))=true):
 Calls prog 173 #[.pointer (some ⟨C.g,0,none⟩),.slice A n cp] w (zRv C a (zG C.L (.body l) s)):=by
 refine zUZ hp h hga hgA hrow fun HL hlen hsk r W X HR hW hX F0=>?_;have HK:=zD K;have HNL:=zD hnl;have HBR:=zD hbr;clear K h hp hga hgA hrow hnl hbr;go_enter func173,ntmps173;go_upto_region 1 with(fail);clear hW hX;obtain⟨⟨kd,tx,st,nk,nn,mg,ps,nl⟩,HT⟩:=zU C.L (s).k;have hnl2:nl=true:=by have:=HNL.out;rw[HT.out]at this;exact this
 subst hnl2;have hf6:=zKb;go_wp2_with fail;refine F0.kT (zp F0.P HT.out) fun w1 As Am c1 c2 F1=>?_;go_wp2_with fail;refine F1.kN (zAG F1.P) fun w2 F2=>?_;go_wp2_with fail;refine F2.kN (zAE F2.P [61,62]) fun w3 F3=>?_;go_wp2_with fail;refine F3.kQ (zAk _ _ _ _) fun w4 F4=>?_;have F5:=F4.rowK 0 rfl 42;have F6:=F5.bt 3 72 rfl;go_wp2_with fail;refine F6.kB (zAY F6.P [123] HBR.out) fun w7 F7=>?_;have hle:=zD (show s.k≤(zM C.L [61,62] (zV C.L s)).k from(yAE (zl hsk).adv.le (zN (w:=[61,62]) HL.out (zl hsk).adv.hi).adv.le));have hmo:=zD (show s.k < (zM C.L [61,62] (zV C.L s)).k from((zl hsk).then (zN (w:=[61,62]) HL.out (zl hsk).adv.hi).adv).more (Nat.lt_of_le_of_lt hle.out (HL.out.on (s:=zM C.L [61,62] (zV C.L s)) F7.P.hi HBR.out)));have CL8:=zD (fun Q=>F7.dr.kR 0 rfl (Q:=Q) (HK.out.more (q:=.block) ⟨F7.dr.P.hi,trivial⟩ F7.dr.P hmo.out));obtain⟨_,_,_,_,_,_,_,_,_⟩:=F7.c 4;have hn8:n≤4097:=by exact hn7
 go_wp2_with fail;go_region_law (first | (go_simp;go_at_call 145;(with_reducible refine CL8.out _ fun w8 d8_0 d8_1 d8_2 d8_3 d8_4 d8_5 d8_6 d8_7 d8_8 F8=>?_);obtain⟨_,_,_,_,_,_,_,_,_⟩:=F8.c 4;obtain⟨_,_,_,_,_,_,_,_,_⟩:=(F8.al (.cells #[d8_0,d8_1,d8_2,d8_3,d8_4,d8_5,d8_6,d8_7,d8_8] 72)).c 4) | (refine F8.snocS 0 5 rfl rfl (fun _ h=>h) hn8 rfl _ _ rfl rfl rfl fun A9 cp9 w9 F9=>?_;obtain⟨_,_,_,_,_,_,_,_,_⟩:=F9.c 4;obtain⟨_,_,_,_,_,_,_,_,_⟩:=F9.f 4))
 all_goals
  have F10:=F9.set 4 8 (.slice A9 (n+1) cp9);obtain⟨_,_,_,_,_,_,_,_,_⟩:=F10.c 4;obtain⟨_,_,_,_,_,_,_,_,_⟩:=F10.c 1;obtain⟨_,_,_,_,_,_,_,_,_⟩:=F10.f 1;go_wp2_with fail;have F11:=F10.rowK 0 rfl 42;refine zQ (F11.put 1 6) fun V12 F12=>?_;have q:=F12.c 1;exact F12.ret 6 rfl (by simp[results,results173,go_sem,q]) rfl (HR.out.symm.trans (by
   unfold zF;dsimp only;simp[HNL.out,HBR.out])) (fun _ h=>h)
theorem zSv {C:Pc} {l:List Tr} {s:Ps} {w:World} (hp:Pre C.L (.body l) s) (K:KP C (zf C.L (.body l) s)) (h:Pa C s w) (a:World) (A:Option Addr) (n cp:Nat) (_hln:l.length=n) (hn7:n≤4097) (hga:a.grownBy w (some C.g)) (hgA:C.g < a.heap.size) (hrow:RowP w (a.heap.size≤·) (.slice A n cp) l) (hnl:(zH C.L s.k).nl=true) (hbr:onP C.L [123] (zM C.L [61,62] (zV C.L s))=false):
 Calls prog 173 #[.pointer (some ⟨C.g,0,none⟩),.slice A n cp] w (zRv C a (zG C.L (.body l) s)):=by
 refine zUZ hp h hga hgA hrow fun HL hlen hsk r W X HR hW hX F0=>?_;have HK:=zD K;have HNL:=zD hnl;have HBR:=zD hbr;clear K h hp hga hgA hrow hnl hbr;go_enter func173,ntmps173;go_upto_region 1 with(fail);clear hW hX;obtain⟨⟨kd,tx,st,nk,nn,mg,ps,nl⟩,HT⟩:=zU C.L (s).k;have hnl2:nl=true:=by have:=HNL.out;rw[HT.out]at this;exact this
 subst hnl2;have hf6:=zKb;go_wp2_with fail;refine F0.kT (zp F0.P HT.out) fun w1 As Am c1 c2 F1=>?_;go_wp2_with fail;refine F1.kN (zAG F1.P) fun w2 F2=>?_;go_wp2_with fail;refine F2.kN (zAE F2.P [61,62]) fun w3 F3=>?_;go_wp2_with fail;refine F3.kQ (zAk _ _ _ _) fun w4 F4=>?_;have F5:=F4.rowK 0 rfl 42;have F6:=F5.bt 3 72 rfl;go_wp2_with fail;refine F6.kB (zAY F6.P [123] HBR.out) fun w7 F7=>?_;have hle:=zD (show s.k≤(zM C.L [61,62] (zV C.L s)).k from(yAE (zl hsk).adv.le (zN (w:=[61,62]) HL.out (zl hsk).adv.hi).adv.le));have CL8:=zD (fun Q=>F7.dr.kR 0 rfl (Q:=Q) (HK.out.rank (q:=.assign) ⟨F7.dr.P.hi,trivial⟩ F7.dr.P hle.out (by simp[zn])));obtain⟨_,_,_,_,_,_,_,_,_⟩:=F7.c 4;have hn8:n≤4097:=by exact hn7
 go_wp2_with fail;go_region_law (first | (go_simp;go_at_call 140;(with_reducible refine CL8.out _ fun w8 d8_0 d8_1 d8_2 d8_3 d8_4 d8_5 d8_6 d8_7 d8_8 F8=>?_);obtain⟨_,_,_,_,_,_,_,_,_⟩:=F8.c 4;obtain⟨_,_,_,_,_,_,_,_,_⟩:=(F8.al (.cells #[d8_0,d8_1,d8_2,d8_3,d8_4,d8_5,d8_6,d8_7,d8_8] 72)).c 4) | (refine F8.snocS 0 5 rfl rfl (fun _ h=>h) hn8 rfl _ _ rfl rfl rfl fun A9 cp9 w9 F9=>?_;obtain⟨_,_,_,_,_,_,_,_,_⟩:=F9.c 4;obtain⟨_,_,_,_,_,_,_,_,_⟩:=F9.f 4))
 all_goals
  have F10:=F9.set 4 8 (.slice A9 (n+1) cp9);obtain⟨_,_,_,_,_,_,_,_,_⟩:=F10.c 4;obtain⟨_,_,_,_,_,_,_,_,_⟩:=F10.c 1;obtain⟨_,_,_,_,_,_,_,_,_⟩:=F10.f 1;go_wp2_with fail;have F11:=F10.rowK 0 rfl 42;refine zQ (F11.put 1 6) fun V12 F12=>?_;have q:=F12.c 1;exact F12.ret 6 rfl (by simp[results,results173,go_sem,q]) rfl (HR.out.symm.trans (by
   unfold zF;dsimp only;simp[HNL.out,HBR.out])) (fun _ h=>h)
theorem zSw {C:Pc} {l:List Tr} {s:Ps} {w:World} (hp:Pre C.L (.body l) s) (K:KP C (zf C.L (.body l) s)) (h:Pa C s w) (a:World) (A:Option Addr) (n cp:Nat) (_hln:l.length=n) (hn7:n≤4097) (hga:a.grownBy w (some C.g)) (hgA:C.g < a.heap.size) (hrow:RowP w (a.heap.size≤·) (.slice A n cp) l) (hnl:(zH C.L s.k).nl=false) (hbr:onP C.L [123] (zM C.L [61,62] (s))=true):
 Calls prog 173 #[.pointer (some ⟨C.g,0,none⟩),.slice A n cp] w (zRv C a (zG C.L (.body l) s)):=by
 refine zUZ hp h hga hgA hrow fun HL hlen hsk r W X HR hW hX F0=>?_;have HK:=zD K;have HNL:=zD hnl;have HBR:=zD hbr;clear K h hp hga hgA hrow hnl hbr;go_enter func173,ntmps173;go_upto_region 1 with(fail);clear hW hX;obtain⟨⟨kd,tx,st,nk,nn,mg,ps,nl⟩,HT⟩:=zU C.L (s).k;have hnl2:nl=false:=by have:=HNL.out;rw[HT.out]at this;exact this
 subst hnl2;have hf6:=zKb;go_wp2_with fail;refine F0.kT (zp F0.P HT.out) fun w1 As Am c1 c2 F1=>?_;go_wp2_with fail;refine F1.kN (zAE F1.P [61,62]) fun w2 F2=>?_;go_wp2_with fail;refine F2.kQ (zAk _ _ _ _) fun w3 F3=>?_;have F4:=F3.rowK 0 rfl 42;have F5:=F4.bt 3 72 rfl;go_wp2_with fail;refine F5.kB (zAY F5.P [123] HBR.out) fun w6 F6=>?_;have hle:=zD (show s.k≤(zM C.L [61,62] (s)).k from(zN (w:=[61,62]) HL.out hsk).adv.le);have hmo:=zD (show s.k < (zM C.L [61,62] (s)).k from(zN (w:=[61,62]) HL.out hsk).more (Nat.lt_of_le_of_lt hle.out (HL.out.on (s:=zM C.L [61,62] (s)) F6.P.hi HBR.out)));have CL7:=zD (fun Q=>F6.dr.kR 0 rfl (Q:=Q) (HK.out.more (q:=.block) ⟨F6.dr.P.hi,trivial⟩ F6.dr.P hmo.out));obtain⟨_,_,_,_,_,_,_,_,_⟩:=F6.c 4;have hn7:n≤4097:=by exact hn7
 go_wp2_with fail;go_region_law (first | (go_simp;go_at_call 145;(with_reducible refine CL7.out _ fun w7 d7_0 d7_1 d7_2 d7_3 d7_4 d7_5 d7_6 d7_7 d7_8 F7=>?_);obtain⟨_,_,_,_,_,_,_,_,_⟩:=F7.c 4;obtain⟨_,_,_,_,_,_,_,_,_⟩:=(F7.al (.cells #[d7_0,d7_1,d7_2,d7_3,d7_4,d7_5,d7_6,d7_7,d7_8] 72)).c 4) | (refine F7.snocS 0 5 rfl rfl (fun _ h=>h) hn7 rfl _ _ rfl rfl rfl fun A8 cp8 w8 F8=>?_;obtain⟨_,_,_,_,_,_,_,_,_⟩:=F8.c 4;obtain⟨_,_,_,_,_,_,_,_,_⟩:=F8.f 4))
 all_goals
  have F9:=F8.set 4 8 (.slice A8 (n+1) cp8);obtain⟨_,_,_,_,_,_,_,_,_⟩:=F9.c 4;obtain⟨_,_,_,_,_,_,_,_,_⟩:=F9.c 1;obtain⟨_,_,_,_,_,_,_,_,_⟩:=F9.f 1;go_wp2_with fail;have F10:=F9.rowK 0 rfl 42;refine zQ (F10.put 1 6) fun V11 F11=>?_;have q:=F11.c 1;exact F11.ret 6 rfl (by simp[results,results173,go_sem,q]) rfl (HR.out.symm.trans (by
   unfold zF;dsimp only;simp[HNL.out,HBR.out])) (fun _ h=>h)
theorem zSx {C:Pc} {l:List Tr} {s:Ps} {w:World} (hp:Pre C.L (.body l) s) (K:KP C (zf C.L (.body l) s)) (h:Pa C s w) (a:World) (A:Option Addr) (n cp:Nat) (_hln:l.length=n) (hn7:n≤4097) (hga:a.grownBy w (some C.g)) (hgA:C.g < a.heap.size) (hrow:RowP w (a.heap.size≤·) (.slice A n cp) l) (hnl:(zH C.L s.k).nl=false) (hbr:onP C.L [123] (zM C.L [61,62] (s))=false):
 Calls prog 173 #[.pointer (some ⟨C.g,0,none⟩),.slice A n cp] w (zRv C a (zG C.L (.body l) s)):=by
 refine zUZ hp h hga hgA hrow fun HL hlen hsk r W X HR hW hX F0=>?_;have HK:=zD K;have HNL:=zD hnl;have HBR:=zD hbr;clear K h hp hga hgA hrow hnl hbr;go_enter func173,ntmps173;go_upto_region 1 with(fail);clear hW hX;obtain⟨⟨kd,tx,st,nk,nn,mg,ps,nl⟩,HT⟩:=zU C.L (s).k;have hnl2:nl=false:=by have:=HNL.out;rw[HT.out]at this;exact this
 subst hnl2;have hf6:=zKb;go_wp2_with fail;refine F0.kT (zp F0.P HT.out) fun w1 As Am c1 c2 F1=>?_;go_wp2_with fail;refine F1.kN (zAE F1.P [61,62]) fun w2 F2=>?_;go_wp2_with fail;refine F2.kQ (zAk _ _ _ _) fun w3 F3=>?_;have F4:=F3.rowK 0 rfl 42;have F5:=F4.bt 3 72 rfl;go_wp2_with fail;refine F5.kB (zAY F5.P [123] HBR.out) fun w6 F6=>?_;have hle:=zD (show s.k≤(zM C.L [61,62] (s)).k from(zN (w:=[61,62]) HL.out hsk).adv.le);have CL7:=zD (fun Q=>F6.dr.kR 0 rfl (Q:=Q) (HK.out.rank (q:=.assign) ⟨F6.dr.P.hi,trivial⟩ F6.dr.P hle.out (by simp[zn])));obtain⟨_,_,_,_,_,_,_,_,_⟩:=F6.c 4;have hn7:n≤4097:=by exact hn7
 go_wp2_with fail;go_region_law (first | (go_simp;go_at_call 140;(with_reducible refine CL7.out _ fun w7 d7_0 d7_1 d7_2 d7_3 d7_4 d7_5 d7_6 d7_7 d7_8 F7=>?_);obtain⟨_,_,_,_,_,_,_,_,_⟩:=F7.c 4;obtain⟨_,_,_,_,_,_,_,_,_⟩:=(F7.al (.cells #[d7_0,d7_1,d7_2,d7_3,d7_4,d7_5,d7_6,d7_7,d7_8] 72)).c 4) | (refine F7.snocS 0 5 rfl rfl (fun _ h=>h) hn7 rfl _ _ rfl rfl rfl fun A8 cp8 w8 F8=>?_;obtain⟨_,_,_,_,_,_,_,_,_⟩:=F8.c 4;obtain⟨_,_,_,_,_,_,_,_,_⟩:=F8.f 4))
 all_goals
  have F9:=F8.set 4 8 (.slice A8 (n+1) cp8);obtain⟨_,_,_,_,_,_,_,_,_⟩:=F9.c 4;obtain⟨_,_,_,_,_,_,_,_,_⟩:=F9.c 1;obtain⟨_,_,_,_,_,_,_,_,_⟩:=F9.f 1;go_wp2_with fail;have F10:=F9.rowK 0 rfl 42;refine zQ (F10.put 1 6) fun V11 F11=>?_;have q:=F11.c 1;exact F11.ret 6 rfl (by simp[results,results173,go_sem,q]) rfl (HR.out.symm.trans (by
   unfold zF;dsimp only;simp[HNL.out,HBR.out])) (fun _ h=>h)
theorem zP4 {C:Pc} {l:List Tr} {s:Ps} {w:World} (hp:Pre C.L (.body l) s) (K:KP C (zf C.L (.body l) s)) (h:Pa C s w):zk C s w (.body l):=by
 intro a A n cp h1 h2 h3 h4 h5;cases hn:(zH C.L s.k).nl with
 | true=>
  cases hb:onP C.L [123] (zM C.L [61,62] (zV C.L s))with
  | true=>exact zSu hp K h a A n cp h1 h2 h3 h4 h5 hn hb
  | false=>exact zSv hp K h a A n cp h1 h2 h3 h4 h5 hn hb
 | false=>
  cases hb:onP C.L [123] (zM C.L [61,62] s)with
  | true=>exact zSw hp K h a A n cp h1 h2 h3 h4 h5 hn hb
  | false=>exact zSx hp K h a A n cp h1 h2 h3 h4 h5 hn hb
theorem zP5 {C:Pc} {s:Ps} {w:World} (hp:Pre C.L (.item) s) (K:KP C (zf C.L (.item) s)) (h:Pa C s w):zk C s w (.item):=by
 refine zA0 hp h fun HL hlen hsk r W X HR hW hX F0=>?_;have HK:=zD K;clear K h hp;go_enter func60,ntmps60;go_upto_region 1 with(fail);clear hW hX;obtain⟨⟨kd,tx,st,nk,nn,mg,ps,nl⟩,HT⟩:=zU C.L (s).k;go_wp2_with fail;refine F0.kT (zp F0.P HT.out) fun w1 As Am c1 c2 F1=>?_;have F2:=F1.bt 1 44 rfl;obtain⟨b1,hb1⟩:∃b,isT ⟨kd,tx,st,nk,nn,mg,ps,nl⟩ [108,101,116]=b:=⟨_,rfl⟩;have Hb1:=zD hb1;clear hb1;obtain⟨b2,hb2⟩:∃b,isT ⟨kd,tx,st,nk,nn,mg,ps,nl⟩ [99,111,110,115,116]=b:=⟨_,rfl⟩;have Hb2:=zD hb2;clear hb2;obtain⟨b3,hb3⟩:∃b,isT ⟨kd,tx,st,nk,nn,mg,ps,nl⟩ [102,117,110,99,116,105,111,110]=b:=⟨_,rfl⟩;have Hb3:=zD hb3;clear hb3;obtain⟨_,_,_,_,_,_,_,_,_⟩:=F2.c 2;go_wp2_with fail;refine F2.kQ (zCp [108,101,116] Hb1.out) fun w3 F3=>?_;cases b1 with
 | true=>
  go_wp2_with fail;refine F3.kX (HK.out.rank (q:=.declares) ⟨F3.P.hi,trivial⟩ F3.P (yAD _) (by simp[zn])) fun rq4 HRQ4 w4 d4_0 d4_1 d4_2 d4_3 d4_4 d4_5 d4_6 d4_7 d4_8 F4=>?_;obtain⟨_,_,_,_,_,_,_,_,_⟩:=F4.sto 3;have F5:=F4.bt 3 72 rfl;go_wp2_with fail;refine F5.kN (zBn F5.P) fun w6 F6=>?_;obtain⟨_,_,_,_,_,_,_,_,_⟩:=F6.c 4;obtain⟨_,_,_,_,_,_,_,_,_⟩:=F6.c 0;obtain⟨_,_,_,_,_,_,_,_,_⟩:=F6.f 0;go_wp2_with fail;refine zQ (F6.put 0 3) fun V7 F7=>?_;have q:=F7.c 0;exact F7.ret 3 rfl (by simp[results,results60,go_sem,q]) rfl (HR.out.symm.trans (by
   unfold zF;dsimp only;simp[zDK HT.out,Hb1.out,HRQ4.out])) (fun _ h=>h)
 | false=>
  obtain⟨_,_,_,_,_,_,_,_,_⟩:=F3.c 2;go_wp2_with fail;refine F3.kQ (zCp [99,111,110,115,116] Hb2.out) fun w8 F8=>?_;cases b2 with
  | true=>
   go_wp2_with fail;refine F8.kX (HK.out.rank (q:=.declares) ⟨F8.P.hi,trivial⟩ F8.P (yAD _) (by simp[zn])) fun rq9 HRQ9 w9 d9_0 d9_1 d9_2 d9_3 d9_4 d9_5 d9_6 d9_7 d9_8 F9=>?_;obtain⟨_,_,_,_,_,_,_,_,_⟩:=F9.sto 3;have F10:=F9.bt 3 72 rfl;go_wp2_with fail;refine F10.kN (zBn F10.P) fun w11 F11=>?_;obtain⟨_,_,_,_,_,_,_,_,_⟩:=F11.c 4;obtain⟨_,_,_,_,_,_,_,_,_⟩:=F11.c 0;obtain⟨_,_,_,_,_,_,_,_,_⟩:=F11.f 0;go_wp2_with fail;refine zQ (F11.put 0 3) fun V12 F12=>?_;have q:=F12.c 0;exact F12.ret 3 rfl (by simp[results,results60,go_sem,q]) rfl (HR.out.symm.trans (by
    unfold zF;dsimp only;simp[zDK HT.out,Hb1.out,Hb2.out,HRQ9.out])) (fun _ h=>h)
  | false=>
   have HO:=zD ((zDK HT.out).trans Hb3.out);cases b3 with
   | true=>
    go_wp2_with fail;refine F8.kM (zBK F8.P [102,117,110,99,116,105,111,110] HO.out) fun w13 F13=>?_;go_wp2_with fail;refine F13.kS (zDU F13.P) fun w14 F14=>?_;have hlt:=zD (HL.out.on hsk HO.out);go_wp2_with fail;refine F14.kX (HK.out.more (q:=.func 19 (zW C.L (zB s)).1) ⟨F14.P.hi,trivial⟩ F14.P (yAA (yAG s.k) (zAD (s:=zB s) HL.out hlt.out).adv.le)) fun rq15 HRQ15 w15 d15_0 d15_1 d15_2 d15_3 d15_4 d15_5 d15_6 d15_7 d15_8 F15=>?_;obtain⟨_,_,_,_,_,_,_,_,_⟩:=F15.sto 3;obtain⟨_,_,_,_,_,_,_,_,_⟩:=F15.c 0;obtain⟨_,_,_,_,_,_,_,_,_⟩:=F15.f 0;go_wp2_with fail;refine zQ (F15.put 0 3) fun V16 F16=>?_;have q:=F16.c 0;exact F16.ret 3 rfl (by simp[results,results60,go_sem,q]) rfl (HR.out.symm.trans (by
     unfold zF;dsimp only;simp[zDK HT.out,Hb1.out,Hb2.out,Hb3.out,HRQ15.out])) (fun _ h=>h)
   | false=>
    go_wp2_with fail;refine F8.kM (zBN F8.P [102,117,110,99,116,105,111,110] HO.out) fun w17 F17=>?_;go_wp2_with fail;refine F17.kX (HK.out.rank (q:=.statement) ⟨F17.P.hi,trivial⟩ F17.P (yAD _) (by simp[zn])) fun rq18 HRQ18 w18 d18_0 d18_1 d18_2 d18_3 d18_4 d18_5 d18_6 d18_7 d18_8 F18=>?_;obtain⟨_,_,_,_,_,_,_,_,_⟩:=F18.sto 3;obtain⟨_,_,_,_,_,_,_,_,_⟩:=F18.c 0;obtain⟨_,_,_,_,_,_,_,_,_⟩:=F18.f 0;go_wp2_with fail;refine zQ (F18.put 0 3) fun V19 F19=>?_;have q:=F19.c 0;exact F19.ret 3 rfl (by simp[results,results60,go_sem,q]) rfl (HR.out.symm.trans (by
     unfold zF;dsimp only;simp[zDK HT.out,Hb1.out,Hb2.out,Hb3.out,HRQ18.out])) (fun _ h=>h)
theorem zFS {C:Pc} {s:Ps} {w:World} (hp:Pre C.L (.statement) s) (K:KP C (zf C.L (.statement) s)) (h:Pa C s w) (hk1:(zH C.L s.k).kind=1):zk C s w (.statement):=by
 refine zA0 hp h fun HL hlen hsk r W X HR hW hX F0=>?_;have HK:=zD K;clear K h hp;go_enter func98,ntmps98;go_upto_region 1 with(fail);clear hW hX;have HK1:=zD hk1;clear hk1;obtain⟨⟨kd,tx,st,nk,nn,mg,ps,nl⟩,HT⟩:=zU C.L (s).k;go_wp2_with fail;refine F0.kT (zp F0.P HT.out) fun w1 As Am c1 c2 F1=>?_;have F2:=F1.bt 1 44 rfl;have HKD:=zD (show kd=1 by have:=HK1.out;rw[HT.out]at this;exact this);have e1:((kd:Int)==1)=true:=by have:=HKD.out;rw[beq_iff_eq];omega
 have hlt:=zD (HL.out.lt hsk (by rw[HK1.out];decide));have hn:=F2.P.cx.n;obtain⟨⟨kd2,tx2,st2,nk2,nn2,mg2,ps2,nl2⟩,HT2⟩:=zU C.L (zB s).k;have HT2m:=zD (show zH C.L (min (s.k+1) (C.N - 1))=⟨kd2,tx2,st2,nk2,nn2,mg2,ps2,nl2⟩ by rw[show min (s.k+1) (C.N - 1)=s.k+1 by have:=hlt.out;omega];exact HT2.out);obtain⟨b1,hb1⟩:∃b,isT ⟨kd2,tx2,st2,nk2,nn2,mg2,ps2,nl2⟩ [58]=b:=⟨_,rfl⟩;have Hb1:=zD hb1;clear hb1;obtain⟨b3,hb3⟩:∃b,onP C.L [59] s=b:=⟨_,rfl⟩;have Hb3:=zD hb3;clear hb3;obtain⟨b4,hb4⟩:∃b,onP C.L [123] s=b:=⟨_,rfl⟩;have Hb4:=zD hb4;clear hb4;have HA:=zD (show isT (zx C.L s.k 1) [58]=b1 by have:=Hb1.out;rw[←HT2.out]at this;exact this);obtain⟨_,_,_,_,_,_,_,_,_⟩:=F2.c 2;go_wp2_with fail;refine F2.kT (zAv F2.P 1 1 rfl (by decide) HT2m.out) fun w3 As2 Am2 c12 c22 F3=>?_;go_wp2_with fail;refine F3.kQ (zCp [58] Hb1.out) fun w4 F4=>?_;cases b1 with
 | true=>
  have hlt2:=zD (HL.out.on (s:=zB s) hlt.out HA.out);obtain⟨xk5,fk5,bk5⟩:=F4.k1;have F5:=F4.step2 hlt2.out;have CL6:=zD (fun Q=>F5.dr.kD (Q:=Q) (HK.out.more (q:=.statement) ⟨F5.dr.P.hi,trivial⟩ F5.dr.P (show s.k < s.k+1+1 by omega)));obtain⟨_,_,_,_,_,_,_,_,_⟩:=F5.c 2;go_wp2_with fail;go_region_law (first | (go_simp;go_at_call 98;(with_reducible refine CL6.out _ fun w6 d6_0 d6_1 d6_2 d6_3 d6_4 d6_5 d6_6 d6_7 d6_8 F6=>?_);obtain⟨_,_,_,_,_,_,_,_,_⟩:=F6.c 2;obtain⟨_,_,_,_,_,_,_,_,_⟩:=F6.c 0;obtain⟨_,_,_,_,_,_,_,_,_⟩:=(F6.al (.cells #[d6_0,d6_1,d6_2,d6_3,d6_4,d6_5,d6_6,d6_7,d6_8] 72)).c 2;have LT6:=zD (fun Q=>F6.litN 18 tx (n:=1) (Q:=Q) (F6.ts1 4) rfl (by simp) rfl)) | (go_simp;go_at_call 139;(with_reducible refine LT6.out _ fun w7 F7=>?_);obtain⟨_,_,_,_,_,_,_,_,_⟩:=F7.c 0;obtain⟨_,_,_,_,_,_,_,_,_⟩:=F7.f 0))
  all_goals
   obtain⟨_,_,_,_,_,_,_,_,_⟩:=F7.c 0;obtain⟨_,_,_,_,_,_,_,_,_⟩:=F7.f 0;go_wp2_with fail;refine zQ (F7.put 0 5) fun V8 F8=>?_;have q:=F8.c 0;exact F8.ret 5 rfl (by simp[results,results98,go_sem,q]) rfl (HR.out.symm.trans (by
    unfold zF;dsimp only;rw[if_pos ⟨HK1.out,HA.out⟩,HT.out])) (fun _ h=>h)
 | false=>
  have e6:((kd:Int)==6)=false:=by have:=HKD.out;rw[yA];omega
  obtain⟨_,_,_,_,_,_,_,_,_⟩:=F4.c 2;cases b3 with
  | true=>
   go_wp2_with fail;refine F4.kM (zBK F4.P [59] Hb3.out) fun w9 F9=>?_;go_wp2_with fail;refine F9.made0 _ fun w10 F10=>?_;obtain⟨_,_,_,_,_,_,_,_,_⟩:=F10.c 0;obtain⟨_,_,_,_,_,_,_,_,_⟩:=F10.f 0;go_wp2_with fail;refine zQ (F10.put 0 4) fun V11 F11=>?_;have q:=F11.c 0;exact F11.ret 4 rfl (by simp[results,results98,go_sem,q]) rfl (HR.out.symm.trans (by
    unfold zF;dsimp only;rw[if_neg (fun h=>by rw[HA.out]at h;cases h.2),if_neg (by rw[HK1.out];decide)];simp[Hb3.out])) (fun _ h=>h)
  | false=>
   go_wp2_with fail;refine F4.kM (zBN F4.P [59] Hb3.out) fun w12 F12=>?_;go_wp2_with fail;refine F12.kB (zAY F12.P [123] Hb4.out) fun w13 F13=>?_;cases b4 with
   | true=>
    go_wp2_with fail;refine F13.kX (HK.out.rank (q:=.block) ⟨F13.P.hi,trivial⟩ F13.P (yAD _) (by simp[zn])) fun rq14 HRQ14 w14 d14_0 d14_1 d14_2 d14_3 d14_4 d14_5 d14_6 d14_7 d14_8 F14=>?_;obtain⟨_,_,_,_,_,_,_,_,_⟩:=F14.sto 4;obtain⟨_,_,_,_,_,_,_,_,_⟩:=F14.c 0;obtain⟨_,_,_,_,_,_,_,_,_⟩:=F14.f 0;go_wp2_with fail;refine zQ (F14.put 0 4) fun V15 F15=>?_;have q:=F15.c 0;exact F15.ret 4 rfl (by simp[results,results98,go_sem,q]) rfl (HR.out.symm.trans (by
     unfold zF;dsimp only;rw[if_neg (fun h=>by rw[HA.out]at h;cases h.2),if_neg (by rw[HK1.out];decide)];simp[Hb3.out,Hb4.out,HRQ14.out])) (fun _ h=>h)
   | false=>
    go_wp2_with fail;refine F13.kX (HK.out.rank (q:=.simple) ⟨F13.P.hi,trivial⟩ F13.P (yAD _) (by simp[zn])) fun rq16 HRQ16 w16 d16_0 d16_1 d16_2 d16_3 d16_4 d16_5 d16_6 d16_7 d16_8 F16=>?_;obtain⟨_,_,_,_,_,_,_,_,_⟩:=F16.sto 4;obtain⟨_,_,_,_,_,_,_,_,_⟩:=F16.c 0;obtain⟨_,_,_,_,_,_,_,_,_⟩:=F16.f 0;go_wp2_with fail;refine zQ (F16.put 0 4) fun V17 F17=>?_;have q:=F17.c 0;exact F17.ret 4 rfl (by simp[results,results98,go_sem,q]) rfl (HR.out.symm.trans (by
     unfold zF;dsimp only;rw[if_neg (fun h=>by rw[HA.out]at h;cases h.2),if_neg (by rw[HK1.out];decide)];simp[Hb3.out,Hb4.out,HRQ16.out])) (fun _ h=>h)
theorem zFo {C:Pc} {s:Ps} {w:World} (hp:Pre C.L (.statement) s) (K:KP C (zf C.L (.statement) s)) (h:Pa C s w) (hk1:(zH C.L s.k).kind=6):zk C s w (.statement):=by
 refine zA0 hp h fun HL hlen hsk r W X HR hW hX F0=>?_;have HK:=zD K;clear K h hp;go_enter func98,ntmps98;go_upto_region 1 with(fail);clear hW hX;have HK1:=zD hk1;clear hk1;obtain⟨⟨kd,tx,st,nk,nn,mg,ps,nl⟩,HT⟩:=zU C.L (s).k;go_wp2_with fail;refine F0.kT (zp F0.P HT.out) fun w1 As Am c1 c2 F1=>?_;have F2:=F1.bt 1 44 rfl;have HKD:=zD (show kd=6 by have:=HK1.out;rw[HT.out]at this;exact this);have e1:((kd:Int)==1)=false:=by have:=HKD.out;rw[yA];omega
 have e6:((kd:Int)==6)=true:=by have:=HKD.out;rw[beq_iff_eq];omega
 have hlt:=zD (HL.out.lt hsk (by rw[HK1.out];decide));obtain⟨_,_,_,_,_,_,_,_,_⟩:=F2.c 2;go_wp2_with fail;refine F2.kX (HK.out.rank (q:=.word tx) ⟨F2.P.hi,hlt.out⟩ F2.P (yAD _) (by simp[zn])) fun rq3 HRQ3 w3 d3_0 d3_1 d3_2 d3_3 d3_4 d3_5 d3_6 d3_7 d3_8 F3=>?_;obtain⟨_,_,_,_,_,_,_,_,_⟩:=F3.sto 3;obtain⟨_,_,_,_,_,_,_,_,_⟩:=F3.c 0;obtain⟨_,_,_,_,_,_,_,_,_⟩:=F3.f 0;go_wp2_with fail;refine zQ (F3.put 0 3) fun V4 F4=>?_;have q:=F4.c 0;exact F4.ret 3 rfl (by simp[results,results98,go_sem,q]) rfl (HR.out.symm.trans (by
  unfold zF;dsimp only;rw[if_neg (fun h=>by rw[HK1.out]at h;cases h.1),if_pos HK1.out,HT.out];simp only[HRQ3.out])) (fun _ h=>h)
theorem zFT {C:Pc} {s:Ps} {w:World} (hp:Pre C.L (.statement) s) (K:KP C (zf C.L (.statement) s)) (h:Pa C s w) (hk1:(zH C.L s.k).kind≠1) (hk6:(zH C.L s.k).kind≠6):zk C s w (.statement):=by
 refine zA0 hp h fun HL hlen hsk r W X HR hW hX F0=>?_;have HK:=zD K;clear K h hp;go_enter func98,ntmps98;go_upto_region 1 with(fail);clear hW hX;have HK1:=zD hk1;have HK6:=zD hk6;clear hk1 hk6;obtain⟨⟨kd,tx,st,nk,nn,mg,ps,nl⟩,HT⟩:=zU C.L (s).k;go_wp2_with fail;refine F0.kT (zp F0.P HT.out) fun w1 As Am c1 c2 F1=>?_;have F2:=F1.bt 1 44 rfl;have e1:((kd:Int)==1)=false:=by have:=HK1.out;rw[HT.out]at this;have:kd≠1:=this;rw[yA];omega
 have e6:((kd:Int)==6)=false:=by have:=HK6.out;rw[HT.out]at this;have:kd≠6:=this;rw[yA];omega
 obtain⟨b3,hb3⟩:∃b,onP C.L [59] s=b:=⟨_,rfl⟩;have Hb3:=zD hb3;clear hb3;obtain⟨b4,hb4⟩:∃b,onP C.L [123] s=b:=⟨_,rfl⟩;have Hb4:=zD hb4;clear hb4;obtain⟨_,_,_,_,_,_,_,_,_⟩:=F2.c 2;cases b3 with
 | true=>
  go_wp2_with fail;refine F2.kM (zBK F2.P [59] Hb3.out) fun w3 F3=>?_;go_wp2_with fail;refine F3.made0 _ fun w4 F4=>?_;obtain⟨_,_,_,_,_,_,_,_,_⟩:=F4.c 0;obtain⟨_,_,_,_,_,_,_,_,_⟩:=F4.f 0;go_wp2_with fail;refine zQ (F4.put 0 3) fun V5 F5=>?_;have q:=F5.c 0;exact F5.ret 3 rfl (by simp[results,results98,go_sem,q]) rfl (HR.out.symm.trans (by
   unfold zF;dsimp only;rw[if_neg (fun h=>HK1.out h.1),if_neg HK6.out];simp[Hb3.out])) (fun _ h=>h)
 | false=>
  go_wp2_with fail;refine F2.kM (zBN F2.P [59] Hb3.out) fun w6 F6=>?_;go_wp2_with fail;refine F6.kB (zAY F6.P [123] Hb4.out) fun w7 F7=>?_;cases b4 with
  | true=>
   go_wp2_with fail;refine F7.kX (HK.out.rank (q:=.block) ⟨F7.P.hi,trivial⟩ F7.P (yAD _) (by simp[zn])) fun rq8 HRQ8 w8 d8_0 d8_1 d8_2 d8_3 d8_4 d8_5 d8_6 d8_7 d8_8 F8=>?_;obtain⟨_,_,_,_,_,_,_,_,_⟩:=F8.sto 3;obtain⟨_,_,_,_,_,_,_,_,_⟩:=F8.c 0;obtain⟨_,_,_,_,_,_,_,_,_⟩:=F8.f 0;go_wp2_with fail;refine zQ (F8.put 0 3) fun V9 F9=>?_;have q:=F9.c 0;exact F9.ret 3 rfl (by simp[results,results98,go_sem,q]) rfl (HR.out.symm.trans (by
    unfold zF;dsimp only;rw[if_neg (fun h=>HK1.out h.1),if_neg HK6.out];simp[Hb3.out,Hb4.out,HRQ8.out])) (fun _ h=>h)
  | false=>
   go_wp2_with fail;refine F7.kX (HK.out.rank (q:=.simple) ⟨F7.P.hi,trivial⟩ F7.P (yAD _) (by simp[zn])) fun rq10 HRQ10 w10 d10_0 d10_1 d10_2 d10_3 d10_4 d10_5 d10_6 d10_7 d10_8 F10=>?_;obtain⟨_,_,_,_,_,_,_,_,_⟩:=F10.sto 3;obtain⟨_,_,_,_,_,_,_,_,_⟩:=F10.c 0;obtain⟨_,_,_,_,_,_,_,_,_⟩:=F10.f 0;go_wp2_with fail;refine zQ (F10.put 0 3) fun V11 F11=>?_;have q:=F11.c 0;exact F11.ret 3 rfl (by simp[results,results98,go_sem,q]) rfl (HR.out.symm.trans (by
    unfold zF;dsimp only;rw[if_neg (fun h=>HK1.out h.1),if_neg HK6.out];simp[Hb3.out,Hb4.out,HRQ10.out])) (fun _ h=>h)
theorem zFp {C:Pc} {s:Ps} {w:World} (hp:Pre C.L .statement s) (K:KP C (zf C.L .statement s)) (h:Pa C s w):zk C s w .statement:=by
 by_cases h1:(zH C.L s.k).kind=1
 · exact zFS hp K h h1
 by_cases h6:(zH C.L s.k).kind=6
 · exact zFo hp K h h6
 exact zFT hp K h h1 h6
theorem zNG {C:Pc} {k:Int} {s:Ps} {w:World} (hp:Pre C.L (.jump k) s) (_K:KP C (zf C.L (.jump k) s)) (h:Pa C s w) (hk:(zH C.L (zB s).k).kind=1) (hn:(zH C.L (zB s).k).nl=false):zk C s w (.jump k):=by
 refine zA0 hp h fun HL hlen hsk r W X HR hW hX F0=>?_;have hlt:=zD hp.2;clear h hp;go_enter func180,ntmps180;go_upto_region 1 with(fail);clear hW hX;have HK1:=zD hk;have HN1:=zD hn;clear hk hn;obtain⟨xk1,fk1,bk1⟩:=F0.k1;have F1:=F0.step hlt.out;go_wp2_with fail;refine F1.made0 _ fun w2 F2=>?_;have F3:=F2.bt 1 72 rfl;obtain⟨⟨kd,tx,st,nk,nn,mg,ps,nl⟩,HT⟩:=zU C.L (zB (s)).k;go_wp2_with fail;refine F3.kT (zp F3.P HT.out) fun w4 As Am c1 c2 F4=>?_;have F5:=F4.bt 3 44 rfl;obtain⟨_,_,_,_,_,_,_,_,_⟩:=F5.c 4;have e1:((kd:Int)==1)=true:=by have:=HK1.out;rw[HT.out]at this;have:kd=1:=this;rw[beq_iff_eq];omega
 have hnl2:nl=false:=by have:=HN1.out;rw[HT.out]at this;exact this
 subst hnl2;go_wp2_with fail;refine F5.kS (zDU F5.P) fun w6 F6=>?_;obtain⟨_,_,_,_,_,_,_,_,_⟩:=F6.c 2;obtain⟨_,_,_,_,_,_,_,_,_⟩:=F6.f 2;have F7:=(F6.set 2 1 (.string ⟨((zW C.L (zB s)).1).toArray⟩)).leafN k ((zW C.L (zB s)).1);go_wp2_with fail;refine F7.kN (zBn F7.P) fun w8 F8=>?_;obtain⟨_,_,_,_,_,_,_,_,_⟩:=F8.c 2;obtain⟨_,_,_,_,_,_,_,_,_⟩:=F8.c 0;obtain⟨_,_,_,_,_,_,_,_,_⟩:=F8.f 0;go_wp2_with fail;refine zQ (F8.put 0 5) fun V9 F9=>?_;have q:=F9.c 0;exact F9.ret 5 rfl (by simp[results,results180,go_sem,q]) rfl (HR.out.symm.trans (by
  unfold zF;dsimp only;rw[if_pos ⟨HK1.out,HN1.out⟩])) (fun _ h=>h)
theorem zSy {C:Pc} {k:Int} {s:Ps} {w:World} (hp:Pre C.L (.jump k) s) (_K:KP C (zf C.L (.jump k) s)) (h:Pa C s w) (hn:(zH C.L (zB s).k).kind=1∧(zH C.L (zB s).k).nl=true):zk C s w (.jump k):=by
 refine zA0 hp h fun HL hlen hsk r W X HR hW hX F0=>?_;have hlt:=zD hp.2;clear h hp;go_enter func180,ntmps180;go_upto_region 1 with(fail);clear hW hX;have HN1:=zD hn;clear hn;obtain⟨xk1,fk1,bk1⟩:=F0.k1;have F1:=F0.step hlt.out;go_wp2_with fail;refine F1.made0 _ fun w2 F2=>?_;have F3:=F2.bt 1 72 rfl;obtain⟨⟨kd,tx,st,nk,nn,mg,ps,nl⟩,HT⟩:=zU C.L (zB (s)).k;go_wp2_with fail;refine F3.kT (zp F3.P HT.out) fun w4 As Am c1 c2 F4=>?_;have F5:=F4.bt 3 44 rfl;obtain⟨_,_,_,_,_,_,_,_,_⟩:=F5.c 4;have e1:((kd:Int)==1)=true:=by have:=HN1.out.1;rw[HT.out]at this;have:kd=1:=this;rw[beq_iff_eq];omega
 have hnl2:nl=true:=by have:=HN1.out.2;rw[HT.out]at this;exact this
 subst hnl2;go_wp2_with fail;refine F5.kN (zBn F5.P) fun w6 F6=>?_;obtain⟨_,_,_,_,_,_,_,_,_⟩:=F6.c 2;obtain⟨_,_,_,_,_,_,_,_,_⟩:=F6.c 0;obtain⟨_,_,_,_,_,_,_,_,_⟩:=F6.f 0;go_wp2_with fail;refine zQ (F6.put 0 1) fun V7 F7=>?_;have q:=F7.c 0;exact F7.ret 1 rfl (by simp[results,results180,go_sem,q]) rfl (HR.out.symm.trans (by
  unfold zF;dsimp only;rw[if_neg (fun h=>by rw[HN1.out.2]at h;cases h.2)])) (fun _ h=>h)
theorem zSz {C:Pc} {k:Int} {s:Ps} {w:World} (hp:Pre C.L (.jump k) s) (_K:KP C (zf C.L (.jump k) s)) (h:Pa C s w) (hn:(zH C.L (zB s).k).kind≠1):zk C s w (.jump k):=by
 refine zA0 hp h fun HL hlen hsk r W X HR hW hX F0=>?_;have hlt:=zD hp.2;clear h hp;go_enter func180,ntmps180;go_upto_region 1 with(fail);clear hW hX;have HN1:=zD hn;clear hn;obtain⟨xk1,fk1,bk1⟩:=F0.k1;have F1:=F0.step hlt.out;go_wp2_with fail;refine F1.made0 _ fun w2 F2=>?_;have F3:=F2.bt 1 72 rfl;obtain⟨⟨kd,tx,st,nk,nn,mg,ps,nl⟩,HT⟩:=zU C.L (zB (s)).k;go_wp2_with fail;refine F3.kT (zp F3.P HT.out) fun w4 As Am c1 c2 F4=>?_;have F5:=F4.bt 3 44 rfl;obtain⟨_,_,_,_,_,_,_,_,_⟩:=F5.c 4;have e1:((kd:Int)==1)=false:=by have:=HN1.out;rw[HT.out]at this;have:kd≠1:=this;rw[yA];omega
 go_wp2_with fail;refine F5.kN (zBn F5.P) fun w6 F6=>?_;obtain⟨_,_,_,_,_,_,_,_,_⟩:=F6.c 2;obtain⟨_,_,_,_,_,_,_,_,_⟩:=F6.c 0;obtain⟨_,_,_,_,_,_,_,_,_⟩:=F6.f 0;go_wp2_with fail;refine zQ (F6.put 0 1) fun V7 F7=>?_;have q:=F7.c 0;exact F7.ret 1 rfl (by simp[results,results180,go_sem,q]) rfl (HR.out.symm.trans (by
  unfold zF;dsimp only;rw[if_neg (fun h=>HN1.out h.1)])) (fun _ h=>h)
theorem zP6 {C:Pc} {k:Int} {s:Ps} {w:World} (hp:Pre C.L (.jump k) s) (_K:KP C (zf C.L (.jump k) s)) (h:Pa C s w):zk C s w (.jump k):=by
 by_cases h1:(zH C.L (zB s).k).kind=1
 · cases h2:(zH C.L (zB s).k).nl with
   | false=>exact zNG hp _K h h1 h2
   | true=>exact zSy hp _K h ⟨h1,h2⟩
 · exact zSz hp _K h h1
theorem zKr {C:Pc} {s:Ps} {w:World} (hp:Pre C.L (.word [119,104,105,108,101]) s) (K:KP C (zf C.L (.word [119,104,105,108,101]) s)) (h:Pa C s w):zk C s w (.word [119,104,105,108,101]):=by
 refine zA0 hp h fun HL hlen hsk r W X HR hW hX F0=>?_;have HK:=zD K;have hlt:=zD hp.2;clear K h hp;go_enter func147,ntmps147;go_upto_region 1 with(fail);clear hW hX;obtain⟨xk1,fk1,bk1⟩:=F0.k1;have F1:=F0.step hlt.out;have hpost:=zD (zS HL.out (p:=.within) (s:=zB s) ⟨hlt.out,trivial⟩);go_wp2_with fail;refine F1.kX (HK.out.more (q:=.within) ⟨F1.P.hi,trivial⟩ F1.P (yAG s.k)) fun rq2 HRQ2 w2 d2_0 d2_1 d2_2 d2_3 d2_4 d2_5 d2_6 d2_7 d2_8 F2=>?_;obtain⟨_,_,_,_,_,_,_,_,_⟩:=F2.sto 1;have hle:=zD (show s.k < rq2.2.k from by have:=hpost.out.adv.le;rw[HRQ2.out]at this;exact yAA (yAG s.k) this);go_wp2_with fail;refine F2.kX (HK.out.more (q:=.statement) ⟨F2.P.hi,trivial⟩ F2.P hle.out) fun rq3 HRQ3 w3 d3_0 d3_1 d3_2 d3_3 d3_4 d3_5 d3_6 d3_7 d3_8 F3=>?_;obtain⟨_,_,_,_,_,_,_,_,_⟩:=F3.sto 2;go_wp2_with fail;refine F3.litK _ (n:=2) (F3.ts2 1 2) rfl (by simp) rfl fun w4 F4=>?_;obtain⟨_,_,_,_,_,_,_,_,_⟩:=F4.c 0;obtain⟨_,_,_,_,_,_,_,_,_⟩:=F4.f 0;go_wp2_with fail;refine zQ (F4.put 0 3) fun V5 F5=>?_;have q:=F5.c 0;exact F5.ret 3 rfl (by simp[results,results147,go_sem,q]) rfl (HR.out.symm.trans (by
  unfold zF;dsimp only;rw[if_neg (by decide),if_pos rfl];simp only[HRQ2.out,HRQ3.out])) (fun _ h=>h)
theorem zP7 {C:Pc} {s:Ps} {w:World} (hp:Pre C.L (.word [102,111,114]) s) (K:KP C (zf C.L (.word [102,111,114]) s)) (h:Pa C s w):zk C s w (.word [102,111,114]):=by
 refine zA0 hp h fun HL hlen hsk r W X HR hW hX F0=>?_;have HK:=zD K;have hlt:=zD hp.2;clear K h hp;go_enter func147,ntmps147;go_upto_region 1 with(fail);clear hW hX;go_wp2_with fail;refine F0.kX (HK.out.rank (q:=.loop) ⟨F0.P.hi,hlt.out⟩ F0.P (yAD _) (by simp[zn])) fun rq1 HRQ1 w1 d1_0 d1_1 d1_2 d1_3 d1_4 d1_5 d1_6 d1_7 d1_8 F1=>?_;obtain⟨_,_,_,_,_,_,_,_,_⟩:=F1.sto 1;obtain⟨_,_,_,_,_,_,_,_,_⟩:=F1.c 0;obtain⟨_,_,_,_,_,_,_,_,_⟩:=F1.f 0;go_wp2_with fail;refine zQ (F1.put 0 1) fun V2 F2=>?_;have q:=F2.c 0;exact F2.ret 1 rfl (by simp[results,results147,go_sem,q]) rfl (HR.out.symm.trans (by
  unfold zF;dsimp only;rw[if_neg (by decide),if_neg (by decide),if_pos rfl];simp only[HRQ1.out])) (fun _ h=>h)
theorem zKs {C:Pc} {s:Ps} {w:World} (hp:Pre C.L (.word [98,114,101,97,107]) s) (K:KP C (zf C.L (.word [98,114,101,97,107]) s)) (h:Pa C s w):zk C s w (.word [98,114,101,97,107]):=by
 refine zA0 hp h fun HL hlen hsk r W X HR hW hX F0=>?_;have HK:=zD K;have hlt:=zD hp.2;clear K h hp;go_enter func147,ntmps147;go_upto_region 1 with(fail);clear hW hX;go_wp2_with fail;refine F0.kX (HK.out.rank (q:=.jump 12) ⟨F0.P.hi,hlt.out⟩ F0.P (yAD _) (by simp[zn])) fun rq1 HRQ1 w1 d1_0 d1_1 d1_2 d1_3 d1_4 d1_5 d1_6 d1_7 d1_8 F1=>?_;obtain⟨_,_,_,_,_,_,_,_,_⟩:=F1.sto 1;obtain⟨_,_,_,_,_,_,_,_,_⟩:=F1.c 0;obtain⟨_,_,_,_,_,_,_,_,_⟩:=F1.f 0;go_wp2_with fail;refine zQ (F1.put 0 1) fun V2 F2=>?_;have q:=F2.c 0;exact F2.ret 1 rfl (by simp[results,results147,go_sem,q]) rfl (HR.out.symm.trans (by
  unfold zF;dsimp only;rw[if_neg (by decide),if_neg (by decide),if_neg (by decide),if_pos rfl];simp only[HRQ1.out])) (fun _ h=>h)
theorem zGf {C:Pc} {s:Ps} {w:World} (hp:Pre C.L (.word [99,111,110,116,105,110,117,101]) s) (K:KP C (zf C.L (.word [99,111,110,116,105,110,117,101]) s)) (h:Pa C s w):zk C s w (.word [99,111,110,116,105,110,117,101]):=by
 refine zA0 hp h fun HL hlen hsk r W X HR hW hX F0=>?_;have HK:=zD K;have hlt:=zD hp.2;clear K h hp;go_enter func147,ntmps147;go_upto_region 1 with(fail);clear hW hX;go_wp2_with fail;refine F0.kX (HK.out.rank (q:=.jump 13) ⟨F0.P.hi,hlt.out⟩ F0.P (yAD _) (by simp[zn])) fun rq1 HRQ1 w1 d1_0 d1_1 d1_2 d1_3 d1_4 d1_5 d1_6 d1_7 d1_8 F1=>?_;obtain⟨_,_,_,_,_,_,_,_,_⟩:=F1.sto 1;obtain⟨_,_,_,_,_,_,_,_,_⟩:=F1.c 0;obtain⟨_,_,_,_,_,_,_,_,_⟩:=F1.f 0;go_wp2_with fail;refine zQ (F1.put 0 1) fun V2 F2=>?_;have q:=F2.c 0;exact F2.ret 1 rfl (by simp[results,results147,go_sem,q]) rfl (HR.out.symm.trans (by
  unfold zF;dsimp only;rw[if_neg (by decide),if_neg (by decide),if_neg (by decide),if_neg (by decide),if_pos rfl];simp only[HRQ1.out])) (fun _ h=>h)
theorem zP8 {C:Pc} {s:Ps} {w:World} (hp:Pre C.L (.word [116,114,121]) s) (K:KP C (zf C.L (.word [116,114,121]) s)) (h:Pa C s w):zk C s w (.word [116,114,121]):=by
 refine zA0 hp h fun HL hlen hsk r W X HR hW hX F0=>?_;have HK:=zD K;have hlt:=zD hp.2;clear K h hp;go_enter func147,ntmps147;go_upto_region 1 with(fail);clear hW hX;go_wp2_with fail;refine F0.kX (HK.out.rank (q:=.tries) ⟨F0.P.hi,hlt.out⟩ F0.P (yAD _) (by simp[zn])) fun rq1 HRQ1 w1 d1_0 d1_1 d1_2 d1_3 d1_4 d1_5 d1_6 d1_7 d1_8 F1=>?_;obtain⟨_,_,_,_,_,_,_,_,_⟩:=F1.sto 1;obtain⟨_,_,_,_,_,_,_,_,_⟩:=F1.c 0;obtain⟨_,_,_,_,_,_,_,_,_⟩:=F1.f 0;go_wp2_with fail;refine zQ (F1.put 0 1) fun V2 F2=>?_;have q:=F2.c 0;exact F2.ret 1 rfl (by simp[results,results147,go_sem,q]) rfl (HR.out.symm.trans (by
  unfold zF;dsimp only;rw[if_neg (by decide),if_neg (by decide),if_neg (by decide),if_neg (by decide),if_neg (by decide),if_neg (by decide),if_neg (by decide),if_pos rfl];simp only[HRQ1.out])) (fun _ h=>h)
theorem zFU {C:Pc} {s:Ps} {w:World} (hp:Pre C.L (.word [116,104,114,111,119]) s) (K:KP C (zf C.L (.word [116,104,114,111,119]) s)) (h:Pa C s w) (hnl:(zH C.L (zB s).k).nl=true):zk C s w (.word [116,104,114,111,119]):=by
 refine zA0 hp h fun HL hlen hsk r W X HR hW hX F0=>?_;have HK:=zD K;have hlt:=zD hp.2;clear K h hp;go_enter func147,ntmps147;go_upto_region 1 with(fail);clear hW hX;have HNL:=zD hnl;clear hnl;have hf6:=zKb;obtain⟨xk1,fk1,bk1⟩:=F0.k1;have F1:=F0.step hlt.out;obtain⟨⟨kd,tx,st,nk,nn,mg,ps,nl⟩,HT⟩:=zU C.L (zB (s)).k;have hnl2:nl=true:=by have:=HNL.out;rw[HT.out]at this;exact this
 subst hnl2;go_wp2_with fail;refine F1.kT (zp F1.P HT.out) fun w2 As Am c1 c2 F2=>?_;go_wp2_with fail;refine F2.kN (zAG F2.P) fun w3 F3=>?_;have hle:=zD (show(zB s).k≤(zV C.L (zB s)).k from(zl (s:=zB s) hlt.out).adv.le);go_wp2_with fail;refine F3.kX (HK.out.more (q:=.assign) ⟨F3.P.hi,trivial⟩ F3.P (yAA (yAG s.k) hle.out)) fun rq4 HRQ4 w4 d4_0 d4_1 d4_2 d4_3 d4_4 d4_5 d4_6 d4_7 d4_8 F4=>?_;obtain⟨_,_,_,_,_,_,_,_,_⟩:=F4.sto 2;go_wp2_with fail;refine F4.litK _ (n:=1) (F4.ts1 2) rfl (by simp) rfl fun w5 F5=>?_;have F6:=F5.bt 3 72 rfl;go_wp2_with fail;refine F6.kN (zBn F6.P) fun w7 F7=>?_;obtain⟨_,_,_,_,_,_,_,_,_⟩:=F7.c 4;obtain⟨_,_,_,_,_,_,_,_,_⟩:=F7.c 0;obtain⟨_,_,_,_,_,_,_,_,_⟩:=F7.f 0;go_wp2_with fail;refine zQ (F7.put 0 3) fun V8 F8=>?_;have q:=F8.c 0;exact F8.ret 3 rfl (by simp[results,results147,go_sem,q]) rfl (HR.out.symm.trans (by
  unfold zF;dsimp only;rw[if_neg (by decide),if_neg (by decide),if_neg (by decide),if_neg (by decide),if_neg (by decide),if_neg (by decide),if_pos rfl];simp[HNL.out,HRQ4.out])) (fun _ h=>h)
theorem zEl {C:Pc} {s:Ps} {w:World} (hp:Pre C.L (.word [116,104,114,111,119]) s) (K:KP C (zf C.L (.word [116,104,114,111,119]) s)) (h:Pa C s w) (hnl:(zH C.L (zB s).k).nl=false):zk C s w (.word [116,104,114,111,119]):=by
 refine zA0 hp h fun HL hlen hsk r W X HR hW hX F0=>?_;have HK:=zD K;have hlt:=zD hp.2;clear K h hp;go_enter func147,ntmps147;go_upto_region 1 with(fail);clear hW hX;have HNL:=zD hnl;clear hnl;have hf6:=zKb;obtain⟨xk1,fk1,bk1⟩:=F0.k1;have F1:=F0.step hlt.out;obtain⟨⟨kd,tx,st,nk,nn,mg,ps,nl⟩,HT⟩:=zU C.L (zB (s)).k;have hnl2:nl=false:=by have:=HNL.out;rw[HT.out]at this;exact this
 subst hnl2;go_wp2_with fail;refine F1.kT (zp F1.P HT.out) fun w2 As Am c1 c2 F2=>?_;go_wp2_with fail;refine F2.kX (HK.out.more (q:=.assign) ⟨F2.P.hi,trivial⟩ F2.P (yAG s.k)) fun rq3 HRQ3 w3 d3_0 d3_1 d3_2 d3_3 d3_4 d3_5 d3_6 d3_7 d3_8 F3=>?_;obtain⟨_,_,_,_,_,_,_,_,_⟩:=F3.sto 2;go_wp2_with fail;refine F3.litK _ (n:=1) (F3.ts1 2) rfl (by simp) rfl fun w4 F4=>?_;have F5:=F4.bt 3 72 rfl;go_wp2_with fail;refine F5.kN (zBn F5.P) fun w6 F6=>?_;obtain⟨_,_,_,_,_,_,_,_,_⟩:=F6.c 4;obtain⟨_,_,_,_,_,_,_,_,_⟩:=F6.c 0;obtain⟨_,_,_,_,_,_,_,_,_⟩:=F6.f 0;go_wp2_with fail;refine zQ (F6.put 0 3) fun V7 F7=>?_;have q:=F7.c 0;exact F7.ret 3 rfl (by simp[results,results147,go_sem,q]) rfl (HR.out.symm.trans (by
  unfold zF;dsimp only;rw[if_neg (by decide),if_neg (by decide),if_neg (by decide),if_neg (by decide),if_neg (by decide),if_neg (by decide),if_pos rfl];simp[HNL.out,HRQ3.out])) (fun _ h=>h)
theorem zGg {C:Pc} {s:Ps} {w:World} (hp:Pre C.L (.word [102,117,110,99,116,105,111,110]) s) (_K:KP C (zf C.L (.word [102,117,110,99,116,105,111,110]) s)) (h:Pa C s w):zk C s w (.word [102,117,110,99,116,105,111,110]):=by
 refine zA0 hp h fun HL hlen hsk r W X HR hW hX F0=>?_;clear h hp;go_enter func147,ntmps147;go_upto_region 1 with(fail);clear hW hX;go_wp2_with fail;refine F0.kN (zAG F0.P) fun w1 F1=>?_;go_wp2_with fail;refine F1.made0 _ fun w2 F2=>?_;obtain⟨_,_,_,_,_,_,_,_,_⟩:=F2.c 0;obtain⟨_,_,_,_,_,_,_,_,_⟩:=F2.f 0;go_wp2_with fail;refine zQ (F2.put 0 1) fun V3 F3=>?_;have q:=F3.c 0;exact F3.ret 1 rfl (by simp[results,results147,go_sem,q]) rfl (HR.out.symm.trans (by
  unfold zF;dsimp only;rw[if_neg (by decide),if_neg (by decide),if_neg (by decide),if_neg (by decide),if_neg (by decide),if_neg (by decide),if_neg (by decide),if_neg (by decide),if_pos (.inl rfl)])) (fun _ h=>h)
theorem zP9 {C:Pc} {s:Ps} {w:World} (hp:Pre C.L (.word [108,101,116]) s) (_K:KP C (zf C.L (.word [108,101,116]) s)) (h:Pa C s w):zk C s w (.word [108,101,116]):=by
 refine zA0 hp h fun HL hlen hsk r W X HR hW hX F0=>?_;clear h hp;go_enter func147,ntmps147;go_upto_region 1 with(fail);clear hW hX;go_wp2_with fail;refine F0.kN (zAG F0.P) fun w1 F1=>?_;go_wp2_with fail;refine F1.made0 _ fun w2 F2=>?_;obtain⟨_,_,_,_,_,_,_,_,_⟩:=F2.c 0;obtain⟨_,_,_,_,_,_,_,_,_⟩:=F2.f 0;go_wp2_with fail;refine zQ (F2.put 0 1) fun V3 F3=>?_;have q:=F3.c 0;exact F3.ret 1 rfl (by simp[results,results147,go_sem,q]) rfl (HR.out.symm.trans (by
  unfold zF;dsimp only;rw[if_neg (by decide),if_neg (by decide),if_neg (by decide),if_neg (by decide),if_neg (by decide),if_neg (by decide),if_neg (by decide),if_neg (by decide),if_pos (.inr (.inl rfl))])) (fun _ h=>h)
theorem zKt {C:Pc} {s:Ps} {w:World} (hp:Pre C.L (.word [99,111,110,115,116]) s) (_K:KP C (zf C.L (.word [99,111,110,115,116]) s)) (h:Pa C s w):zk C s w (.word [99,111,110,115,116]):=by
 refine zA0 hp h fun HL hlen hsk r W X HR hW hX F0=>?_;clear h hp;go_enter func147,ntmps147;go_upto_region 1 with(fail);clear hW hX;go_wp2_with fail;refine F0.kN (zAG F0.P) fun w1 F1=>?_;go_wp2_with fail;refine F1.made0 _ fun w2 F2=>?_;obtain⟨_,_,_,_,_,_,_,_,_⟩:=F2.c 0;obtain⟨_,_,_,_,_,_,_,_,_⟩:=F2.f 0;go_wp2_with fail;refine zQ (F2.put 0 1) fun V3 F3=>?_;have q:=F3.c 0;exact F3.ret 1 rfl (by simp[results,results147,go_sem,q]) rfl (HR.out.symm.trans (by
  unfold zF;dsimp only;rw[if_neg (by decide),if_neg (by decide),if_neg (by decide),if_neg (by decide),if_neg (by decide),if_neg (by decide),if_neg (by decide),if_neg (by decide),if_pos (.inr (.inr rfl))])) (fun _ h=>h)
theorem zKu {C:Pc} {v:List UInt8} {s:Ps} {w:World} (hp:Pre C.L (.word v) s) (K:KP C (zf C.L (.word v) s)) (h:Pa C s w) (h0:¬v=[105,102]) (h1:¬v=[119,104,105,108,101]) (h2:¬v=[102,111,114]) (h3:¬v=[98,114,101,97,107]) (h4:¬v=[99,111,110,116,105,110,117,101]) (h5:¬v=[114,101,116,117,114,110]) (h6:¬v=[116,104,114,111,119]) (h7:¬v=[116,114,121]) (h8:¬v=[102,117,110,99,116,105,111,110]) (h9:¬v=[108,101,116]) (h10:¬v=[99,111,110,115,116]):zk C s w (.word v):=by
 refine zA0 hp h fun HL hlen hsk r W X HR hW hX F0=>?_;have HK:=zD K;clear K h hp;go_enter func147,ntmps147;go_upto_region 1 with(fail);clear hW hX;have n0:(v==[105,102])=false:=yA.mpr h0;have n1:(v==[119,104,105,108,101])=false:=yA.mpr h1;have n2:(v==[102,111,114])=false:=yA.mpr h2;have n3:(v==[98,114,101,97,107])=false:=yA.mpr h3;have n4:(v==[99,111,110,116,105,110,117,101])=false:=yA.mpr h4;have n5:(v==[114,101,116,117,114,110])=false:=yA.mpr h5;have n6:(v==[116,104,114,111,119])=false:=yA.mpr h6;have n7:(v==[116,114,121])=false:=yA.mpr h7;have n8:(v==[102,117,110,99,116,105,111,110])=false:=yA.mpr h8;have n9:(v==[108,101,116])=false:=yA.mpr h9;have n10:(v==[99,111,110,115,116])=false:=yA.mpr h10;go_wp2_with fail;refine F0.kX (HK.out.rank (q:=.simple) ⟨F0.P.hi,trivial⟩ F0.P (yAD _) (by simp[zn])) fun rq1 HRQ1 w1 d1_0 d1_1 d1_2 d1_3 d1_4 d1_5 d1_6 d1_7 d1_8 F1=>?_;obtain⟨_,_,_,_,_,_,_,_,_⟩:=F1.sto 1;obtain⟨_,_,_,_,_,_,_,_,_⟩:=F1.c 0;obtain⟨_,_,_,_,_,_,_,_,_⟩:=F1.f 0;go_wp2_with fail;refine zQ (F1.put 0 1) fun V2 F2=>?_;have q:=F2.c 0;exact F2.ret 1 rfl (by simp[results,results147,go_sem,q]) rfl (HR.out.symm.trans (by
  unfold zF;dsimp only;rw[if_neg h0,if_neg h1,if_neg h2,if_neg h3,if_neg h4,if_neg h5,if_neg h6,if_neg h7,if_neg (fun h=>h.elim h8 (fun h=>h.elim h9 h10))];simp only[HRQ1.out])) (fun _ h=>h)
theorem zKv {C:Pc} {s:Ps} {w:World} (hp:Pre C.L (.word [105,102]) s) (K:KP C (zf C.L (.word [105,102]) s)) (h:Pa C s w) (hel:onP C.L [101,108,115,101] (zG C.L .statement (zG C.L .within (zB s)).2).2=false):zk C s w (.word [105,102]):=by
 refine zA0 hp h fun HL hlen hsk r W X HR hW hX F0=>?_;have HK:=zD K;have hlt:=zD hp.2;clear K h hp;go_enter func147,ntmps147;go_upto_region 1 with(fail);clear hW hX;obtain⟨xk1,fk1,bk1⟩:=F0.k1;have F1:=F0.step hlt.out;have hpost:=zD (zS HL.out (p:=.within) (s:=zB s) ⟨hlt.out,trivial⟩);go_wp2_with fail;refine F1.kX (HK.out.more (q:=.within) ⟨F1.P.hi,trivial⟩ F1.P (yAG s.k)) fun rq2 HRQ2 w2 d2_0 d2_1 d2_2 d2_3 d2_4 d2_5 d2_6 d2_7 d2_8 F2=>?_;obtain⟨_,_,_,_,_,_,_,_,_⟩:=F2.sto 1;have hx:=zD (show Adv C.L (zB s) (rq2.2) by have:=hpost.out.adv;rw[HRQ2.out]at this;exact this);have hle:=zD (show s.k < (rq2.2).k from yAA (yAG s.k) hx.out.le);have hpost2:=zD (zS HL.out (p:=.statement) (s:=rq2.2) ⟨hx.out.hi,trivial⟩);go_wp2_with fail;refine F2.kX (HK.out.more (q:=.statement) ⟨F2.P.hi,trivial⟩ F2.P hle.out) fun rq3 HRQ3 w3 d3_0 d3_1 d3_2 d3_3 d3_4 d3_5 d3_6 d3_7 d3_8 F3=>?_;obtain⟨_,_,_,_,_,_,_,_,_⟩:=F3.sto 2;have hy:=zD (show s.k < (rq3.2).k from yAA hle.out (show _≤(rq3.2).k by have:=hpost2.out.adv.le;rw[HRQ3.out]at this;exact this));obtain⟨be,hbe⟩:∃b,onP C.L [101,108,115,101] (rq3.2)=b:=⟨_,rfl⟩;have HBE:=zD hbe;clear hbe;go_wp2_with fail;refine F3.litR _ (n:=2) (F3.ts2 1 2) rfl (by simp) rfl fun w4 F4=>?_;have F5:=F4.bt 4 72 rfl;have hel:=zD (show onP C.L [101,108,115,101] (rq3.2)=false by have:=hel;rw[HRQ2.out,HRQ3.out]at this;exact this);cases be with
 | true=>exact absurd HBE.out (by have:=hel.out;simp[this])
 | false=>
  go_wp2_with fail;refine F5.kM (zBN F5.P [101,108,115,101] HBE.out) fun w6 F6=>?_;obtain⟨_,_,_,_,_,_,_,_,_⟩:=F6.c 5;obtain⟨_,_,_,_,_,_,_,_,_⟩:=F6.c 0;obtain⟨_,_,_,_,_,_,_,_,_⟩:=F6.f 0;go_wp2_with fail;refine zQ (F6.put 0 4) fun V7 F7=>?_;have q:=F7.c 0;exact F7.ret 4 rfl (by simp[results,results147,go_sem,q]) rfl (HR.out.symm.trans (by
   unfold zF;dsimp only;simp[HRQ2.out,HRQ3.out,HBE.out])) (fun _ h=>h)
theorem zHf {C:Pc} {s:Ps} {w:World} (hp:Pre C.L (.word [105,102]) s) (K:KP C (zf C.L (.word [105,102]) s)) (h:Pa C s w) (hel:onP C.L [101,108,115,101] (zG C.L .statement (zG C.L .within (zB s)).2).2=true):zk C s w (.word [105,102]):=by
 refine zA0 hp h fun HL hlen hsk r W X HR hW hX F0=>?_;have HK:=zD K;have hlt:=zD hp.2;clear K h hp;go_enter func147,ntmps147;go_upto_region 1 with(fail);clear hW hX;obtain⟨xk1,fk1,bk1⟩:=F0.k1;have F1:=F0.step hlt.out;have hpost:=zD (zS HL.out (p:=.within) (s:=zB s) ⟨hlt.out,trivial⟩);go_wp2_with fail;refine F1.kX (HK.out.more (q:=.within) ⟨F1.P.hi,trivial⟩ F1.P (yAG s.k)) fun rq2 HRQ2 w2 d2_0 d2_1 d2_2 d2_3 d2_4 d2_5 d2_6 d2_7 d2_8 F2=>?_;obtain⟨_,_,_,_,_,_,_,_,_⟩:=F2.sto 1;have hx:=zD (show Adv C.L (zB s) (rq2.2) by have:=hpost.out.adv;rw[HRQ2.out]at this;exact this);have hle:=zD (show s.k < (rq2.2).k from yAA (yAG s.k) hx.out.le);have hpost2:=zD (zS HL.out (p:=.statement) (s:=rq2.2) ⟨hx.out.hi,trivial⟩);go_wp2_with fail;refine F2.kX (HK.out.more (q:=.statement) ⟨F2.P.hi,trivial⟩ F2.P hle.out) fun rq3 HRQ3 w3 d3_0 d3_1 d3_2 d3_3 d3_4 d3_5 d3_6 d3_7 d3_8 F3=>?_;obtain⟨_,_,_,_,_,_,_,_,_⟩:=F3.sto 2;have hy:=zD (show s.k < (rq3.2).k from yAA hle.out (show _≤(rq3.2).k by have:=hpost2.out.adv.le;rw[HRQ3.out]at this;exact this));obtain⟨be,hbe⟩:∃b,onP C.L [101,108,115,101] (rq3.2)=b:=⟨_,rfl⟩;have HBE:=zD hbe;clear hbe;go_wp2_with fail;refine F3.litR _ (n:=2) (F3.ts2 1 2) rfl (by simp) rfl fun w4 F4=>?_;have F5:=F4.bt 4 72 rfl;have hel:=zD (show onP C.L [101,108,115,101] (rq3.2)=true by have:=hel;rw[HRQ2.out,HRQ3.out]at this;exact this);cases be with
 | false=>exact absurd HBE.out (by have:=hel.out;simp[this])
 | true=>
  go_wp2_with fail;refine F5.kM (zBK F5.P [101,108,115,101] HBE.out) fun w6 F6=>?_;have CL7:=zD (fun Q=>F6.dr.kRX 3 rfl (Q:=Q) (HK.out.more (q:=.statement) ⟨F6.dr.P.hi,trivial⟩ F6.dr.P (Nat.lt_succ_of_lt hy.out)));obtain⟨_,_,_,_,_,_,_,_,_⟩:=F6.c 5;go_wp2_with fail;go_region_law (first | (go_simp;go_at_call 98;(with_reducible refine CL7.out _ fun rq7 HRQ7 w7 d7_0 d7_1 d7_2 d7_3 d7_4 d7_5 d7_6 d7_7 d7_8 F7=>?_);obtain⟨_,_,_,_,_,_,_,_,_⟩:=F7.c 5;obtain⟨_,_,_,_,_,_,_,_,_⟩:=(F7.al (.cells #[d7_0,d7_1,d7_2,d7_3,d7_4,d7_5,d7_6,d7_7,d7_8] 72)).c 5) | (refine F7.snocS 3 6 rfl rfl (fun _ h=>h) (by simp) rfl _ _ rfl rfl rfl fun A8 cp8 w8 F8=>?_;obtain⟨_,_,_,_,_,_,_,_,_⟩:=F8.c 5;obtain⟨_,_,_,_,_,_,_,_,_⟩:=F8.f 5))
  all_goals
   have F9:=F8.set 5 8 (.slice A8 (2+1) cp8);obtain⟨_,_,_,_,_,_,_,_,_⟩:=F9.c 5;obtain⟨_,_,_,_,_,_,_,_,_⟩:=F9.c 0;obtain⟨_,_,_,_,_,_,_,_,_⟩:=F9.f 0;go_wp2_with fail;have F10:=F9.rowK 3 rfl 8;refine zQ (F10.put 0 7) fun V11 F11=>?_;have q:=F11.c 0;exact F11.ret 7 rfl (by simp[results,results147,go_sem,q]) rfl (HR.out.symm.trans (by
    unfold zF;dsimp only;simp[HRQ2.out,HRQ3.out,HRQ7.out,HBE.out])) (fun _ h=>h)
theorem zFV {C:Pc} {s:Ps} {w:World} (hp:Pre C.L (.word [114,101,116,117,114,110]) s) (_K:KP C (zf C.L (.word [114,101,116,117,114,110]) s)) (h:Pa C s w) (hbe:zB1 C.L (zB s)=true):zk C s w (.word [114,101,116,117,114,110]):=by
 refine zA0 hp h fun HL hlen hsk r W X HR hW hX F0=>?_;have hlt:=zD hp.2;clear h hp;go_enter func147,ntmps147;go_upto_region 1 with(fail);clear hW hX;have HBE:=zD hbe;clear hbe;obtain⟨xk1,fk1,bk1⟩:=F0.k1;have F1:=F0.step hlt.out;go_wp2_with fail;refine F1.made0 _ fun w2 F2=>?_;have F3:=F2.bt 1 72 rfl;go_wp2_with fail;refine F3.kB (zHY F3.P HBE.out) fun w4 F4=>?_;go_wp2_with fail;refine F4.kN (zBn F4.P) fun w5 F5=>?_;obtain⟨_,_,_,_,_,_,_,_,_⟩:=F5.c 2;obtain⟨_,_,_,_,_,_,_,_,_⟩:=F5.c 0;obtain⟨_,_,_,_,_,_,_,_,_⟩:=F5.f 0;go_wp2_with fail;refine zQ (F5.put 0 1) fun V6 F6=>?_;have q:=F6.c 0;exact F6.ret 1 rfl (by simp[results,results147,go_sem,q]) rfl (HR.out.symm.trans (by
  unfold zF;dsimp only;simp[HBE.out])) (fun _ h=>h)
theorem zFq {C:Pc} {s:Ps} {w:World} (hp:Pre C.L (.word [114,101,116,117,114,110]) s) (K:KP C (zf C.L (.word [114,101,116,117,114,110]) s)) (h:Pa C s w) (hbe:zB1 C.L (zB s)=false):zk C s w (.word [114,101,116,117,114,110]):=by
 refine zA0 hp h fun HL hlen hsk r W X HR hW hX F0=>?_;have HK:=zD K;have hlt:=zD hp.2;clear K h hp;go_enter func147,ntmps147;go_upto_region 1 with(fail);clear hW hX;have HBE:=zD hbe;clear hbe;obtain⟨xk1,fk1,bk1⟩:=F0.k1;have F1:=F0.step hlt.out;go_wp2_with fail;refine F1.made0 _ fun w2 F2=>?_;have F3:=F2.bt 1 72 rfl;go_wp2_with fail;refine F3.kB (zHY F3.P HBE.out) fun w4 F4=>?_;have F5:=F4.nil;have CL6:=zD (fun Q=>F5.dr.kRX 3 rfl (Q:=Q) (HK.out.more (q:=.assign) ⟨F5.dr.P.hi,trivial⟩ F5.dr.P (yAG s.k)));obtain⟨_,_,_,_,_,_,_,_,_⟩:=F5.c 2;go_wp2_with fail;go_region_law (first | (go_simp;go_at_call 140;(with_reducible refine CL6.out _ fun rq6 HRQ6 w6 d6_0 d6_1 d6_2 d6_3 d6_4 d6_5 d6_6 d6_7 d6_8 F6=>?_);obtain⟨_,_,_,_,_,_,_,_,_⟩:=F6.c 2;obtain⟨_,_,_,_,_,_,_,_,_⟩:=(F6.al (.cells #[d6_0,d6_1,d6_2,d6_3,d6_4,d6_5,d6_6,d6_7,d6_8] 72)).c 2) | (refine F6.snocS 3 4 rfl rfl (fun _ h=>h) (by simp) rfl _ _ rfl rfl rfl fun A7 cp7 w7 F7=>?_;obtain⟨_,_,_,_,_,_,_,_,_⟩:=F7.c 2;obtain⟨_,_,_,_,_,_,_,_,_⟩:=F7.f 2))
 all_goals
  have F8:=F7.set 2 8 (.slice A7 1 cp7);go_wp2_with fail;refine F8.kN (zBn F8.P) fun w9 F9=>?_;obtain⟨_,_,_,_,_,_,_,_,_⟩:=F9.c 2;obtain⟨_,_,_,_,_,_,_,_,_⟩:=F9.c 0;obtain⟨_,_,_,_,_,_,_,_,_⟩:=F9.f 0;go_wp2_with fail;have F10:=F9.rowK 3 rfl 14;refine zQ (F10.put 0 5) fun V11 F11=>?_;have q:=F11.c 0;exact F11.ret 5 rfl (by simp[results,results147,go_sem,q]) rfl (HR.out.symm.trans (by
   unfold zF;dsimp only;simp[HBE.out,HRQ6.out])) (fun _ h=>h)
theorem zQA {C:Pc} {v:List UInt8} {s:Ps} {w:World} (hp:Pre C.L (.word v) s) (K:KP C (zf C.L (.word v) s)) (h:Pa C s w):zk C s w (.word v):=by
 by_cases h0:v=[105,102]
 · subst h0;cases hel:onP C.L [101,108,115,101] (zG C.L .statement (zG C.L .within (zB s)).2).2 with
   | true=>exact zHf hp K h hel
   | false=>exact zKv hp K h hel
 by_cases h1:v=[119,104,105,108,101]
 · subst h1;exact zKr hp K h
 by_cases h2:v=[102,111,114]
 · subst h2;exact zP7 hp K h
 by_cases h3:v=[98,114,101,97,107]
 · subst h3;exact zKs hp K h
 by_cases h4:v=[99,111,110,116,105,110,117,101]
 · subst h4;exact zGf hp K h
 by_cases h5:v=[114,101,116,117,114,110]
 · subst h5;cases hbe:zB1 C.L (zB s)with
   | true=>exact zFV hp K h hbe
   | false=>exact zFq hp K h hbe
 by_cases h6:v=[116,104,114,111,119]
 · subst h6;cases hnl:(zH C.L (zB s).k).nl with
   | true=>exact zFU hp K h hnl
   | false=>exact zEl hp K h hnl
 by_cases h7:v=[116,114,121]
 · subst h7;exact zP8 hp K h
 by_cases h8:v=[102,117,110,99,116,105,111,110]
 · subst h8;exact zGg hp K h
 by_cases h9:v=[108,101,116]
 · subst h9;exact zP9 hp K h
 by_cases h10:v=[99,111,110,115,116]
 · subst h10;exact zKt hp K h
 exact zKu hp K h h0 h1 h2 h3 h4 h5 h6 h7 h8 h9 h10
def zDL (L:List Tok) (f i:Nat):Bool:=match zBT L f i with | none=>false | some j=>zBI L j
theorem zNH {L:List Tok} {f i:Nat} (h:(zH L i).kind≠1):zDL L f i=false:=by
 unfold zDL;cases f with
 | zero=>rfl
 | succ f=>unfold zBT;rw[if_neg h]
theorem zNI {L:List Tok} {f i:Nat} (h:(zH L i).kind=1) (hc:isT (zH L (i+1)) [44]=true):zDL L (f+1) i=zDL L f (i+2):=by
 unfold zDL;rw[zBT,if_pos h,if_pos hc]
theorem zKw {L:List Tok} {f i:Nat} (h:(zH L i).kind=1) (hc:isT (zH L (i+1)) [44]=false):zDL L (f+1) i=zBI L (i+1):=by
 unfold zDL;rw[zBT,if_pos h,if_neg (by rw[hc];decide)]
theorem zJa {L:List Tok} {s:Ps} (h:onP L [40] s=true):zAR L s=(if isT (zH L (s.k+1)) [41]=true then zBI L (s.k+1)else zDL L L.length (s.k+1)):=by
 unfold zAR zDL;rw[h,Bool.true_and];rfl
theorem zFW {L:List Tok} {i:Nat} (h:L.length≤i):zH L i=zm:=by
 unfold zH;rw[yAH,List.getElem?_eq_none h];rfl
theorem zQB {L:List Tok} (hL:Lst L) (i N:Nat) (hN:L.length=N):(zH L (min i (N - 1))).kind=(zH L i).kind:=by
 subst hN;rcases Nat.lt_or_ge i L.length with h | h
 · rw[show min i (L.length - 1)=i by omega]
 · have hp:=hL.pos;rw[show min i (L.length - 1)=L.length - 1 by omega,zFW h,hL.last];rfl
theorem zEY {L:List Tok} (hL:Lst L) (i N:Nat) (hN:L.length=N) (v:List UInt8):isT (zH L (min i (N - 1))) v=isT (zH L i) v:=by
 subst hN;rcases Nat.lt_or_ge i L.length with h | h
 · rw[show min i (L.length - 1)=i by omega]
 · have hp:=hL.pos;have h0:=hL.last;rw[show min i (L.length - 1)=L.length - 1 by omega,zFW h];unfold isT;rw[h0];simp[zm]
theorem zS0 {L:List Tok} {i:Nat} (h:(zH L i).kind=1):i < L.length:=by
 rcases Nat.lt_or_ge i L.length with h2 | h2
 · exact h2
 · rw[zFW h2]at h;exact absurd h (by decide)
theorem zNJ {C:Pc} {s:Ps} {w:World} (h:Pa C s w):Calls prog 174 #[.pointer (some ⟨C.g,0,none⟩)] w (zKa C s (zAR C.L s) w):=by
 have HL:=zD h.cx.lst;have hlen:C.N≤4097:=h.cx.n4;have hN:C.L.length=C.N:=h.cx.n;have hkN:=h.kN;have HP0:=zD h;have hf0:=zUY;obtain⟨b0,hb0⟩:∃b,onP C.L [40] s=b:=⟨_,rfl⟩;obtain⟨b1,hb1⟩:∃b,isT (zH C.L (s.k+1)) [41]=b:=⟨_,rfl⟩;obtain⟨r,hr⟩:∃r,zAR C.L s=r:=⟨_,rfl⟩;rw[hr];have HR:=zD hr;have HB0:=zD hb0;have HB1:=zD hb1;clear h hr hb0 hb1;go_enter func174,ntmps174;go_wp2_with fail;refine(zAY HP0.out [40] HB0.out).mono ?_;rintro e1 w1 ⟨rfl,hp1,hg1⟩;have HP1:=zD hp1;have HG1:=zD hg1;clear hp1 hg1;cases b0 with
 | false=>
  go_wp2_with fail;go_ret;exact⟨zJ (by rw[←HR.out];unfold zAR;rw[HB0.out];rfl),HP1.out,HG1.out⟩
 | true=>
  obtain⟨⟨kda,txa,sta,nka,nna,mga,psa,nla⟩,htka⟩:∃tk,zH C.L (min (s.k+(1)) (C.N - 1))=tk:=⟨_,rfl⟩;have HTa:=zD htka;clear htka;go_wp2_with fail;refine(zAv HP1.out (1) _ (by first | omega | decide | rfl) (by omega) HTa.out).mono ?_;rintro e2 w2 ⟨Asa,Ama,c1a,c2a,rfl,hs2,hm2,hp2,hg2⟩;have HP2:=zD hp2;have HG2:=zD (zE HG1.out hg2);clear hs2 hm2 hp2 hg2;go_wp2_with fail;refine(zCp [41] (show isT ⟨kda,txa,sta,nka,nna,mga,psa,nla⟩ [41]=b1 by rw[←HTa.out,zEY HL.out _ _ hN];exact HB1.out)).mono ?_;rintro e3 w3 ⟨rfl,hg3⟩;have HP3:=zD (HP2.out.new hg3);have HG3:=zD (zE HG2.out hg3);clear hg3;cases b1 with
  | true=>
   obtain⟨b2t,hb2t⟩:∃b,isT (zH C.L (s.k+(1))) [41]=b:=⟨_,rfl⟩;obtain⟨b3t,hb3t⟩:∃b,isT (zH C.L (s.k+(1+1))) [61,62]=b:=⟨_,rfl⟩;have HB2t:=zD hb2t;have HB3t:=zD hb3t;clear hb2t hb3t;have HE:=zD (show r=(b2t&&b3t) by
    rw[←HR.out,zJa HB0.out,if_pos HB1.out];unfold zBI;rw[←HB2t.out,←HB3t.out]
    all_goals first | rfl | (congr 3;omega))
   obtain⟨⟨kdet,txet,stet,nket,nnet,mget,pset,nlet⟩,htket⟩:∃tk,zH C.L (min (s.k+(1)) (C.N - 1))=tk:=⟨_,rfl⟩;have HTet:=zD htket;clear htket;go_wp2_with fail;refine(zAv HP3.out (1) _ (by first | omega | decide | rfl) (by omega) HTet.out).mono ?_;rintro e4 w4 ⟨Aset,Amet,c1et,c2et,rfl,hs4,hm4,hp4,hg4⟩;have HP4:=zD hp4;have HG4:=zD (zE HG3.out hg4);clear hs4 hm4 hp4 hg4;go_wp2_with fail;refine(zCp [41] (show isT ⟨kdet,txet,stet,nket,nnet,mget,pset,nlet⟩ [41]=b2t by rw[←HTet.out,zEY HL.out _ _ hN];exact HB2t.out)).mono ?_;rintro e5 w5 ⟨rfl,hg5⟩;have HP5:=zD (HP4.out.new hg5);have HG5:=zD (zE HG4.out hg5);clear hg5;cases b2t with
   | false=>
    go_wp2_with fail;go_ret;exact⟨zJ HE.out.symm,HP5.out,HG5.out⟩
   | true=>
    obtain⟨⟨kdft,txft,stft,nkft,nnft,mgft,psft,nlft⟩,htkft⟩:∃tk,zH C.L (min (s.k+(1+1)) (C.N - 1))=tk:=⟨_,rfl⟩;have HTft:=zD htkft;clear htkft;go_wp2_with fail;refine(zAv HP5.out (1+1) _ (by first | omega | decide | rfl) (by omega) HTft.out).mono ?_;rintro e6 w6 ⟨Asft,Amft,c1ft,c2ft,rfl,hs6,hm6,hp6,hg6⟩;have HP6:=zD hp6;have HG6:=zD (zE HG5.out hg6);clear hs6 hm6 hp6 hg6;go_wp2_with fail;refine(zCp [61,62] (show isT ⟨kdft,txft,stft,nkft,nnft,mgft,psft,nlft⟩ [61,62]=b3t by rw[←HTft.out,zEY HL.out _ _ hN];exact HB3t.out)).mono ?_;rintro e7 w7 ⟨rfl,hg7⟩;have HP7:=zD (HP6.out.new hg7);have HG7:=zD (zE HG6.out hg7);clear hg7;go_wp2_with fail;go_ret;exact⟨zJ (by rw[HE.out];rfl),HP7.out,HG7.out⟩
  | false=>
   have HR2:=zD (show zDL C.L C.L.length (s.k+1)=r by rw[←HR.out,zJa HB0.out,if_neg (by rw[HB1.out];decide)]);go_wp2_with fail
   go_loopg [3] C.L.length (fun f v wr=>∃i:Nat,C.L.length≤f+s.k+i∧v=.int .i64 (i:Int)∧i≤5000∧Hid (zDL C.L f (s.k+i)=r)∧Hid (Pa C s wr)∧Hid (w.grownBy wr none))
   case atStart=>exact⟨1,by omega,rfl,by omega,HR2.out,HP3.out,HG3.out⟩
   case round=>
    obtain⟨i,hgk,hv,hi,HRl,HPl,HGl⟩:=hrel;subst hv;obtain⟨ck,hck⟩:∃ck,decide ((zH C.L (s.k+i)).kind=1)=ck:=⟨_,rfl⟩;have hw1:IntKind.i64.wrap ((i:Int)+1)=(i:Int)+1:=by rw[IntKind.wrap_i64];omega
    have hw2:IntKind.i64.wrap ((i:Int)+1+1)=(i:Int)+1+1:=by rw[IntKind.wrap_i64];omega
    obtain⟨⟨kdk,txk,stk,nkk,nnk,mgk,psk,nlk⟩,htkk⟩:∃tk,zH C.L (min (s.k+(i)) (C.N - 1))=tk:=⟨_,rfl⟩;have HTk:=zD htkk;clear htkk;go_wp2_with fail;refine(zAv HPl.out (i) _ (by first | omega | decide | rfl) (by omega) HTk.out).mono ?_;rintro e8 w8 ⟨Ask,Amk,c1k,c2k,rfl,hs8,hm8,hp8,hg8⟩;have HP8:=zD hp8;have HG8:=zD (zE HGl.out hg8);clear hs8 hm8 hp8 hg8;have hkk:kdk=(zH C.L (s.k+i)).kind:=by have:=zQB HL.out (s.k+i) C.N hN;rw[HTk.out]at this;exact this
    cases ck with
    | false=>
     have hkn:(zH C.L (s.k+i)).kind≠1:=by simpa using hck
     have e1:((kdk:Int)==1)=false:=by rw[yA];omega
     have e2:((kdk:Int) !=1)=true:=by rw[bne,e1];rfl
     have HZ:=zD (show r=false from HRl.out.symm.trans (zNH hkn));clear hkk hck hkn;go_wp2_with fail;go_ret;exact⟨zJ HZ.out.symm,HP8.out,HG8.out⟩
    | true=>
     have hkn:(zH C.L (s.k+i)).kind=1:=by simpa using hck
     have e1:((kdk:Int)==1)=true:=by rw[beq_iff_eq];omega
     have e2:((kdk:Int) !=1)=false:=by rw[bne,e1];rfl
     have hlt:=zS0 hkn;have HKN:=zD hkn;clear hkk hck hkn;obtain⟨f,rfl⟩:∃f,gk=f+1:=⟨gk - 1,by omega⟩;obtain⟨bc,hbc⟩:∃b,isT (zH C.L (s.k+(i+1))) [44]=b:=⟨_,rfl⟩;have HBC:=zD hbc;clear hbc;obtain⟨⟨kdc,txc,stc,nkc,nnc,mgc,psc,nlc⟩,htkc⟩:∃tk,zH C.L (min (s.k+(i+1)) (C.N - 1))=tk:=⟨_,rfl⟩;have HTc:=zD htkc;clear htkc;go_wp2_with fail;refine(zAv HP8.out (i+1) _ (by first | omega | decide | rfl) (by omega) HTc.out).mono ?_;rintro e9 w9 ⟨Asc,Amc,c1c,c2c,rfl,hs9,hm9,hp9,hg9⟩;have HP9:=zD hp9;have HG9:=zD (zE HG8.out hg9);clear hs9 hm9 hp9 hg9;go_wp2_with fail;refine(zCp [44] (show isT ⟨kdc,txc,stc,nkc,nnc,mgc,psc,nlc⟩ [44]=bc by rw[←HTc.out,zEY HL.out _ _ hN];exact HBC.out)).mono ?_;rintro e10 w10 ⟨rfl,hg10⟩;have HP10:=zD (HP9.out.new hg10);have HG10:=zD (zE HG9.out hg10);clear hg10;cases bc with
     | true=>
      go_wp2_with fail
      go_roundg f
      case measure=>omega
      case rel=>exact⟨i+2,by omega,congrArg (Value.int .i64) (by omega),by omega,(zNI HKN.out HBC.out).symm.trans HRl.out,HP10.out,HG10.out⟩
     | false=>
      obtain⟨b2l,hb2l⟩:∃b,isT (zH C.L (s.k+(i+1))) [41]=b:=⟨_,rfl⟩;obtain⟨b3l,hb3l⟩:∃b,isT (zH C.L (s.k+(i+1+1))) [61,62]=b:=⟨_,rfl⟩;have HB2l:=zD hb2l;have HB3l:=zD hb3l;clear hb2l hb3l;have HE:=zD (show r=(b2l&&b3l) by
       rw[←HRl.out,zKw HKN.out HBC.out];unfold zBI;rw[←HB2l.out,←HB3l.out]
       all_goals first | rfl | (congr 3;omega))
      obtain⟨⟨kdel,txel,stel,nkel,nnel,mgel,psel,nlel⟩,htkel⟩:∃tk,zH C.L (min (s.k+(i+1)) (C.N - 1))=tk:=⟨_,rfl⟩;have HTel:=zD htkel;clear htkel;go_wp2_with fail;refine(zAv HP10.out (i+1) _ (by first | omega | decide | rfl) (by omega) HTel.out).mono ?_;rintro e11 w11 ⟨Asel,Amel,c1el,c2el,rfl,hs11,hm11,hp11,hg11⟩;have HP11:=zD hp11;have HG11:=zD (zE HG10.out hg11);clear hs11 hm11 hp11 hg11;go_wp2_with fail;refine(zCp [41] (show isT ⟨kdel,txel,stel,nkel,nnel,mgel,psel,nlel⟩ [41]=b2l by rw[←HTel.out,zEY HL.out _ _ hN];exact HB2l.out)).mono ?_;rintro e12 w12 ⟨rfl,hg12⟩;have HP12:=zD (HP11.out.new hg12);have HG12:=zD (zE HG11.out hg12);clear hg12;cases b2l with
      | false=>
       go_wp2_with fail;go_ret;exact⟨zJ HE.out.symm,HP12.out,HG12.out⟩
      | true=>
       obtain⟨⟨kdfl,txfl,stfl,nkfl,nnfl,mgfl,psfl,nlfl⟩,htkfl⟩:∃tk,zH C.L (min (s.k+(i+1+1)) (C.N - 1))=tk:=⟨_,rfl⟩;have HTfl:=zD htkfl;clear htkfl;go_wp2_with fail;refine(zAv HP12.out (i+1+1) _ (by first | omega | decide | rfl) (by omega) HTfl.out).mono ?_;rintro e13 w13 ⟨Asfl,Amfl,c1fl,c2fl,rfl,hs13,hm13,hp13,hg13⟩;have HP13:=zD hp13;have HG13:=zD (zE HG12.out hg13);clear hs13 hm13 hp13 hg13;go_wp2_with fail;refine(zCp [61,62] (show isT ⟨kdfl,txfl,stfl,nkfl,nnfl,mgfl,psfl,nlfl⟩ [61,62]=b3l by rw[←HTfl.out,zEY HL.out _ _ hN];exact HB3l.out)).mono ?_;rintro e14 w14 ⟨rfl,hg14⟩;have HP14:=zD (HP13.out.new hg14);have HG14:=zD (zE HG13.out hg14);clear hg14;go_wp2_with fail;go_ret;exact⟨zJ (by rw[HE.out];rfl),HP14.out,HG14.out⟩
end Go.Proofs.YtlohaclgbfhijaaGreatDoor
