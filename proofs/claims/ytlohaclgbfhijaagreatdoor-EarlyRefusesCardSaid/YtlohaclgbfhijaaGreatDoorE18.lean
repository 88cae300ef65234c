/- Joined for the claim EarlyRoot: the parser, the lexer and the trees as they are walked, made short by a program of mine. -/
import Derived.Test.YtlohaclgbfhijaaGreatDoorE15
import Derived.Test.YtlohaclgbfhijaaGreatDoorE17
import Derived.Deep.LoopGhost
import Derived.Test.YtlohaclgbfhijaaGreatDoorE14
import Derived.Deep.RegionLaw
import Derived.Deep.CutBlock
import Derived.Deep.DeepCutAuto
import Derived.Test.YtlohaclgbfhijaaGreatDoorE16
import Derived.Test.YtlohaclgbfhijaaGreatDoorE01
set_option maxHeartbeats 16000000
set_option maxRecDepth 1000000
namespace Go.Proofs.YtlohaclgbfhijaaGreatDoor
open Go.Proofs.Tryz
open Go.RowKit
theorem zJi {C:Pc} {s:Ps} {w:World} (hp:Pre C.L (.word [105,102]) s) (K:KP C (zZ C.L (.word [105,102]) s)) (h:Pa C s w) (hel:onP C.L [101,108,115,101] (zF C.L .statement (zF C.L .within (zB s)).2).2=false):zc C s w (.word [105,102]):=by
 refine zAg hp h fun HL hlen hsk r W X HR hW hX F0=>?_;have HK:=zA K;have hlt:=zA hp.2;clear K h hp;go_enter func147,ntmps147;go_upto_region 1 with(fail);clear hW hX;obtain⟨xk1,fk1,bk1⟩:=F0.k1;have F1:=F0.step hlt.out;have hpost:=zA (zV HL.out (p:=.within) (s:=zB s) ⟨hlt.out,trivial⟩);go_wp2_with fail;refine F1.kX (HK.out.more (q:=.within) ⟨F1.P.hi,trivial⟩ F1.P (yAF s.k)) fun rq2 HRQ2 w2 d2_0 d2_1 d2_2 d2_3 d2_4 d2_5 d2_6 d2_7 d2_8 F2=>?_;obtain⟨_,_,_,_,_,_,_,_,_⟩:=F2.sto 1;have hx:=zA (show Adv C.L (zB s) (rq2.2) by have:=hpost.out.adv;rw[HRQ2.out]at this;exact this);have hle:=zA (show s.k < (rq2.2).k from yAA (yAF s.k) hx.out.le);have hpost2:=zA (zV HL.out (p:=.statement) (s:=rq2.2) ⟨hx.out.hi,trivial⟩);go_wp2_with fail;refine F2.kX (HK.out.more (q:=.statement) ⟨F2.P.hi,trivial⟩ F2.P hle.out) fun rq3 HRQ3 w3 d3_0 d3_1 d3_2 d3_3 d3_4 d3_5 d3_6 d3_7 d3_8 F3=>?_;obtain⟨_,_,_,_,_,_,_,_,_⟩:=F3.sto 2;have hy:=zA (show s.k < (rq3.2).k from yAA hle.out (show _≤(rq3.2).k by have:=hpost2.out.adv.le;rw[HRQ3.out]at this;exact this));obtain⟨be,hbe⟩:∃b,onP C.L [101,108,115,101] (rq3.2)=b:=⟨_,rfl⟩;have HBE:=zA hbe;clear hbe;go_wp2_with fail;refine F3.litR _ (n:=2) (F3.ts2 1 2) rfl (by simp) rfl fun w4 F4=>?_;have F5:=F4.bt 4 72 rfl;have hel:=zA (show onP C.L [101,108,115,101] (rq3.2)=false by have:=hel;rw[HRQ2.out,HRQ3.out]at this;exact this);cases be with
 | true=>exact absurd HBE.out (by have:=hel.out;simp[this])
 | false=>
  go_wp2_with fail;refine F5.kM (zA1 F5.P [101,108,115,101] HBE.out) fun w6 F6=>?_;obtain⟨_,_,_,_,_,_,_,_,_⟩:=F6.c 5;obtain⟨_,_,_,_,_,_,_,_,_⟩:=F6.c 0;obtain⟨_,_,_,_,_,_,_,_,_⟩:=F6.f 0;go_wp2_with fail;refine zM (F6.put 0 4) fun V7 F7=>?_;have q:=F7.c 0;exact F7.ret 4 rfl (by simp[results,results147,go_sem,q]) rfl (HR.out.symm.trans (by
   unfold zE;dsimp only;simp[HRQ2.out,HRQ3.out,HBE.out])) (fun _ h=>h)
theorem zGm {C:Pc} {s:Ps} {w:World} (hp:Pre C.L (.word [105,102]) s) (K:KP C (zZ C.L (.word [105,102]) s)) (h:Pa C s w) (hel:onP C.L [101,108,115,101] (zF C.L .statement (zF C.L .within (zB s)).2).2=true):zc C s w (.word [105,102]):=by
 refine zAg hp h fun HL hlen hsk r W X HR hW hX F0=>?_;have HK:=zA K;have hlt:=zA hp.2;clear K h hp;go_enter func147,ntmps147;go_upto_region 1 with(fail);clear hW hX;obtain⟨xk1,fk1,bk1⟩:=F0.k1;have F1:=F0.step hlt.out;have hpost:=zA (zV HL.out (p:=.within) (s:=zB s) ⟨hlt.out,trivial⟩);go_wp2_with fail;refine F1.kX (HK.out.more (q:=.within) ⟨F1.P.hi,trivial⟩ F1.P (yAF s.k)) fun rq2 HRQ2 w2 d2_0 d2_1 d2_2 d2_3 d2_4 d2_5 d2_6 d2_7 d2_8 F2=>?_;obtain⟨_,_,_,_,_,_,_,_,_⟩:=F2.sto 1;have hx:=zA (show Adv C.L (zB s) (rq2.2) by have:=hpost.out.adv;rw[HRQ2.out]at this;exact this);have hle:=zA (show s.k < (rq2.2).k from yAA (yAF s.k) hx.out.le);have hpost2:=zA (zV HL.out (p:=.statement) (s:=rq2.2) ⟨hx.out.hi,trivial⟩);go_wp2_with fail;refine F2.kX (HK.out.more (q:=.statement) ⟨F2.P.hi,trivial⟩ F2.P hle.out) fun rq3 HRQ3 w3 d3_0 d3_1 d3_2 d3_3 d3_4 d3_5 d3_6 d3_7 d3_8 F3=>?_;obtain⟨_,_,_,_,_,_,_,_,_⟩:=F3.sto 2;have hy:=zA (show s.k < (rq3.2).k from yAA hle.out (show _≤(rq3.2).k by have:=hpost2.out.adv.le;rw[HRQ3.out]at this;exact this));obtain⟨be,hbe⟩:∃b,onP C.L [101,108,115,101] (rq3.2)=b:=⟨_,rfl⟩;have HBE:=zA hbe;clear hbe;go_wp2_with fail;refine F3.litR _ (n:=2) (F3.ts2 1 2) rfl (by simp) rfl fun w4 F4=>?_;have F5:=F4.bt 4 72 rfl;have hel:=zA (show onP C.L [101,108,115,101] (rq3.2)=true by have:=hel;rw[HRQ2.out,HRQ3.out]at this;exact this);cases be with
 | false=>exact absurd HBE.out (by have:=hel.out;simp[this])
 | true=>
  go_wp2_with fail;refine F5.kM (zAw F5.P [101,108,115,101] HBE.out) fun w6 F6=>?_;have CL7:=zA (fun Q=>F6.dr.kRX 3 rfl (Q:=Q) (HK.out.more (q:=.statement) ⟨F6.dr.P.hi,trivial⟩ F6.dr.P (Nat.lt_succ_of_lt hy.out)));obtain⟨_,_,_,_,_,_,_,_,_⟩:=F6.c 5;go_wp2_with fail;go_region_law (first | (go_simp;go_at_call 98;(with_reducible refine CL7.out _ fun rq7 HRQ7 w7 d7_0 d7_1 d7_2 d7_3 d7_4 d7_5 d7_6 d7_7 d7_8 F7=>?_);obtain⟨_,_,_,_,_,_,_,_,_⟩:=F7.c 5;obtain⟨_,_,_,_,_,_,_,_,_⟩:=(F7.al (.cells #[d7_0,d7_1,d7_2,d7_3,d7_4,d7_5,d7_6,d7_7,d7_8] 72)).c 5) | (refine F7.snocS 3 6 rfl rfl (fun _ h=>h) (by simp) rfl _ _ rfl rfl rfl fun A8 cp8 w8 F8=>?_;obtain⟨_,_,_,_,_,_,_,_,_⟩:=F8.c 5;obtain⟨_,_,_,_,_,_,_,_,_⟩:=F8.f 5))
  all_goals
   have F9:=F8.set 5 8 (.slice A8 (2+1) cp8);obtain⟨_,_,_,_,_,_,_,_,_⟩:=F9.c 5;obtain⟨_,_,_,_,_,_,_,_,_⟩:=F9.c 0;obtain⟨_,_,_,_,_,_,_,_,_⟩:=F9.f 0;go_wp2_with fail;have F10:=F9.rowK 3 rfl 8;refine zM (F10.put 0 7) fun V11 F11=>?_;have q:=F11.c 0;exact F11.ret 7 rfl (by simp[results,results147,go_sem,q]) rfl (HR.out.symm.trans (by
    unfold zE;dsimp only;simp[HRQ2.out,HRQ3.out,HRQ7.out,HBE.out])) (fun _ h=>h)
theorem zEg {C:Pc} {s:Ps} {w:World} (hp:Pre C.L (.word [114,101,116,117,114,110]) s) (_K:KP C (zZ C.L (.word [114,101,116,117,114,110]) s)) (h:Pa C s w) (hbe:zEN C.L (zB s)=true):zc C s w (.word [114,101,116,117,114,110]):=by
 refine zAg hp h fun HL hlen hsk r W X HR hW hX F0=>?_;have hlt:=zA hp.2;clear h hp;go_enter func147,ntmps147;go_upto_region 1 with(fail);clear hW hX;have HBE:=zA hbe;clear hbe;obtain⟨xk1,fk1,bk1⟩:=F0.k1;have F1:=F0.step hlt.out;go_wp2_with fail;refine F1.made0 _ fun w2 F2=>?_;have F3:=F2.bt 1 72 rfl;go_wp2_with fail;refine F3.kB (zGi F3.P HBE.out) fun w4 F4=>?_;go_wp2_with fail;refine F4.kN (zBJ F4.P) fun w5 F5=>?_;obtain⟨_,_,_,_,_,_,_,_,_⟩:=F5.c 2;obtain⟨_,_,_,_,_,_,_,_,_⟩:=F5.c 0;obtain⟨_,_,_,_,_,_,_,_,_⟩:=F5.f 0;go_wp2_with fail;refine zM (F5.put 0 1) fun V6 F6=>?_;have q:=F6.c 0;exact F6.ret 1 rfl (by simp[results,results147,go_sem,q]) rfl (HR.out.symm.trans (by
  unfold zE;dsimp only;simp[HBE.out])) (fun _ h=>h)
theorem zEv {C:Pc} {s:Ps} {w:World} (hp:Pre C.L (.word [114,101,116,117,114,110]) s) (K:KP C (zZ C.L (.word [114,101,116,117,114,110]) s)) (h:Pa C s w) (hbe:zEN C.L (zB s)=false):zc C s w (.word [114,101,116,117,114,110]):=by
 refine zAg hp h fun HL hlen hsk r W X HR hW hX F0=>?_;have HK:=zA K;have hlt:=zA hp.2;clear K h hp;go_enter func147,ntmps147;go_upto_region 1 with(fail);clear hW hX;have HBE:=zA hbe;clear hbe;obtain⟨xk1,fk1,bk1⟩:=F0.k1;have F1:=F0.step hlt.out;go_wp2_with fail;refine F1.made0 _ fun w2 F2=>?_;have F3:=F2.bt 1 72 rfl;go_wp2_with fail;refine F3.kB (zGi F3.P HBE.out) fun w4 F4=>?_;have F5:=F4.nil;have CL6:=zA (fun Q=>F5.dr.kRX 3 rfl (Q:=Q) (HK.out.more (q:=.assign) ⟨F5.dr.P.hi,trivial⟩ F5.dr.P (yAF s.k)));obtain⟨_,_,_,_,_,_,_,_,_⟩:=F5.c 2;go_wp2_with fail;go_region_law (first | (go_simp;go_at_call 140;(with_reducible refine CL6.out _ fun rq6 HRQ6 w6 d6_0 d6_1 d6_2 d6_3 d6_4 d6_5 d6_6 d6_7 d6_8 F6=>?_);obtain⟨_,_,_,_,_,_,_,_,_⟩:=F6.c 2;obtain⟨_,_,_,_,_,_,_,_,_⟩:=(F6.al (.cells #[d6_0,d6_1,d6_2,d6_3,d6_4,d6_5,d6_6,d6_7,d6_8] 72)).c 2) | (refine F6.snocS 3 4 rfl rfl (fun _ h=>h) (by simp) rfl _ _ rfl rfl rfl fun A7 cp7 w7 F7=>?_;obtain⟨_,_,_,_,_,_,_,_,_⟩:=F7.c 2;obtain⟨_,_,_,_,_,_,_,_,_⟩:=F7.f 2))
 all_goals
  have F8:=F7.set 2 8 (.slice A7 1 cp7);go_wp2_with fail;refine F8.kN (zBJ F8.P) fun w9 F9=>?_;obtain⟨_,_,_,_,_,_,_,_,_⟩:=F9.c 2;obtain⟨_,_,_,_,_,_,_,_,_⟩:=F9.c 0;obtain⟨_,_,_,_,_,_,_,_,_⟩:=F9.f 0;go_wp2_with fail;have F10:=F9.rowK 3 rfl 14;refine zM (F10.put 0 5) fun V11 F11=>?_;have q:=F11.c 0;exact F11.ret 5 rfl (by simp[results,results147,go_sem,q]) rfl (HR.out.symm.trans (by
   unfold zE;dsimp only;simp[HBE.out,HRQ6.out])) (fun _ h=>h)
theorem zOE {C:Pc} {v:List UInt8} {s:Ps} {w:World} (hp:Pre C.L (.word v) s) (K:KP C (zZ C.L (.word v) s)) (h:Pa C s w):zc C s w (.word v):=by
 by_cases h0:v=[105,102]
 · subst h0;cases hel:onP C.L [101,108,115,101] (zF C.L .statement (zF C.L .within (zB s)).2).2 with
   | true=>exact zGm hp K h hel
   | false=>exact zJi hp K h hel
 by_cases h1:v=[119,104,105,108,101]
 · subst h1;exact zJe hp K h
 by_cases h2:v=[102,111,114]
 · subst h2;exact zOB hp K h
 by_cases h3:v=[98,114,101,97,107]
 · subst h3;exact zJf hp K h
 by_cases h4:v=[99,111,110,116,105,110,117,101]
 · subst h4;exact zFj hp K h
 by_cases h5:v=[114,101,116,117,114,110]
 · subst h5;cases hbe:zEN C.L (zB s)with
   | true=>exact zEg hp K h hbe
   | false=>exact zEv hp K h hbe
 by_cases h6:v=[116,104,114,111,119]
 · subst h6;cases hnl:(zL C.L (zB s).k).nl with
   | true=>exact zEf hp K h hnl
   | false=>exact zDq hp K h hnl
 by_cases h7:v=[116,114,121]
 · subst h7;exact zOC hp K h
 by_cases h8:v=[102,117,110,99,116,105,111,110]
 · subst h8;exact zFk hp K h
 by_cases h9:v=[108,101,116]
 · subst h9;exact zOD hp K h
 by_cases h10:v=[99,111,110,115,116]
 · subst h10;exact zJg hp K h
 exact zJh hp K h h0 h1 h2 h3 h4 h5 h6 h7 h8 h9 h10
def zCR (L:List Tok) (f i:Nat):Bool:=match zFC L f i with | none=>false | some j=>zB4 L j
theorem zLx {L:List Tok} {f i:Nat} (h:(zL L i).kind≠1):zCR L f i=false:=by
 unfold zCR;cases f with
 | zero=>rfl
 | succ f=>unfold zFC;rw[if_neg h]
theorem zLy {L:List Tok} {f i:Nat} (h:(zL L i).kind=1) (hc:isT (zL L (i+1)) [44]=true):zCR L (f+1) i=zCR L f (i+2):=by
 unfold zCR;rw[zFC,if_pos h,if_pos hc]
theorem zJj {L:List Tok} {f i:Nat} (h:(zL L i).kind=1) (hc:isT (zL L (i+1)) [44]=false):zCR L (f+1) i=zB4 L (i+1):=by
 unfold zCR;rw[zFC,if_pos h,if_neg (by rw[hc];decide)]
theorem zIW {L:List Tok} {s:Ps} (h:onP L [40] s=true):zAX L s=(if isT (zL L (s.k+1)) [41]=true then zB4 L (s.k+1)else zCR L L.length (s.k+1)):=by
 unfold zAX zCR;rw[h,Bool.true_and];rfl
theorem zEh {L:List Tok} {i:Nat} (h:L.length≤i):zL L i=zj:=by
 unfold zL;rw[yAG,List.getElem?_eq_none h];rfl
theorem zOF {L:List Tok} (hL:Lst L) (i N:Nat) (hN:L.length=N):(zL L (min i (N - 1))).kind=(zL L i).kind:=by
 subst hN;rcases Nat.lt_or_ge i L.length with h | h
 · rw[show min i (L.length - 1)=i by omega]
 · have hp:=hL.pos;rw[show min i (L.length - 1)=L.length - 1 by omega,zEh h,hL.last];rfl
theorem zDa {L:List Tok} (hL:Lst L) (i N:Nat) (hN:L.length=N) (v:List UInt8):isT (zL L (min i (N - 1))) v=isT (zL L i) v:=by
 subst hN;rcases Nat.lt_or_ge i L.length with h | h
 · rw[show min i (L.length - 1)=i by omega]
 · have hp:=hL.pos;have h0:=hL.last;rw[show min i (L.length - 1)=L.length - 1 by omega,zEh h];unfold isT;rw[h0];simp[zj]
theorem zQO {L:List Tok} {i:Nat} (h:(zL L i).kind=1):i < L.length:=by
 rcases Nat.lt_or_ge i L.length with h2 | h2
 · exact h2
 · rw[zEh h2]at h;exact absurd h (by decide)
theorem zLz {C:Pc} {s:Ps} {w:World} (h:Pa C s w):Calls prog 174 #[.pointer (some ⟨C.g,0,none⟩)] w (zJW C s (zAX C.L s) w):=by
 have HL:=zA h.cx.lst;have hlen:C.N≤4097:=h.cx.n4;have hN:C.L.length=C.N:=h.cx.n;have hkN:=h.kN;have HP0:=zA h;have hf0:=zRU;obtain⟨b0,hb0⟩:∃b,onP C.L [40] s=b:=⟨_,rfl⟩;obtain⟨b1,hb1⟩:∃b,isT (zL C.L (s.k+1)) [41]=b:=⟨_,rfl⟩;obtain⟨r,hr⟩:∃r,zAX C.L s=r:=⟨_,rfl⟩;rw[hr];have HR:=zA hr;have HB0:=zA hb0;have HB1:=zA hb1;clear h hr hb0 hb1;go_enter func174,ntmps174;go_wp2_with fail;refine(zAL HP0.out [40] HB0.out).mono ?_;rintro e1 w1 ⟨rfl,hp1,hg1⟩;have HP1:=zA hp1;have HG1:=zA hg1;clear hp1 hg1;cases b0 with
 | false=>
  go_wp2_with fail;go_ret;exact⟨zD (by rw[←HR.out];unfold zAX;rw[HB0.out];rfl),HP1.out,HG1.out⟩
 | true=>
  obtain⟨⟨kda,txa,sta,nka,nna,mga,psa,nla⟩,htka⟩:∃tk,zL C.L (min (s.k+(1)) (C.N - 1))=tk:=⟨_,rfl⟩;have HTa:=zA htka;clear htka;go_wp2_with fail;refine(zAa HP1.out (1) _ (by first | omega | decide | rfl) (by omega) HTa.out).mono ?_;rintro e2 w2 ⟨Asa,Ama,c1a,c2a,rfl,hs2,hm2,hp2,hg2⟩;have HP2:=zA hp2;have HG2:=zA (zC HG1.out hg2);clear hs2 hm2 hp2 hg2;go_wp2_with fail;refine(zB7 [41] (show isT ⟨kda,txa,sta,nka,nna,mga,psa,nla⟩ [41]=b1 by rw[←HTa.out,zDa HL.out _ _ hN];exact HB1.out)).mono ?_;rintro e3 w3 ⟨rfl,hg3⟩;have HP3:=zA (HP2.out.new hg3);have HG3:=zA (zC HG2.out hg3);clear hg3;cases b1 with
  | true=>
   obtain⟨b2t,hb2t⟩:∃b,isT (zL C.L (s.k+(1))) [41]=b:=⟨_,rfl⟩;obtain⟨b3t,hb3t⟩:∃b,isT (zL C.L (s.k+(1+1))) [61,62]=b:=⟨_,rfl⟩;have HB2t:=zA hb2t;have HB3t:=zA hb3t;clear hb2t hb3t;have HE:=zA (show r=(b2t&&b3t) by
    rw[←HR.out,zIW HB0.out,if_pos HB1.out];unfold zB4;rw[←HB2t.out,←HB3t.out]
    all_goals first | rfl | (congr 3;omega))
   obtain⟨⟨kdet,txet,stet,nket,nnet,mget,pset,nlet⟩,htket⟩:∃tk,zL C.L (min (s.k+(1)) (C.N - 1))=tk:=⟨_,rfl⟩;have HTet:=zA htket;clear htket;go_wp2_with fail;refine(zAa HP3.out (1) _ (by first | omega | decide | rfl) (by omega) HTet.out).mono ?_;rintro e4 w4 ⟨Aset,Amet,c1et,c2et,rfl,hs4,hm4,hp4,hg4⟩;have HP4:=zA hp4;have HG4:=zA (zC HG3.out hg4);clear hs4 hm4 hp4 hg4;go_wp2_with fail;refine(zB7 [41] (show isT ⟨kdet,txet,stet,nket,nnet,mget,pset,nlet⟩ [41]=b2t by rw[←HTet.out,zDa HL.out _ _ hN];exact HB2t.out)).mono ?_;rintro e5 w5 ⟨rfl,hg5⟩;have HP5:=zA (HP4.out.new hg5);have HG5:=zA (zC HG4.out hg5);clear hg5;cases b2t with
   | false=>
    go_wp2_with fail;go_ret;exact⟨zD HE.out.symm,HP5.out,HG5.out⟩
   | true=>
    obtain⟨⟨kdft,txft,stft,nkft,nnft,mgft,psft,nlft⟩,htkft⟩:∃tk,zL C.L (min (s.k+(1+1)) (C.N - 1))=tk:=⟨_,rfl⟩;have HTft:=zA htkft;clear htkft;go_wp2_with fail;refine(zAa HP5.out (1+1) _ (by first | omega | decide | rfl) (by omega) HTft.out).mono ?_;rintro e6 w6 ⟨Asft,Amft,c1ft,c2ft,rfl,hs6,hm6,hp6,hg6⟩;have HP6:=zA hp6;have HG6:=zA (zC HG5.out hg6);clear hs6 hm6 hp6 hg6;go_wp2_with fail;refine(zB7 [61,62] (show isT ⟨kdft,txft,stft,nkft,nnft,mgft,psft,nlft⟩ [61,62]=b3t by rw[←HTft.out,zDa HL.out _ _ hN];exact HB3t.out)).mono ?_;rintro e7 w7 ⟨rfl,hg7⟩;have HP7:=zA (HP6.out.new hg7);have HG7:=zA (zC HG6.out hg7);clear hg7;go_wp2_with fail;go_ret;exact⟨zD (by rw[HE.out];rfl),HP7.out,HG7.out⟩
  | false=>
   have HR2:=zA (show zCR C.L C.L.length (s.k+1)=r by rw[←HR.out,zIW HB0.out,if_neg (by rw[HB1.out];decide)]);go_wp2_with fail
   go_loopg [3] C.L.length (fun f v wr=>∃i:Nat,C.L.length≤f+s.k+i∧v=.int .i64 (i:Int)∧i≤5000∧Hid (zCR C.L f (s.k+i)=r)∧Hid (Pa C s wr)∧Hid (w.grownBy wr none))
   case atStart=>exact⟨1,by omega,rfl,by omega,HR2.out,HP3.out,HG3.out⟩
   case round=>
    obtain⟨i,hgk,hv,hi,HRl,HPl,HGl⟩:=hrel;subst hv;obtain⟨ck,hck⟩:∃ck,decide ((zL C.L (s.k+i)).kind=1)=ck:=⟨_,rfl⟩;have hw1:IntKind.i64.wrap ((i:Int)+1)=(i:Int)+1:=by rw[IntKind.wrap_i64];omega
    have hw2:IntKind.i64.wrap ((i:Int)+1+1)=(i:Int)+1+1:=by rw[IntKind.wrap_i64];omega
    obtain⟨⟨kdk,txk,stk,nkk,nnk,mgk,psk,nlk⟩,htkk⟩:∃tk,zL C.L (min (s.k+(i)) (C.N - 1))=tk:=⟨_,rfl⟩;have HTk:=zA htkk;clear htkk;go_wp2_with fail;refine(zAa HPl.out (i) _ (by first | omega | decide | rfl) (by omega) HTk.out).mono ?_;rintro e8 w8 ⟨Ask,Amk,c1k,c2k,rfl,hs8,hm8,hp8,hg8⟩;have HP8:=zA hp8;have HG8:=zA (zC HGl.out hg8);clear hs8 hm8 hp8 hg8;have hkk:kdk=(zL C.L (s.k+i)).kind:=by have:=zOF HL.out (s.k+i) C.N hN;rw[HTk.out]at this;exact this
    cases ck with
    | false=>
     have hkn:(zL C.L (s.k+i)).kind≠1:=by simpa using hck
     have e1:((kdk:Int)==1)=false:=by rw[yA];omega
     have e2:((kdk:Int) !=1)=true:=by rw[bne,e1];rfl
     have HZ:=zA (show r=false from HRl.out.symm.trans (zLx hkn));clear hkk hck hkn;go_wp2_with fail;go_ret;exact⟨zD HZ.out.symm,HP8.out,HG8.out⟩
    | true=>
     have hkn:(zL C.L (s.k+i)).kind=1:=by simpa using hck
     have e1:((kdk:Int)==1)=true:=by rw[beq_iff_eq];omega
     have e2:((kdk:Int) !=1)=false:=by rw[bne,e1];rfl
     have hlt:=zQO hkn;have HKN:=zA hkn;clear hkk hck hkn;obtain⟨f,rfl⟩:∃f,gk=f+1:=⟨gk - 1,by omega⟩;obtain⟨bc,hbc⟩:∃b,isT (zL C.L (s.k+(i+1))) [44]=b:=⟨_,rfl⟩;have HBC:=zA hbc;clear hbc;obtain⟨⟨kdc,txc,stc,nkc,nnc,mgc,psc,nlc⟩,htkc⟩:∃tk,zL C.L (min (s.k+(i+1)) (C.N - 1))=tk:=⟨_,rfl⟩;have HTc:=zA htkc;clear htkc;go_wp2_with fail;refine(zAa HP8.out (i+1) _ (by first | omega | decide | rfl) (by omega) HTc.out).mono ?_;rintro e9 w9 ⟨Asc,Amc,c1c,c2c,rfl,hs9,hm9,hp9,hg9⟩;have HP9:=zA hp9;have HG9:=zA (zC HG8.out hg9);clear hs9 hm9 hp9 hg9;go_wp2_with fail;refine(zB7 [44] (show isT ⟨kdc,txc,stc,nkc,nnc,mgc,psc,nlc⟩ [44]=bc by rw[←HTc.out,zDa HL.out _ _ hN];exact HBC.out)).mono ?_;rintro e10 w10 ⟨rfl,hg10⟩;have HP10:=zA (HP9.out.new hg10);have HG10:=zA (zC HG9.out hg10);clear hg10;cases bc with
     | true=>
      go_wp2_with fail
      go_roundg f
      case measure=>omega
      case rel=>exact⟨i+2,by omega,congrArg (Value.int .i64) (by omega),by omega,(zLy HKN.out HBC.out).symm.trans HRl.out,HP10.out,HG10.out⟩
     | false=>
      obtain⟨b2l,hb2l⟩:∃b,isT (zL C.L (s.k+(i+1))) [41]=b:=⟨_,rfl⟩;obtain⟨b3l,hb3l⟩:∃b,isT (zL C.L (s.k+(i+1+1))) [61,62]=b:=⟨_,rfl⟩;have HB2l:=zA hb2l;have HB3l:=zA hb3l;clear hb2l hb3l;have HE:=zA (show r=(b2l&&b3l) by
       rw[←HRl.out,zJj HKN.out HBC.out];unfold zB4;rw[←HB2l.out,←HB3l.out]
       all_goals first | rfl | (congr 3;omega))
      obtain⟨⟨kdel,txel,stel,nkel,nnel,mgel,psel,nlel⟩,htkel⟩:∃tk,zL C.L (min (s.k+(i+1)) (C.N - 1))=tk:=⟨_,rfl⟩;have HTel:=zA htkel;clear htkel;go_wp2_with fail;refine(zAa HP10.out (i+1) _ (by first | omega | decide | rfl) (by omega) HTel.out).mono ?_;rintro e11 w11 ⟨Asel,Amel,c1el,c2el,rfl,hs11,hm11,hp11,hg11⟩;have HP11:=zA hp11;have HG11:=zA (zC HG10.out hg11);clear hs11 hm11 hp11 hg11;go_wp2_with fail;refine(zB7 [41] (show isT ⟨kdel,txel,stel,nkel,nnel,mgel,psel,nlel⟩ [41]=b2l by rw[←HTel.out,zDa HL.out _ _ hN];exact HB2l.out)).mono ?_;rintro e12 w12 ⟨rfl,hg12⟩;have HP12:=zA (HP11.out.new hg12);have HG12:=zA (zC HG11.out hg12);clear hg12;cases b2l with
      | false=>
       go_wp2_with fail;go_ret;exact⟨zD HE.out.symm,HP12.out,HG12.out⟩
      | true=>
       obtain⟨⟨kdfl,txfl,stfl,nkfl,nnfl,mgfl,psfl,nlfl⟩,htkfl⟩:∃tk,zL C.L (min (s.k+(i+1+1)) (C.N - 1))=tk:=⟨_,rfl⟩;have HTfl:=zA htkfl;clear htkfl;go_wp2_with fail;refine(zAa HP12.out (i+1+1) _ (by first | omega | decide | rfl) (by omega) HTfl.out).mono ?_;rintro e13 w13 ⟨Asfl,Amfl,c1fl,c2fl,rfl,hs13,hm13,hp13,hg13⟩;have HP13:=zA hp13;have HG13:=zA (zC HG12.out hg13);clear hs13 hm13 hp13 hg13;go_wp2_with fail;refine(zB7 [61,62] (show isT ⟨kdfl,txfl,stfl,nkfl,nnfl,mgfl,psfl,nlfl⟩ [61,62]=b3l by rw[←HTfl.out,zDa HL.out _ _ hN];exact HB3l.out)).mono ?_;rintro e14 w14 ⟨rfl,hg14⟩;have HP14:=zA (HP13.out.new hg14);have HG14:=zA (zC HG13.out hg14);clear hg14;go_wp2_with fail;go_ret;exact⟨zD (by rw[HE.out];rfl),HP14.out,HG14.out⟩
theorem zCb {C:Pc} {s:Ps} {w:World} (h:Pa C s w) {b:Bool} (hb:zAX C.L s=b):Calls prog 174 #[.pointer (some ⟨C.g,0,none⟩)] w (zJW C s b w):=hb▸zLz h
theorem zFl {L:List Tok} {s:Ps} (h:zAX L s=true):onP L [40] s=true:=by
 unfold zAX at h;rw[Bool.and_eq_true]at h;exact h.1
theorem zHe {C:Pc} {s:Ps} {w:World} (hp:Pre C.L (.assign) s) (K:KP C (zZ C.L (.assign) s)) (h:Pa C s w) (hc:(zL C.L s.k).kind=1∧isT (zAN C.L s.k 1) [61,62]=true∧(zAN C.L s.k 1).nl=false):zc C s w (.assign):=by
 refine zAg hp h fun HL hlen hsk r W X HR hW hX F0=>?_;have HK:=zA K;clear K h hp;go_enter func140,ntmps140;go_upto_region 1 with(fail);clear hW hX;have HC:=zA hc;clear hc;obtain⟨⟨kd,tx,st,nk,nn,mg,ps,nl⟩,HT⟩:=zP C.L (s).k;go_wp2_with fail;refine F0.kT (zf F0.P HT.out) fun w1 As Am c1 c2 F1=>?_;have F2:=F1.bt 1 44 rfl;have hf6:=zJX;have e1:((kd:Int)==1)=true:=by have:=HC.out.1;rw[HT.out]at this;have:kd=1:=this;rw[beq_iff_eq];omega
 have hlt:=zA (HL.out.lt hsk (by rw[HC.out.1];decide));have hn:=F2.P.cx.n;obtain⟨⟨kd2,tx2,st2,nk2,nn2,mg2,ps2,nl2⟩,HT2⟩:=zP C.L (zB s).k;have HA:=zA (show isT ⟨kd2,tx2,st2,nk2,nn2,mg2,ps2,nl2⟩ [61,62]=true by rw[←HT2.out];exact HC.out.2.1);have hnl2:nl2=false:=by have:=HC.out.2.2;rw[show zAN C.L s.k 1=zL C.L (zB s).k from rfl,HT2.out]at this;exact this
 subst hnl2;have HT2m:=zA (show zL C.L (min (s.k+1) (C.N - 1))=⟨kd2,tx2,st2,nk2,nn2,mg2,ps2,false⟩ by rw[show min (s.k+1) (C.N - 1)=s.k+1 by have:=hlt.out;omega];exact HT2.out);obtain⟨_,_,_,_,_,_,_,_,_⟩:=F2.c 2;go_wp2_with fail;refine F2.kT (zAa F2.P 1 1 rfl (by decide) HT2m.out) fun w3 As2 Am2 c12 c22 F3=>?_;go_wp2_with fail;refine F3.kQ (zB7 [61,62] HA.out) fun w4 F4=>?_;go_wp2_with fail;refine F4.kT (zAa F4.P 1 1 rfl (by decide) HT2m.out) fun w5 As3 Am3 c13 c23 F5=>?_;obtain⟨xk6,fk6,bk6⟩:=F5.k1;have F6:=F5.step hlt.out;obtain⟨_,_,_,_,_,_,_,_,_⟩:=F6.c 2;go_wp2_with fail;refine(zBz 20 ⟨tx.toArray⟩ none 0 0).mono ?_;rintro ev7 w7 ⟨rfl,hg7⟩;have HPb:=zA ((F6.P.new hg7).alloc (.cells #[.int .i64 20,.string ⟨tx.toArray⟩,.slice none 0 0,.int .i64 0,.int .i64 0,.bool false,.slice none 0 0,.slice none 0 0,.slice none 0 0] 72));have hsz:((w5).setCell ⟨C.g,1,none⟩ (.int .i64 (((s).k:Int)+1))).heap.size≤w7.heap.size:=hg7.size;have HRB:=zA (show RowP ((w7).alloc (.cells #[.int .i64 20,.string ⟨tx.toArray⟩,.slice none 0 0,.int .i64 0,.int .i64 0,.bool false,.slice none 0 0,.slice none 0 0,.slice none 0 0] 72)) (((w5).setCell ⟨C.g,1,none⟩ (.int .i64 (((s).k:Int)+1))).heap.size≤·) (.slice (some ⟨w7.heap.size,0,none⟩) 1 1) [trN 20 tx []]from RowP.lit (n:=1) rfl (TrsC.cons (show TrC _ _ (trN 20 tx []) [.int .i64 20,.string ⟨tx.toArray⟩,.slice none 0 0,.int .i64 0,.int .i64 0,.bool false,.slice none 0 0,.slice none 0 0,.slice none 0 0]from(RowP.nil _ _).treeN) (.nil _ _)) hsz (by show 1≤maxLen;unfold maxLen;omega));have HGB:=zA (show((w5).setCell ⟨C.g,1,none⟩ (.int .i64 (((s).k:Int)+1))).grownBy ((w7).alloc (.cells #[.int .i64 20,.string ⟨tx.toArray⟩,.slice none 0 0,.int .i64 0,.int .i64 0,.bool false,.slice none 0 0,.slice none 0 0,.slice none 0 0] 72)) (some C.g)from zC (zAF hg7 _) (zG _ _ _));clear hg7 hsz;go_wp2_with fail;refine F6.kA ((HK.out.more (q:=.body [trN 20 tx []]) ⟨HPb.out.hi,trivial⟩ HPb.out (yAF s.k)) _ _ _ _ rfl (by simp) HGB.out F6.P.lt HRB.out) fun rq8 HRQ8 w8 d8_0 d8_1 d8_2 d8_3 d8_4 d8_5 d8_6 d8_7 d8_8 F8=>?_;obtain⟨_,_,_,_,_,_,_,_,_⟩:=F8.sto 5;obtain⟨_,_,_,_,_,_,_,_,_⟩:=F8.c 0;obtain⟨_,_,_,_,_,_,_,_,_⟩:=F8.f 0;go_wp2_with fail;refine zM (F8.put 0 5) fun V9 F9=>?_;have q:=F9.c 0;exact F9.ret 5 rfl (by simp[results,results140,go_sem,q]) rfl (HR.out.symm.trans (by
  unfold zE;dsimp only;rw[if_pos HC.out,HT.out];simp only[HRQ8.out])) (fun _ h=>h)
theorem zEw {C:Pc} {s:Ps} {w:World} (hp:Pre C.L (.assign) s) (K:KP C (zZ C.L (.assign) s)) (h:Pa C s w) (hc:(zL C.L s.k).kind≠1) (har:zAX C.L s=true):zc C s w (.assign):=by
 refine zAg hp h fun HL hlen hsk r W X HR hW hX F0=>?_;have HK:=zA K;clear K h hp;go_enter func140,ntmps140;go_upto_region 1 with(fail);clear hW hX;have HC:=zA hc;clear hc;have Hhar:=zA har;clear har;obtain⟨⟨kd,tx,st,nk,nn,mg,ps,nl⟩,HT⟩:=zP C.L (s).k;go_wp2_with fail;refine F0.kT (zf F0.P HT.out) fun w1 As Am c1 c2 F1=>?_;have F2:=F1.bt 1 44 rfl;have hf6:=zJX;have HNO:=zA (show¬((zL C.L s.k).kind=1∧isT (zAN C.L s.k 1) [61,62]=true∧(zAN C.L s.k 1).nl=false)from fun h=>HC.out h.1);have e1:((kd:Int)==1)=false:=by have:=HC.out;rw[HT.out]at this;have:kd≠1:=this;rw[yA];omega
 obtain⟨_,_,_,_,_,_,_,_,_⟩:=F2.c 2;go_wp2_with fail;refine F2.kB (zCb F2.P Hhar.out) fun w3 F3=>?_;have hpl:=zA (zD0 HL.out (s:=s) hsk);have hNN:=zA F3.P.cx.n;have hl0:=zA (HL.out.on hsk (zFl Hhar.out));have heat:=zA (show Eat C.L s (zF C.L .params s).2 from zV HL.out (p:=.params) (s:=s) ⟨hsk,trivial⟩);go_wp2_with fail;refine(Calls.mono (show Calls prog 144 #[.pointer (some ⟨C.g,0,none⟩)] _ (LstQ C (zF C.L .params s) _)from HK.out.rank (q:=.params) ⟨F3.P.hi,trivial⟩ F3.P (yAC _) (by simp[ze])) ?_);rintro ev0 w0 ⟨Ar,n0,cp,rfl,hln,hl2,hl3,hr0,hp0,hg0⟩;have HPz:=zA hp0;have HLN:=zA hln;have HRz:=zA hr0;have HGz:=zA hg0;clear hln hl2 hl3 hr0 hp0 hg0;go_wp2_with fail;refine F3.kA ((HK.out.more (q:=.body (zF C.L .params s).1.subs) ⟨HPz.out.hi,trivial⟩ HPz.out (heat.out.more hl0.out)) _ _ _ _ HLN.out (by have:=hpl.out;have:=hNN.out;have:=HLN.out;omega) HGz.out F3.P.lt HRz.out) fun rq4 HRQ4 w4 d4_0 d4_1 d4_2 d4_3 d4_4 d4_5 d4_6 d4_7 d4_8 F4=>?_;obtain⟨_,_,_,_,_,_,_,_,_⟩:=F4.sto 3;obtain⟨_,_,_,_,_,_,_,_,_⟩:=F4.c 0;obtain⟨_,_,_,_,_,_,_,_,_⟩:=F4.f 0;go_wp2_with fail;refine zM (F4.put 0 3) fun V5 F5=>?_;have q:=F5.c 0;exact F5.ret 3 rfl (by simp[results,results140,go_sem,q]) rfl (HR.out.symm.trans (by
  unfold zE;dsimp only;rw[if_neg HNO.out,if_pos Hhar.out];simp only[HRQ4.out])) (fun _ h=>h)
theorem zEx {C:Pc} {s:Ps} {w:World} (hp:Pre C.L (.assign) s) (K:KP C (zZ C.L (.assign) s)) (h:Pa C s w) (hc:(zL C.L s.k).kind=1∧isT (zAN C.L s.k 1) [61,62]=false) (har:zAX C.L s=true):zc C s w (.assign):=by
 refine zAg hp h fun HL hlen hsk r W X HR hW hX F0=>?_;have HK:=zA K;clear K h hp;go_enter func140,ntmps140;go_upto_region 1 with(fail);clear hW hX;have HC:=zA hc;clear hc;have Hhar:=zA har;clear har;obtain⟨⟨kd,tx,st,nk,nn,mg,ps,nl⟩,HT⟩:=zP C.L (s).k;go_wp2_with fail;refine F0.kT (zf F0.P HT.out) fun w1 As Am c1 c2 F1=>?_;have F2:=F1.bt 1 44 rfl;have hf6:=zJX;have e1:((kd:Int)==1)=true:=by have:=HC.out.1;rw[HT.out]at this;have:kd=1:=this;rw[beq_iff_eq];omega
 have hlt:=zA (HL.out.lt hsk (by rw[HC.out.1];decide));have hn:=F2.P.cx.n;have HNO:=zA (show¬((zL C.L s.k).kind=1∧isT (zAN C.L s.k 1) [61,62]=true∧(zAN C.L s.k 1).nl=false)from fun h=>by rw[HC.out.2]at h;cases h.2.1);obtain⟨⟨kd2,tx2,st2,nk2,nn2,mg2,ps2,nl2⟩,HT2⟩:=zP C.L (zB s).k;have HA:=zA (show isT ⟨kd2,tx2,st2,nk2,nn2,mg2,ps2,nl2⟩ [61,62]=false by rw[←HT2.out];exact HC.out.2);have HT2m:=zA (show zL C.L (min (s.k+1) (C.N - 1))=⟨kd2,tx2,st2,nk2,nn2,mg2,ps2,nl2⟩ by rw[show min (s.k+1) (C.N - 1)=s.k+1 by have:=hlt.out;omega];exact HT2.out);obtain⟨_,_,_,_,_,_,_,_,_⟩:=F2.c 2;go_wp2_with fail;refine F2.kT (zAa F2.P 1 1 rfl (by decide) HT2m.out) fun w3 As2 Am2 c12 c22 F3=>?_;go_wp2_with fail;refine F3.kQ (zB7 [61,62] HA.out) fun w4 F4=>?_;go_wp2_with fail;refine F4.kB (zCb F4.P Hhar.out) fun w5 F5=>?_;have hpl:=zA (zD0 HL.out (s:=s) hsk);have hNN:=zA F5.P.cx.n;have hl0:=zA (HL.out.on hsk (zFl Hhar.out));have heat:=zA (show Eat C.L s (zF C.L .params s).2 from zV HL.out (p:=.params) (s:=s) ⟨hsk,trivial⟩);go_wp2_with fail;refine(Calls.mono (show Calls prog 144 #[.pointer (some ⟨C.g,0,none⟩)] _ (LstQ C (zF C.L .params s) _)from HK.out.rank (q:=.params) ⟨F5.P.hi,trivial⟩ F5.P (yAC _) (by simp[ze])) ?_);rintro ev0 w0 ⟨Ar,n0,cp,rfl,hln,hl2,hl3,hr0,hp0,hg0⟩;have HPz:=zA hp0;have HLN:=zA hln;have HRz:=zA hr0;have HGz:=zA hg0;clear hln hl2 hl3 hr0 hp0 hg0;go_wp2_with fail;refine F5.kA ((HK.out.more (q:=.body (zF C.L .params s).1.subs) ⟨HPz.out.hi,trivial⟩ HPz.out (heat.out.more hl0.out)) _ _ _ _ HLN.out (by have:=hpl.out;have:=hNN.out;have:=HLN.out;omega) HGz.out F5.P.lt HRz.out) fun rq6 HRQ6 w6 d6_0 d6_1 d6_2 d6_3 d6_4 d6_5 d6_6 d6_7 d6_8 F6=>?_;obtain⟨_,_,_,_,_,_,_,_,_⟩:=F6.sto 4;obtain⟨_,_,_,_,_,_,_,_,_⟩:=F6.c 0;obtain⟨_,_,_,_,_,_,_,_,_⟩:=F6.f 0;go_wp2_with fail;refine zM (F6.put 0 4) fun V7 F7=>?_;have q:=F7.c 0;exact F7.ret 4 rfl (by simp[results,results140,go_sem,q]) rfl (HR.out.symm.trans (by
  unfold zE;dsimp only;rw[if_neg HNO.out,if_pos Hhar.out];simp only[HRQ6.out])) (fun _ h=>h)
theorem zEy {C:Pc} {s:Ps} {w:World} (hp:Pre C.L (.assign) s) (K:KP C (zZ C.L (.assign) s)) (h:Pa C s w) (hc:(zL C.L s.k).kind=1∧isT (zAN C.L s.k 1) [61,62]=true∧(zAN C.L s.k 1).nl=true) (har:zAX C.L s=true):zc C s w (.assign):=by
 refine zAg hp h fun HL hlen hsk r W X HR hW hX F0=>?_;have HK:=zA K;clear K h hp;go_enter func140,ntmps140;go_upto_region 1 with(fail);clear hW hX;have HC:=zA hc;clear hc;have Hhar:=zA har;clear har;obtain⟨⟨kd,tx,st,nk,nn,mg,ps,nl⟩,HT⟩:=zP C.L (s).k;go_wp2_with fail;refine F0.kT (zf F0.P HT.out) fun w1 As Am c1 c2 F1=>?_;have F2:=F1.bt 1 44 rfl;have hf6:=zJX;have e1:((kd:Int)==1)=true:=by have:=HC.out.1;rw[HT.out]at this;have:kd=1:=this;rw[beq_iff_eq];omega
 have hlt:=zA (HL.out.lt hsk (by rw[HC.out.1];decide));have hn:=F2.P.cx.n;have HNO:=zA (show¬((zL C.L s.k).kind=1∧isT (zAN C.L s.k 1) [61,62]=true∧(zAN C.L s.k 1).nl=false)from fun h=>by rw[HC.out.2.2]at h;cases h.2.2);obtain⟨⟨kd2,tx2,st2,nk2,nn2,mg2,ps2,nl2⟩,HT2⟩:=zP C.L (zB s).k;have HA:=zA (show isT ⟨kd2,tx2,st2,nk2,nn2,mg2,ps2,nl2⟩ [61,62]=true by rw[←HT2.out];exact HC.out.2.1);have hnl2:nl2=true:=by have:=HC.out.2.2;rw[show zAN C.L s.k 1=zL C.L (zB s).k from rfl,HT2.out]at this;exact this
 subst hnl2;have HT2m:=zA (show zL C.L (min (s.k+1) (C.N - 1))=⟨kd2,tx2,st2,nk2,nn2,mg2,ps2,true⟩ by rw[show min (s.k+1) (C.N - 1)=s.k+1 by have:=hlt.out;omega];exact HT2.out);obtain⟨_,_,_,_,_,_,_,_,_⟩:=F2.c 2;go_wp2_with fail;refine F2.kT (zAa F2.P 1 1 rfl (by decide) HT2m.out) fun w3 As2 Am2 c12 c22 F3=>?_;go_wp2_with fail;refine F3.kQ (zB7 [61,62] HA.out) fun w4 F4=>?_;go_wp2_with fail;refine F4.kT (zAa F4.P 1 1 rfl (by decide) HT2m.out) fun w5 As3 Am3 c13 c23 F5=>?_;go_wp2_with fail;refine F5.kB (zCb F5.P Hhar.out) fun w6 F6=>?_;have hpl:=zA (zD0 HL.out (s:=s) hsk);have hNN:=zA F6.P.cx.n;have hl0:=zA (HL.out.on hsk (zFl Hhar.out));have heat:=zA (show Eat C.L s (zF C.L .params s).2 from zV HL.out (p:=.params) (s:=s) ⟨hsk,trivial⟩);go_wp2_with fail;refine(Calls.mono (show Calls prog 144 #[.pointer (some ⟨C.g,0,none⟩)] _ (LstQ C (zF C.L .params s) _)from HK.out.rank (q:=.params) ⟨F6.P.hi,trivial⟩ F6.P (yAC _) (by simp[ze])) ?_);rintro ev0 w0 ⟨Ar,n0,cp,rfl,hln,hl2,hl3,hr0,hp0,hg0⟩;have HPz:=zA hp0;have HLN:=zA hln;have HRz:=zA hr0;have HGz:=zA hg0;clear hln hl2 hl3 hr0 hp0 hg0;go_wp2_with fail;refine F6.kA ((HK.out.more (q:=.body (zF C.L .params s).1.subs) ⟨HPz.out.hi,trivial⟩ HPz.out (heat.out.more hl0.out)) _ _ _ _ HLN.out (by have:=hpl.out;have:=hNN.out;have:=HLN.out;omega) HGz.out F6.P.lt HRz.out) fun rq7 HRQ7 w7 d7_0 d7_1 d7_2 d7_3 d7_4 d7_5 d7_6 d7_7 d7_8 F7=>?_;obtain⟨_,_,_,_,_,_,_,_,_⟩:=F7.sto 5;obtain⟨_,_,_,_,_,_,_,_,_⟩:=F7.c 0;obtain⟨_,_,_,_,_,_,_,_,_⟩:=F7.f 0;go_wp2_with fail;refine zM (F7.put 0 5) fun V8 F8=>?_;have q:=F8.c 0;exact F8.ret 5 rfl (by simp[results,results140,go_sem,q]) rfl (HR.out.symm.trans (by
  unfold zE;dsimp only;rw[if_neg HNO.out,if_pos Hhar.out];simp only[HRQ7.out])) (fun _ h=>h)
theorem zFm {C:Pc} {s:Ps} {w:World} (hp:Pre C.L (.assign) s) (K:KP C (zZ C.L (.assign) s)) (h:Pa C s w) (hc:(zL C.L s.k).kind≠1) (har:zAX C.L s=false):zc C s w (.assign):=by
 refine zAg hp h fun HL hlen hsk r W X HR hW hX F0=>?_;have HK:=zA K;clear K h hp;go_enter func140,ntmps140;go_upto_region 1 with(fail);clear hW hX;have HC:=zA hc;clear hc;have Hhar:=zA har;clear har;obtain⟨⟨kd,tx,st,nk,nn,mg,ps,nl⟩,HT⟩:=zP C.L (s).k;go_wp2_with fail;refine F0.kT (zf F0.P HT.out) fun w1 As Am c1 c2 F1=>?_;have F2:=F1.bt 1 44 rfl;have hf6:=zJX;have HNO:=zA (show¬((zL C.L s.k).kind=1∧isT (zAN C.L s.k 1) [61,62]=true∧(zAN C.L s.k 1).nl=false)from fun h=>HC.out h.1);have e1:((kd:Int)==1)=false:=by have:=HC.out;rw[HT.out]at this;have:kd≠1:=this;rw[yA];omega
 obtain⟨_,_,_,_,_,_,_,_,_⟩:=F2.c 2;go_wp2_with fail;refine F2.kB (zCb F2.P Hhar.out) fun w3 F3=>?_;have hx:=zA (zV HL.out (p:=.cond) (s:=s) ⟨hsk,trivial⟩).adv;go_wp2_with fail;refine F3.kX (HK.out.rank (q:=.cond) ⟨F3.P.hi,trivial⟩ F3.P (yAC _) (by simp[ze])) fun rq4 HRQ4 w4 d4_0 d4_1 d4_2 d4_3 d4_4 d4_5 d4_6 d4_7 d4_8 F4=>?_;obtain⟨_,_,_,_,_,_,_,_,_⟩:=F4.sto 3;have hx2:=zA (show Adv C.L s (rq4.2) by have:=hx.out;rw[HRQ4.out]at this;exact this);obtain rfl:=(F4.t 3).kind;have F5:=F4.box [.int .i64 (rq4.1).nd.kind,d4_1,d4_2,d4_3,d4_4,d4_5,d4_6,d4_7,d4_8] 72 rfl (by decide) (by decide);obtain⟨⟨kdo,txo,sto,nko,nno,mgo,pso,nlo⟩,HTo⟩:=zP C.L (rq4.2).k;go_wp2_with fail;refine F5.kT (zf F5.P HTo.out) fun w6 Aso Amo c1o c2o F6=>?_;have F7:=F6.bt 5 44 rfl;obtain⟨ck,hck⟩:∃c,decide (kdo=5)=c:=⟨_,rfl⟩;obtain⟨co,hco⟩:∃c,decide (txo∈zO2)=c:=⟨_,rfl⟩;obtain⟨bt,hbt⟩:∃bt,zAf (rq4.1).nd.kind=bt:=⟨_,rfl⟩;have HCO:=zA hco;have HBT:=zA hbt;clear hco hbt;cases ck with
 | false=>
  have hk5:kdo≠5:=by simpa using hck
  have e5:((kdo:Int)==5)=false:=by rw[yA];omega
  have e6:((kdo:Int) !=5)=true:=by rw[bne,e5];rfl
  have HK5:=zA hk5;clear hck hk5;obtain⟨_,_,_,_,_,_,_,_,_⟩:=F7.c 6;go_upto_region 10 with(fail);refine zCs F7 fun w8 F8=>?_;obtain⟨_,_,_,_,_,_,_,_,_⟩:=F8.c 4;obtain⟨_,_,_,_,_,_,_,_,_⟩:=F8.sto 3;obtain⟨_,_,_,_,_,_,_,_,_⟩:=F8.c 0;obtain⟨_,_,_,_,_,_,_,_,_⟩:=F8.f 0;go_wp2_with fail;refine zM (F8.put 0 3) fun V9 F9=>?_;have q:=F9.c 0;exact F9.ret 3 rfl (by simp[results,results140,go_sem,q]) rfl (HR.out.symm.trans (by
   unfold zE;dsimp only;rw[if_neg HNO.out,if_neg (by rw[Hhar.out];decide)]
   try dsimp only
   rw[HRQ4.out,HTo.out];rw[if_pos (.inl HK5.out)])) (fun _ h=>h)
 | true=>
  have hk5:kdo=5:=by simpa using hck
  have e5:((kdo:Int)==5)=true:=by rw[beq_iff_eq];omega
  have e6:((kdo:Int) !=5)=false:=by rw[bne,e5];rfl
  have HK5:=zA hk5;clear hck hk5;obtain⟨_,_,_,_,_,_,_,_,_⟩:=F7.c 6;go_wp2_with fail;refine F7.kQ (zLo txo HCO.out) fun w10 F10=>?_;cases co with
  | true=>
   obtain⟨_,_,_,_,_,_,_,_,_⟩:=F10.c 4;go_wp2_with fail;refine(zBG _ _).mono ?_;rintro ev11 wx11 ⟨rfl,rfl⟩;rw[HBT.out];cases bt with
   | true=>
    have hl2:=zA (HL.out.lt (s:=rq4.2) hx2.out.hi (by rw[HTo.out];show kdo≠0;have:=HK5.out;omega));obtain⟨xk12,fk12,bk12⟩:=F10.k1;have F12:=F10.step hl2.out;go_upto_region 15 with(fail);refine zCs F12 fun w13 F13=>?_;have CL14:=zA (fun Q=>F13.dr.kX (Q:=Q) (HK.out.more (q:=.assign) ⟨F13.dr.P.hi,trivial⟩ F13.dr.P (Nat.lt_succ_of_le hx2.out.le)));obtain⟨_,_,_,_,_,_,_,_,_⟩:=F13.c 4;obtain⟨_,_,_,_,_,_,_,_,_⟩:=F13.c 6;go_upto_region 15 with(fail)
    go_cut [70] (fun _ wx=>∃(rq:Tr×Ps) (BB:Nat),Hid (zF C.L (.assign) (zB (rq4.2))=rq)∧Fr C (w.heap.size≤·) w [X] [.bx X 72 [.int .i64 49,.string ⟨(txo).toArray⟩,.slice none 0 0,.int .i64 0,.int .i64 0,.bool false,.slice none 0 0,.slice none 0 0,.slice (some ⟨BB,0,none⟩) 2 2],.tr (trN 49 (txo) [rq4.1,rq.1]) [.int .i64 49,.string ⟨(txo).toArray⟩,.slice none 0 0,.int .i64 0,.int .i64 0,.bool false,.slice none 0 0,.slice none 0 0,.slice (some ⟨BB,0,none⟩) 2 2]] rq.2 wx)
    case first=>
     go_region_law (first | (go_simp;go_at_call 140;(with_reducible refine CL14.out _ fun rq HRQ w14 d14_0 d14_1 d14_2 d14_3 d14_4 d14_5 d14_6 d14_7 d14_8 F14=>?_);obtain⟨_,_,_,_,_,_,_,_,_⟩:=F14.c 4;obtain⟨_,_,_,_,_,_,_,_,_⟩:=F14.c 6;obtain⟨_,_,_,_,_,_,_,_,_⟩:=(F14.al (.cells #[.int .i64 (rq4.1).nd.kind,d4_1,d4_2,d4_3,d4_4,d4_5,d4_6,d4_7,d4_8,d14_0,d14_1,d14_2,d14_3,d14_4,d14_5,d14_6,d14_7,d14_8] 72)).c 6;have LT14:=zA (fun Q=>F14.litN 49 txo (n:=2) (Q:=Q) (F14.ts2 3 7) rfl (by simp) rfl)) | (go_simp;go_at_call 139;(with_reducible refine LT14.out _ fun w15 F15=>?_);obtain⟨_,_,_,_,_,_,_,_,_⟩:=F15.c 0;obtain⟨_,_,_,_,_,_,_,_,_⟩:=F15.f 0))
     all_goals
      go_wp2_with fail;go_meet;exact⟨rq,w14.heap.size,HRQ,(F15.put 0 8).pk1 [X] [0,8] (by simp) (by decide) rfl (by simp)⟩
    case rest=>
     obtain⟨rq,BB,HRA,Fq⟩:=hcut;obtain⟨_,_,_,_,_,_,_,_,_⟩:=Fq.c 0;go_wp2_with fail;have q:=Fq.c 0;exact Fq.ret 1 rfl (by simp[results,results140,go_sem,q]) rfl (HR.out.symm.trans (by
      unfold zE;dsimp only;rw[if_neg HNO.out,if_neg (by rw[Hhar.out];decide)]
      try dsimp only
      rw[HRQ4.out,HTo.out];rw[if_neg (fun h=>h.elim (fun h=>h HK5.out) (fun h=>h (by have:=HCO.out;simpa using this)))];rw[if_neg (by rw[HBT.out];decide),HRA.out])) (fun _ h=>h)
   | false=>
    go_wp2_with fail;refine F10.kN (zBq F10.P 5 (by decide)) fun w16 F16=>?_;obtain⟨_,_,_,_,_,_,_,_,_⟩:=F16.c 4;obtain⟨_,_,_,_,_,_,_,_,_⟩:=F16.sto 3;obtain⟨_,_,_,_,_,_,_,_,_⟩:=F16.c 0;obtain⟨_,_,_,_,_,_,_,_,_⟩:=F16.f 0;go_wp2_with fail;refine zM (F16.put 0 3) fun V17 F17=>?_;have q:=F17.c 0;exact F17.ret 3 rfl (by simp[results,results140,go_sem,q]) rfl (HR.out.symm.trans (by
     unfold zE;dsimp only;rw[if_neg HNO.out,if_neg (by rw[Hhar.out];decide)]
     try dsimp only
     rw[HRQ4.out,HTo.out];rw[if_neg (fun h=>h.elim (fun h=>h HK5.out) (fun h=>h (by have:=HCO.out;simpa using this)))];rw[if_pos HBT.out])) (fun _ h=>h)
  | false=>
   go_upto_region 10 with(fail);refine zCs F10 fun w18 F18=>?_;obtain⟨_,_,_,_,_,_,_,_,_⟩:=F18.c 4;obtain⟨_,_,_,_,_,_,_,_,_⟩:=F18.sto 3;obtain⟨_,_,_,_,_,_,_,_,_⟩:=F18.c 0;obtain⟨_,_,_,_,_,_,_,_,_⟩:=F18.f 0;go_wp2_with fail;refine zM (F18.put 0 3) fun V19 F19=>?_;have q:=F19.c 0;exact F19.ret 3 rfl (by simp[results,results140,go_sem,q]) rfl (HR.out.symm.trans (by
    unfold zE;dsimp only;rw[if_neg HNO.out,if_neg (by rw[Hhar.out];decide)]
    try dsimp only
    rw[HRQ4.out,HTo.out];rw[if_pos (.inr (by have:=HCO.out;simpa using this))])) (fun _ h=>h)
theorem zFn {C:Pc} {s:Ps} {w:World} (hp:Pre C.L (.assign) s) (K:KP C (zZ C.L (.assign) s)) (h:Pa C s w) (hc:(zL C.L s.k).kind=1∧isT (zAN C.L s.k 1) [61,62]=false) (har:zAX C.L s=false):zc C s w (.assign):=by
 refine zAg hp h fun HL hlen hsk r W X HR hW hX F0=>?_;have HK:=zA K;clear K h hp;go_enter func140,ntmps140;go_upto_region 1 with(fail);clear hW hX;have HC:=zA hc;clear hc;have Hhar:=zA har;clear har;obtain⟨⟨kd,tx,st,nk,nn,mg,ps,nl⟩,HT⟩:=zP C.L (s).k;go_wp2_with fail;refine F0.kT (zf F0.P HT.out) fun w1 As Am c1 c2 F1=>?_;have F2:=F1.bt 1 44 rfl;have hf6:=zJX;have e1:((kd:Int)==1)=true:=by have:=HC.out.1;rw[HT.out]at this;have:kd=1:=this;rw[beq_iff_eq];omega
 have hlt:=zA (HL.out.lt hsk (by rw[HC.out.1];decide));have hn:=F2.P.cx.n;have HNO:=zA (show¬((zL C.L s.k).kind=1∧isT (zAN C.L s.k 1) [61,62]=true∧(zAN C.L s.k 1).nl=false)from fun h=>by rw[HC.out.2]at h;cases h.2.1);obtain⟨⟨kd2,tx2,st2,nk2,nn2,mg2,ps2,nl2⟩,HT2⟩:=zP C.L (zB s).k;have HA:=zA (show isT ⟨kd2,tx2,st2,nk2,nn2,mg2,ps2,nl2⟩ [61,62]=false by rw[←HT2.out];exact HC.out.2);have HT2m:=zA (show zL C.L (min (s.k+1) (C.N - 1))=⟨kd2,tx2,st2,nk2,nn2,mg2,ps2,nl2⟩ by rw[show min (s.k+1) (C.N - 1)=s.k+1 by have:=hlt.out;omega];exact HT2.out);obtain⟨_,_,_,_,_,_,_,_,_⟩:=F2.c 2;go_wp2_with fail;refine F2.kT (zAa F2.P 1 1 rfl (by decide) HT2m.out) fun w3 As2 Am2 c12 c22 F3=>?_;go_wp2_with fail;refine F3.kQ (zB7 [61,62] HA.out) fun w4 F4=>?_;go_wp2_with fail;refine F4.kB (zCb F4.P Hhar.out) fun w5 F5=>?_;have hx:=zA (zV HL.out (p:=.cond) (s:=s) ⟨hsk,trivial⟩).adv;go_wp2_with fail;refine F5.kX (HK.out.rank (q:=.cond) ⟨F5.P.hi,trivial⟩ F5.P (yAC _) (by simp[ze])) fun rq6 HRQ6 w6 d6_0 d6_1 d6_2 d6_3 d6_4 d6_5 d6_6 d6_7 d6_8 F6=>?_;obtain⟨_,_,_,_,_,_,_,_,_⟩:=F6.sto 4;have hx2:=zA (show Adv C.L s (rq6.2) by have:=hx.out;rw[HRQ6.out]at this;exact this);obtain rfl:=(F6.t 4).kind;have F7:=F6.box [.int .i64 (rq6.1).nd.kind,d6_1,d6_2,d6_3,d6_4,d6_5,d6_6,d6_7,d6_8] 72 rfl (by decide) (by decide);obtain⟨⟨kdo,txo,sto,nko,nno,mgo,pso,nlo⟩,HTo⟩:=zP C.L (rq6.2).k;go_wp2_with fail;refine F7.kT (zf F7.P HTo.out) fun w8 Aso Amo c1o c2o F8=>?_;have F9:=F8.bt 6 44 rfl;obtain⟨ck,hck⟩:∃c,decide (kdo=5)=c:=⟨_,rfl⟩;obtain⟨co,hco⟩:∃c,decide (txo∈zO2)=c:=⟨_,rfl⟩;obtain⟨bt,hbt⟩:∃bt,zAf (rq6.1).nd.kind=bt:=⟨_,rfl⟩;have HCO:=zA hco;have HBT:=zA hbt;clear hco hbt;cases ck with
 | false=>
  have hk5:kdo≠5:=by simpa using hck
  have e5:((kdo:Int)==5)=false:=by rw[yA];omega
  have e6:((kdo:Int) !=5)=true:=by rw[bne,e5];rfl
  have HK5:=zA hk5;clear hck hk5;obtain⟨_,_,_,_,_,_,_,_,_⟩:=F9.c 7;go_upto_region 10 with(fail);refine zCs F9 fun w10 F10=>?_;obtain⟨_,_,_,_,_,_,_,_,_⟩:=F10.c 5;obtain⟨_,_,_,_,_,_,_,_,_⟩:=F10.sto 4;obtain⟨_,_,_,_,_,_,_,_,_⟩:=F10.c 0;obtain⟨_,_,_,_,_,_,_,_,_⟩:=F10.f 0;go_wp2_with fail;refine zM (F10.put 0 4) fun V11 F11=>?_;have q:=F11.c 0;exact F11.ret 4 rfl (by simp[results,results140,go_sem,q]) rfl (HR.out.symm.trans (by
   unfold zE;dsimp only;rw[if_neg HNO.out,if_neg (by rw[Hhar.out];decide)]
   try dsimp only
   rw[HRQ6.out,HTo.out];rw[if_pos (.inl HK5.out)])) (fun _ h=>h)
 | true=>
  have hk5:kdo=5:=by simpa using hck
  have e5:((kdo:Int)==5)=true:=by rw[beq_iff_eq];omega
  have e6:((kdo:Int) !=5)=false:=by rw[bne,e5];rfl
  have HK5:=zA hk5;clear hck hk5;obtain⟨_,_,_,_,_,_,_,_,_⟩:=F9.c 7;go_wp2_with fail;refine F9.kQ (zLo txo HCO.out) fun w12 F12=>?_;cases co with
  | true=>
   obtain⟨_,_,_,_,_,_,_,_,_⟩:=F12.c 5;go_wp2_with fail;refine(zBG _ _).mono ?_;rintro ev13 wx13 ⟨rfl,rfl⟩;rw[HBT.out];cases bt with
   | true=>
    have hl2:=zA (HL.out.lt (s:=rq6.2) hx2.out.hi (by rw[HTo.out];show kdo≠0;have:=HK5.out;omega));obtain⟨xk14,fk14,bk14⟩:=F12.k1;have F14:=F12.step hl2.out;go_upto_region 15 with(fail);refine zCs F14 fun w15 F15=>?_;have CL16:=zA (fun Q=>F15.dr.kX (Q:=Q) (HK.out.more (q:=.assign) ⟨F15.dr.P.hi,trivial⟩ F15.dr.P (Nat.lt_succ_of_le hx2.out.le)));obtain⟨_,_,_,_,_,_,_,_,_⟩:=F15.c 5;obtain⟨_,_,_,_,_,_,_,_,_⟩:=F15.c 7;go_upto_region 15 with(fail)
    go_cut [70] (fun _ wx=>∃(rq:Tr×Ps) (BB:Nat),Hid (zF C.L (.assign) (zB (rq6.2))=rq)∧Fr C (w.heap.size≤·) w [X] [.bx X 72 [.int .i64 49,.string ⟨(txo).toArray⟩,.slice none 0 0,.int .i64 0,.int .i64 0,.bool false,.slice none 0 0,.slice none 0 0,.slice (some ⟨BB,0,none⟩) 2 2],.tr (trN 49 (txo) [rq6.1,rq.1]) [.int .i64 49,.string ⟨(txo).toArray⟩,.slice none 0 0,.int .i64 0,.int .i64 0,.bool false,.slice none 0 0,.slice none 0 0,.slice (some ⟨BB,0,none⟩) 2 2]] rq.2 wx)
    case first=>
     go_region_law (first | (go_simp;go_at_call 140;(with_reducible refine CL16.out _ fun rq HRQ w16 d16_0 d16_1 d16_2 d16_3 d16_4 d16_5 d16_6 d16_7 d16_8 F16=>?_);obtain⟨_,_,_,_,_,_,_,_,_⟩:=F16.c 5;obtain⟨_,_,_,_,_,_,_,_,_⟩:=F16.c 7;obtain⟨_,_,_,_,_,_,_,_,_⟩:=(F16.al (.cells #[.int .i64 (rq6.1).nd.kind,d6_1,d6_2,d6_3,d6_4,d6_5,d6_6,d6_7,d6_8,d16_0,d16_1,d16_2,d16_3,d16_4,d16_5,d16_6,d16_7,d16_8] 72)).c 7;have LT16:=zA (fun Q=>F16.litN 49 txo (n:=2) (Q:=Q) (F16.ts2 4 8) rfl (by simp) rfl)) | (go_simp;go_at_call 139;(with_reducible refine LT16.out _ fun w17 F17=>?_);obtain⟨_,_,_,_,_,_,_,_,_⟩:=F17.c 0;obtain⟨_,_,_,_,_,_,_,_,_⟩:=F17.f 0))
     all_goals
      go_wp2_with fail;go_meet;exact⟨rq,w16.heap.size,HRQ,(F17.put 0 9).pk1 [X] [0,9] (by simp) (by decide) rfl (by simp)⟩
    case rest=>
     obtain⟨rq,BB,HRA,Fq⟩:=hcut;obtain⟨_,_,_,_,_,_,_,_,_⟩:=Fq.c 0;go_wp2_with fail;have q:=Fq.c 0;exact Fq.ret 1 rfl (by simp[results,results140,go_sem,q]) rfl (HR.out.symm.trans (by
      unfold zE;dsimp only;rw[if_neg HNO.out,if_neg (by rw[Hhar.out];decide)]
      try dsimp only
      rw[HRQ6.out,HTo.out];rw[if_neg (fun h=>h.elim (fun h=>h HK5.out) (fun h=>h (by have:=HCO.out;simpa using this)))];rw[if_neg (by rw[HBT.out];decide),HRA.out])) (fun _ h=>h)
   | false=>
    go_wp2_with fail;refine F12.kN (zBq F12.P 5 (by decide)) fun w18 F18=>?_;obtain⟨_,_,_,_,_,_,_,_,_⟩:=F18.c 5;obtain⟨_,_,_,_,_,_,_,_,_⟩:=F18.sto 4;obtain⟨_,_,_,_,_,_,_,_,_⟩:=F18.c 0;obtain⟨_,_,_,_,_,_,_,_,_⟩:=F18.f 0;go_wp2_with fail;refine zM (F18.put 0 4) fun V19 F19=>?_;have q:=F19.c 0;exact F19.ret 4 rfl (by simp[results,results140,go_sem,q]) rfl (HR.out.symm.trans (by
     unfold zE;dsimp only;rw[if_neg HNO.out,if_neg (by rw[Hhar.out];decide)]
     try dsimp only
     rw[HRQ6.out,HTo.out];rw[if_neg (fun h=>h.elim (fun h=>h HK5.out) (fun h=>h (by have:=HCO.out;simpa using this)))];rw[if_pos HBT.out])) (fun _ h=>h)
  | false=>
   go_upto_region 10 with(fail);refine zCs F12 fun w20 F20=>?_;obtain⟨_,_,_,_,_,_,_,_,_⟩:=F20.c 5;obtain⟨_,_,_,_,_,_,_,_,_⟩:=F20.sto 4;obtain⟨_,_,_,_,_,_,_,_,_⟩:=F20.c 0;obtain⟨_,_,_,_,_,_,_,_,_⟩:=F20.f 0;go_wp2_with fail;refine zM (F20.put 0 4) fun V21 F21=>?_;have q:=F21.c 0;exact F21.ret 4 rfl (by simp[results,results140,go_sem,q]) rfl (HR.out.symm.trans (by
    unfold zE;dsimp only;rw[if_neg HNO.out,if_neg (by rw[Hhar.out];decide)]
    try dsimp only
    rw[HRQ6.out,HTo.out];rw[if_pos (.inr (by have:=HCO.out;simpa using this))])) (fun _ h=>h)
theorem zFo {C:Pc} {s:Ps} {w:World} (hp:Pre C.L (.assign) s) (K:KP C (zZ C.L (.assign) s)) (h:Pa C s w) (hc:(zL C.L s.k).kind=1∧isT (zAN C.L s.k 1) [61,62]=true∧(zAN C.L s.k 1).nl=true) (har:zAX C.L s=false):zc C s w (.assign):=by
 refine zAg hp h fun HL hlen hsk r W X HR hW hX F0=>?_;have HK:=zA K;clear K h hp;go_enter func140,ntmps140;go_upto_region 1 with(fail);clear hW hX;have HC:=zA hc;clear hc;have Hhar:=zA har;clear har;obtain⟨⟨kd,tx,st,nk,nn,mg,ps,nl⟩,HT⟩:=zP C.L (s).k;go_wp2_with fail;refine F0.kT (zf F0.P HT.out) fun w1 As Am c1 c2 F1=>?_;have F2:=F1.bt 1 44 rfl;have hf6:=zJX;have e1:((kd:Int)==1)=true:=by have:=HC.out.1;rw[HT.out]at this;have:kd=1:=this;rw[beq_iff_eq];omega
 have hlt:=zA (HL.out.lt hsk (by rw[HC.out.1];decide));have hn:=F2.P.cx.n;have HNO:=zA (show¬((zL C.L s.k).kind=1∧isT (zAN C.L s.k 1) [61,62]=true∧(zAN C.L s.k 1).nl=false)from fun h=>by rw[HC.out.2.2]at h;cases h.2.2);obtain⟨⟨kd2,tx2,st2,nk2,nn2,mg2,ps2,nl2⟩,HT2⟩:=zP C.L (zB s).k;have HA:=zA (show isT ⟨kd2,tx2,st2,nk2,nn2,mg2,ps2,nl2⟩ [61,62]=true by rw[←HT2.out];exact HC.out.2.1);have hnl2:nl2=true:=by have:=HC.out.2.2;rw[show zAN C.L s.k 1=zL C.L (zB s).k from rfl,HT2.out]at this;exact this
 subst hnl2;have HT2m:=zA (show zL C.L (min (s.k+1) (C.N - 1))=⟨kd2,tx2,st2,nk2,nn2,mg2,ps2,true⟩ by rw[show min (s.k+1) (C.N - 1)=s.k+1 by have:=hlt.out;omega];exact HT2.out);obtain⟨_,_,_,_,_,_,_,_,_⟩:=F2.c 2;go_wp2_with fail;refine F2.kT (zAa F2.P 1 1 rfl (by decide) HT2m.out) fun w3 As2 Am2 c12 c22 F3=>?_;go_wp2_with fail;refine F3.kQ (zB7 [61,62] HA.out) fun w4 F4=>?_;go_wp2_with fail;refine F4.kT (zAa F4.P 1 1 rfl (by decide) HT2m.out) fun w5 As3 Am3 c13 c23 F5=>?_;go_wp2_with fail;refine F5.kB (zCb F5.P Hhar.out) fun w6 F6=>?_;have hx:=zA (zV HL.out (p:=.cond) (s:=s) ⟨hsk,trivial⟩).adv;go_wp2_with fail;refine F6.kX (HK.out.rank (q:=.cond) ⟨F6.P.hi,trivial⟩ F6.P (yAC _) (by simp[ze])) fun rq7 HRQ7 w7 d7_0 d7_1 d7_2 d7_3 d7_4 d7_5 d7_6 d7_7 d7_8 F7=>?_;obtain⟨_,_,_,_,_,_,_,_,_⟩:=F7.sto 5;have hx2:=zA (show Adv C.L s (rq7.2) by have:=hx.out;rw[HRQ7.out]at this;exact this);obtain rfl:=(F7.t 5).kind;have F8:=F7.box [.int .i64 (rq7.1).nd.kind,d7_1,d7_2,d7_3,d7_4,d7_5,d7_6,d7_7,d7_8] 72 rfl (by decide) (by decide);obtain⟨⟨kdo,txo,sto,nko,nno,mgo,pso,nlo⟩,HTo⟩:=zP C.L (rq7.2).k;go_wp2_with fail;refine F8.kT (zf F8.P HTo.out) fun w9 Aso Amo c1o c2o F9=>?_;have F10:=F9.bt 7 44 rfl;obtain⟨ck,hck⟩:∃c,decide (kdo=5)=c:=⟨_,rfl⟩;obtain⟨co,hco⟩:∃c,decide (txo∈zO2)=c:=⟨_,rfl⟩;obtain⟨bt,hbt⟩:∃bt,zAf (rq7.1).nd.kind=bt:=⟨_,rfl⟩;have HCO:=zA hco;have HBT:=zA hbt;clear hco hbt;cases ck with
 | false=>
  have hk5:kdo≠5:=by simpa using hck
  have e5:((kdo:Int)==5)=false:=by rw[yA];omega
  have e6:((kdo:Int) !=5)=true:=by rw[bne,e5];rfl
  have HK5:=zA hk5;clear hck hk5;obtain⟨_,_,_,_,_,_,_,_,_⟩:=F10.c 8;go_upto_region 10 with(fail);refine zCs F10 fun w11 F11=>?_;obtain⟨_,_,_,_,_,_,_,_,_⟩:=F11.c 6;obtain⟨_,_,_,_,_,_,_,_,_⟩:=F11.sto 5;obtain⟨_,_,_,_,_,_,_,_,_⟩:=F11.c 0;obtain⟨_,_,_,_,_,_,_,_,_⟩:=F11.f 0;go_wp2_with fail;refine zM (F11.put 0 5) fun V12 F12=>?_;have q:=F12.c 0;exact F12.ret 5 rfl (by simp[results,results140,go_sem,q]) rfl (HR.out.symm.trans (by
   unfold zE;dsimp only;rw[if_neg HNO.out,if_neg (by rw[Hhar.out];decide)]
   try dsimp only
   rw[HRQ7.out,HTo.out];rw[if_pos (.inl HK5.out)])) (fun _ h=>h)
 | true=>
  have hk5:kdo=5:=by simpa using hck
  have e5:((kdo:Int)==5)=true:=by rw[beq_iff_eq];omega
  have e6:((kdo:Int) !=5)=false:=by rw[bne,e5];rfl
  have HK5:=zA hk5;clear hck hk5;obtain⟨_,_,_,_,_,_,_,_,_⟩:=F10.c 8;go_wp2_with fail;refine F10.kQ (zLo txo HCO.out) fun w13 F13=>?_;cases co with
  | true=>
   obtain⟨_,_,_,_,_,_,_,_,_⟩:=F13.c 6;go_wp2_with fail;refine(zBG _ _).mono ?_;rintro ev14 wx14 ⟨rfl,rfl⟩;rw[HBT.out];cases bt with
   | true=>
    have hl2:=zA (HL.out.lt (s:=rq7.2) hx2.out.hi (by rw[HTo.out];show kdo≠0;have:=HK5.out;omega));obtain⟨xk15,fk15,bk15⟩:=F13.k1;have F15:=F13.step hl2.out;go_upto_region 15 with(fail);refine zCs F15 fun w16 F16=>?_;have CL17:=zA (fun Q=>F16.dr.kX (Q:=Q) (HK.out.more (q:=.assign) ⟨F16.dr.P.hi,trivial⟩ F16.dr.P (Nat.lt_succ_of_le hx2.out.le)));obtain⟨_,_,_,_,_,_,_,_,_⟩:=F16.c 6;obtain⟨_,_,_,_,_,_,_,_,_⟩:=F16.c 8;go_upto_region 15 with(fail)
    go_cut [70] (fun _ wx=>∃(rq:Tr×Ps) (BB:Nat),Hid (zF C.L (.assign) (zB (rq7.2))=rq)∧Fr C (w.heap.size≤·) w [X] [.bx X 72 [.int .i64 49,.string ⟨(txo).toArray⟩,.slice none 0 0,.int .i64 0,.int .i64 0,.bool false,.slice none 0 0,.slice none 0 0,.slice (some ⟨BB,0,none⟩) 2 2],.tr (trN 49 (txo) [rq7.1,rq.1]) [.int .i64 49,.string ⟨(txo).toArray⟩,.slice none 0 0,.int .i64 0,.int .i64 0,.bool false,.slice none 0 0,.slice none 0 0,.slice (some ⟨BB,0,none⟩) 2 2]] rq.2 wx)
    case first=>
     go_region_law (first | (go_simp;go_at_call 140;(with_reducible refine CL17.out _ fun rq HRQ w17 d17_0 d17_1 d17_2 d17_3 d17_4 d17_5 d17_6 d17_7 d17_8 F17=>?_);obtain⟨_,_,_,_,_,_,_,_,_⟩:=F17.c 6;obtain⟨_,_,_,_,_,_,_,_,_⟩:=F17.c 8;obtain⟨_,_,_,_,_,_,_,_,_⟩:=(F17.al (.cells #[.int .i64 (rq7.1).nd.kind,d7_1,d7_2,d7_3,d7_4,d7_5,d7_6,d7_7,d7_8,d17_0,d17_1,d17_2,d17_3,d17_4,d17_5,d17_6,d17_7,d17_8] 72)).c 8;have LT17:=zA (fun Q=>F17.litN 49 txo (n:=2) (Q:=Q) (F17.ts2 5 9) rfl (by simp) rfl)) | (go_simp;go_at_call 139;(with_reducible refine LT17.out _ fun w18 F18=>?_);obtain⟨_,_,_,_,_,_,_,_,_⟩:=F18.c 0;obtain⟨_,_,_,_,_,_,_,_,_⟩:=F18.f 0))
     all_goals
      go_wp2_with fail;go_meet;exact⟨rq,w17.heap.size,HRQ,(F18.put 0 10).pk1 [X] [0,10] (by simp) (by decide) rfl (by simp)⟩
    case rest=>
     obtain⟨rq,BB,HRA,Fq⟩:=hcut;obtain⟨_,_,_,_,_,_,_,_,_⟩:=Fq.c 0;go_wp2_with fail;have q:=Fq.c 0;exact Fq.ret 1 rfl (by simp[results,results140,go_sem,q]) rfl (HR.out.symm.trans (by
      unfold zE;dsimp only;rw[if_neg HNO.out,if_neg (by rw[Hhar.out];decide)]
      try dsimp only
      rw[HRQ7.out,HTo.out];rw[if_neg (fun h=>h.elim (fun h=>h HK5.out) (fun h=>h (by have:=HCO.out;simpa using this)))];rw[if_neg (by rw[HBT.out];decide),HRA.out])) (fun _ h=>h)
   | false=>
    go_wp2_with fail;refine F13.kN (zBq F13.P 5 (by decide)) fun w19 F19=>?_;obtain⟨_,_,_,_,_,_,_,_,_⟩:=F19.c 6;obtain⟨_,_,_,_,_,_,_,_,_⟩:=F19.sto 5;obtain⟨_,_,_,_,_,_,_,_,_⟩:=F19.c 0;obtain⟨_,_,_,_,_,_,_,_,_⟩:=F19.f 0;go_wp2_with fail;refine zM (F19.put 0 5) fun V20 F20=>?_;have q:=F20.c 0;exact F20.ret 5 rfl (by simp[results,results140,go_sem,q]) rfl (HR.out.symm.trans (by
     unfold zE;dsimp only;rw[if_neg HNO.out,if_neg (by rw[Hhar.out];decide)]
     try dsimp only
     rw[HRQ7.out,HTo.out];rw[if_neg (fun h=>h.elim (fun h=>h HK5.out) (fun h=>h (by have:=HCO.out;simpa using this)))];rw[if_pos HBT.out])) (fun _ h=>h)
  | false=>
   go_upto_region 10 with(fail);refine zCs F13 fun w21 F21=>?_;obtain⟨_,_,_,_,_,_,_,_,_⟩:=F21.c 6;obtain⟨_,_,_,_,_,_,_,_,_⟩:=F21.sto 5;obtain⟨_,_,_,_,_,_,_,_,_⟩:=F21.c 0;obtain⟨_,_,_,_,_,_,_,_,_⟩:=F21.f 0;go_wp2_with fail;refine zM (F21.put 0 5) fun V22 F22=>?_;have q:=F22.c 0;exact F22.ret 5 rfl (by simp[results,results140,go_sem,q]) rfl (HR.out.symm.trans (by
    unfold zE;dsimp only;rw[if_neg HNO.out,if_neg (by rw[Hhar.out];decide)]
    try dsimp only
    rw[HRQ7.out,HTo.out];rw[if_pos (.inr (by have:=HCO.out;simpa using this))])) (fun _ h=>h)
theorem zJk {C:Pc} {s:Ps} {w:World} (hp:Pre C.L .assign s) (K:KP C (zZ C.L .assign s)) (h:Pa C s w):zc C s w .assign:=by
 by_cases h1:(zL C.L s.k).kind=1
 · cases h2:isT (zAN C.L s.k 1) [61,62]with
   | true=>
    cases h3:(zAN C.L s.k 1).nl with
    | false=>exact zHe hp K h ⟨h1,h2,h3⟩
    | true=>
     cases h4:zAX C.L s with
     | true=>exact zEy hp K h ⟨h1,h2,h3⟩ h4
     | false=>exact zFo hp K h ⟨h1,h2,h3⟩ h4
   | false=>
    cases h4:zAX C.L s with
    | true=>exact zEx hp K h ⟨h1,h2⟩ h4
    | false=>exact zFn hp K h ⟨h1,h2⟩ h4
 · cases h4:zAX C.L s with
   | true=>exact zEw hp K h h1 h4
   | false=>exact zFm hp K h h1 h4
end Go.Proofs.YtlohaclgbfhijaaGreatDoor
