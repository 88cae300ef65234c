/- Joined for the claim ParseEnds: the parser, the lexer and the trees as they are walked, made short by a program of mine. -/
import Derived.Deep.RegionLaw
import Derived.Deep.CutBlock
import Derived.Deep.DeepCutAuto
import Derived.Test.YtlohaclgbfhijaaGreatDoorS12
import Derived.Deep.LoopGhost
import Derived.Test.YtlohaclgbfhijaaGreatDoorS17
set_option maxHeartbeats 16000000
set_option maxRecDepth 1000000
namespace Go.Proofs.YtlohaclgbfhijaaGreatDoor
open Go.RowKit
theorem zPB {C:Pc} {s:Ps} {w:World} (hp:Pre C.L (.loop) s) (K:KP C (zh C.L (.loop) s)) (h:Pa C s w) (hb1:onP C.L [108,101,116] (zO C.L [40] (stepP s))=true):zk C s w (.loop):=by
 refine zAl hp h fun HL hlen hsk r W X HR hW hX F0=>?_
 have HK:=zD K
 have hlt:=zD hp.2
 clear K h hp
 go_enter Tryz.func179,Tryz.ntmps179
 go_upto_region 1 with(fail)
 clear hW hX
 have Hb1:=zD hb1
 clear hb1
 have hx0:=zD (zS (w:=[40]) HL.out (s:=stepP s) hlt.out)
 have hk0:s.k < (zO C.L [40] (stepP s)).k:=by have:=hx0.out.adv.le;have:(stepP s).k=s.k+1:=rfl;omega
 obtain⟨xk1,fk1,bk1⟩:=F0.k1
 have F1:=F0.step hlt.out
 go_wp2_with fail
 refine F1.kN (zAE F1.P [40]) fun w2 F2=>?_
 go_wp2_with fail
 refine F2.made0 _ fun w3 F3=>?_
 have F4:=F3.bt 1 72 rfl
 go_wp2_with fail
 refine F4.kB (zAR F4.P [108,101,116] Hb1.out) fun w5 F5=>?_
 have F6:=F5.nil
 have CL7:=zD (fun Q=>F6.dr.kRX 3 rfl (Q:=Q) (HK.out.more (q:=.declares) ⟨F6.dr.P.hi,trivial⟩ F6.dr.P (by omega)))
 obtain⟨_,_,_,_,_,_,_,_,_⟩:=F6.c 2
 go_upto_region 5 with(fail)
 go_cut [20] (fun _ wx=>∃(rq:Tr×Ps) (A:Option Addr) (n cp:Nat),Hid (zI C.L (.declares) (zO C.L [40] (stepP (s)))=rq)∧Hid (n=1)∧Fr C (w.heap.size≤·) w [(w3.heap.size),X] [.bx X 72 [.int .i64 0,.string ⟨#[]⟩,.slice none 0 0,.int .i64 0,.int .i64 0,.bool false,.slice none 0 0,.slice none 0 0,.slice none 0 0],.bx (w3.heap.size) 72 [.int .i64 10,.string ⟨#[]⟩,.slice none 0 0,.int .i64 0,.int .i64 0,.bool false,.slice none 0 0,.slice none 0 0,.slice A n cp],.ro (.slice A n cp) ([]++[rq.1])] rq.2 wx)
 case first=>
  go_region_law (first | (go_simp;go_at_call 93;(with_reducible refine CL7.out _ fun rq HRQ w7 d7_0 d7_1 d7_2 d7_3 d7_4 d7_5 d7_6 d7_7 d7_8 F7=>?_);obtain⟨_,_,_,_,_,_,_,_,_⟩:=F7.c 2;obtain⟨_,_,_,_,_,_,_,_,_⟩:=(F7.al (.cells #[d7_0,d7_1,d7_2,d7_3,d7_4,d7_5,d7_6,d7_7,d7_8] 72)).c 2) | (refine F7.snocS 3 4 rfl rfl (fun _ h=>h) (by simp) rfl _ _ rfl rfl rfl fun A8 cp8 w8 F8=>?_;obtain⟨_,_,_,_,_,_,_,_,_⟩:=F8.c 2;obtain⟨_,_,_,_,_,_,_,_,_⟩:=F8.f 2))
  all_goals
   have F9:=F8.set 2 8 (.slice A8 (1) cp8)
   go_wp2_with fail
   go_meet
   exact⟨rq,A8,1,cp8,HRQ,zD rfl,F9.pk [(w3.heap.size),X] [0,2,3] (by simp) (by decide) rfl (by simp) (by simp)⟩
 case rest=>
  obtain⟨rqc10,Ac10,nc10,cpc10,HRQc10,HNc10,Fc10⟩:=hcut
  obtain⟨wc10,rfl⟩:∃x,x=wc:=⟨_,rfl⟩
  have HADc10:=zD (show Adv C.L (zO C.L [40] (stepP (s))) rqc10.2 by have:=(zV HL.out (p:=.declares) (s:=zO C.L [40] (stepP (s))) ⟨F6.P.hi,trivial⟩).adv;rw[HRQc10.out]at this;exact this)
  have hkc10:s.k < rqc10.2.k:=by have:=HADc10.out.le;omega
  have hx1:=zD (zS (w:=[59]) HL.out (s:=rqc10.2) HADc10.out.hi)
  have hk1:s.k < (zO C.L [59] rqc10.2).k:=by have:=hx1.out.adv.le;omega
  go_wp2_with fail
  refine Fc10.kN (zAE Fc10.P [59]) fun w11 F11=>?_
  have CL12:=zD (fun Q=>F11.dr.kRX 2 rfl (Q:=Q) (args:=#[.pointer (some ⟨C.g,0,none⟩),.string ⟨#[59]⟩]) (HK.out.more (q:=.clause [59]) ⟨F11.dr.P.hi,trivial⟩ F11.dr.P (by omega)))
  obtain⟨_,_,_,_,_,_,_,_,_⟩:=F11.c 1
  have hn12:nc10≤4097:=by have:=HNc10.out;omega
  go_upto_region 8 with(fail)
  go_cut [36] (fun _ wx=>∃(rq:Tr×Ps) (A:Option Addr) (n cp:Nat),Hid (zI C.L (.clause [59]) (zO C.L [59] (rqc10.2))=rq)∧Hid (n=nc10+1)∧Fr C (w.heap.size≤·) w [(w3.heap.size),X] [.bx X 72 [.int .i64 0,.string ⟨#[]⟩,.slice none 0 0,.int .i64 0,.int .i64 0,.bool false,.slice none 0 0,.slice none 0 0,.slice none 0 0],.bx (w3.heap.size) 72 [.int .i64 10,.string ⟨#[]⟩,.slice none 0 0,.int .i64 0,.int .i64 0,.bool false,.slice none 0 0,.slice none 0 0,.slice A n cp],.ro (.slice A n cp) ([]++[rqc10.1]++[rq.1])] rq.2 wx)
  case first=>
   go_region_law (first | (go_simp;go_at_call 197;(with_reducible refine CL12.out _ fun rq HRQ w12 d12_0 d12_1 d12_2 d12_3 d12_4 d12_5 d12_6 d12_7 d12_8 F12=>?_);obtain⟨_,_,_,_,_,_,_,_,_⟩:=F12.c 1;obtain⟨_,_,_,_,_,_,_,_,_⟩:=(F12.al (.cells #[d12_0,d12_1,d12_2,d12_3,d12_4,d12_5,d12_6,d12_7,d12_8] 72)).c 1) | (refine F12.snocS 2 3 rfl rfl (fun _ h=>h) hn12 rfl _ _ rfl rfl rfl fun A13 cp13 w13 F13=>?_;obtain⟨_,_,_,_,_,_,_,_,_⟩:=F13.c 1;obtain⟨_,_,_,_,_,_,_,_,_⟩:=F13.f 1))
   all_goals
    have F14:=F13.set 1 8 (.slice A13 (nc10+1) cp13)
    go_wp2_with fail
    go_meet
    exact⟨rq,A13,nc10+1,cp13,HRQ,zD rfl,F14.pk [(w3.heap.size),X] [0,1,2] (by simp) (by decide) rfl (by simp) (by simp)⟩
  case rest=>
   obtain⟨rqc15,Ac15,nc15,cpc15,HRQc15,HNc15,Fc15⟩:=hcut
   obtain⟨wc15,rfl⟩:∃x,x=wc:=⟨_,rfl⟩
   have HADc15:=zD (show Adv C.L (zO C.L [59] (rqc10.2)) rqc15.2 by have:=(zV HL.out (p:=.clause [59]) (s:=zO C.L [59] (rqc10.2)) ⟨F11.P.hi,trivial⟩).adv;rw[HRQc15.out]at this;exact this)
   have hkc15:s.k < rqc15.2.k:=by have:=HADc15.out.le;omega
   have CL16:=zD (fun Q=>Fc15.dr.kRX 2 rfl (Q:=Q) (args:=#[.pointer (some ⟨C.g,0,none⟩),.string ⟨#[41]⟩]) (HK.out.more (q:=.clause [41]) ⟨Fc15.dr.P.hi,trivial⟩ Fc15.dr.P (by omega)))
   obtain⟨_,_,_,_,_,_,_,_,_⟩:=Fc15.c 1
   have hn16:nc15≤4097:=by have:=HNc10.out;have:=HNc15.out;omega
   go_upto_region 9 with(fail)
   go_cut [43] (fun _ wx=>∃(rq:Tr×Ps) (A:Option Addr) (n cp:Nat),Hid (zI C.L (.clause [41]) (rqc15.2)=rq)∧Hid (n=nc15+1)∧Fr C (w.heap.size≤·) w [(w3.heap.size),X] [.bx X 72 [.int .i64 0,.string ⟨#[]⟩,.slice none 0 0,.int .i64 0,.int .i64 0,.bool false,.slice none 0 0,.slice none 0 0,.slice none 0 0],.bx (w3.heap.size) 72 [.int .i64 10,.string ⟨#[]⟩,.slice none 0 0,.int .i64 0,.int .i64 0,.bool false,.slice none 0 0,.slice none 0 0,.slice A n cp],.ro (.slice A n cp) ([]++[rqc10.1]++[rqc15.1]++[rq.1])] rq.2 wx)
   case first=>
    go_region_law (first | (go_simp;go_at_call 197;(with_reducible refine CL16.out _ fun rq HRQ w16 d16_0 d16_1 d16_2 d16_3 d16_4 d16_5 d16_6 d16_7 d16_8 F16=>?_);obtain⟨_,_,_,_,_,_,_,_,_⟩:=F16.c 1;obtain⟨_,_,_,_,_,_,_,_,_⟩:=(F16.al (.cells #[d16_0,d16_1,d16_2,d16_3,d16_4,d16_5,d16_6,d16_7,d16_8] 72)).c 1) | (refine F16.snocS 2 3 rfl rfl (fun _ h=>h) hn16 rfl _ _ rfl rfl rfl fun A17 cp17 w17 F17=>?_;obtain⟨_,_,_,_,_,_,_,_,_⟩:=F17.c 1;obtain⟨_,_,_,_,_,_,_,_,_⟩:=F17.f 1))
    all_goals
     have F18:=F17.set 1 8 (.slice A17 (nc15+1) cp17)
     go_wp2_with fail
     go_meet
     exact⟨rq,A17,nc15+1,cp17,HRQ,zD rfl,F18.pk [(w3.heap.size),X] [0,1,2] (by simp) (by decide) rfl (by simp) (by simp)⟩
   case rest=>
    obtain⟨rqc19,Ac19,nc19,cpc19,HRQc19,HNc19,Fc19⟩:=hcut
    obtain⟨wc19,rfl⟩:∃x,x=wc:=⟨_,rfl⟩
    have HADc19:=zD (show Adv C.L (rqc15.2) rqc19.2 by have:=(zV HL.out (p:=.clause [41]) (s:=rqc15.2) ⟨Fc15.P.hi,trivial⟩).adv;rw[HRQc19.out]at this;exact this)
    have hkc19:s.k < rqc19.2.k:=by have:=HADc19.out.le;omega
    have CL20:=zD (fun Q=>Fc19.dr.kRX 2 rfl (Q:=Q) (HK.out.more (q:=.statement) ⟨Fc19.dr.P.hi,trivial⟩ Fc19.dr.P (by omega)))
    obtain⟨_,_,_,_,_,_,_,_,_⟩:=Fc19.c 1
    have hn20:nc19≤4097:=by have:=HNc10.out;have:=HNc15.out;have:=HNc19.out;omega
    go_upto_region 10 with(fail)
    go_cut [50] (fun _ wx=>∃(rq:Tr×Ps) (A:Option Addr) (n cp:Nat),Hid (zI C.L (.statement) (rqc19.2)=rq)∧Hid (n=nc19+1)∧Fr C (w.heap.size≤·) w [(w3.heap.size),X] [.bx X 72 [.int .i64 0,.string ⟨#[]⟩,.slice none 0 0,.int .i64 0,.int .i64 0,.bool false,.slice none 0 0,.slice none 0 0,.slice none 0 0],.bx (w3.heap.size) 72 [.int .i64 10,.string ⟨#[]⟩,.slice none 0 0,.int .i64 0,.int .i64 0,.bool false,.slice none 0 0,.slice none 0 0,.slice A n cp],.ro (.slice A n cp) ([]++[rqc10.1]++[rqc15.1]++[rqc19.1]++[rq.1])] rq.2 wx)
    case first=>
     go_region_law (first | (go_simp;go_at_call 98;(with_reducible refine CL20.out _ fun rq HRQ w20 d20_0 d20_1 d20_2 d20_3 d20_4 d20_5 d20_6 d20_7 d20_8 F20=>?_);obtain⟨_,_,_,_,_,_,_,_,_⟩:=F20.c 1;obtain⟨_,_,_,_,_,_,_,_,_⟩:=(F20.al (.cells #[d20_0,d20_1,d20_2,d20_3,d20_4,d20_5,d20_6,d20_7,d20_8] 72)).c 1) | (refine F20.snocS 2 3 rfl rfl (fun _ h=>h) hn20 rfl _ _ rfl rfl rfl fun A21 cp21 w21 F21=>?_;obtain⟨_,_,_,_,_,_,_,_,_⟩:=F21.c 1;obtain⟨_,_,_,_,_,_,_,_,_⟩:=F21.f 1))
     all_goals
      have F22:=F21.set 1 8 (.slice A21 (nc19+1) cp21)
      go_wp2_with fail
      go_meet
      exact⟨rq,A21,nc19+1,cp21,HRQ,zD rfl,F22.pk [(w3.heap.size),X] [0,1,2] (by simp) (by decide) rfl (by simp) (by simp)⟩
    case rest=>
     obtain⟨rqc23,Ac23,nc23,cpc23,HRQc23,HNc23,Fc23⟩:=hcut
     obtain⟨wc23,rfl⟩:∃x,x=wc:=⟨_,rfl⟩
     have HADc23:=zD (show Adv C.L (rqc19.2) rqc23.2 by have:=(zV HL.out (p:=.statement) (s:=rqc19.2) ⟨Fc19.P.hi,trivial⟩).adv;rw[HRQc23.out]at this;exact this)
     obtain⟨_,_,_,_,_,_,_,_,_⟩:=Fc23.c 1
     obtain⟨_,_,_,_,_,_,_,_,_⟩:=Fc23.c 0
     obtain⟨_,_,_,_,_,_,_,_,_⟩:=Fc23.f 0
     go_wp2_with fail
     have F24:=Fc23.rowK 2 rfl 10
     refine zP (F24.put 0 3) fun V25 F25=>?_
     have q:=F25.c 0
     exact F25.ret 3 rfl (by simp[results,Tryz.results179,go_sem,q]) rfl (HR.out.symm.trans (by
      unfold zE
      dsimp only
      simp[Hb1.out,HRQc10.out,HRQc15.out,HRQc19.out,HRQc23.out])) (fun _ h=>h)
theorem zKK {C:Pc} {s:Ps} {w:World} (hp:Pre C.L (.loop) s) (K:KP C (zh C.L (.loop) s)) (h:Pa C s w) (hb1:onP C.L [108,101,116] (zO C.L [40] (stepP s))=false) (hb2:onP C.L [99,111,110,115,116] (zO C.L [40] (stepP s))=true):zk C s w (.loop):=by
 refine zAl hp h fun HL hlen hsk r W X HR hW hX F0=>?_
 have HK:=zD K
 have hlt:=zD hp.2
 clear K h hp
 go_enter Tryz.func179,Tryz.ntmps179
 go_upto_region 1 with(fail)
 clear hW hX
 have Hb1:=zD hb1
 clear hb1
 have Hb2:=zD hb2
 clear hb2
 have hx0:=zD (zS (w:=[40]) HL.out (s:=stepP s) hlt.out)
 have hk0:s.k < (zO C.L [40] (stepP s)).k:=by have:=hx0.out.adv.le;have:(stepP s).k=s.k+1:=rfl;omega
 obtain⟨xk1,fk1,bk1⟩:=F0.k1
 have F1:=F0.step hlt.out
 go_wp2_with fail
 refine F1.kN (zAE F1.P [40]) fun w2 F2=>?_
 go_wp2_with fail
 refine F2.made0 _ fun w3 F3=>?_
 have F4:=F3.bt 1 72 rfl
 go_wp2_with fail
 refine F4.kB (zAR F4.P [108,101,116] Hb1.out) fun w5 F5=>?_
 go_wp2_with fail
 refine F5.kB (zAR F5.P [99,111,110,115,116] Hb2.out) fun w6 F6=>?_
 have F7:=F6.nil
 have CL8:=zD (fun Q=>F7.dr.kRX 3 rfl (Q:=Q) (HK.out.more (q:=.declares) ⟨F7.dr.P.hi,trivial⟩ F7.dr.P (by omega)))
 obtain⟨_,_,_,_,_,_,_,_,_⟩:=F7.c 2
 go_upto_region 5 with(fail)
 go_cut [20] (fun _ wx=>∃(rq:Tr×Ps) (A:Option Addr) (n cp:Nat),Hid (zI C.L (.declares) (zO C.L [40] (stepP (s)))=rq)∧Hid (n=1)∧Fr C (w.heap.size≤·) w [(w3.heap.size),X] [.bx X 72 [.int .i64 0,.string ⟨#[]⟩,.slice none 0 0,.int .i64 0,.int .i64 0,.bool false,.slice none 0 0,.slice none 0 0,.slice none 0 0],.bx (w3.heap.size) 72 [.int .i64 10,.string ⟨#[]⟩,.slice none 0 0,.int .i64 0,.int .i64 0,.bool false,.slice none 0 0,.slice none 0 0,.slice A n cp],.ro (.slice A n cp) ([]++[rq.1])] rq.2 wx)
 case first=>
  go_region_law (first | (go_simp;go_at_call 93;(with_reducible refine CL8.out _ fun rq HRQ w8 d8_0 d8_1 d8_2 d8_3 d8_4 d8_5 d8_6 d8_7 d8_8 F8=>?_);obtain⟨_,_,_,_,_,_,_,_,_⟩:=F8.c 2;obtain⟨_,_,_,_,_,_,_,_,_⟩:=(F8.al (.cells #[d8_0,d8_1,d8_2,d8_3,d8_4,d8_5,d8_6,d8_7,d8_8] 72)).c 2) | (refine F8.snocS 3 4 rfl rfl (fun _ h=>h) (by simp) rfl _ _ rfl rfl rfl fun A9 cp9 w9 F9=>?_;obtain⟨_,_,_,_,_,_,_,_,_⟩:=F9.c 2;obtain⟨_,_,_,_,_,_,_,_,_⟩:=F9.f 2))
  all_goals
   have F10:=F9.set 2 8 (.slice A9 (1) cp9)
   go_wp2_with fail
   go_meet
   exact⟨rq,A9,1,cp9,HRQ,zD rfl,F10.pk [(w3.heap.size),X] [0,2,3] (by simp) (by decide) rfl (by simp) (by simp)⟩
 case rest=>
  obtain⟨rqc11,Ac11,nc11,cpc11,HRQc11,HNc11,Fc11⟩:=hcut
  obtain⟨wc11,rfl⟩:∃x,x=wc:=⟨_,rfl⟩
  have HADc11:=zD (show Adv C.L (zO C.L [40] (stepP (s))) rqc11.2 by have:=(zV HL.out (p:=.declares) (s:=zO C.L [40] (stepP (s))) ⟨F7.P.hi,trivial⟩).adv;rw[HRQc11.out]at this;exact this)
  have hkc11:s.k < rqc11.2.k:=by have:=HADc11.out.le;omega
  have hx1:=zD (zS (w:=[59]) HL.out (s:=rqc11.2) HADc11.out.hi)
  have hk1:s.k < (zO C.L [59] rqc11.2).k:=by have:=hx1.out.adv.le;omega
  go_wp2_with fail
  refine Fc11.kN (zAE Fc11.P [59]) fun w12 F12=>?_
  have CL13:=zD (fun Q=>F12.dr.kRX 2 rfl (Q:=Q) (args:=#[.pointer (some ⟨C.g,0,none⟩),.string ⟨#[59]⟩]) (HK.out.more (q:=.clause [59]) ⟨F12.dr.P.hi,trivial⟩ F12.dr.P (by omega)))
  obtain⟨_,_,_,_,_,_,_,_,_⟩:=F12.c 1
  have hn13:nc11≤4097:=by have:=HNc11.out;omega
  go_upto_region 8 with(fail)
  go_cut [36] (fun _ wx=>∃(rq:Tr×Ps) (A:Option Addr) (n cp:Nat),Hid (zI C.L (.clause [59]) (zO C.L [59] (rqc11.2))=rq)∧Hid (n=nc11+1)∧Fr C (w.heap.size≤·) w [(w3.heap.size),X] [.bx X 72 [.int .i64 0,.string ⟨#[]⟩,.slice none 0 0,.int .i64 0,.int .i64 0,.bool false,.slice none 0 0,.slice none 0 0,.slice none 0 0],.bx (w3.heap.size) 72 [.int .i64 10,.string ⟨#[]⟩,.slice none 0 0,.int .i64 0,.int .i64 0,.bool false,.slice none 0 0,.slice none 0 0,.slice A n cp],.ro (.slice A n cp) ([]++[rqc11.1]++[rq.1])] rq.2 wx)
  case first=>
   go_region_law (first | (go_simp;go_at_call 197;(with_reducible refine CL13.out _ fun rq HRQ w13 d13_0 d13_1 d13_2 d13_3 d13_4 d13_5 d13_6 d13_7 d13_8 F13=>?_);obtain⟨_,_,_,_,_,_,_,_,_⟩:=F13.c 1;obtain⟨_,_,_,_,_,_,_,_,_⟩:=(F13.al (.cells #[d13_0,d13_1,d13_2,d13_3,d13_4,d13_5,d13_6,d13_7,d13_8] 72)).c 1) | (refine F13.snocS 2 3 rfl rfl (fun _ h=>h) hn13 rfl _ _ rfl rfl rfl fun A14 cp14 w14 F14=>?_;obtain⟨_,_,_,_,_,_,_,_,_⟩:=F14.c 1;obtain⟨_,_,_,_,_,_,_,_,_⟩:=F14.f 1))
   all_goals
    have F15:=F14.set 1 8 (.slice A14 (nc11+1) cp14)
    go_wp2_with fail
    go_meet
    exact⟨rq,A14,nc11+1,cp14,HRQ,zD rfl,F15.pk [(w3.heap.size),X] [0,1,2] (by simp) (by decide) rfl (by simp) (by simp)⟩
  case rest=>
   obtain⟨rqc16,Ac16,nc16,cpc16,HRQc16,HNc16,Fc16⟩:=hcut
   obtain⟨wc16,rfl⟩:∃x,x=wc:=⟨_,rfl⟩
   have HADc16:=zD (show Adv C.L (zO C.L [59] (rqc11.2)) rqc16.2 by have:=(zV HL.out (p:=.clause [59]) (s:=zO C.L [59] (rqc11.2)) ⟨F12.P.hi,trivial⟩).adv;rw[HRQc16.out]at this;exact this)
   have hkc16:s.k < rqc16.2.k:=by have:=HADc16.out.le;omega
   have CL17:=zD (fun Q=>Fc16.dr.kRX 2 rfl (Q:=Q) (args:=#[.pointer (some ⟨C.g,0,none⟩),.string ⟨#[41]⟩]) (HK.out.more (q:=.clause [41]) ⟨Fc16.dr.P.hi,trivial⟩ Fc16.dr.P (by omega)))
   obtain⟨_,_,_,_,_,_,_,_,_⟩:=Fc16.c 1
   have hn17:nc16≤4097:=by have:=HNc11.out;have:=HNc16.out;omega
   go_upto_region 9 with(fail)
   go_cut [43] (fun _ wx=>∃(rq:Tr×Ps) (A:Option Addr) (n cp:Nat),Hid (zI C.L (.clause [41]) (rqc16.2)=rq)∧Hid (n=nc16+1)∧Fr C (w.heap.size≤·) w [(w3.heap.size),X] [.bx X 72 [.int .i64 0,.string ⟨#[]⟩,.slice none 0 0,.int .i64 0,.int .i64 0,.bool false,.slice none 0 0,.slice none 0 0,.slice none 0 0],.bx (w3.heap.size) 72 [.int .i64 10,.string ⟨#[]⟩,.slice none 0 0,.int .i64 0,.int .i64 0,.bool false,.slice none 0 0,.slice none 0 0,.slice A n cp],.ro (.slice A n cp) ([]++[rqc11.1]++[rqc16.1]++[rq.1])] rq.2 wx)
   case first=>
    go_region_law (first | (go_simp;go_at_call 197;(with_reducible refine CL17.out _ fun rq HRQ w17 d17_0 d17_1 d17_2 d17_3 d17_4 d17_5 d17_6 d17_7 d17_8 F17=>?_);obtain⟨_,_,_,_,_,_,_,_,_⟩:=F17.c 1;obtain⟨_,_,_,_,_,_,_,_,_⟩:=(F17.al (.cells #[d17_0,d17_1,d17_2,d17_3,d17_4,d17_5,d17_6,d17_7,d17_8] 72)).c 1) | (refine F17.snocS 2 3 rfl rfl (fun _ h=>h) hn17 rfl _ _ rfl rfl rfl fun A18 cp18 w18 F18=>?_;obtain⟨_,_,_,_,_,_,_,_,_⟩:=F18.c 1;obtain⟨_,_,_,_,_,_,_,_,_⟩:=F18.f 1))
    all_goals
     have F19:=F18.set 1 8 (.slice A18 (nc16+1) cp18)
     go_wp2_with fail
     go_meet
     exact⟨rq,A18,nc16+1,cp18,HRQ,zD rfl,F19.pk [(w3.heap.size),X] [0,1,2] (by simp) (by decide) rfl (by simp) (by simp)⟩
   case rest=>
    obtain⟨rqc20,Ac20,nc20,cpc20,HRQc20,HNc20,Fc20⟩:=hcut
    obtain⟨wc20,rfl⟩:∃x,x=wc:=⟨_,rfl⟩
    have HADc20:=zD (show Adv C.L (rqc16.2) rqc20.2 by have:=(zV HL.out (p:=.clause [41]) (s:=rqc16.2) ⟨Fc16.P.hi,trivial⟩).adv;rw[HRQc20.out]at this;exact this)
    have hkc20:s.k < rqc20.2.k:=by have:=HADc20.out.le;omega
    have CL21:=zD (fun Q=>Fc20.dr.kRX 2 rfl (Q:=Q) (HK.out.more (q:=.statement) ⟨Fc20.dr.P.hi,trivial⟩ Fc20.dr.P (by omega)))
    obtain⟨_,_,_,_,_,_,_,_,_⟩:=Fc20.c 1
    have hn21:nc20≤4097:=by have:=HNc11.out;have:=HNc16.out;have:=HNc20.out;omega
    go_upto_region 10 with(fail)
    go_cut [50] (fun _ wx=>∃(rq:Tr×Ps) (A:Option Addr) (n cp:Nat),Hid (zI C.L (.statement) (rqc20.2)=rq)∧Hid (n=nc20+1)∧Fr C (w.heap.size≤·) w [(w3.heap.size),X] [.bx X 72 [.int .i64 0,.string ⟨#[]⟩,.slice none 0 0,.int .i64 0,.int .i64 0,.bool false,.slice none 0 0,.slice none 0 0,.slice none 0 0],.bx (w3.heap.size) 72 [.int .i64 10,.string ⟨#[]⟩,.slice none 0 0,.int .i64 0,.int .i64 0,.bool false,.slice none 0 0,.slice none 0 0,.slice A n cp],.ro (.slice A n cp) ([]++[rqc11.1]++[rqc16.1]++[rqc20.1]++[rq.1])] rq.2 wx)
    case first=>
     go_region_law (first | (go_simp;go_at_call 98;(with_reducible refine CL21.out _ fun rq HRQ w21 d21_0 d21_1 d21_2 d21_3 d21_4 d21_5 d21_6 d21_7 d21_8 F21=>?_);obtain⟨_,_,_,_,_,_,_,_,_⟩:=F21.c 1;obtain⟨_,_,_,_,_,_,_,_,_⟩:=(F21.al (.cells #[d21_0,d21_1,d21_2,d21_3,d21_4,d21_5,d21_6,d21_7,d21_8] 72)).c 1) | (refine F21.snocS 2 3 rfl rfl (fun _ h=>h) hn21 rfl _ _ rfl rfl rfl fun A22 cp22 w22 F22=>?_;obtain⟨_,_,_,_,_,_,_,_,_⟩:=F22.c 1;obtain⟨_,_,_,_,_,_,_,_,_⟩:=F22.f 1))
     all_goals
      have F23:=F22.set 1 8 (.slice A22 (nc20+1) cp22)
      go_wp2_with fail
      go_meet
      exact⟨rq,A22,nc20+1,cp22,HRQ,zD rfl,F23.pk [(w3.heap.size),X] [0,1,2] (by simp) (by decide) rfl (by simp) (by simp)⟩
    case rest=>
     obtain⟨rqc24,Ac24,nc24,cpc24,HRQc24,HNc24,Fc24⟩:=hcut
     obtain⟨wc24,rfl⟩:∃x,x=wc:=⟨_,rfl⟩
     have HADc24:=zD (show Adv C.L (rqc20.2) rqc24.2 by have:=(zV HL.out (p:=.statement) (s:=rqc20.2) ⟨Fc20.P.hi,trivial⟩).adv;rw[HRQc24.out]at this;exact this)
     obtain⟨_,_,_,_,_,_,_,_,_⟩:=Fc24.c 1
     obtain⟨_,_,_,_,_,_,_,_,_⟩:=Fc24.c 0
     obtain⟨_,_,_,_,_,_,_,_,_⟩:=Fc24.f 0
     go_wp2_with fail
     have F25:=Fc24.rowK 2 rfl 10
     refine zP (F25.put 0 3) fun V26 F26=>?_
     have q:=F26.c 0
     exact F26.ret 3 rfl (by simp[results,Tryz.results179,go_sem,q]) rfl (HR.out.symm.trans (by
      unfold zE
      dsimp only
      simp[Hb1.out,Hb2.out,HRQc11.out,HRQc16.out,HRQc20.out,HRQc24.out])) (fun _ h=>h)
theorem zHP {C:Pc} {s:Ps} {w:World} (hp:Pre C.L (.loop) s) (K:KP C (zh C.L (.loop) s)) (h:Pa C s w) (hb1:onP C.L [108,101,116] (zO C.L [40] (stepP s))=false) (hb2:onP C.L [99,111,110,115,116] (zO C.L [40] (stepP s))=false):zk C s w (.loop):=by
 refine zAl hp h fun HL hlen hsk r W X HR hW hX F0=>?_
 have HK:=zD K
 have hlt:=zD hp.2
 clear K h hp
 go_enter Tryz.func179,Tryz.ntmps179
 go_upto_region 1 with(fail)
 clear hW hX
 have Hb1:=zD hb1
 clear hb1
 have Hb2:=zD hb2
 clear hb2
 have hx0:=zD (zS (w:=[40]) HL.out (s:=stepP s) hlt.out)
 have hk0:s.k < (zO C.L [40] (stepP s)).k:=by have:=hx0.out.adv.le;have:(stepP s).k=s.k+1:=rfl;omega
 obtain⟨xk1,fk1,bk1⟩:=F0.k1
 have F1:=F0.step hlt.out
 go_wp2_with fail
 refine F1.kN (zAE F1.P [40]) fun w2 F2=>?_
 go_wp2_with fail
 refine F2.made0 _ fun w3 F3=>?_
 have F4:=F3.bt 1 72 rfl
 go_wp2_with fail
 refine F4.kB (zAR F4.P [108,101,116] Hb1.out) fun w5 F5=>?_
 go_wp2_with fail
 refine F5.kB (zAR F5.P [99,111,110,115,116] Hb2.out) fun w6 F6=>?_
 have F7:=F6.nil
 have CL8:=zD (fun Q=>F7.dr.kRX 3 rfl (Q:=Q) (args:=#[.pointer (some ⟨C.g,0,none⟩),.string ⟨#[59]⟩]) (HK.out.more (q:=.clause [59]) ⟨F7.dr.P.hi,trivial⟩ F7.dr.P (by omega)))
 obtain⟨_,_,_,_,_,_,_,_,_⟩:=F7.c 2
 go_upto_region 7 with(fail)
 go_cut [29] (fun _ wx=>∃(rq:Tr×Ps) (A:Option Addr) (n cp:Nat),Hid (zI C.L (.clause [59]) (zO C.L [40] (stepP (s)))=rq)∧Hid (n=1)∧Fr C (w.heap.size≤·) w [(w3.heap.size),X] [.bx X 72 [.int .i64 0,.string ⟨#[]⟩,.slice none 0 0,.int .i64 0,.int .i64 0,.bool false,.slice none 0 0,.slice none 0 0,.slice none 0 0],.bx (w3.heap.size) 72 [.int .i64 10,.string ⟨#[]⟩,.slice none 0 0,.int .i64 0,.int .i64 0,.bool false,.slice none 0 0,.slice none 0 0,.slice A n cp],.ro (.slice A n cp) ([]++[rq.1])] rq.2 wx)
 case first=>
  go_region_law (first | (go_simp;go_at_call 197;(with_reducible refine CL8.out _ fun rq HRQ w8 d8_0 d8_1 d8_2 d8_3 d8_4 d8_5 d8_6 d8_7 d8_8 F8=>?_);obtain⟨_,_,_,_,_,_,_,_,_⟩:=F8.c 2;obtain⟨_,_,_,_,_,_,_,_,_⟩:=(F8.al (.cells #[d8_0,d8_1,d8_2,d8_3,d8_4,d8_5,d8_6,d8_7,d8_8] 72)).c 2) | (refine F8.snocS 3 4 rfl rfl (fun _ h=>h) (by simp) rfl _ _ rfl rfl rfl fun A9 cp9 w9 F9=>?_;obtain⟨_,_,_,_,_,_,_,_,_⟩:=F9.c 2;obtain⟨_,_,_,_,_,_,_,_,_⟩:=F9.f 2))
  all_goals
   have F10:=F9.set 2 8 (.slice A9 (1) cp9)
   go_wp2_with fail
   go_meet
   exact⟨rq,A9,1,cp9,HRQ,zD rfl,F10.pk [(w3.heap.size),X] [0,2,3] (by simp) (by decide) rfl (by simp) (by simp)⟩
 case rest=>
  obtain⟨rqc11,Ac11,nc11,cpc11,HRQc11,HNc11,Fc11⟩:=hcut
  obtain⟨wc11,rfl⟩:∃x,x=wc:=⟨_,rfl⟩
  have HADc11:=zD (show Adv C.L (zO C.L [40] (stepP (s))) rqc11.2 by have:=(zV HL.out (p:=.clause [59]) (s:=zO C.L [40] (stepP (s))) ⟨F7.P.hi,trivial⟩).adv;rw[HRQc11.out]at this;exact this)
  have hkc11:s.k < rqc11.2.k:=by have:=HADc11.out.le;omega
  have CL12:=zD (fun Q=>Fc11.dr.kRX 2 rfl (Q:=Q) (args:=#[.pointer (some ⟨C.g,0,none⟩),.string ⟨#[59]⟩]) (HK.out.more (q:=.clause [59]) ⟨Fc11.dr.P.hi,trivial⟩ Fc11.dr.P (by omega)))
  obtain⟨_,_,_,_,_,_,_,_,_⟩:=Fc11.c 1
  have hn12:nc11≤4097:=by have:=HNc11.out;omega
  go_upto_region 8 with(fail)
  go_cut [36] (fun _ wx=>∃(rq:Tr×Ps) (A:Option Addr) (n cp:Nat),Hid (zI C.L (.clause [59]) (rqc11.2)=rq)∧Hid (n=nc11+1)∧Fr C (w.heap.size≤·) w [(w3.heap.size),X] [.bx X 72 [.int .i64 0,.string ⟨#[]⟩,.slice none 0 0,.int .i64 0,.int .i64 0,.bool false,.slice none 0 0,.slice none 0 0,.slice none 0 0],.bx (w3.heap.size) 72 [.int .i64 10,.string ⟨#[]⟩,.slice none 0 0,.int .i64 0,.int .i64 0,.bool false,.slice none 0 0,.slice none 0 0,.slice A n cp],.ro (.slice A n cp) ([]++[rqc11.1]++[rq.1])] rq.2 wx)
  case first=>
   go_region_law (first | (go_simp;go_at_call 197;(with_reducible refine CL12.out _ fun rq HRQ w12 d12_0 d12_1 d12_2 d12_3 d12_4 d12_5 d12_6 d12_7 d12_8 F12=>?_);obtain⟨_,_,_,_,_,_,_,_,_⟩:=F12.c 1;obtain⟨_,_,_,_,_,_,_,_,_⟩:=(F12.al (.cells #[d12_0,d12_1,d12_2,d12_3,d12_4,d12_5,d12_6,d12_7,d12_8] 72)).c 1) | (refine F12.snocS 2 3 rfl rfl (fun _ h=>h) hn12 rfl _ _ rfl rfl rfl fun A13 cp13 w13 F13=>?_;obtain⟨_,_,_,_,_,_,_,_,_⟩:=F13.c 1;obtain⟨_,_,_,_,_,_,_,_,_⟩:=F13.f 1))
   all_goals
    have F14:=F13.set 1 8 (.slice A13 (nc11+1) cp13)
    go_wp2_with fail
    go_meet
    exact⟨rq,A13,nc11+1,cp13,HRQ,zD rfl,F14.pk [(w3.heap.size),X] [0,1,2] (by simp) (by decide) rfl (by simp) (by simp)⟩
  case rest=>
   obtain⟨rqc15,Ac15,nc15,cpc15,HRQc15,HNc15,Fc15⟩:=hcut
   obtain⟨wc15,rfl⟩:∃x,x=wc:=⟨_,rfl⟩
   have HADc15:=zD (show Adv C.L (rqc11.2) rqc15.2 by have:=(zV HL.out (p:=.clause [59]) (s:=rqc11.2) ⟨Fc11.P.hi,trivial⟩).adv;rw[HRQc15.out]at this;exact this)
   have hkc15:s.k < rqc15.2.k:=by have:=HADc15.out.le;omega
   have CL16:=zD (fun Q=>Fc15.dr.kRX 2 rfl (Q:=Q) (args:=#[.pointer (some ⟨C.g,0,none⟩),.string ⟨#[41]⟩]) (HK.out.more (q:=.clause [41]) ⟨Fc15.dr.P.hi,trivial⟩ Fc15.dr.P (by omega)))
   obtain⟨_,_,_,_,_,_,_,_,_⟩:=Fc15.c 1
   have hn16:nc15≤4097:=by have:=HNc11.out;have:=HNc15.out;omega
   go_upto_region 9 with(fail)
   go_cut [43] (fun _ wx=>∃(rq:Tr×Ps) (A:Option Addr) (n cp:Nat),Hid (zI C.L (.clause [41]) (rqc15.2)=rq)∧Hid (n=nc15+1)∧Fr C (w.heap.size≤·) w [(w3.heap.size),X] [.bx X 72 [.int .i64 0,.string ⟨#[]⟩,.slice none 0 0,.int .i64 0,.int .i64 0,.bool false,.slice none 0 0,.slice none 0 0,.slice none 0 0],.bx (w3.heap.size) 72 [.int .i64 10,.string ⟨#[]⟩,.slice none 0 0,.int .i64 0,.int .i64 0,.bool false,.slice none 0 0,.slice none 0 0,.slice A n cp],.ro (.slice A n cp) ([]++[rqc11.1]++[rqc15.1]++[rq.1])] rq.2 wx)
   case first=>
    go_region_law (first | (go_simp;go_at_call 197;(with_reducible refine CL16.out _ fun rq HRQ w16 d16_0 d16_1 d16_2 d16_3 d16_4 d16_5 d16_6 d16_7 d16_8 F16=>?_);obtain⟨_,_,_,_,_,_,_,_,_⟩:=F16.c 1;obtain⟨_,_,_,_,_,_,_,_,_⟩:=(F16.al (.cells #[d16_0,d16_1,d16_2,d16_3,d16_4,d16_5,d16_6,d16_7,d16_8] 72)).c 1) | (refine F16.snocS 2 3 rfl rfl (fun _ h=>h) hn16 rfl _ _ rfl rfl rfl fun A17 cp17 w17 F17=>?_;obtain⟨_,_,_,_,_,_,_,_,_⟩:=F17.c 1;obtain⟨_,_,_,_,_,_,_,_,_⟩:=F17.f 1))
    all_goals
     have F18:=F17.set 1 8 (.slice A17 (nc15+1) cp17)
     go_wp2_with fail
     go_meet
     exact⟨rq,A17,nc15+1,cp17,HRQ,zD rfl,F18.pk [(w3.heap.size),X] [0,1,2] (by simp) (by decide) rfl (by simp) (by simp)⟩
   case rest=>
    obtain⟨rqc19,Ac19,nc19,cpc19,HRQc19,HNc19,Fc19⟩:=hcut
    obtain⟨wc19,rfl⟩:∃x,x=wc:=⟨_,rfl⟩
    have HADc19:=zD (show Adv C.L (rqc15.2) rqc19.2 by have:=(zV HL.out (p:=.clause [41]) (s:=rqc15.2) ⟨Fc15.P.hi,trivial⟩).adv;rw[HRQc19.out]at this;exact this)
    have hkc19:s.k < rqc19.2.k:=by have:=HADc19.out.le;omega
    have CL20:=zD (fun Q=>Fc19.dr.kRX 2 rfl (Q:=Q) (HK.out.more (q:=.statement) ⟨Fc19.dr.P.hi,trivial⟩ Fc19.dr.P (by omega)))
    obtain⟨_,_,_,_,_,_,_,_,_⟩:=Fc19.c 1
    have hn20:nc19≤4097:=by have:=HNc11.out;have:=HNc15.out;have:=HNc19.out;omega
    go_upto_region 10 with(fail)
    go_cut [50] (fun _ wx=>∃(rq:Tr×Ps) (A:Option Addr) (n cp:Nat),Hid (zI C.L (.statement) (rqc19.2)=rq)∧Hid (n=nc19+1)∧Fr C (w.heap.size≤·) w [(w3.heap.size),X] [.bx X 72 [.int .i64 0,.string ⟨#[]⟩,.slice none 0 0,.int .i64 0,.int .i64 0,.bool false,.slice none 0 0,.slice none 0 0,.slice none 0 0],.bx (w3.heap.size) 72 [.int .i64 10,.string ⟨#[]⟩,.slice none 0 0,.int .i64 0,.int .i64 0,.bool false,.slice none 0 0,.slice none 0 0,.slice A n cp],.ro (.slice A n cp) ([]++[rqc11.1]++[rqc15.1]++[rqc19.1]++[rq.1])] rq.2 wx)
    case first=>
     go_region_law (first | (go_simp;go_at_call 98;(with_reducible refine CL20.out _ fun rq HRQ w20 d20_0 d20_1 d20_2 d20_3 d20_4 d20_5 d20_6 d20_7 d20_8 F20=>?_);obtain⟨_,_,_,_,_,_,_,_,_⟩:=F20.c 1;obtain⟨_,_,_,_,_,_,_,_,_⟩:=(F20.al (.cells #[d20_0,d20_1,d20_2,d20_3,d20_4,d20_5,d20_6,d20_7,d20_8] 72)).c 1) | (refine F20.snocS 2 3 rfl rfl (fun _ h=>h) hn20 rfl _ _ rfl rfl rfl fun A21 cp21 w21 F21=>?_;obtain⟨_,_,_,_,_,_,_,_,_⟩:=F21.c 1;obtain⟨_,_,_,_,_,_,_,_,_⟩:=F21.f 1))
     all_goals
      have F22:=F21.set 1 8 (.slice A21 (nc19+1) cp21)
      go_wp2_with fail
      go_meet
      exact⟨rq,A21,nc19+1,cp21,HRQ,zD rfl,F22.pk [(w3.heap.size),X] [0,1,2] (by simp) (by decide) rfl (by simp) (by simp)⟩
    case rest=>
     obtain⟨rqc23,Ac23,nc23,cpc23,HRQc23,HNc23,Fc23⟩:=hcut
     obtain⟨wc23,rfl⟩:∃x,x=wc:=⟨_,rfl⟩
     have HADc23:=zD (show Adv C.L (rqc19.2) rqc23.2 by have:=(zV HL.out (p:=.statement) (s:=rqc19.2) ⟨Fc19.P.hi,trivial⟩).adv;rw[HRQc23.out]at this;exact this)
     obtain⟨_,_,_,_,_,_,_,_,_⟩:=Fc23.c 1
     obtain⟨_,_,_,_,_,_,_,_,_⟩:=Fc23.c 0
     obtain⟨_,_,_,_,_,_,_,_,_⟩:=Fc23.f 0
     go_wp2_with fail
     have F24:=Fc23.rowK 2 rfl 10
     refine zP (F24.put 0 3) fun V25 F25=>?_
     have q:=F25.c 0
     exact F25.ret 3 rfl (by simp[results,Tryz.results179,go_sem,q]) rfl (HR.out.symm.trans (by
      unfold zE
      dsimp only
      simp[Hb1.out,Hb2.out,HRQc11.out,HRQc15.out,HRQc19.out,HRQc23.out])) (fun _ h=>h)
theorem zPC {C:Pc} {s:Ps} {w:World} (hp:Pre C.L .loop s) (K:KP C (zh C.L .loop s)) (h:Pa C s w):zk C s w .loop:=by
 cases b1:onP C.L [108,101,116] (zO C.L [40] (stepP s))with
 | true=>exact zPB hp K h b1
 | false=>
  cases b2:onP C.L [99,111,110,115,116] (zO C.L [40] (stepP s))with
  | true=>exact zKK hp K h b1 b2
  | false=>exact zHP hp K h b1 b2
theorem zGi {C:Pc} {s:Ps} {w:World} (hp:Pre C.L (.declares) s) (K:KP C (zh C.L (.declares) s)) (h:Pa C s w):zk C s w (.declares):=by
 refine zAl hp h fun HL hlen hsk r W X HR hW hX F0=>?_
 have HK:=zD K
 clear K h hp
 go_enter Tryz.func93,Tryz.ntmps93
 go_upto_region 1 with(fail)
 clear hW hX
 go_wp2_with fail
 refine F0.made0 _ fun w1 F1=>?_
 have F2:=F1.bt 1 72 rfl
 obtain⟨b,hb⟩:∃b,onP C.L [99,111,110,115,116] s=b:=⟨_,rfl⟩
 have Hb:=zD hb
 clear hb
 go_wp2_with fail
 refine F2.kM (zAe F2.P [99,111,110,115,116] Hb.out) fun w3 F3=>?_
 go_upto_if 7 with(fail)
 go_cut [8] (fun _ wx=>∃(kz:Int) (s1:Ps),Hid (zI C.L (.declL kz []) s1=r)∧s.k≤s1.k∧Fr C (w.heap.size≤·) w [(w1.heap.size),X] [.bx X 72 [.int .i64 0,.string ⟨#[]⟩,.slice none 0 0,.int .i64 0,.int .i64 0,.bool false,.slice none 0 0,.slice none 0 0,.slice none 0 0],.bx (w1.heap.size) 72 [.int .i64 kz,.string ⟨#[]⟩,.slice none 0 0,.int .i64 0,.int .i64 0,.bool false,.slice none 0 0,.slice none 0 0,.slice none 0 0]] s1 wx)
 case first=>
  cases b with
  | true=>
   have F4:=(show Fr _ _ _ _ _ (stepP s) _ from F3)
   have hlt:=zD (HL.out.on hsk Hb.out)
   go_wp2_with fail
   refine F4.made0 _ fun w5 F5=>?_
   obtain⟨_,_,_,_,_,_,_,_,_⟩:=F5.c 2
   obtain⟨_,_,_,_,_,_,_,_,_⟩:=F5.f 2
   go_wp2_with fail
   go_meet
   exact⟨6,stepP s,zD (by
    refine Eq.trans ?_ HR.out
    unfold zE
    dsimp only
    rw[if_pos Hb.out]),Nat.le_succ _,(F5.put 2 3).pk [(w1.heap.size),X] [0,2] (by simp) (by decide) rfl (by simp) (by simp)⟩
  | false=>
   have F6:=(show Fr _ _ _ _ _ (s) _ from F3)
   go_wp2_with fail
   refine F6.kN (zAE F6.P [108,101,116]) fun w7 F7=>?_
   go_wp2_with fail
   go_meet
   exact⟨5,zO C.L [108,101,116] s,zD (by
    refine Eq.trans ?_ HR.out
    unfold zE
    dsimp only
    rw[if_neg (by rw[Hb.out];decide)]),(zS (w:=[108,101,116]) HL.out hsk).adv.le,F7.pk [(w1.heap.size),X] [0,2] (by simp) (by decide) rfl (by simp) (by simp)⟩
 case rest=>
  obtain⟨k,s1,HR1,hk1,Fq⟩:=hcut
  obtain⟨wq,rfl⟩:∃x,x=wc:=⟨_,rfl⟩
  go_wp2_with fail
  go_loopg [4] (C.L.length - s1.k) (fun gk _ wr=>∃(acc:List Tr) (s':Ps) (A:Option Addr) (n cp:Nat),C.L.length - s'.k≤gk∧s.k≤s'.k∧n≤s'.k∧Hid (zI C.L (.declL k acc) s'=r)∧Fr C (w.heap.size≤·) w [(w1.heap.size),X] [.bx X 72 [.int .i64 0,.string ⟨#[]⟩,.slice none 0 0,.int .i64 0,.int .i64 0,.bool false,.slice none 0 0,.slice none 0 0,.slice none 0 0],.bx (w1.heap.size) 72 [.int .i64 k,.string ⟨#[]⟩,.slice none 0 0,.int .i64 0,.int .i64 0,.bool false,.slice none 0 0,.slice none 0 0,.slice A n cp],.ro (.slice A n cp) acc] s' wr)
  case atStart=>exact⟨[],s1,none,0,0,Nat.le_refl _,hk1,Nat.zero_le _,HR1.out,Fq.nil.pk [(w1.heap.size),X] [0,1,2] (by simp) (by decide) rfl (by simp) (by simp)⟩
  case round=>
   obtain⟨acc,s',A,n,cp,hgk,hsk',hns,HRl,Fl⟩:=hrel
   obtain⟨⟨nb,sn⟩,HNM⟩:∃q,Hid (zg C.L s'=q):=⟨_,zD rfl⟩
   have HCN:=zD (show Calls Tryz.prog 96 #[.pointer (some ⟨C.g,0,none⟩)] wr (zSW C (nb,sn) wr) by have:=zC0 Fl.P;rw[HNM.out]at this;exact this)
   have HEN:=zD (show Eat C.L s' sn by have:=zAO HL.out Fl.P.hi;rw[HNM.out]at this;exact this)
   go_wp2_with fail
   refine Fl.kS2 HCN.out fun w8 F8=>?_
   go_wp2_with fail
   refine F8.named0 _ nb fun w9 F9=>?_
   have F10:=F9.bt 3 72 rfl
   obtain⟨be,hbe⟩:∃b,onP C.L [61] sn=b:=⟨_,rfl⟩
   have Hbe:=zD hbe
   clear hbe
   go_wp2_with fail
   refine F10.kM (zAe F10.P [61] Hbe.out) fun w11 F11=>?_
   go_upto_if 15 with(fail)
   go_cut [16] (fun _ wx=>∃(l:List Tr) (sd:Ps) (Ad:Option Addr) (nd cpd lo:Nat),Hid ((if onP C.L [61] sn=true then(trN 7 nb [(zI C.L .assign (stepP sn)).1],(zI C.L .assign (stepP sn)).2)else(trN 7 nb [],sn))=(trN 7 nb l,sd))∧Hid (Adv C.L sn sd)∧Fr C (w.heap.size≤·) w [(w9.heap.size),(w1.heap.size),X] [.bx X 72 [.int .i64 0,.string ⟨#[]⟩,.slice none 0 0,.int .i64 0,.int .i64 0,.bool false,.slice none 0 0,.slice none 0 0,.slice none 0 0],.bx (w1.heap.size) 72 [.int .i64 k,.string ⟨#[]⟩,.slice none 0 0,.int .i64 0,.int .i64 0,.bool false,.slice none 0 0,.slice none 0 0,.slice A n cp],.rn lo (.slice A n cp) acc,.bx (w9.heap.size) 72 [.int .i64 7,.string ⟨nb.toArray⟩,.slice none 0 0,.int .i64 0,.int .i64 0,.bool false,.slice none 0 0,.slice none 0 0,.slice Ad nd cpd],.tn lo (trN 7 nb l) [.int .i64 7,.string ⟨nb.toArray⟩,.slice none 0 0,.int .i64 0,.int .i64 0,.bool false,.slice none 0 0,.slice none 0 0,.slice Ad nd cpd]] sd wx)
   case first=>
    cases be with
    | true=>
     have F12:=(show Fr _ _ _ _ _ (stepP sn) _ from F11)
     have hlt:=zD (HL.out.on HEN.out.adv.hi Hbe.out)
     have hkn:s.k < (stepP sn).k:=by have:=HEN.out.adv.le;have:(stepP sn).k=sn.k+1:=rfl;omega
     have CLq:=zD (fun Q=>F12.dr.kRX 2 rfl (Q:=Q) (HK.out.more (q:=.assign) ⟨F12.dr.P.hi,trivial⟩ F12.dr.P hkn))
     obtain⟨_,_,_,_,_,_,_,_,_⟩:=F12.c 4
     go_wp2_with fail
     go_region_law (first | (go_simp;go_at_call 140;(with_reducible refine CLq.out _ fun rq HRQ wa d0 d1 d2 d3 d4 d5 d6 d7 d8 Fa=>?_);obtain⟨_,_,_,_,_,_,_,_,_⟩:=Fa.c 4;obtain⟨_,_,_,_,_,_,_,_,_⟩:=(Fa.al (.cells #[d0,d1,d2,d3,d4,d5,d6,d7,d8] 72)).c 4) | (refine Fa.snoc0 5 7 nb rfl rfl _ _ rfl rfl rfl fun A3 cp3 wb Fb=>?_;obtain⟨_,_,_,_,_,_,_,_,_⟩:=Fb.c 4;obtain⟨_,_,_,_,_,_,_,_,_⟩:=Fb.f 4))
     all_goals
      have Fc:=Fb.set 4 8 (.slice A3 1 cp3)
      go_wp2_with fail
      go_meet
      exact⟨[rq.1],rq.2,A3,1,cp3,_,zD (by rw[if_pos Hbe.out,HRQ.out]),zD ((zAD hlt.out).trans (by have:=(zV HL.out (p:=.assign) (s:=stepP sn) ⟨F12.P.hi,trivial⟩).adv;rw[HRQ.out]at this;exact this)),Fc.pk3 [(w9.heap.size),(w1.heap.size),X] [0,1,2,4,6] (by simp) (by decide) rfl (by simp) (by simp) (by simp)⟩
    | false=>
     have F13:=(show Fr _ _ _ _ _ (sn) _ from F11)
     go_wp2_with fail
     go_meet
     exact⟨[],sn,none,0,0,_,zD (if_neg (by rw[Hbe.out];decide)),zD (Adv.refl HEN.out.adv.hi),((F13.nar 2 rfl).leafM 7 nb).pk3 [(w9.heap.size),(w1.heap.size),X] [0,1,2,4,5] (by simp) (by decide) rfl (by simp) (by simp) (by simp)⟩
   case rest=>
    obtain⟨l,sd,Ad,nd,cpd,lo,HDS,HAD,Fe⟩:=hcut
    obtain⟨we,rfl⟩:∃x,x=wc:=⟨_,rfl⟩
    obtain⟨_,_,_,_,_,_,_,_,_⟩:=Fe.c 3
    obtain⟨_,_,_,_,_,_,_,_,_⟩:=Fe.c 1
    have hn7:n≤4097:=by have:=Fe.P.cx.n;have:=Fl.P.hi;omega
    go_wp2_with (at_builtin;refine Fe.snocL 2 4 rfl rfl (fun _ h=>h) hn7 rfl _ _ rfl rfl rfl fun A3 cp3 w3 Ff=>?_;obtain⟨_,_,_,_,_,_,_,_,_⟩:=Ff.c 1;obtain⟨_,_,_,_,_,_,_,_,_⟩:=Ff.f 1)
    have Fg:=Ff.set 1 8 (.slice A3 (n+1) cp3)
    have hsd:=HAD.out.le
    have hse:=HEN.out.adv.le
    by_cases hb:sd.bad=0
    · have HBD:=zD (show(sd.bad==0)=true by rw[hb];rfl)
      have HBZ:=zD hb
      clear hb
      go_wp2_with fail
      refine Fg.kB (zAu Fg.P HBD.out) fun w14 F14=>?_
      by_cases hon:onP C.L [44] sd=true
      · have HO:=zD hon
        have hlo:=zD (HL.out.on HAD.out.hi hon)
        clear hon
        go_wp2_with fail
        refine F14.kM (zA6 F14.P [44] HO.out) fun w15 F15=>?_
        have HQR:=zD (show zI C.L (.declL k (acc++[trN 7 nb l])) (stepP sd)=r from Eq.trans (Eq.symm (by
         rw[zt HL.out (p:=.declL k acc) (s:=s') ⟨Fl.P.hi,trivial⟩]
         unfold zE
         dsimp only
         rw[HNM.out]
         dsimp only
         rw[HDS.out]
         dsimp only
         rw[if_neg (by rw[HBZ.out];simp),if_pos HO.out])) HRl.out)
        have hst:(stepP sd).k=sd.k+1:=rfl
        have hlo2:=hlo.out
        go_wp2_with fail
        go_roundg (C.L.length - (stepP sd).k)
        case measure=>omega
        case rel=>exact⟨_,_,A3,n+1,cp3,Nat.le_refl _,by omega,by omega,HQR,F15.pk [(w1.heap.size),X] [0,1,2] (by simp) (by decide) rfl (by simp) (by simp)⟩
      · have HO:=zD (show onP C.L [44] sd=false by simpa using hon)
        clear hon
        go_wp2_with fail
        refine F14.kM (zA9 F14.P [44] HO.out) fun w16 F16=>?_
        obtain⟨_,_,_,_,_,_,_,_,_⟩:=F16.c 1
        obtain⟨_,_,_,_,_,_,_,_,_⟩:=F16.c 0
        obtain⟨_,_,_,_,_,_,_,_,_⟩:=F16.f 0
        go_wp2_with fail
        have F17:=F16.rowK 2 rfl k
        refine zP (F17.put 0 5) fun V18 F18=>?_
        have q:=F18.c 0
        exact F18.ret 5 rfl (by simp[results,Tryz.results93,go_sem,q]) rfl (HRl.out.symm.trans (by
         rw[zt HL.out (p:=.declL k acc) ⟨Fl.P.hi,trivial⟩]
         unfold zE
         dsimp only
         rw[HNM.out]
         dsimp only
         rw[HDS.out]
         dsimp only
         rw[if_neg (by rw[HBZ.out];simp),if_neg (by rw[HO.out];decide)])) (fun _ h=>h)
    · have HBD:=zD (show(sd.bad==0)=false by rw[beq_eq_false_iff_ne];exact hb)
      have HBZ:=zD hb
      clear hb
      go_wp2_with fail
      refine Fg.kB (zAu Fg.P HBD.out) fun w19 F19=>?_
      obtain⟨_,_,_,_,_,_,_,_,_⟩:=F19.c 1
      obtain⟨_,_,_,_,_,_,_,_,_⟩:=F19.c 0
      obtain⟨_,_,_,_,_,_,_,_,_⟩:=F19.f 0
      go_wp2_with fail
      have F20:=F19.rowK 2 rfl k
      refine zP (F20.put 0 5) fun V21 F21=>?_
      have q:=F21.c 0
      exact F21.ret 5 rfl (by simp[results,Tryz.results93,go_sem,q]) rfl (HRl.out.symm.trans (by
       rw[zt HL.out (p:=.declL k acc) ⟨Fl.P.hi,trivial⟩]
       unfold zE
       dsimp only
       rw[HNM.out]
       dsimp only
       rw[HDS.out]
       dsimp only
       rw[if_pos HBZ.out])) (fun _ h=>h)
theorem zH5 {t:Tok} (h:t.kind=0) (w:List UInt8):isT t w=false:=by
 cases hh:isT t w with
 | false=>rfl
 | true=>exact absurd h (zCu hh)
theorem zPD {w:World} {P Q:Nat→Prop} {R n:Nat} {l:List Tr} {cs:List Value} (hb:Bx w R 72 cs) (h:TrsC w Q l cs) (hn:l.length=n) (h7:n≤4097) (hQP:∀b,Q b→b < w.heap.size→P b) (hQR:¬Q R) (hPR:P R):RowP w P (.slice (some ⟨R,0,none⟩) n n) l:=by
 subst hn
 refine⟨cs,fun b=>Q b∧b < w.heap.size,⟨h.len,.inr ⟨R,l.length,cs.toArray,rfl,Nat.zero_le _,hb,Nat.le_refl _,by unfold maxLen;omega,by simp[h.len],by rw[←h.len];simp⟩⟩,?_,.sub (fun b hb2 hl=>⟨hb2,hl⟩) _ _ h,?_,fun b h2=>⟨hQP b h2.1 h2.2,h2.2⟩⟩
 · intro b e
   simp only[Value.ownBlock,Option.some.injEq]at e
   subst e;exact hPR
 · intro b e h2
   simp only[Value.ownBlock,Option.some.injEq]at e
   subst e;exact hQR h2.1
structure PutR (C:Pc) (s:Ps) (w W:World) (R:Nat) (cs:List Value) (V:World):Prop where
 box:Bx V R 72 cs
 pa:Pa C s V
 grown:w.grownBy V (some C.g)
 from_:W.grownBy V (some R)
theorem zH6 {w:World} {R:Nat} {v0 v1 v2 v3 v4 v5 v6 v7 v8:Value}:w.grownBy (((((((((w.setCell ⟨R,9,none⟩ v0).setCell ⟨R,10,none⟩ v1).setCell ⟨R,11,none⟩ v2).setCell ⟨R,12,none⟩ v3).setCell ⟨R,13,none⟩ v4).setCell ⟨R,14,none⟩ v5).setCell ⟨R,15,none⟩ v6).setCell ⟨R,16,none⟩ v7).setCell ⟨R,17,none⟩ v8) (some R):=by
 exact(zF (zF (zF (zF (zF (zF (zF (zF (zR _ _ _ _) (zR _ _ _ _)) (zR _ _ _ _)) (zR _ _ _ _)) (zR _ _ _ _)) (zR _ _ _ _)) (zR _ _ _ _)) (zR _ _ _ _)) (zR _ _ _ _))
theorem zPE {C:Pc} {s:Ps} {w W:World} {R:Nat} {p0 p1 p2 p3 p4 p5 p6 p7 p8 q0 q1 q2 q3 q4 q5 q6 q7 q8 r0 r1 r2 r3 r4 r5 r6 r7 r8 v0 v1 v2 v3 v4 v5 v6 v7 v8:Value} (hB:Bx W R 72 [p0,p1,p2,p3,p4,p5,p6,p7,p8,q0,q1,q2,q3,q4,q5,q6,q7,q8,r0,r1,r2,r3,r4,r5,r6,r7,r8]) (hR:w.heap.size≤R) (hgR:C.g < R) (hP:Pa C s W) (hG:w.grownBy W (some C.g)):
 PutR C s w W R [p0,p1,p2,p3,p4,p5,p6,p7,p8,v0,v1,v2,v3,v4,v5,v6,v7,v8,r0,r1,r2,r3,r4,r5,r6,r7,r8] (((((((((W.setCell ⟨R,9,none⟩ v0).setCell ⟨R,10,none⟩ v1).setCell ⟨R,11,none⟩ v2).setCell ⟨R,12,none⟩ v3).setCell ⟨R,13,none⟩ v4).setCell ⟨R,14,none⟩ v5).setCell ⟨R,15,none⟩ v6).setCell ⟨R,16,none⟩ v7).setCell ⟨R,17,none⟩ v8):=by
 have hg:=zH6 (w:=W) (R:=R) (v0:=v0) (v1:=v1) (v2:=v2) (v3:=v3) (v4:=v4) (v5:=v5) (v6:=v6) (v7:=v7) (v8:=v8)
 exact⟨(((((((((hB.set 9 v0).set 10 v1).set 11 v2).set 12 v3).set 13 v4).set 14 v5).set 15 v6).set 16 v7).set 17 v8),hP.grown hg (fun b e=>by injection e with e;omega),zBc hG hR hg,hg⟩
theorem zH7 {w:World} {R:Nat} {v0 v1 v2 v3 v4 v5 v6 v7 v8:Value}:w.grownBy (((((((((w.setCell ⟨R,18,none⟩ v0).setCell ⟨R,19,none⟩ v1).setCell ⟨R,20,none⟩ v2).setCell ⟨R,21,none⟩ v3).setCell ⟨R,22,none⟩ v4).setCell ⟨R,23,none⟩ v5).setCell ⟨R,24,none⟩ v6).setCell ⟨R,25,none⟩ v7).setCell ⟨R,26,none⟩ v8) (some R):=by
 exact(zF (zF (zF (zF (zF (zF (zF (zF (zR _ _ _ _) (zR _ _ _ _)) (zR _ _ _ _)) (zR _ _ _ _)) (zR _ _ _ _)) (zR _ _ _ _)) (zR _ _ _ _)) (zR _ _ _ _)) (zR _ _ _ _))
theorem zPF {C:Pc} {s:Ps} {w W:World} {R:Nat} {p0 p1 p2 p3 p4 p5 p6 p7 p8 q0 q1 q2 q3 q4 q5 q6 q7 q8 r0 r1 r2 r3 r4 r5 r6 r7 r8 v0 v1 v2 v3 v4 v5 v6 v7 v8:Value} (hB:Bx W R 72 [p0,p1,p2,p3,p4,p5,p6,p7,p8,q0,q1,q2,q3,q4,q5,q6,q7,q8,r0,r1,r2,r3,r4,r5,r6,r7,r8]) (hR:w.heap.size≤R) (hgR:C.g < R) (hP:Pa C s W) (hG:w.grownBy W (some C.g)):
 PutR C s w W R [p0,p1,p2,p3,p4,p5,p6,p7,p8,q0,q1,q2,q3,q4,q5,q6,q7,q8,v0,v1,v2,v3,v4,v5,v6,v7,v8] (((((((((W.setCell ⟨R,18,none⟩ v0).setCell ⟨R,19,none⟩ v1).setCell ⟨R,20,none⟩ v2).setCell ⟨R,21,none⟩ v3).setCell ⟨R,22,none⟩ v4).setCell ⟨R,23,none⟩ v5).setCell ⟨R,24,none⟩ v6).setCell ⟨R,25,none⟩ v7).setCell ⟨R,26,none⟩ v8):=by
 have hg:=zH7 (w:=W) (R:=R) (v0:=v0) (v1:=v1) (v2:=v2) (v3:=v3) (v4:=v4) (v5:=v5) (v6:=v6) (v7:=v7) (v8:=v8)
 exact⟨(((((((((hB.set 18 v0).set 19 v1).set 20 v2).set 21 v3).set 22 v4).set 23 v5).set 24 v6).set 25 v7).set 26 v8),hP.grown hg (fun b e=>by injection e with e;omega),zBc hG hR hg,hg⟩
theorem Bx.mid1 {w:World} {R:Nat} {T:TypeId} {p0 p1 p2 p3 p4 p5 p6 p7 p8 q0 q1 q2 q3 q4 q5 q6 q7 q8 r0 r1 r2 r3 r4 r5 r6 r7 r8:Value} (h:Bx w R T [p0,p1,p2,p3,p4,p5,p6,p7,p8,q0,q1,q2,q3,q4,q5,q6,q7,q8,r0,r1,r2,r3,r4,r5,r6,r7,r8]):w.cell? ⟨R,9,none⟩=some q0∧w.cell? ⟨R,10,none⟩=some q1∧w.cell? ⟨R,11,none⟩=some q2∧w.cell? ⟨R,12,none⟩=some q3∧w.cell? ⟨R,13,none⟩=some q4∧w.cell? ⟨R,14,none⟩=some q5∧w.cell? ⟨R,15,none⟩=some q6∧w.cell? ⟨R,16,none⟩=some q7∧w.cell? ⟨R,17,none⟩=some q8:=⟨h.cell 9,h.cell 10,h.cell 11,h.cell 12,h.cell 13,h.cell 14,h.cell 15,h.cell 16,h.cell 17⟩
theorem Bx.midF1 {w:World} {R:Nat} {T:TypeId} {cs:List Value} (h:Bx w R T cs):w.frozen? ⟨R,9,none⟩=false∧w.frozen? ⟨R,10,none⟩=false∧w.frozen? ⟨R,11,none⟩=false∧w.frozen? ⟨R,12,none⟩=false∧w.frozen? ⟨R,13,none⟩=false∧w.frozen? ⟨R,14,none⟩=false∧w.frozen? ⟨R,15,none⟩=false∧w.frozen? ⟨R,16,none⟩=false∧w.frozen? ⟨R,17,none⟩=false:=⟨h.frozen 9,h.frozen 10,h.frozen 11,h.frozen 12,h.frozen 13,h.frozen 14,h.frozen 15,h.frozen 16,h.frozen 17⟩
theorem Bx.mid2 {w:World} {R:Nat} {T:TypeId} {p0 p1 p2 p3 p4 p5 p6 p7 p8 q0 q1 q2 q3 q4 q5 q6 q7 q8 r0 r1 r2 r3 r4 r5 r6 r7 r8:Value} (h:Bx w R T [p0,p1,p2,p3,p4,p5,p6,p7,p8,q0,q1,q2,q3,q4,q5,q6,q7,q8,r0,r1,r2,r3,r4,r5,r6,r7,r8]):w.cell? ⟨R,18,none⟩=some r0∧w.cell? ⟨R,19,none⟩=some r1∧w.cell? ⟨R,20,none⟩=some r2∧w.cell? ⟨R,21,none⟩=some r3∧w.cell? ⟨R,22,none⟩=some r4∧w.cell? ⟨R,23,none⟩=some r5∧w.cell? ⟨R,24,none⟩=some r6∧w.cell? ⟨R,25,none⟩=some r7∧w.cell? ⟨R,26,none⟩=some r8:=⟨h.cell 18,h.cell 19,h.cell 20,h.cell 21,h.cell 22,h.cell 23,h.cell 24,h.cell 25,h.cell 26⟩
theorem Bx.midF2 {w:World} {R:Nat} {T:TypeId} {cs:List Value} (h:Bx w R T cs):w.frozen? ⟨R,18,none⟩=false∧w.frozen? ⟨R,19,none⟩=false∧w.frozen? ⟨R,20,none⟩=false∧w.frozen? ⟨R,21,none⟩=false∧w.frozen? ⟨R,22,none⟩=false∧w.frozen? ⟨R,23,none⟩=false∧w.frozen? ⟨R,24,none⟩=false∧w.frozen? ⟨R,25,none⟩=false∧w.frozen? ⟨R,26,none⟩=false:=⟨h.frozen 18,h.frozen 19,h.frozen 20,h.frozen 21,h.frozen 22,h.frozen 23,h.frozen 24,h.frozen 25,h.frozen 26⟩
section
variable {C:Pc} {B:Nat→Prop} {a:World} {D:List Nat} {os:List Ob} {s s':Ps} {w w':World} {t1 t2 t3:Tr} {p0 p1 p2 p3 p4 p5 p6 p7 p8 q0 q1 q2 q3 q4 q5 q6 q7 q8 r0 r1 r2 r3 r4 r5 r6 r7 r8 v0 v1 v2 v3 v4 v5 v6 v7 v8:Value} {R:Nat} {T:TypeId}
theorem Fr.box3 (F:Fr C B a D os s w) (i j m:Nat) (_h1:os[i]? =some (.tr t1 [p0,p1,p2,p3,p4,p5,p6,p7,p8]):=by rfl) (_h2:os[j]? =some (.tr t2 [q0,q1,q2,q3,q4,q5,q6,q7,q8]):=by rfl) (_h3:os[m]? =some (.tr t3 [r0,r1,r2,r3,r4,r5,r6,r7,r8]):=by rfl):Fr C B a (w.heap.size::D) (os++[.bx w.heap.size 72 [p0,p1,p2,p3,p4,p5,p6,p7,p8,q0,q1,q2,q3,q4,q5,q6,q7,q8,r0,r1,r2,r3,r4,r5,r6,r7,r8]]) s (w.alloc (.cells #[p0,p1,p2,p3,p4,p5,p6,p7,p8,q0,q1,q2,q3,q4,q5,q6,q7,q8,r0,r1,r2,r3,r4,r5,r6,r7,r8] 72)):=F.box [p0,p1,p2,p3,p4,p5,p6,p7,p8,q0,q1,q2,q3,q4,q5,q6,q7,q8,r0,r1,r2,r3,r4,r5,r6,r7,r8] 72 rfl (by decide) (by decide)
theorem Fr.put1 (F:Fr C B a D os s w) (i j:Nat) {x:Ob} (hi:os[i]? =some (.bx R 72 [p0,p1,p2,p3,p4,p5,p6,p7,p8,q0,q1,q2,q3,q4,q5,q6,q7,q8,r0,r1,r2,r3,r4,r5,r6,r7,r8]):=by rfl) (_hj:os[j]? =some x:=by rfl) (_hc:x.cells=[v0,v1,v2,v3,v4,v5,v6,v7,v8]:=by rfl):Fr C B a D (os.set i (.bx R 72 [p0,p1,p2,p3,p4,p5,p6,p7,p8,v0,v1,v2,v3,v4,v5,v6,v7,v8,r0,r1,r2,r3,r4,r5,r6,r7,r8])) s (((((((((w.setCell ⟨R,9,none⟩ v0).setCell ⟨R,10,none⟩ v1).setCell ⟨R,11,none⟩ v2).setCell ⟨R,12,none⟩ v3).setCell ⟨R,13,none⟩ v4).setCell ⟨R,14,none⟩ v5).setCell ⟨R,15,none⟩ v6).setCell ⟨R,16,none⟩ v7).setCell ⟨R,17,none⟩ v8):=
 .mk (F.out.setAt hi zH6 (zPE (F.b i hi) (F.out.ds R (F.out.ob i _ hi).2.1).1 (Nat.lt_of_lt_of_le F.out.lt (F.out.ds R (F.out.ob i _ hi).2.1).1) F.P F.out.gr).box)
theorem Fr.put2 (F:Fr C B a D os s w) (i j:Nat) {x:Ob} (hi:os[i]? =some (.bx R 72 [p0,p1,p2,p3,p4,p5,p6,p7,p8,q0,q1,q2,q3,q4,q5,q6,q7,q8,r0,r1,r2,r3,r4,r5,r6,r7,r8]):=by rfl) (_hj:os[j]? =some x:=by rfl) (_hc:x.cells=[v0,v1,v2,v3,v4,v5,v6,v7,v8]:=by rfl):Fr C B a D (os.set i (.bx R 72 [p0,p1,p2,p3,p4,p5,p6,p7,p8,q0,q1,q2,q3,q4,q5,q6,q7,q8,v0,v1,v2,v3,v4,v5,v6,v7,v8])) s (((((((((w.setCell ⟨R,18,none⟩ v0).setCell ⟨R,19,none⟩ v1).setCell ⟨R,20,none⟩ v2).setCell ⟨R,21,none⟩ v3).setCell ⟨R,22,none⟩ v4).setCell ⟨R,23,none⟩ v5).setCell ⟨R,24,none⟩ v6).setCell ⟨R,25,none⟩ v7).setCell ⟨R,26,none⟩ v8):=
 .mk (F.out.setAt hi zH7 (zPF (F.b i hi) (F.out.ds R (F.out.ob i _ hi).2.1).1 (Nat.lt_of_lt_of_le F.out.lt (F.out.ds R (F.out.ob i _ hi).2.1).1) F.P F.out.gr).box)
theorem Fr.m1 (F:Fr C B a D os s w) (i:Nat) (h:os[i]? =some (.bx R T [p0,p1,p2,p3,p4,p5,p6,p7,p8,q0,q1,q2,q3,q4,q5,q6,q7,q8,r0,r1,r2,r3,r4,r5,r6,r7,r8]):=by rfl):w.cell? ⟨R,9,none⟩=some q0∧w.cell? ⟨R,10,none⟩=some q1∧w.cell? ⟨R,11,none⟩=some q2∧w.cell? ⟨R,12,none⟩=some q3∧w.cell? ⟨R,13,none⟩=some q4∧w.cell? ⟨R,14,none⟩=some q5∧w.cell? ⟨R,15,none⟩=some q6∧w.cell? ⟨R,16,none⟩=some q7∧w.cell? ⟨R,17,none⟩=some q8:=(F.b i h).mid1
theorem Fr.g1 (F:Fr C B a D os s w) (i:Nat) {cs:List Value} (h:os[i]? =some (.bx R T cs):=by rfl):w.frozen? ⟨R,9,none⟩=false∧w.frozen? ⟨R,10,none⟩=false∧w.frozen? ⟨R,11,none⟩=false∧w.frozen? ⟨R,12,none⟩=false∧w.frozen? ⟨R,13,none⟩=false∧w.frozen? ⟨R,14,none⟩=false∧w.frozen? ⟨R,15,none⟩=false∧w.frozen? ⟨R,16,none⟩=false∧w.frozen? ⟨R,17,none⟩=false:=(F.b i h).midF1
theorem Fr.m2 (F:Fr C B a D os s w) (i:Nat) (h:os[i]? =some (.bx R T [p0,p1,p2,p3,p4,p5,p6,p7,p8,q0,q1,q2,q3,q4,q5,q6,q7,q8,r0,r1,r2,r3,r4,r5,r6,r7,r8]):=by rfl):w.cell? ⟨R,18,none⟩=some r0∧w.cell? ⟨R,19,none⟩=some r1∧w.cell? ⟨R,20,none⟩=some r2∧w.cell? ⟨R,21,none⟩=some r3∧w.cell? ⟨R,22,none⟩=some r4∧w.cell? ⟨R,23,none⟩=some r5∧w.cell? ⟨R,24,none⟩=some r6∧w.cell? ⟨R,25,none⟩=some r7∧w.cell? ⟨R,26,none⟩=some r8:=(F.b i h).mid2
theorem Fr.g2 (F:Fr C B a D os s w) (i:Nat) {cs:List Value} (h:os[i]? =some (.bx R T cs):=by rfl):w.frozen? ⟨R,18,none⟩=false∧w.frozen? ⟨R,19,none⟩=false∧w.frozen? ⟨R,20,none⟩=false∧w.frozen? ⟨R,21,none⟩=false∧w.frozen? ⟨R,22,none⟩=false∧w.frozen? ⟨R,23,none⟩=false∧w.frozen? ⟨R,24,none⟩=false∧w.frozen? ⟨R,25,none⟩=false∧w.frozen? ⟨R,26,none⟩=false:=(F.b i h).midF2
theorem Fr.wide (F:Fr C B a D os s w) (j:Nat) {lo:Nat} {t:Tr} {cs:List Value} (hj:os[j]? =some (.tn lo t cs)):Fr C B a D (os.set j (.tr t cs)) s w:=.mk (F.out.rep hj rfl rfl (TrC.sub (fun _ hb _=>hb.1) _ _ (F.out.ob j _ hj).1))
theorem Fr.pk4 (F:Fr C B a D os s w) (E:List Nat) (l:List Nat) (hE:∀b∈E,b∈D) (hl:l.Nodup) {r0 r1 r2 r3:Nat} (hr:(pkL os l).filterMap Ob.blk=[r0,r1,r2,r3]) (h0:r0∈E) (h1:r1∈E) (h2:r2∈E) (h3:r3∈E):Fr C B a E (pkL os l) s w:=F.pkc E l hE hl fun R h=>by
 rw[hr]at h
 rcases List.mem_cons.1 h with rfl | h
 · assumption
 rcases List.mem_cons.1 h with rfl | h
 · assumption
 rcases List.mem_cons.1 h with rfl | h
 · assumption
 · rw[List.mem_singleton.1 h];assumption
theorem Fr.ret3 {Pg:Program} {fn:Func} {A:Act} {p:Tr×Ps} {kk:Int} (F:Fr C B a D os s w) (i j m n:Nat) (hi:os[i]? =some (.bx R 72 [p0,p1,p2,p3,p4,p5,p6,p7,p8,q0,q1,q2,q3,q4,q5,q6,q7,q8,r0,r1,r2,r3,r4,r5,r6,r7,r8])) (h1:os[j]? =some (.tr t1 [p0,p1,p2,p3,p4,p5,p6,p7,p8])) (h2:os[m]? =some (.tr t2 [q0,q1,q2,q3,q4,q5,q6,q7,q8])) (h3:os[n]? =some (.tr t3 [r0,r1,r2,r3,r4,r5,r6,r7,r8]))
 (hr:(results fn A.tmps).run Pg w=.ok (.agg #[.int .i64 kk,.string ⟨#[]⟩,.slice none 0 0,.int .i64 0,.int .i64 0,.bool false,.slice none 0 0,.slice none 0 0,.slice (some ⟨R,0,none⟩) 3 3]) w) (hd:A.defers=[]) (e:p=(trK kk [t1,t2,t3],s)) (hB:∀b,B b→a.heap.size≤b):bodyPost Pg fn (zCk C p a) .ret A w:=by
 subst e
 have hD:=(F.out.ob i _ hi).2.1
 have hrow:=zPD (P:=(a.heap.size≤·)) (Q:=Off B D) (l:=[t1,t2,t3]) (n:=3) (F.b i hi) (F.ts3 j m n h1 h2 h3) rfl (by decide) (fun b hb _=>hB b hb.1) (fun h=>h.2 hD) (F.out.ds R hD).1
 exact bodyPost_ret hr hd ⟨_,_,_,_,_,_,_,_,_,rfl,(show TrC _ _ _ _ from hrow.treeK),F.P,F.out.gr⟩
end
theorem zMy {C:Pc} {s:Ps} {w:World} (hp:Pre C.L (.tries) s) (K:KP C (zh C.L (.tries) s)) (h:Pa C s w) (hc:onP C.L [99,97,116,99,104] (zI C.L .block (stepP s)).2=true) (hq:onP C.L [40] (stepP (zI C.L .block (stepP s)).2)=true):zk C s w (.tries):=by
 refine zAl hp h fun HL hlen hsk r W X HR hW hX F0=>?_
 have HK:=zD K
 have hlt:=zD hp.2
 clear K h hp
 go_enter Tryz.func182,Tryz.ntmps182
 go_upto_region 1 with(fail)
 clear hW hX
 obtain⟨xk1,fk1,bk1⟩:=F0.k1
 have F1:=F0.step hlt.out
 have hpb:=zD (zV HL.out (p:=.block) (s:=stepP s) ⟨hlt.out,trivial⟩).adv
 go_wp2_with fail
 refine F1.kX (HK.out.more (q:=.block) ⟨F1.P.hi,trivial⟩ F1.P (Nat.lt_succ_self s.k)) fun rq2 HRQ2 w2 d2_0 d2_1 d2_2 d2_3 d2_4 d2_5 d2_6 d2_7 d2_8 F2=>?_
 obtain⟨_,_,_,_,_,_,_,_,_⟩:=F2.sto 1
 obtain⟨sb,hsb⟩:∃x,rq2.2=x:=⟨_,rfl⟩
 have HBQ:=zD (show zI C.L .block (stepP s)=(rq2.1,sb) by rw[HRQ2.out,←hsb])
 have F3:=F2
 rw[hsb]at F3
 have HAb:=zD (show Adv C.L (stepP s) sb by have:=hpb.out;rw[HBQ.out]at this;exact this)
 have hk1:s.k < sb.k:=by have:=HAb.out.le;have:(stepP s).k=s.k+1:=rfl;omega
 have HC:=zD (show onP C.L [99,97,116,99,104] sb=true by rw[HBQ.out]at hc;exact hc)
 clear hc hsb
 have HQ:=zD (show onP C.L [40] (stepP sb)=true by rw[HBQ.out]at hq;exact hq)
 clear hq
 go_wp2_with fail
 refine F3.made0 _ fun w4 F4=>?_
 go_wp2_with fail
 refine F4.made0 _ fun w5 F5=>?_
 have F6:=F5.box3 1 2 3
 go_wp2_with fail
 refine F6.kQ (zAZ _ _ _ _) fun w7 F7=>?_
 have F8:=F7.box [.int .i64 16,.string ⟨#[]⟩,.slice none 0 0,.int .i64 0,.int .i64 0,.bool false,.slice none 0 0,.slice none 0 0,.slice (some ⟨w5.heap.size,0,none⟩) 3 3] 72 rfl (by decide) (by decide)
 go_wp2_with fail
 refine F8.kB (zAR F8.P [99,97,116,99,104] HC.out) fun w9 F9=>?_
 have hlc:=zD (HL.out.on F9.P.hi HC.out)
 have hst:(stepP sb).k=sb.k+1:=rfl
 go_wp2_with fail
 refine F9.kM (zA6 F9.P [99,97,116,99,104] HC.out) fun w10 F10=>?_
 go_wp2_with fail
 refine F10.made0 _ fun w11 F11=>?_
 have F12:=F11.bt 6 72 rfl
 have hlq:=zD (HL.out.on (s:=stepP sb) hlc.out HQ.out)
 go_wp2_with fail
 refine F12.kM (zA6 F12.P [40] HQ.out) fun w13 F13=>?_
 have hen:=zD (zAO HL.out (s:=stepP (stepP (sb))) hlq.out).adv
 have hed:=zD (zS (w:=[41]) HL.out hen.out.hi).adv
 have hk2:s.k < (zO C.L [41] ((zg C.L (stepP (stepP (sb)))).2)).k:=by have h1:=hen.out.le;have h2:=hed.out.le;have:(stepP (stepP (sb))).k=sb.k+1+1:=rfl;omega
 go_wp2_with fail
 refine F13.kS (zC0 F13.P) fun w14 F14=>?_
 obtain⟨_,_,_,_,_,_,_,_,_⟩:=F14.c 7
 obtain⟨_,_,_,_,_,_,_,_,_⟩:=F14.f 7
 have F15:=F14.set 7 1 (.string ⟨((zg C.L (stepP (stepP (sb)))).1).toArray⟩)
 go_wp2_with fail
 refine F15.kN (zAE F15.P [41]) fun w16 F16=>?_
 have F17:=F16.nil
 have CLq:=zD (fun Q=>F17.dr.kRX 8 rfl (Q:=Q) (HK.out.more (q:=.block) ⟨F17.dr.P.hi,trivial⟩ F17.dr.P hk2))
 obtain⟨_,_,_,_,_,_,_,_,_⟩:=F17.c 7
 go_upto_region 10 with(fail)
 go_cut [39] (fun _ wx=>∃(rq:Tr×Ps) (Ac:Option Addr) (cpc lo:Nat),Hid (zI C.L .block (zO C.L [41] ((zg C.L (stepP (stepP (sb)))).2))=rq)∧Fr C (w.heap.size≤·) w [(w11.heap.size),(w7.heap.size),(w5.heap.size),X] [.bx X 72 [.int .i64 0,.string ⟨#[]⟩,.slice none 0 0,.int .i64 0,.int .i64 0,.bool false,.slice none 0 0,.slice none 0 0,.slice none 0 0],.bx (w5.heap.size) 72 [d2_0,d2_1,d2_2,d2_3,d2_4,d2_5,d2_6,d2_7,d2_8,.int .i64 11,.string ⟨#[]⟩,.slice none 0 0,.int .i64 0,.int .i64 0,.bool false,.slice none 0 0,.slice none 0 0,.slice none 0 0,.int .i64 11,.string ⟨#[]⟩,.slice none 0 0,.int .i64 0,.int .i64 0,.bool false,.slice none 0 0,.slice none 0 0,.slice none 0 0],.bx (w7.heap.size) 72 [.int .i64 16,.string ⟨#[]⟩,.slice none 0 0,.int .i64 0,.int .i64 0,.bool false,.slice none 0 0,.slice none 0 0,.slice (some ⟨w5.heap.size,0,none⟩) 3 3],.bx (w11.heap.size) 72 [.int .i64 17,.string ⟨((zg C.L (stepP (stepP (sb)))).1).toArray⟩,.slice none 0 0,.int .i64 0,.int .i64 0,.bool false,.slice none 0 0,.slice none 0 0,.slice Ac 1 cpc],.tr (rq2.1) [d2_0,d2_1,d2_2,d2_3,d2_4,d2_5,d2_6,d2_7,d2_8],.tr (trK 11 []) [.int .i64 11,.string ⟨#[]⟩,.slice none 0 0,.int .i64 0,.int .i64 0,.bool false,.slice none 0 0,.slice none 0 0,.slice none 0 0],.tn lo (trN 17 ((zg C.L (stepP (stepP (sb)))).1) [rq.1]) [.int .i64 17,.string ⟨((zg C.L (stepP (stepP (sb)))).1).toArray⟩,.slice none 0 0,.int .i64 0,.int .i64 0,.bool false,.slice none 0 0,.slice none 0 0,.slice Ac 1 cpc]] rq.2 wx)
 case first=>
  go_region_law (first | (go_simp;go_at_call 145;(with_reducible refine CLq.out _ fun rq HRQ wa d0 d1 d2 d3 d4 d5 d6 d7 d8 Fa=>?_);obtain⟨_,_,_,_,_,_,_,_,_⟩:=Fa.c 7;obtain⟨_,_,_,_,_,_,_,_,_⟩:=(Fa.al (.cells #[d0,d1,d2,d3,d4,d5,d6,d7,d8] 72)).c 7) | (refine Fa.snoc0 9 17 ((zg C.L (stepP (stepP (sb)))).1) rfl rfl _ _ rfl rfl rfl fun A3 cp3 wb Fb=>?_;obtain⟨_,_,_,_,_,_,_,_,_⟩:=Fb.c 7;obtain⟨_,_,_,_,_,_,_,_,_⟩:=Fb.f 7))
  all_goals
   have Fc:=Fb.set 7 8 (.slice A3 1 cp3)
   go_wp2_with fail
   go_meet
   exact⟨rq,A3,cp3,_,HRQ,Fc.pk4 [(w11.heap.size),(w7.heap.size),(w5.heap.size),X] [0,4,5,7,1,3,10] (by simp) (by decide) rfl (by simp) (by simp) (by simp) (by simp)⟩
 case rest=>
  obtain⟨rq,Ac,cpc,lo,HRQ,Fh0⟩:=hcut
  obtain⟨wh,rfl⟩:∃x,x=wc:=⟨_,rfl⟩
  have Fh:=Fh0.wide 6 rfl
  have HAD:=zD (show Adv C.L (zO C.L [41] ((zg C.L (stepP (stepP (sb)))).2)) rq.2 by have:=(zV HL.out (p:=.block) (s:=zO C.L [41] ((zg C.L (stepP (stepP (sb)))).2)) ⟨F17.P.hi,trivial⟩).adv;rw[HRQ.out]at this;exact this)
  have hka:s.k < rq.2.k:=by have:=HAD.out.le;omega
  obtain⟨_,_,_,_,_,_,_,_,_⟩:=Fh.c 3
  obtain⟨_,_,_,_,_,_,_,_,_⟩:=Fh.c 2
  obtain⟨_,_,_,_,_,_,_,_,_⟩:=Fh.m1 1
  obtain⟨_,_,_,_,_,_,_,_,_⟩:=Fh.g1 1
  go_upto_region 12 with(fail)
  refine zDB (Fh.put1 1 6) fun wi Fi=>?_
  obtain⟨bf,hbf⟩:∃x,onP C.L [102,105,110,97,108,108,121] rq.2=x:=⟨_,rfl⟩
  have HF:=zD hbf
  clear hbf
  cases bf with
  | false=>
   go_wp2_with fail
   refine Fi.kM (zA9 Fi.P [102,105,110,97,108,108,121] HF.out) fun w18 F18=>?_
   obtain⟨_,_,_,_,_,_,_,_,_⟩:=F18.c 2
   obtain⟨_,_,_,_,_,_,_,_,_⟩:=F18.c 0
   obtain⟨_,_,_,_,_,_,_,_,_⟩:=F18.f 0
   go_wp2_with fail
   refine zP (F18.put 0 2) fun V19 F19=>?_
   have q:=F19.c 0
   exact F19.ret3 (kk:=16) 1 4 6 5 rfl rfl rfl rfl (by simp[results,Tryz.results182,go_sem,q]) rfl (HR.out.symm.trans (by
    unfold zE
    dsimp only
    simp[HBQ.out,HC.out,HQ.out,HRQ.out,HF.out])) (fun _ h=>h)
  | true=>
   have hlf:=zD (HL.out.on Fi.P.hi HF.out)
   have hsu:(stepP rq.2).k=rq.2.k+1:=rfl
   go_wp2_with fail
   refine Fi.kM (zA6 Fi.P [102,105,110,97,108,108,121] HF.out) fun w20 F20=>?_
   have CLF:=zD (fun Q=>F20.dr.kX (Q:=Q) (HK.out.more (q:=.block) ⟨F20.dr.P.hi,trivial⟩ F20.dr.P (by omega)))
   obtain⟨_,_,_,_,_,_,_,_,_⟩:=F20.c 2
   obtain⟨_,_,_,_,_,_,_,_,_⟩:=F20.m2 1
   obtain⟨_,_,_,_,_,_,_,_,_⟩:=F20.g2 1
   go_upto_region 13 with(fail)
   go_cut [52] (fun _ wx=>∃(rf:Tr×Ps) (d0 d1 d2 d3 d4 d5 d6 d7 d8:Value),Hid (zI C.L .block (stepP (rq.2))=rf)∧Fr C (w.heap.size≤·) w [(w7.heap.size),(w5.heap.size),X] [.bx X 72 [.int .i64 0,.string ⟨#[]⟩,.slice none 0 0,.int .i64 0,.int .i64 0,.bool false,.slice none 0 0,.slice none 0 0,.slice none 0 0],.bx (w5.heap.size) 72 [d2_0,d2_1,d2_2,d2_3,d2_4,d2_5,d2_6,d2_7,d2_8,.int .i64 17,.string ⟨((zg C.L (stepP (stepP (sb)))).1).toArray⟩,.slice none 0 0,.int .i64 0,.int .i64 0,.bool false,.slice none 0 0,.slice none 0 0,.slice Ac 1 cpc,d0,d1,d2,d3,d4,d5,d6,d7,d8],.bx (w7.heap.size) 72 [.int .i64 16,.string ⟨#[]⟩,.slice none 0 0,.int .i64 0,.int .i64 0,.bool false,.slice none 0 0,.slice none 0 0,.slice (some ⟨w5.heap.size,0,none⟩) 3 3],.tr (rq2.1) [d2_0,d2_1,d2_2,d2_3,d2_4,d2_5,d2_6,d2_7,d2_8],.tr (trN 17 ((zg C.L (stepP (stepP (sb)))).1) [rq.1]) [.int .i64 17,.string ⟨((zg C.L (stepP (stepP (sb)))).1).toArray⟩,.slice none 0 0,.int .i64 0,.int .i64 0,.bool false,.slice none 0 0,.slice none 0 0,.slice Ac 1 cpc],.tr rf.1 [d0,d1,d2,d3,d4,d5,d6,d7,d8]] rf.2 wx)
   case first=>
    go_region_law (go_simp;go_at_call 145;(with_reducible refine CLF.out _ fun rf HRF w2 d0 d1 d2 d3 d4 d5 d6 d7 d8 F2=>?_);obtain⟨_,_,_,_,_,_,_,_,_⟩:=F2.c 2;obtain⟨_,_,_,_,_,_,_,_,_⟩:=F2.m2 1;obtain⟨_,_,_,_,_,_,_,_,_⟩:=F2.g2 1;obtain⟨_,_,_,_,_,_,_,_,_⟩:=F2.sto 7)
    all_goals
     go_wp2_with fail
     go_meet
     exact⟨rf,d0,d1,d2,d3,d4,d5,d6,d7,d8,HRF,(F2.put2 1 7).pk3 [(w7.heap.size),(w5.heap.size),X] [0,1,2,4,6,7] (by simp) (by decide) rfl (by simp) (by simp) (by simp)⟩
   case rest=>
    obtain⟨rf,d0,d1,d2,d3,d4,d5,d6,d7,d8,HRF,Fz⟩:=hcut
    obtain⟨wz,rfl⟩:∃x,x=wc:=⟨_,rfl⟩
    obtain⟨_,_,_,_,_,_,_,_,_⟩:=Fz.c 2
    obtain⟨_,_,_,_,_,_,_,_,_⟩:=Fz.c 0
    obtain⟨_,_,_,_,_,_,_,_,_⟩:=Fz.f 0
    go_wp2_with fail
    refine zP (Fz.put 0 2) fun V21 F21=>?_
    have q:=F21.c 0
    exact F21.ret3 (kk:=16) 1 3 4 5 rfl rfl rfl rfl (by simp[results,Tryz.results182,go_sem,q]) rfl (HR.out.symm.trans (by
     unfold zE
     dsimp only
     simp[HBQ.out,HC.out,HQ.out,HRQ.out,HF.out,HRF.out])) (fun _ h=>h)
end Go.Proofs.YtlohaclgbfhijaaGreatDoor
