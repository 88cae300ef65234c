/- Joined for the claim EarlyRoot: the parser, the lexer and the trees as they are walked, made short by a program of mine. -/
import Derived.Test.YtlohaclgbfhijaaGreatDoorE15
import Derived.Test.YtlohaclgbfhijaaGreatDoorE19
import Derived.Deep.RegionLaw
import Derived.Deep.LoopGhost
import Derived.Test.YtlohaclgbfhijaaGreatDoorE17
import Derived.Deep.CutBlock
import Derived.Deep.DeepCutAuto
import Derived.Test.YtlohaclgbfhijaaGreatDoorE01
set_option maxHeartbeats 16000000
set_option maxRecDepth 1000000
namespace Go.Proofs.YtlohaclgbfhijaaGreatDoor
open Go.Proofs.Tryz
open Go.RowKit
section
variable {C:Pc} {B:Nat→Prop} {a:World} {D:List Nat} {os:List Ob} {s s':Ps} {w w':World}
theorem Fr.kMb (F:Fr C B a D os s w) (j:Nat) {x xm:Tr} {bm:Bool} {sm:Ps} {d0 d1 d2 d3 d4 d5 d6 d7 d8:Value} (hj:os[j]? =some (.tr x [d0,d1,d2,d3,d4,d5,d6,d7,d8])) (KA:onP C.L [91] s=true→∀W,Pa C (zB s) W→zc C (zB s) W .assign) (hm:zB9 C.L (zF C.L) x s=((xm,bm),sm)) {Q:Ending→World→Prop} (k:∀w' m0 m1 m2 m3 m4 m5 m6 m7 m8,Fr C B a D (os++[.tr xm [m0,m1,m2,m3,m4,m5,m6,m7,m8]]) sm w'→Q (.returned (.tuple #[.agg #[m0,m1,m2,m3,m4,m5,m6,m7,m8],.bool bm])) w'):Calls prog 219 #[.pointer (some ⟨C.g,0,none⟩),.agg #[d0,d1,d2,d3,d4,d5,d6,d7,d8]] w Q:=
 (zL1 F.P KA (fun b hb=>F.out.bl b hb.1) (F.t j hj) hm).mono fun _ w' ⟨m0,m1,m2,m3,m4,m5,m6,m7,m8,h1,h2,h3,h4⟩=>h1▸k w' m0 m1 m2 m3 m4 m5 m6 m7 m8 (.mk ((F.m h3 h4).out.snoc (x:=.tr _ _) rfl (TrC.sub (fun _ hb _=>hb.elim id F.out.off) _ _ h2)))
theorem Fr.kLX {f:FuncId} {args:Array Value} {p:Tr×Ps} (F:Fr C B a D os s w) (h:Calls prog f args w (LstQ C p w)) {Q:Ending→World→Prop} (k:∀x,Hid (p=x)→∀w' A n c,Hid (x.1.subs.length=n)→Fr C B a D (os++[.ro (.slice A n c) x.1.subs]) x.2 w'→Q (.returned (.slice A n c)) w'):Calls prog f args w Q:=
 F.kL h fun w' A n c h1 _ _ h4=>k p (zA rfl) w' A n c h1 h4
theorem FrR.join {R i:Nat} {T:TypeId} {cs:List Value} {v:Value} {l:List Tr} (F:FrR C B a (R::D) os s w) (hi:os[i]? =some (.bx R T cs)) (hD:R∉D) (hg:w.grownBy w' (some R)) (hn:RowP w' (Off B D) v l):FrR C B a D (os.set i (.vs [])++[.ro v l]) s w':=by
 obtain⟨h1,h2,h3,h4⟩:=F.ob i _ hi;have hl:=F.ds R (by simp);have hil:=zPE hi;have hz:∀(j:Nat) (z:Ob),(os.set i (.vs []))[j]? =some z→(j=i∧z=.vs [])∨(j≠i∧os[j]? =some z):=by
  intro j z h;rw[List.getElem?_set]at h;split at h
  · rename_i e
    subst e
    (try rw[if_pos hil]at h)
    injection h with h;exact .inl ⟨rfl,h.symm⟩
  · rename_i e;exact .inr ⟨fun h=>e h.symm,h⟩
 have hs:∀b,Off B (R::D) b→Off B D b:=fun b hb=>⟨hb.1,fun h=>hb.2 (List.mem_cons_of_mem _ h)⟩;have F1:FrR C B a D (os.set i (.vs [])) s w':=by
  refine⟨F.pa.grown hg (fun b hb=>by injection hb with hb;have:=F.lt;omega),zBP F.gr hl.1 hg,F.bl,F.bh,fun b hb=>⟨(F.ds b (List.mem_cons_of_mem _ hb)).1,yAA (F.ds b (List.mem_cons_of_mem _ hb)).2 hg.size⟩,?_,?_⟩
  · intro j k y z R' h5 h6 h7 h8;rcases hz j y h5 with⟨_,rfl⟩ | ⟨_,h5⟩
    · cases h7
    rcases hz k z h6 with⟨_,rfl⟩ | ⟨_,h6⟩
    · cases h8
    exact F.nd j k y z R' h5 h6 h7 h8
  · intro j y h5;rcases hz j y h5 with⟨_,rfl⟩ | ⟨h6,h5⟩
    · trivial
    · have h7:=(F.ob j y h5).keep hg (.box h1 h3 h4 (fun h=>h.2 (by simp))) (fun R' h8 e=>by injection e with e;subst e;exact h6 (F.nd j i y _ R h5 hi h8 rfl));cases y with
      | bx R' T' cs'=>
       refine⟨h7.1,?_,h7.2.2⟩;rcases List.mem_cons.1 h7.2.1 with e | e
       · subst e;exact absurd (F.nd j i _ _ R' h5 hi rfl rfl) h6
       · exact e
      | tr t cs'=>exact TrC.sub (fun b hb _=>hs b hb) _ _ h7
      | tn lo t cs'=>exact⟨TrC.sub (fun b hb _=>⟨hs b hb.1,hb.2⟩) _ _ h7.1,h7.2⟩
      | ro v l=>exact RowP.sub h7 fun b hb _=>hs b hb
      | rn hi v l=>exact RowP.sub h7 fun b hb _=>⟨hs b hb.1,hb.2⟩
      | lf T v n xs=>exact h7
      | vs cs'=>trivial
 exact F1.snoc rfl hn
theorem FrR.lone {R i j:Nat} {x:Tr} {c0 c1 c2 c3 c4 c5 c6 c7 c8:Value} (F:FrR C B a (R::D) os s w) (hi:os[i]? =some (.bx R 72 [c0,c1,c2,c3,c4,c5,c6,c7,c8])) (hj:os[j]? =some (.tr x [c0,c1,c2,c3,c4,c5,c6,c7,c8])) (hD:R∉D):RowP w (Off B D) (.slice (some ⟨R,0,none⟩) 1 1) [x]:=
 zQQ (F.ob i _ hi).1 (F.ob j _ hj) (fun b hb _=>⟨hb.1,fun h=>hb.2 (List.mem_cons_of_mem _ h)⟩) (fun h=>h.2 (by simp)) ⟨F.bh R (F.ds R (by simp)).1,hD⟩
theorem Fr.joinS {ops:Array Oper} {o:Oper} {ac:Act} {K:Act→World→Prop} {Qx:Exit→Act→World→Prop} {E:Prop} {R n cp:Nat} {A:Option Addr} {l:List Tr} {t:Tr} {c0 c1 c2 c3 c4 c5 c6 c7 c8:Value} (F:Fr C B a (R::D) os s w) (i j m:Nat) (hi:os[i]? =some (.bx R 72 [c0,c1,c2,c3,c4,c5,c6,c7,c8])) (hj:os[j]? =some (.tr t [c0,c1,c2,c3,c4,c5,c6,c7,c8])) (hm:os[m]? =some (.ro (.slice A n cp) l)) (hD:R∉D) (hn:l.length=n) (hl:n≤4097) (hgd:o.guard=none) (x y:Operand)
 (ho:o.op=.call {callee:=.builtin .append,args:=#[x,y],argTypes:=#[70,70]})
 (hs:ac.eval x=.slice (some ⟨R,0,none⟩) 1 1) (hx:ac.eval y=.slice A n cp)
 (h:∀A' cp' w',Fr C B a D (os.set i (.vs [])++[.ro (.slice A' (n+1) cp') (t::l)]) s w'→K (ac.put o.dst (.slice A' (n+1) cp')) w'):
 if Region.wanted o (yielded ops ac.tmps)=true then Oper.wp prog o ac w K Qx else E:=
 zL3 hgd x y ho hs hx hn (F.b i hi) (F.t j hj) (F.r m hm) (fun b hb _=>⟨hb.1,fun h=>hb.2 (List.mem_cons_of_mem _ h)⟩) (fun h=>h.2 (by simp)) ⟨F.out.bh R (F.out.ds R (by simp)).1,hD⟩ ⟨F.out.bh _ F.out.gr.size,fun h=>by have:=(F.out.ds _ (List.mem_cons_of_mem _ h)).2;omega⟩ hl fun A' cp' w' h1 h2=>h A' cp' w' (.mk (F.out.join hi hD h2 h1))
theorem Fr.joinL {ops:Array Oper} {rest:List Oper} {o:Oper} {ac:Act} {Qx:Exit→Act→World→Prop} {R n cp:Nat} {A:Option Addr} {l:List Tr} {t:Tr} {c0 c1 c2 c3 c4 c5 c6 c7 c8:Value} (F:Fr C B a (R::D) os s w) (i j m:Nat) (hi:os[i]? =some (.bx R 72 [c0,c1,c2,c3,c4,c5,c6,c7,c8])) (hj:os[j]? =some (.tr t [c0,c1,c2,c3,c4,c5,c6,c7,c8])) (hm:os[m]? =some (.ro (.slice A n cp) l)) (hD:R∉D) (hn:l.length=n) (hl:n≤4097) (hgd:o.guard=none) (x y:Operand)
 (ho:o.op=.call {callee:=.builtin .append,args:=#[x,y],argTypes:=#[70,70]})
 (hs:ac.eval x=.slice (some ⟨R,0,none⟩) 1 1) (hx:ac.eval y=.slice A n cp)
 (h:∀A' cp' w',Fr C B a D (os.set i (.vs [])++[.ro (.slice A' (n+1) cp') (t::l)]) s w'→wpList prog ops Qx rest (ac.put o.dst (.slice A' (n+1) cp')) w'):wpList prog ops Qx (o::rest) ac w:=
 zHk hgd x y ho hs hx hn (F.b i hi) (F.t j hj) (F.r m hm) (fun b hb _=>⟨hb.1,fun h=>hb.2 (List.mem_cons_of_mem _ h)⟩) (fun h=>h.2 (by simp)) ⟨F.out.bh R (F.out.ds R (by simp)).1,hD⟩ ⟨F.out.bh _ F.out.gr.size,fun h=>by have:=(F.out.ds _ (List.mem_cons_of_mem _ h)).2;omega⟩ hl fun A' cp' w' h1 h2=>h A' cp' w' (.mk (F.out.join hi hD h2 h1))
theorem Fr.loneR {R i j:Nat} {x:Tr} {c0 c1 c2 c3 c4 c5 c6 c7 c8:Value} (F:Fr C B a (R::D) os s w) (hi:os[i]? =some (.bx R 72 [c0,c1,c2,c3,c4,c5,c6,c7,c8])) (hj:os[j]? =some (.tr x [c0,c1,c2,c3,c4,c5,c6,c7,c8])) (hD:R∉D):Fr C B a D (os.set i (.vs [])++[.ro (.slice (some ⟨R,0,none⟩) 1 1) [x]]) s w:=.mk (F.out.join hi hD ⟨rfl,rfl,rfl,yAC _,fun _ _ _=>rfl⟩ (F.out.lone hi hj hD))
end
theorem zL4 {C:Pc} {s:Ps} {w:World} (hp:Pre C.L (.calls) s) (K:KP C (zZ C.L (.calls) s)) (h:Pa C s w):zc C s w (.calls):=by
 refine zAg hp h fun HL hlen hsk r W X HR hW hX F0=>?_;have HK:=zA K;clear K h hp;go_enter func214,ntmps214;go_wp2_with fail
 go_step3
 clear hW hX;go_wp2_with fail;refine F0.kX (HK.out.rank (q:=.head) ⟨F0.P.hi,trivial⟩ F0.P (yAC _) (by simp[ze])) fun rq1 HRQ1 w1 d1_0 d1_1 d1_2 d1_3 d1_4 d1_5 d1_6 d1_7 d1_8 F1=>?_;obtain⟨_,_,_,_,_,_,_,_,_⟩:=F1.sto 1;have F2:=F1.bt 1 72 rfl;have HA1:=zA (show Adv C.L s (rq1.2) by have:=(zV HL.out (p:=.head) (s:=s) ⟨hsk,trivial⟩).adv;rw[HRQ1.out]at this;exact this);have HR1:=zA (show zF C.L (.callsL rq1.1) rq1.2=r by
  refine Eq.trans ?_ HR.out;unfold zE;dsimp only;rw[HRQ1.out])
 go_wp2_with fail
 go_step3
 go_wp2_with fail
 go_loopg [5] (C.L.length - (rq1.2).k) (fun gk _ wr=>∃(x':Tr) (s':Ps) (e0 e1 e2 e3 e4 e5 e6 e7 e8:Value),C.L.length - s'.k≤gk∧s.k≤s'.k∧Hid (zF C.L (.callsL x') s'=r)∧Hid (Fr C (w.heap.size≤·) w [(w1.heap.size),X] [.bx X 72 [.int .i64 0,.string ⟨#[]⟩,.slice none 0 0,.int .i64 0,.int .i64 0,.bool false,.slice none 0 0,.slice none 0 0,.slice none 0 0],.bx (w1.heap.size) 72 [e0,e1,e2,e3,e4,e5,e6,e7,e8],.tr x' [e0,e1,e2,e3,e4,e5,e6,e7,e8]] s' wr))
 case atStart=>exact⟨rq1.1,rq1.2,d1_0,d1_1,d1_2,d1_3,d1_4,d1_5,d1_6,d1_7,d1_8,by omega,HA1.out.le,HR1.out,F2.pk [(w1.heap.size),X] [0,2,1] (by simp) (by decide) rfl (by simp) (by simp)⟩
 case round=>
  obtain⟨x',s',e0,e1,e2,e3,e4,e5,e6,e7,e8,hgk,hsk',HRl,Fl⟩:=hrel;obtain⟨b1,hb1⟩:∃b,onP C.L [40] s'=b:=⟨_,rfl⟩;have HB1:=zA hb1;clear hb1;go_wp2_with fail;refine Fl.kB (zAL Fl.P [40] HB1.out) fun w4 F4=>?_;cases b1 with
  | false=>
   obtain⟨⟨⟨xm,bm⟩,sm⟩,HMQ⟩:∃q,Hid (zB9 C.L (zF C.L) x' s'=q):=⟨_,zA rfl⟩;have HMM:=zA (by have hmm:=zIX (x:=x') HL.out F4.P.hi;rw[HMQ.out]at hmm;exact hmm);obtain⟨_,_,_,_,_,_,_,_,_⟩:=F4.c 1;go_wp2_with fail;refine F4.kMb 2 rfl (fun h5 W hW=>HK.out.more (q:=.assign) ⟨hW.hi,trivial⟩ hW (show s.k < s'.k+1 by omega)) HMQ.out fun w5 m0 m1 m2 m3 m4 m5 m6 m7 m8 F5=>?_;obtain⟨_,_,_,_,_,_,_,_,_⟩:=F5.sto 3;have F6:=F5.bt 3 72 rfl;go_upto_region 5 with(fail);refine zCs F6 fun w7 F7=>?_;cases bm with
   | true=>
    obtain⟨_,_,_,_,_,_,_,_,_⟩:=F7.c 4;obtain⟨_,_,_,_,_,_,_,_,_⟩:=F7.c 1;obtain⟨_,_,_,_,_,_,_,_,_⟩:=F7.f 1;have HQR:=zA (show zF C.L (.callsL x') s'=zF C.L (.callsL xm) sm by
     rw[zGs HL.out Fl.P.hi (by rw[HB1.out];decide),HMQ.out];exact if_pos rfl)
    have hmm2:s'.k < sm.k:=HMM.out.2.2 rfl;have hmm3:sm.k≤C.L.length - 1:=HMM.out.2.1;go_wp2_with fail
    go_roundg (C.L.length - (sm).k)
    case measure=>omega
    case rel=>
     exact⟨_,_,_,_,_,_,_,_,_,_,_,yAC _,(by omega),HQR.out.symm.trans HRl.out,(F7.put 1 3).pk [(w1.heap.size),X] [0,1,3] (by simp) (by decide) rfl (by simp) (by simp)⟩
   | false=>
    have HQR:=zA (show zF C.L (.callsL x') s'=(x',sm) by
     rw[zGs HL.out Fl.P.hi (by rw[HB1.out];decide),HMQ.out];exact if_neg (by simp))
    obtain⟨_,_,_,_,_,_,_,_,_⟩:=F7.c 1;obtain⟨_,_,_,_,_,_,_,_,_⟩:=F7.sto 2;obtain⟨_,_,_,_,_,_,_,_,_⟩:=F7.c 0;obtain⟨_,_,_,_,_,_,_,_,_⟩:=F7.f 0;go_wp2_with fail;refine zM (F7.put 0 2) fun V8 F8=>?_;have q:=F8.c 0;exact F8.ret 2 rfl (by simp[results,results214,go_sem,q]) rfl (HRl.out.symm.trans HQR.out) (fun _ h=>h)
  | true=>
   have hlt:=zA (HL.out.on Fl.P.hi HB1.out);have hpost:=zA (zV HL.out (p:=.args) (s:=s') ⟨Fl.P.hi,hlt.out⟩);have hal:=zA (zGl HL.out hlt.out);have hNN:=zA Fl.P.cx.n;have FA:=(F4.bt 2 72 rfl).dr;have CLA:=zA (fun Q=>FA.kLX (Q:=Q) (HK.out.rank (q:=.args) ⟨FA.P.hi,hlt.out⟩ FA.P hsk' (by simp[ze])));have CLB:=zA (fun Q=>F4.dr.kLX (Q:=Q) (HK.out.rank (q:=.args) ⟨F4.dr.P.hi,hlt.out⟩ F4.dr.P hsk' (by simp[ze])));have HDA:=zA (fun h=>Nat.lt_irrefl _ (F4.out.ds _ h).2);obtain⟨_,_,_,_,_,_,_,_,_⟩:=F4.c 1;go_wp2_with fail;go_region_law (first | (go_simp;go_at_call 218;first | ((with_reducible refine CLA.out _ fun ra HRA w71 A1 n1 cp1 HN1 F71=>?_);have hnl:=zA (show n1≤4097 by have:=hal.out;rw[HRA.out]at this;have:=HN1.out;have:=hNN.out;omega);obtain⟨_,_,_,_,_,_,_,_,_⟩:=F71.c 1) | ((with_reducible refine CLB.out _ fun ra HRA w71 A1 n1 cp1 HN1 F70=>?_);have hnl:=zA (show n1≤4097 by have:=hal.out;rw[HRA.out]at this;have:=HN1.out;have:=hNN.out;omega);obtain⟨_,_,_,_,_,_,_,_,_⟩:=F70.c 1;have HDB:=zA (fun h=>Nat.lt_irrefl _ (F70.out.ds _ h).2);have F71:=F70.bt 2 72 rfl)) | (refine F71.joinS 3 2 4 rfl rfl rfl HDA.out HN1.out hnl.out rfl _ _ rfl rfl rfl fun A3 cp3 w72 F72=>?_;obtain⟨_,_,_,_,_,_,_,_,_⟩:=F72.c 1;obtain⟨_,_,_,_,_,_,_,_,_⟩:=F72.f 1) | (refine F71.joinS 4 2 3 rfl rfl rfl HDB.out HN1.out hnl.out rfl _ _ rfl rfl rfl fun A3 cp3 w72 F72=>?_;obtain⟨_,_,_,_,_,_,_,_,_⟩:=F72.c 1;obtain⟨_,_,_,_,_,_,_,_,_⟩:=F72.f 1) | (go_simp;go_at_call 58;refine F72.kQ (zAS 50 A3 (n1+1) cp3) fun w73 F73=>?_;obtain⟨_,_,_,_,_,_,_,_,_⟩:=F73.c 1;obtain⟨_,_,_,_,_,_,_,_,_⟩:=F73.f 1))
   all_goals
    have F74:=F73.rowK 5 rfl 50;have HQR:=zA (show zF C.L (.callsL x') s'=zF C.L (.callsL (trK 50 (x'::ra.1.subs))) ra.2 by
     rw[zAH HL.out (p:=.callsL x') ⟨(Nat.le_of_lt hlt.out),trivial⟩];unfold zE;dsimp only;rw[if_pos HB1.out,HRA.out])
    have hpo:Eat C.L s' ra.2:=(by have:=(show Eat C.L s' (zF C.L .args s').2 from hpost.out);rw[HRA.out]at this;exact this);have hlx:=hpo.more hlt.out
    have hhi:=hpo.adv.hi;clear hpo;go_wp2_with fail
    go_roundg (C.L.length - (ra.2).k)
    case measure=>omega
    case rel=>
     exact⟨_,_,_,_,_,_,_,_,_,_,_,yAC _,(by omega),HQR.out.symm.trans HRl.out,(F74.put 1 6).pk [(w1.heap.size),X] [0,1,6] (by simp) (by decide) rfl (by simp) (by simp)⟩
theorem zL5 {C:Pc} {s:Ps} {w:World} (hp:Pre C.L (.head) s) (K:KP C (zZ C.L (.head) s)) (h:Pa C s w) (hon:onP C.L [110,101,119] s=false):zc C s w (.head):=by
 refine zAg hp h fun HL hlen hsk r W X HR hW hX F0=>?_;have HK:=zA K;clear K h hp;go_enter func217,ntmps217;go_upto_region 1 with(fail);clear hW hX;have HO:=zA hon;clear hon;go_wp2_with fail;refine F0.kM (zA1 F0.P [110,101,119] HO.out) fun w1 F1=>?_;go_wp2_with fail;refine F1.kX (HK.out.rank (q:=.primary) ⟨F1.P.hi,trivial⟩ F1.P (yAC _) (by simp[ze])) fun rq2 HRQ2 w2 d2_0 d2_1 d2_2 d2_3 d2_4 d2_5 d2_6 d2_7 d2_8 F2=>?_;obtain⟨_,_,_,_,_,_,_,_,_⟩:=F2.sto 1;obtain⟨_,_,_,_,_,_,_,_,_⟩:=F2.c 0;obtain⟨_,_,_,_,_,_,_,_,_⟩:=F2.f 0;go_wp2_with fail;refine zM (F2.put 0 1) fun V3 F3=>?_;have q:=F3.c 0;exact F3.ret 1 rfl (by simp[results,results217,go_sem,q]) rfl (HR.out.symm.trans (by
  unfold zE;dsimp only;rw[if_neg (by rw[HO.out];decide)];simp only[HRQ2.out])) (fun _ h=>h)
theorem zOI {C:Pc} {s:Ps} {w:World} (hp:Pre C.L (.head) s) (K:KP C (zZ C.L (.head) s)) (h:Pa C s w) (hon:onP C.L [110,101,119] s=true):zc C s w (.head):=by
 refine zAg hp h fun HL hlen hsk r W X HR hW hX F0=>?_;have HK:=zA K;clear K h hp;go_enter func217,ntmps217;go_upto_region 1 with(fail);clear hW hX;have HO:=zA hon;clear hon;have hlt:=zA (HL.out.on hsk HO.out);go_wp2_with fail;refine F0.kM (zAw F0.P [110,101,119] HO.out) fun w1 F1=>?_;go_wp2_with fail;refine F1.kX (HK.out.more (q:=.head) ⟨F1.P.hi,trivial⟩ F1.P (yAF s.k)) fun rq2 HRQ2 w2 d2_0 d2_1 d2_2 d2_3 d2_4 d2_5 d2_6 d2_7 d2_8 F2=>?_;obtain⟨_,_,_,_,_,_,_,_,_⟩:=F2.sto 1;have F3:=F2.bt 1 72 rfl;have HA1:=zA (show s.k < (rq2.2).k from yAA (yAF s.k) (show(zB s).k≤(rq2.2).k by have:=(zV HL.out (p:=.head) (s:=zB s) ⟨hlt.out,trivial⟩).adv.le;rw[HRQ2.out]at this;exact this));obtain⟨q,hq⟩:∃q,zF C.L (.headL rq2.1) rq2.2=q:=⟨_,rfl⟩;have HQ:=zA hq;clear hq;have HRQ:=zA (show r=(if onP C.L [40] q.2=true then(trK 51 (q.1::(zF C.L .args q.2).1.subs),(zF C.L .args q.2).2)else(trK 51 [q.1],q.2))from by
  refine HR.out.symm.trans ?_;unfold zE;dsimp only;rw[if_pos HO.out,HRQ2.out,HQ.out])
 go_wp2_with fail
 go_loopg [4] (C.L.length) (fun gk v4 wr=>∃(bm:Bool) (x':Tr) (s':Ps) (e0 e1 e2 e3 e4 e5 e6 e7 e8:Value),v4=.bool bm∧(if bm=true then C.L.length - s'.k else 0)≤gk∧s.k < s'.k∧Hid ((if bm=true then zF C.L (.headL x') s' else(x',s'))=q)∧Fr C (w.heap.size≤·) w [(w2.heap.size),X] [.bx X 72 [.int .i64 0,.string ⟨#[]⟩,.slice none 0 0,.int .i64 0,.int .i64 0,.bool false,.slice none 0 0,.slice none 0 0,.slice none 0 0],.bx (w2.heap.size) 72 [e0,e1,e2,e3,e4,e5,e6,e7,e8],.tr x' [e0,e1,e2,e3,e4,e5,e6,e7,e8]] s' wr)
 case atStart=>exact⟨true,rq2.1,rq2.2,d2_0,d2_1,d2_2,d2_3,d2_4,d2_5,d2_6,d2_7,d2_8,rfl,Nat.sub_le _ _,HA1.out,HQ.out,F3.pk [(w2.heap.size),X] [0,2,1] (by simp) (by decide) rfl (by simp) (by simp)⟩
 case round=>
  obtain⟨bm0,x',s',e0,e1,e2,e3,e4,e5,e6,e7,e8,rfl,hgk,hsk',HRl,Fl⟩:=hrel;cases bm0 with
  | true=>
   have hgk2:C.L.length - s'.k≤gk:=by rw[if_pos rfl]at hgk;exact hgk
   clear hgk;have hkN:=Fl.P.kN;have hcn:=Fl.P.cx.n;obtain⟨⟨⟨xm,bm⟩,sm⟩,HMQ⟩:∃q,Hid (zB9 C.L (zF C.L) x' s'=q):=⟨_,zA rfl⟩;have HMM:=zA (by have hmm:=zIX (x:=x') HL.out Fl.P.hi;rw[HMQ.out]at hmm;exact hmm);obtain⟨_,_,_,_,_,_,_,_,_⟩:=Fl.c 1;go_wp2_with fail;refine Fl.kMb 2 rfl (fun h5 W hW=>HK.out.more (q:=.assign) ⟨hW.hi,trivial⟩ hW (show s.k < s'.k+1 by omega)) HMQ.out fun w4 m0 m1 m2 m3 m4 m5 m6 m7 m8 F4=>?_;obtain⟨_,_,_,_,_,_,_,_,_⟩:=F4.sto 3;have HQR:=zA (show(if bm=true then zF C.L (.headL xm) sm else(xm,sm))=q from by
    refine Eq.trans (Eq.symm ?_) (show zF C.L (.headL x') s'=q by have h9:=HRl.out;simpa using h9);rw[zOG HL.out Fl.P.hi,HMQ.out];cases bm with
    | true=>rfl
    | false=>
     have hx:xm=x':=by
      have:=zQ2 (L:=C.L) (R:=zF C.L) (x:=x') (s:=s') (by rw[HMQ.out]);rw[HMQ.out]at this;exact this
     rw[hx])
   have hmm1:=HMM.out.1;have hmm3:=HMM.out.2.1;have hmm2:=HMM.out.2.2;obtain⟨_,_,_,_,_,_,_,_,_⟩:=F4.c 1;obtain⟨_,_,_,_,_,_,_,_,_⟩:=F4.f 1;go_wp2_with fail
   go_roundg (if bm=true then C.L.length - sm.k else 0)
   case measure=>
    cases bm with
    | true=>rw[if_pos rfl];have:=hmm2 rfl;omega
    | false=>rw[if_neg (by decide)];omega
   case rel=>exact⟨bm,xm,sm,m0,m1,m2,m3,m4,m5,m6,m7,m8,rfl,yAC _,by omega,HQR.out,(F4.put 1 3).pk [(w2.heap.size),X] [0,1,3] (by simp) (by decide) rfl (by simp) (by simp)⟩
  | false=>
   have HQX:=zA (show q=(x',s')from by have h9:=HRl.out;simpa using h9.symm);clear hgk;obtain⟨_,_,_,_,_,_,_,_,_⟩:=Fl.sto 2;obtain⟨_,_,_,_,_,_,_,_,_⟩:=Fl.c 1;have HDL:=zA (fun h=>Nat.lt_irrefl _ (Fl.out.ds _ h).2);have F5:=Fl.bt 2 72 rfl;obtain⟨b2,hb2⟩:∃b,onP C.L [40] s'=b:=⟨_,rfl⟩;have HB2:=zA hb2;clear hb2;go_wp2_with fail;refine F5.kB (zAL F5.P [40] HB2.out) fun w6 F6=>?_;cases b2 with
   | false=>
    have F7:=F6.loneR (i:=3) (j:=2) rfl rfl HDL.out;go_wp2_with fail;refine F7.kQ (zAS _ _ _ _) fun w8 F8=>?_;have F9:=F8.rowK 4 rfl 51;obtain⟨_,_,_,_,_,_,_,_,_⟩:=F9.c 0;obtain⟨_,_,_,_,_,_,_,_,_⟩:=F9.f 0;go_wp2_with fail;refine zM (F9.put 0 5) fun V10 F10=>?_;have q:=F10.c 0;exact F10.ret 5 rfl (by simp[results,results217,go_sem,q]) rfl (by
     rw[HRQ.out,HQX.out];dsimp only;rw[if_neg (by rw[HB2.out];decide)]) (fun _ h=>h)
   | true=>
    have hlt2:=zA (HL.out.on Fl.P.hi HB2.out);have hal:=zA (zGl HL.out hlt2.out);have hNN:=zA Fl.P.cx.n;go_wp2_with fail;refine F6.kLX (HK.out.more (q:=.args) ⟨F6.P.hi,hlt2.out⟩ F6.P hsk') fun ra HRA w71 A1 n1 cp1 HN1 F11=>?_;have hnl:=zA (show n1≤4097 by have:=hal.out;rw[HRA.out]at this;have:=HN1.out;have:=hNN.out;omega);go_wp2_with (at_builtin;refine F11.joinL 3 2 4 rfl rfl rfl HDL.out HN1.out hnl.out rfl _ _ rfl rfl rfl fun A3 cp3 w72 F72=>?_);go_wp2_with fail;refine F72.kQ (zAS _ _ _ _) fun w12 F12=>?_;have F13:=F12.rowK 5 rfl 51;obtain⟨_,_,_,_,_,_,_,_,_⟩:=F13.c 0;obtain⟨_,_,_,_,_,_,_,_,_⟩:=F13.f 0;go_wp2_with fail;refine zM (F13.put 0 6) fun V14 F14=>?_;have q:=F14.c 0;exact F14.ret 6 rfl (by simp[results,results217,go_sem,q]) rfl (by
     rw[HRQ.out,HQX.out];dsimp only;rw[if_pos HB2.out,HRA.out]) (fun _ h=>h)
theorem zOJ {C:Pc} {s:Ps} {w:World} (hp:Pre C.L .head s) (K:KP C (zZ C.L .head s)) (h:Pa C s w):zc C s w .head:=by
 cases hon:onP C.L [110,101,119] s with
 | true=>exact zOI hp K h hon
 | false=>exact zL5 hp K h hon
theorem zOK {C:Pc} {s:Ps} {w:World} (hp:Pre C.L (.loop) s) (K:KP C (zZ C.L (.loop) s)) (h:Pa C s w) (hb1:onP C.L [108,101,116] (zN C.L [40] (zB s))=true):zc C s w (.loop):=by
 refine zAg hp h fun HL hlen hsk r W X HR hW hX F0=>?_;have HK:=zA K;have hlt:=zA hp.2;clear K h hp;go_enter func179,ntmps179;go_upto_region 1 with(fail);clear hW hX;have Hb1:=zA hb1;clear hb1;have hx0:=zA (zU (w:=[40]) HL.out (s:=zB s) hlt.out);have hk0:s.k < (zN C.L [40] (zB s)).k:=by have:=hx0.out.adv.le;have:(zB s).k=s.k+1:=rfl;omega
 obtain⟨xk1,fk1,bk1⟩:=F0.k1;have F1:=F0.step hlt.out;go_wp2_with fail;refine F1.kN (zr F1.P [40]) fun w2 F2=>?_;go_wp2_with fail;refine F2.made0 _ fun w3 F3=>?_;have F4:=F3.bt 1 72 rfl;go_wp2_with fail;refine F4.kB (zAL F4.P [108,101,116] Hb1.out) fun w5 F5=>?_;have F6:=F5.nil;have CL7:=zA (fun Q=>F6.dr.kRX 3 rfl (Q:=Q) (HK.out.more (q:=.declares) ⟨F6.dr.P.hi,trivial⟩ F6.dr.P (by omega)));obtain⟨_,_,_,_,_,_,_,_,_⟩:=F6.c 2;go_upto_region 5 with(fail)
 go_cut [20] (fun _ wx=>∃(rq:Tr×Ps) (A:Option Addr) (n cp:Nat),Hid (zF C.L (.declares) (zN C.L [40] (zB (s)))=rq)∧Hid (n=1)∧Fr C (w.heap.size≤·) w [(w3.heap.size),X] [.bx X 72 [.int .i64 0,.string ⟨#[]⟩,.slice none 0 0,.int .i64 0,.int .i64 0,.bool false,.slice none 0 0,.slice none 0 0,.slice none 0 0],.bx (w3.heap.size) 72 [.int .i64 10,.string ⟨#[]⟩,.slice none 0 0,.int .i64 0,.int .i64 0,.bool false,.slice none 0 0,.slice none 0 0,.slice A n cp],.ro (.slice A n cp) ([]++[rq.1])] rq.2 wx)
 case first=>
  go_region_law (first | (go_simp;go_at_call 93;(with_reducible refine CL7.out _ fun rq HRQ w7 d7_0 d7_1 d7_2 d7_3 d7_4 d7_5 d7_6 d7_7 d7_8 F7=>?_);obtain⟨_,_,_,_,_,_,_,_,_⟩:=F7.c 2;obtain⟨_,_,_,_,_,_,_,_,_⟩:=(F7.al (.cells #[d7_0,d7_1,d7_2,d7_3,d7_4,d7_5,d7_6,d7_7,d7_8] 72)).c 2) | (refine F7.snocS 3 4 rfl rfl (fun _ h=>h) (by simp) rfl _ _ rfl rfl rfl fun A8 cp8 w8 F8=>?_;obtain⟨_,_,_,_,_,_,_,_,_⟩:=F8.c 2;obtain⟨_,_,_,_,_,_,_,_,_⟩:=F8.f 2))
  all_goals
   have F9:=F8.set 2 8 (.slice A8 (1) cp8);go_wp2_with fail;go_meet;exact⟨rq,A8,1,cp8,HRQ,zA rfl,F9.pk [(w3.heap.size),X] [0,2,3] (by simp) (by decide) rfl (by simp) (by simp)⟩
 case rest=>
  obtain⟨rqc10,Ac10,nc10,cpc10,HRQc10,HNc10,Fc10⟩:=hcut;obtain⟨wc10,rfl⟩:∃x,x=wc:=⟨_,rfl⟩;have HADc10:=zA (show Adv C.L (zN C.L [40] (zB (s))) rqc10.2 by have:=(zV HL.out (p:=.declares) (s:=zN C.L [40] (zB (s))) ⟨F6.P.hi,trivial⟩).adv;rw[HRQc10.out]at this;exact this);have hkc10:s.k < rqc10.2.k:=by have:=HADc10.out.le;omega
  have hx1:=zA (zU (w:=[59]) HL.out (s:=rqc10.2) HADc10.out.hi);have hk1:s.k < (zN C.L [59] rqc10.2).k:=by have:=hx1.out.adv.le;omega
  go_wp2_with fail;refine Fc10.kN (zr Fc10.P [59]) fun w11 F11=>?_;have CL12:=zA (fun Q=>F11.dr.kRX 2 rfl (Q:=Q) (args:=#[.pointer (some ⟨C.g,0,none⟩),.string ⟨#[59]⟩]) (HK.out.more (q:=.clause [59]) ⟨F11.dr.P.hi,trivial⟩ F11.dr.P (by omega)));obtain⟨_,_,_,_,_,_,_,_,_⟩:=F11.c 1;have hn12:nc10≤4097:=by have:=HNc10.out;omega
  go_upto_region 8 with(fail)
  go_cut [36] (fun _ wx=>∃(rq:Tr×Ps) (A:Option Addr) (n cp:Nat),Hid (zF C.L (.clause [59]) (zN C.L [59] (rqc10.2))=rq)∧Hid (n=nc10+1)∧Fr C (w.heap.size≤·) w [(w3.heap.size),X] [.bx X 72 [.int .i64 0,.string ⟨#[]⟩,.slice none 0 0,.int .i64 0,.int .i64 0,.bool false,.slice none 0 0,.slice none 0 0,.slice none 0 0],.bx (w3.heap.size) 72 [.int .i64 10,.string ⟨#[]⟩,.slice none 0 0,.int .i64 0,.int .i64 0,.bool false,.slice none 0 0,.slice none 0 0,.slice A n cp],.ro (.slice A n cp) ([]++[rqc10.1]++[rq.1])] rq.2 wx)
  case first=>
   go_region_law (first | (go_simp;go_at_call 197;(with_reducible refine CL12.out _ fun rq HRQ w12 d12_0 d12_1 d12_2 d12_3 d12_4 d12_5 d12_6 d12_7 d12_8 F12=>?_);obtain⟨_,_,_,_,_,_,_,_,_⟩:=F12.c 1;obtain⟨_,_,_,_,_,_,_,_,_⟩:=(F12.al (.cells #[d12_0,d12_1,d12_2,d12_3,d12_4,d12_5,d12_6,d12_7,d12_8] 72)).c 1) | (refine F12.snocS 2 3 rfl rfl (fun _ h=>h) hn12 rfl _ _ rfl rfl rfl fun A13 cp13 w13 F13=>?_;obtain⟨_,_,_,_,_,_,_,_,_⟩:=F13.c 1;obtain⟨_,_,_,_,_,_,_,_,_⟩:=F13.f 1))
   all_goals
    have F14:=F13.set 1 8 (.slice A13 (nc10+1) cp13);go_wp2_with fail;go_meet;exact⟨rq,A13,nc10+1,cp13,HRQ,zA rfl,F14.pk [(w3.heap.size),X] [0,1,2] (by simp) (by decide) rfl (by simp) (by simp)⟩
  case rest=>
   obtain⟨rqc15,Ac15,nc15,cpc15,HRQc15,HNc15,Fc15⟩:=hcut;obtain⟨wc15,rfl⟩:∃x,x=wc:=⟨_,rfl⟩;have HADc15:=zA (show Adv C.L (zN C.L [59] (rqc10.2)) rqc15.2 by have:=(zV HL.out (p:=.clause [59]) (s:=zN C.L [59] (rqc10.2)) ⟨F11.P.hi,trivial⟩).adv;rw[HRQc15.out]at this;exact this);have hkc15:s.k < rqc15.2.k:=by have:=HADc15.out.le;omega
   have CL16:=zA (fun Q=>Fc15.dr.kRX 2 rfl (Q:=Q) (args:=#[.pointer (some ⟨C.g,0,none⟩),.string ⟨#[41]⟩]) (HK.out.more (q:=.clause [41]) ⟨Fc15.dr.P.hi,trivial⟩ Fc15.dr.P (by omega)));obtain⟨_,_,_,_,_,_,_,_,_⟩:=Fc15.c 1;have hn16:nc15≤4097:=by have:=HNc10.out;have:=HNc15.out;omega
   go_upto_region 9 with(fail)
   go_cut [43] (fun _ wx=>∃(rq:Tr×Ps) (A:Option Addr) (n cp:Nat),Hid (zF C.L (.clause [41]) (rqc15.2)=rq)∧Hid (n=nc15+1)∧Fr C (w.heap.size≤·) w [(w3.heap.size),X] [.bx X 72 [.int .i64 0,.string ⟨#[]⟩,.slice none 0 0,.int .i64 0,.int .i64 0,.bool false,.slice none 0 0,.slice none 0 0,.slice none 0 0],.bx (w3.heap.size) 72 [.int .i64 10,.string ⟨#[]⟩,.slice none 0 0,.int .i64 0,.int .i64 0,.bool false,.slice none 0 0,.slice none 0 0,.slice A n cp],.ro (.slice A n cp) ([]++[rqc10.1]++[rqc15.1]++[rq.1])] rq.2 wx)
   case first=>
    go_region_law (first | (go_simp;go_at_call 197;(with_reducible refine CL16.out _ fun rq HRQ w16 d16_0 d16_1 d16_2 d16_3 d16_4 d16_5 d16_6 d16_7 d16_8 F16=>?_);obtain⟨_,_,_,_,_,_,_,_,_⟩:=F16.c 1;obtain⟨_,_,_,_,_,_,_,_,_⟩:=(F16.al (.cells #[d16_0,d16_1,d16_2,d16_3,d16_4,d16_5,d16_6,d16_7,d16_8] 72)).c 1) | (refine F16.snocS 2 3 rfl rfl (fun _ h=>h) hn16 rfl _ _ rfl rfl rfl fun A17 cp17 w17 F17=>?_;obtain⟨_,_,_,_,_,_,_,_,_⟩:=F17.c 1;obtain⟨_,_,_,_,_,_,_,_,_⟩:=F17.f 1))
    all_goals
     have F18:=F17.set 1 8 (.slice A17 (nc15+1) cp17);go_wp2_with fail;go_meet;exact⟨rq,A17,nc15+1,cp17,HRQ,zA rfl,F18.pk [(w3.heap.size),X] [0,1,2] (by simp) (by decide) rfl (by simp) (by simp)⟩
   case rest=>
    obtain⟨rqc19,Ac19,nc19,cpc19,HRQc19,HNc19,Fc19⟩:=hcut;obtain⟨wc19,rfl⟩:∃x,x=wc:=⟨_,rfl⟩;have HADc19:=zA (show Adv C.L (rqc15.2) rqc19.2 by have:=(zV HL.out (p:=.clause [41]) (s:=rqc15.2) ⟨Fc15.P.hi,trivial⟩).adv;rw[HRQc19.out]at this;exact this);have hkc19:s.k < rqc19.2.k:=by have:=HADc19.out.le;omega
    have CL20:=zA (fun Q=>Fc19.dr.kRX 2 rfl (Q:=Q) (HK.out.more (q:=.statement) ⟨Fc19.dr.P.hi,trivial⟩ Fc19.dr.P (by omega)));obtain⟨_,_,_,_,_,_,_,_,_⟩:=Fc19.c 1;have hn20:nc19≤4097:=by have:=HNc10.out;have:=HNc15.out;have:=HNc19.out;omega
    go_upto_region 10 with(fail)
    go_cut [50] (fun _ wx=>∃(rq:Tr×Ps) (A:Option Addr) (n cp:Nat),Hid (zF C.L (.statement) (rqc19.2)=rq)∧Hid (n=nc19+1)∧Fr C (w.heap.size≤·) w [(w3.heap.size),X] [.bx X 72 [.int .i64 0,.string ⟨#[]⟩,.slice none 0 0,.int .i64 0,.int .i64 0,.bool false,.slice none 0 0,.slice none 0 0,.slice none 0 0],.bx (w3.heap.size) 72 [.int .i64 10,.string ⟨#[]⟩,.slice none 0 0,.int .i64 0,.int .i64 0,.bool false,.slice none 0 0,.slice none 0 0,.slice A n cp],.ro (.slice A n cp) ([]++[rqc10.1]++[rqc15.1]++[rqc19.1]++[rq.1])] rq.2 wx)
    case first=>
     go_region_law (first | (go_simp;go_at_call 98;(with_reducible refine CL20.out _ fun rq HRQ w20 d20_0 d20_1 d20_2 d20_3 d20_4 d20_5 d20_6 d20_7 d20_8 F20=>?_);obtain⟨_,_,_,_,_,_,_,_,_⟩:=F20.c 1;obtain⟨_,_,_,_,_,_,_,_,_⟩:=(F20.al (.cells #[d20_0,d20_1,d20_2,d20_3,d20_4,d20_5,d20_6,d20_7,d20_8] 72)).c 1) | (refine F20.snocS 2 3 rfl rfl (fun _ h=>h) hn20 rfl _ _ rfl rfl rfl fun A21 cp21 w21 F21=>?_;obtain⟨_,_,_,_,_,_,_,_,_⟩:=F21.c 1;obtain⟨_,_,_,_,_,_,_,_,_⟩:=F21.f 1))
     all_goals
      have F22:=F21.set 1 8 (.slice A21 (nc19+1) cp21);go_wp2_with fail;go_meet;exact⟨rq,A21,nc19+1,cp21,HRQ,zA rfl,F22.pk [(w3.heap.size),X] [0,1,2] (by simp) (by decide) rfl (by simp) (by simp)⟩
    case rest=>
     obtain⟨rqc23,Ac23,nc23,cpc23,HRQc23,HNc23,Fc23⟩:=hcut;obtain⟨wc23,rfl⟩:∃x,x=wc:=⟨_,rfl⟩;have HADc23:=zA (show Adv C.L (rqc19.2) rqc23.2 by have:=(zV HL.out (p:=.statement) (s:=rqc19.2) ⟨Fc19.P.hi,trivial⟩).adv;rw[HRQc23.out]at this;exact this);obtain⟨_,_,_,_,_,_,_,_,_⟩:=Fc23.c 1;obtain⟨_,_,_,_,_,_,_,_,_⟩:=Fc23.c 0;obtain⟨_,_,_,_,_,_,_,_,_⟩:=Fc23.f 0;go_wp2_with fail;have F24:=Fc23.rowK 2 rfl 10;refine zM (F24.put 0 3) fun V25 F25=>?_;have q:=F25.c 0;exact F25.ret 3 rfl (by simp[results,results179,go_sem,q]) rfl (HR.out.symm.trans (by
      unfold zE;dsimp only;simp[Hb1.out,HRQc10.out,HRQc15.out,HRQc19.out,HRQc23.out])) (fun _ h=>h)
theorem zJn {C:Pc} {s:Ps} {w:World} (hp:Pre C.L (.loop) s) (K:KP C (zZ C.L (.loop) s)) (h:Pa C s w) (hb1:onP C.L [108,101,116] (zN C.L [40] (zB s))=false) (hb2:onP C.L [99,111,110,115,116] (zN C.L [40] (zB s))=true):zc C s w (.loop):=by
 refine zAg hp h fun HL hlen hsk r W X HR hW hX F0=>?_;have HK:=zA K;have hlt:=zA hp.2;clear K h hp;go_enter func179,ntmps179;go_upto_region 1 with(fail);clear hW hX;have Hb1:=zA hb1;clear hb1;have Hb2:=zA hb2;clear hb2;have hx0:=zA (zU (w:=[40]) HL.out (s:=zB s) hlt.out);have hk0:s.k < (zN C.L [40] (zB s)).k:=by have:=hx0.out.adv.le;have:(zB s).k=s.k+1:=rfl;omega
 obtain⟨xk1,fk1,bk1⟩:=F0.k1;have F1:=F0.step hlt.out;go_wp2_with fail;refine F1.kN (zr F1.P [40]) fun w2 F2=>?_;go_wp2_with fail;refine F2.made0 _ fun w3 F3=>?_;have F4:=F3.bt 1 72 rfl;go_wp2_with fail;refine F4.kB (zAL F4.P [108,101,116] Hb1.out) fun w5 F5=>?_;go_wp2_with fail;refine F5.kB (zAL F5.P [99,111,110,115,116] Hb2.out) fun w6 F6=>?_;have F7:=F6.nil;have CL8:=zA (fun Q=>F7.dr.kRX 3 rfl (Q:=Q) (HK.out.more (q:=.declares) ⟨F7.dr.P.hi,trivial⟩ F7.dr.P (by omega)));obtain⟨_,_,_,_,_,_,_,_,_⟩:=F7.c 2;go_upto_region 5 with(fail)
 go_cut [20] (fun _ wx=>∃(rq:Tr×Ps) (A:Option Addr) (n cp:Nat),Hid (zF C.L (.declares) (zN C.L [40] (zB (s)))=rq)∧Hid (n=1)∧Fr C (w.heap.size≤·) w [(w3.heap.size),X] [.bx X 72 [.int .i64 0,.string ⟨#[]⟩,.slice none 0 0,.int .i64 0,.int .i64 0,.bool false,.slice none 0 0,.slice none 0 0,.slice none 0 0],.bx (w3.heap.size) 72 [.int .i64 10,.string ⟨#[]⟩,.slice none 0 0,.int .i64 0,.int .i64 0,.bool false,.slice none 0 0,.slice none 0 0,.slice A n cp],.ro (.slice A n cp) ([]++[rq.1])] rq.2 wx)
 case first=>
  go_region_law (first | (go_simp;go_at_call 93;(with_reducible refine CL8.out _ fun rq HRQ w8 d8_0 d8_1 d8_2 d8_3 d8_4 d8_5 d8_6 d8_7 d8_8 F8=>?_);obtain⟨_,_,_,_,_,_,_,_,_⟩:=F8.c 2;obtain⟨_,_,_,_,_,_,_,_,_⟩:=(F8.al (.cells #[d8_0,d8_1,d8_2,d8_3,d8_4,d8_5,d8_6,d8_7,d8_8] 72)).c 2) | (refine F8.snocS 3 4 rfl rfl (fun _ h=>h) (by simp) rfl _ _ rfl rfl rfl fun A9 cp9 w9 F9=>?_;obtain⟨_,_,_,_,_,_,_,_,_⟩:=F9.c 2;obtain⟨_,_,_,_,_,_,_,_,_⟩:=F9.f 2))
  all_goals
   have F10:=F9.set 2 8 (.slice A9 (1) cp9);go_wp2_with fail;go_meet;exact⟨rq,A9,1,cp9,HRQ,zA rfl,F10.pk [(w3.heap.size),X] [0,2,3] (by simp) (by decide) rfl (by simp) (by simp)⟩
 case rest=>
  obtain⟨rqc11,Ac11,nc11,cpc11,HRQc11,HNc11,Fc11⟩:=hcut;obtain⟨wc11,rfl⟩:∃x,x=wc:=⟨_,rfl⟩;have HADc11:=zA (show Adv C.L (zN C.L [40] (zB (s))) rqc11.2 by have:=(zV HL.out (p:=.declares) (s:=zN C.L [40] (zB (s))) ⟨F7.P.hi,trivial⟩).adv;rw[HRQc11.out]at this;exact this);have hkc11:s.k < rqc11.2.k:=by have:=HADc11.out.le;omega
  have hx1:=zA (zU (w:=[59]) HL.out (s:=rqc11.2) HADc11.out.hi);have hk1:s.k < (zN C.L [59] rqc11.2).k:=by have:=hx1.out.adv.le;omega
  go_wp2_with fail;refine Fc11.kN (zr Fc11.P [59]) fun w12 F12=>?_;have CL13:=zA (fun Q=>F12.dr.kRX 2 rfl (Q:=Q) (args:=#[.pointer (some ⟨C.g,0,none⟩),.string ⟨#[59]⟩]) (HK.out.more (q:=.clause [59]) ⟨F12.dr.P.hi,trivial⟩ F12.dr.P (by omega)));obtain⟨_,_,_,_,_,_,_,_,_⟩:=F12.c 1;have hn13:nc11≤4097:=by have:=HNc11.out;omega
  go_upto_region 8 with(fail)
  go_cut [36] (fun _ wx=>∃(rq:Tr×Ps) (A:Option Addr) (n cp:Nat),Hid (zF C.L (.clause [59]) (zN C.L [59] (rqc11.2))=rq)∧Hid (n=nc11+1)∧Fr C (w.heap.size≤·) w [(w3.heap.size),X] [.bx X 72 [.int .i64 0,.string ⟨#[]⟩,.slice none 0 0,.int .i64 0,.int .i64 0,.bool false,.slice none 0 0,.slice none 0 0,.slice none 0 0],.bx (w3.heap.size) 72 [.int .i64 10,.string ⟨#[]⟩,.slice none 0 0,.int .i64 0,.int .i64 0,.bool false,.slice none 0 0,.slice none 0 0,.slice A n cp],.ro (.slice A n cp) ([]++[rqc11.1]++[rq.1])] rq.2 wx)
  case first=>
   go_region_law (first | (go_simp;go_at_call 197;(with_reducible refine CL13.out _ fun rq HRQ w13 d13_0 d13_1 d13_2 d13_3 d13_4 d13_5 d13_6 d13_7 d13_8 F13=>?_);obtain⟨_,_,_,_,_,_,_,_,_⟩:=F13.c 1;obtain⟨_,_,_,_,_,_,_,_,_⟩:=(F13.al (.cells #[d13_0,d13_1,d13_2,d13_3,d13_4,d13_5,d13_6,d13_7,d13_8] 72)).c 1) | (refine F13.snocS 2 3 rfl rfl (fun _ h=>h) hn13 rfl _ _ rfl rfl rfl fun A14 cp14 w14 F14=>?_;obtain⟨_,_,_,_,_,_,_,_,_⟩:=F14.c 1;obtain⟨_,_,_,_,_,_,_,_,_⟩:=F14.f 1))
   all_goals
    have F15:=F14.set 1 8 (.slice A14 (nc11+1) cp14);go_wp2_with fail;go_meet;exact⟨rq,A14,nc11+1,cp14,HRQ,zA rfl,F15.pk [(w3.heap.size),X] [0,1,2] (by simp) (by decide) rfl (by simp) (by simp)⟩
  case rest=>
   obtain⟨rqc16,Ac16,nc16,cpc16,HRQc16,HNc16,Fc16⟩:=hcut;obtain⟨wc16,rfl⟩:∃x,x=wc:=⟨_,rfl⟩;have HADc16:=zA (show Adv C.L (zN C.L [59] (rqc11.2)) rqc16.2 by have:=(zV HL.out (p:=.clause [59]) (s:=zN C.L [59] (rqc11.2)) ⟨F12.P.hi,trivial⟩).adv;rw[HRQc16.out]at this;exact this);have hkc16:s.k < rqc16.2.k:=by have:=HADc16.out.le;omega
   have CL17:=zA (fun Q=>Fc16.dr.kRX 2 rfl (Q:=Q) (args:=#[.pointer (some ⟨C.g,0,none⟩),.string ⟨#[41]⟩]) (HK.out.more (q:=.clause [41]) ⟨Fc16.dr.P.hi,trivial⟩ Fc16.dr.P (by omega)));obtain⟨_,_,_,_,_,_,_,_,_⟩:=Fc16.c 1;have hn17:nc16≤4097:=by have:=HNc11.out;have:=HNc16.out;omega
   go_upto_region 9 with(fail)
   go_cut [43] (fun _ wx=>∃(rq:Tr×Ps) (A:Option Addr) (n cp:Nat),Hid (zF C.L (.clause [41]) (rqc16.2)=rq)∧Hid (n=nc16+1)∧Fr C (w.heap.size≤·) w [(w3.heap.size),X] [.bx X 72 [.int .i64 0,.string ⟨#[]⟩,.slice none 0 0,.int .i64 0,.int .i64 0,.bool false,.slice none 0 0,.slice none 0 0,.slice none 0 0],.bx (w3.heap.size) 72 [.int .i64 10,.string ⟨#[]⟩,.slice none 0 0,.int .i64 0,.int .i64 0,.bool false,.slice none 0 0,.slice none 0 0,.slice A n cp],.ro (.slice A n cp) ([]++[rqc11.1]++[rqc16.1]++[rq.1])] rq.2 wx)
   case first=>
    go_region_law (first | (go_simp;go_at_call 197;(with_reducible refine CL17.out _ fun rq HRQ w17 d17_0 d17_1 d17_2 d17_3 d17_4 d17_5 d17_6 d17_7 d17_8 F17=>?_);obtain⟨_,_,_,_,_,_,_,_,_⟩:=F17.c 1;obtain⟨_,_,_,_,_,_,_,_,_⟩:=(F17.al (.cells #[d17_0,d17_1,d17_2,d17_3,d17_4,d17_5,d17_6,d17_7,d17_8] 72)).c 1) | (refine F17.snocS 2 3 rfl rfl (fun _ h=>h) hn17 rfl _ _ rfl rfl rfl fun A18 cp18 w18 F18=>?_;obtain⟨_,_,_,_,_,_,_,_,_⟩:=F18.c 1;obtain⟨_,_,_,_,_,_,_,_,_⟩:=F18.f 1))
    all_goals
     have F19:=F18.set 1 8 (.slice A18 (nc16+1) cp18);go_wp2_with fail;go_meet;exact⟨rq,A18,nc16+1,cp18,HRQ,zA rfl,F19.pk [(w3.heap.size),X] [0,1,2] (by simp) (by decide) rfl (by simp) (by simp)⟩
   case rest=>
    obtain⟨rqc20,Ac20,nc20,cpc20,HRQc20,HNc20,Fc20⟩:=hcut;obtain⟨wc20,rfl⟩:∃x,x=wc:=⟨_,rfl⟩;have HADc20:=zA (show Adv C.L (rqc16.2) rqc20.2 by have:=(zV HL.out (p:=.clause [41]) (s:=rqc16.2) ⟨Fc16.P.hi,trivial⟩).adv;rw[HRQc20.out]at this;exact this);have hkc20:s.k < rqc20.2.k:=by have:=HADc20.out.le;omega
    have CL21:=zA (fun Q=>Fc20.dr.kRX 2 rfl (Q:=Q) (HK.out.more (q:=.statement) ⟨Fc20.dr.P.hi,trivial⟩ Fc20.dr.P (by omega)));obtain⟨_,_,_,_,_,_,_,_,_⟩:=Fc20.c 1;have hn21:nc20≤4097:=by have:=HNc11.out;have:=HNc16.out;have:=HNc20.out;omega
    go_upto_region 10 with(fail)
    go_cut [50] (fun _ wx=>∃(rq:Tr×Ps) (A:Option Addr) (n cp:Nat),Hid (zF C.L (.statement) (rqc20.2)=rq)∧Hid (n=nc20+1)∧Fr C (w.heap.size≤·) w [(w3.heap.size),X] [.bx X 72 [.int .i64 0,.string ⟨#[]⟩,.slice none 0 0,.int .i64 0,.int .i64 0,.bool false,.slice none 0 0,.slice none 0 0,.slice none 0 0],.bx (w3.heap.size) 72 [.int .i64 10,.string ⟨#[]⟩,.slice none 0 0,.int .i64 0,.int .i64 0,.bool false,.slice none 0 0,.slice none 0 0,.slice A n cp],.ro (.slice A n cp) ([]++[rqc11.1]++[rqc16.1]++[rqc20.1]++[rq.1])] rq.2 wx)
    case first=>
     go_region_law (first | (go_simp;go_at_call 98;(with_reducible refine CL21.out _ fun rq HRQ w21 d21_0 d21_1 d21_2 d21_3 d21_4 d21_5 d21_6 d21_7 d21_8 F21=>?_);obtain⟨_,_,_,_,_,_,_,_,_⟩:=F21.c 1;obtain⟨_,_,_,_,_,_,_,_,_⟩:=(F21.al (.cells #[d21_0,d21_1,d21_2,d21_3,d21_4,d21_5,d21_6,d21_7,d21_8] 72)).c 1) | (refine F21.snocS 2 3 rfl rfl (fun _ h=>h) hn21 rfl _ _ rfl rfl rfl fun A22 cp22 w22 F22=>?_;obtain⟨_,_,_,_,_,_,_,_,_⟩:=F22.c 1;obtain⟨_,_,_,_,_,_,_,_,_⟩:=F22.f 1))
     all_goals
      have F23:=F22.set 1 8 (.slice A22 (nc20+1) cp22);go_wp2_with fail;go_meet;exact⟨rq,A22,nc20+1,cp22,HRQ,zA rfl,F23.pk [(w3.heap.size),X] [0,1,2] (by simp) (by decide) rfl (by simp) (by simp)⟩
    case rest=>
     obtain⟨rqc24,Ac24,nc24,cpc24,HRQc24,HNc24,Fc24⟩:=hcut;obtain⟨wc24,rfl⟩:∃x,x=wc:=⟨_,rfl⟩;have HADc24:=zA (show Adv C.L (rqc20.2) rqc24.2 by have:=(zV HL.out (p:=.statement) (s:=rqc20.2) ⟨Fc20.P.hi,trivial⟩).adv;rw[HRQc24.out]at this;exact this);obtain⟨_,_,_,_,_,_,_,_,_⟩:=Fc24.c 1;obtain⟨_,_,_,_,_,_,_,_,_⟩:=Fc24.c 0;obtain⟨_,_,_,_,_,_,_,_,_⟩:=Fc24.f 0;go_wp2_with fail;have F25:=Fc24.rowK 2 rfl 10;refine zM (F25.put 0 3) fun V26 F26=>?_;have q:=F26.c 0;exact F26.ret 3 rfl (by simp[results,results179,go_sem,q]) rfl (HR.out.symm.trans (by
      unfold zE;dsimp only;simp[Hb1.out,Hb2.out,HRQc11.out,HRQc16.out,HRQc20.out,HRQc24.out])) (fun _ h=>h)
theorem zHl {C:Pc} {s:Ps} {w:World} (hp:Pre C.L (.loop) s) (K:KP C (zZ C.L (.loop) s)) (h:Pa C s w) (hb1:onP C.L [108,101,116] (zN C.L [40] (zB s))=false) (hb2:onP C.L [99,111,110,115,116] (zN C.L [40] (zB s))=false):zc C s w (.loop):=by
 refine zAg hp h fun HL hlen hsk r W X HR hW hX F0=>?_;have HK:=zA K;have hlt:=zA hp.2;clear K h hp;go_enter func179,ntmps179;go_upto_region 1 with(fail);clear hW hX;have Hb1:=zA hb1;clear hb1;have Hb2:=zA hb2;clear hb2;have hx0:=zA (zU (w:=[40]) HL.out (s:=zB s) hlt.out);have hk0:s.k < (zN C.L [40] (zB s)).k:=by have:=hx0.out.adv.le;have:(zB s).k=s.k+1:=rfl;omega
 obtain⟨xk1,fk1,bk1⟩:=F0.k1;have F1:=F0.step hlt.out;go_wp2_with fail;refine F1.kN (zr F1.P [40]) fun w2 F2=>?_;go_wp2_with fail;refine F2.made0 _ fun w3 F3=>?_;have F4:=F3.bt 1 72 rfl;go_wp2_with fail;refine F4.kB (zAL F4.P [108,101,116] Hb1.out) fun w5 F5=>?_;go_wp2_with fail;refine F5.kB (zAL F5.P [99,111,110,115,116] Hb2.out) fun w6 F6=>?_;have F7:=F6.nil;have CL8:=zA (fun Q=>F7.dr.kRX 3 rfl (Q:=Q) (args:=#[.pointer (some ⟨C.g,0,none⟩),.string ⟨#[59]⟩]) (HK.out.more (q:=.clause [59]) ⟨F7.dr.P.hi,trivial⟩ F7.dr.P (by omega)));obtain⟨_,_,_,_,_,_,_,_,_⟩:=F7.c 2;go_upto_region 7 with(fail)
 go_cut [29] (fun _ wx=>∃(rq:Tr×Ps) (A:Option Addr) (n cp:Nat),Hid (zF C.L (.clause [59]) (zN C.L [40] (zB (s)))=rq)∧Hid (n=1)∧Fr C (w.heap.size≤·) w [(w3.heap.size),X] [.bx X 72 [.int .i64 0,.string ⟨#[]⟩,.slice none 0 0,.int .i64 0,.int .i64 0,.bool false,.slice none 0 0,.slice none 0 0,.slice none 0 0],.bx (w3.heap.size) 72 [.int .i64 10,.string ⟨#[]⟩,.slice none 0 0,.int .i64 0,.int .i64 0,.bool false,.slice none 0 0,.slice none 0 0,.slice A n cp],.ro (.slice A n cp) ([]++[rq.1])] rq.2 wx)
 case first=>
  go_region_law (first | (go_simp;go_at_call 197;(with_reducible refine CL8.out _ fun rq HRQ w8 d8_0 d8_1 d8_2 d8_3 d8_4 d8_5 d8_6 d8_7 d8_8 F8=>?_);obtain⟨_,_,_,_,_,_,_,_,_⟩:=F8.c 2;obtain⟨_,_,_,_,_,_,_,_,_⟩:=(F8.al (.cells #[d8_0,d8_1,d8_2,d8_3,d8_4,d8_5,d8_6,d8_7,d8_8] 72)).c 2) | (refine F8.snocS 3 4 rfl rfl (fun _ h=>h) (by simp) rfl _ _ rfl rfl rfl fun A9 cp9 w9 F9=>?_;obtain⟨_,_,_,_,_,_,_,_,_⟩:=F9.c 2;obtain⟨_,_,_,_,_,_,_,_,_⟩:=F9.f 2))
  all_goals
   have F10:=F9.set 2 8 (.slice A9 (1) cp9);go_wp2_with fail;go_meet;exact⟨rq,A9,1,cp9,HRQ,zA rfl,F10.pk [(w3.heap.size),X] [0,2,3] (by simp) (by decide) rfl (by simp) (by simp)⟩
 case rest=>
  obtain⟨rqc11,Ac11,nc11,cpc11,HRQc11,HNc11,Fc11⟩:=hcut;obtain⟨wc11,rfl⟩:∃x,x=wc:=⟨_,rfl⟩;have HADc11:=zA (show Adv C.L (zN C.L [40] (zB (s))) rqc11.2 by have:=(zV HL.out (p:=.clause [59]) (s:=zN C.L [40] (zB (s))) ⟨F7.P.hi,trivial⟩).adv;rw[HRQc11.out]at this;exact this);have hkc11:s.k < rqc11.2.k:=by have:=HADc11.out.le;omega
  have CL12:=zA (fun Q=>Fc11.dr.kRX 2 rfl (Q:=Q) (args:=#[.pointer (some ⟨C.g,0,none⟩),.string ⟨#[59]⟩]) (HK.out.more (q:=.clause [59]) ⟨Fc11.dr.P.hi,trivial⟩ Fc11.dr.P (by omega)));obtain⟨_,_,_,_,_,_,_,_,_⟩:=Fc11.c 1;have hn12:nc11≤4097:=by have:=HNc11.out;omega
  go_upto_region 8 with(fail)
  go_cut [36] (fun _ wx=>∃(rq:Tr×Ps) (A:Option Addr) (n cp:Nat),Hid (zF C.L (.clause [59]) (rqc11.2)=rq)∧Hid (n=nc11+1)∧Fr C (w.heap.size≤·) w [(w3.heap.size),X] [.bx X 72 [.int .i64 0,.string ⟨#[]⟩,.slice none 0 0,.int .i64 0,.int .i64 0,.bool false,.slice none 0 0,.slice none 0 0,.slice none 0 0],.bx (w3.heap.size) 72 [.int .i64 10,.string ⟨#[]⟩,.slice none 0 0,.int .i64 0,.int .i64 0,.bool false,.slice none 0 0,.slice none 0 0,.slice A n cp],.ro (.slice A n cp) ([]++[rqc11.1]++[rq.1])] rq.2 wx)
  case first=>
   go_region_law (first | (go_simp;go_at_call 197;(with_reducible refine CL12.out _ fun rq HRQ w12 d12_0 d12_1 d12_2 d12_3 d12_4 d12_5 d12_6 d12_7 d12_8 F12=>?_);obtain⟨_,_,_,_,_,_,_,_,_⟩:=F12.c 1;obtain⟨_,_,_,_,_,_,_,_,_⟩:=(F12.al (.cells #[d12_0,d12_1,d12_2,d12_3,d12_4,d12_5,d12_6,d12_7,d12_8] 72)).c 1) | (refine F12.snocS 2 3 rfl rfl (fun _ h=>h) hn12 rfl _ _ rfl rfl rfl fun A13 cp13 w13 F13=>?_;obtain⟨_,_,_,_,_,_,_,_,_⟩:=F13.c 1;obtain⟨_,_,_,_,_,_,_,_,_⟩:=F13.f 1))
   all_goals
    have F14:=F13.set 1 8 (.slice A13 (nc11+1) cp13);go_wp2_with fail;go_meet;exact⟨rq,A13,nc11+1,cp13,HRQ,zA rfl,F14.pk [(w3.heap.size),X] [0,1,2] (by simp) (by decide) rfl (by simp) (by simp)⟩
  case rest=>
   obtain⟨rqc15,Ac15,nc15,cpc15,HRQc15,HNc15,Fc15⟩:=hcut;obtain⟨wc15,rfl⟩:∃x,x=wc:=⟨_,rfl⟩;have HADc15:=zA (show Adv C.L (rqc11.2) rqc15.2 by have:=(zV HL.out (p:=.clause [59]) (s:=rqc11.2) ⟨Fc11.P.hi,trivial⟩).adv;rw[HRQc15.out]at this;exact this);have hkc15:s.k < rqc15.2.k:=by have:=HADc15.out.le;omega
   have CL16:=zA (fun Q=>Fc15.dr.kRX 2 rfl (Q:=Q) (args:=#[.pointer (some ⟨C.g,0,none⟩),.string ⟨#[41]⟩]) (HK.out.more (q:=.clause [41]) ⟨Fc15.dr.P.hi,trivial⟩ Fc15.dr.P (by omega)));obtain⟨_,_,_,_,_,_,_,_,_⟩:=Fc15.c 1;have hn16:nc15≤4097:=by have:=HNc11.out;have:=HNc15.out;omega
   go_upto_region 9 with(fail)
   go_cut [43] (fun _ wx=>∃(rq:Tr×Ps) (A:Option Addr) (n cp:Nat),Hid (zF C.L (.clause [41]) (rqc15.2)=rq)∧Hid (n=nc15+1)∧Fr C (w.heap.size≤·) w [(w3.heap.size),X] [.bx X 72 [.int .i64 0,.string ⟨#[]⟩,.slice none 0 0,.int .i64 0,.int .i64 0,.bool false,.slice none 0 0,.slice none 0 0,.slice none 0 0],.bx (w3.heap.size) 72 [.int .i64 10,.string ⟨#[]⟩,.slice none 0 0,.int .i64 0,.int .i64 0,.bool false,.slice none 0 0,.slice none 0 0,.slice A n cp],.ro (.slice A n cp) ([]++[rqc11.1]++[rqc15.1]++[rq.1])] rq.2 wx)
   case first=>
    go_region_law (first | (go_simp;go_at_call 197;(with_reducible refine CL16.out _ fun rq HRQ w16 d16_0 d16_1 d16_2 d16_3 d16_4 d16_5 d16_6 d16_7 d16_8 F16=>?_);obtain⟨_,_,_,_,_,_,_,_,_⟩:=F16.c 1;obtain⟨_,_,_,_,_,_,_,_,_⟩:=(F16.al (.cells #[d16_0,d16_1,d16_2,d16_3,d16_4,d16_5,d16_6,d16_7,d16_8] 72)).c 1) | (refine F16.snocS 2 3 rfl rfl (fun _ h=>h) hn16 rfl _ _ rfl rfl rfl fun A17 cp17 w17 F17=>?_;obtain⟨_,_,_,_,_,_,_,_,_⟩:=F17.c 1;obtain⟨_,_,_,_,_,_,_,_,_⟩:=F17.f 1))
    all_goals
     have F18:=F17.set 1 8 (.slice A17 (nc15+1) cp17);go_wp2_with fail;go_meet;exact⟨rq,A17,nc15+1,cp17,HRQ,zA rfl,F18.pk [(w3.heap.size),X] [0,1,2] (by simp) (by decide) rfl (by simp) (by simp)⟩
   case rest=>
    obtain⟨rqc19,Ac19,nc19,cpc19,HRQc19,HNc19,Fc19⟩:=hcut;obtain⟨wc19,rfl⟩:∃x,x=wc:=⟨_,rfl⟩;have HADc19:=zA (show Adv C.L (rqc15.2) rqc19.2 by have:=(zV HL.out (p:=.clause [41]) (s:=rqc15.2) ⟨Fc15.P.hi,trivial⟩).adv;rw[HRQc19.out]at this;exact this);have hkc19:s.k < rqc19.2.k:=by have:=HADc19.out.le;omega
    have CL20:=zA (fun Q=>Fc19.dr.kRX 2 rfl (Q:=Q) (HK.out.more (q:=.statement) ⟨Fc19.dr.P.hi,trivial⟩ Fc19.dr.P (by omega)));obtain⟨_,_,_,_,_,_,_,_,_⟩:=Fc19.c 1;have hn20:nc19≤4097:=by have:=HNc11.out;have:=HNc15.out;have:=HNc19.out;omega
    go_upto_region 10 with(fail)
    go_cut [50] (fun _ wx=>∃(rq:Tr×Ps) (A:Option Addr) (n cp:Nat),Hid (zF C.L (.statement) (rqc19.2)=rq)∧Hid (n=nc19+1)∧Fr C (w.heap.size≤·) w [(w3.heap.size),X] [.bx X 72 [.int .i64 0,.string ⟨#[]⟩,.slice none 0 0,.int .i64 0,.int .i64 0,.bool false,.slice none 0 0,.slice none 0 0,.slice none 0 0],.bx (w3.heap.size) 72 [.int .i64 10,.string ⟨#[]⟩,.slice none 0 0,.int .i64 0,.int .i64 0,.bool false,.slice none 0 0,.slice none 0 0,.slice A n cp],.ro (.slice A n cp) ([]++[rqc11.1]++[rqc15.1]++[rqc19.1]++[rq.1])] rq.2 wx)
    case first=>
     go_region_law (first | (go_simp;go_at_call 98;(with_reducible refine CL20.out _ fun rq HRQ w20 d20_0 d20_1 d20_2 d20_3 d20_4 d20_5 d20_6 d20_7 d20_8 F20=>?_);obtain⟨_,_,_,_,_,_,_,_,_⟩:=F20.c 1;obtain⟨_,_,_,_,_,_,_,_,_⟩:=(F20.al (.cells #[d20_0,d20_1,d20_2,d20_3,d20_4,d20_5,d20_6,d20_7,d20_8] 72)).c 1) | (refine F20.snocS 2 3 rfl rfl (fun _ h=>h) hn20 rfl _ _ rfl rfl rfl fun A21 cp21 w21 F21=>?_;obtain⟨_,_,_,_,_,_,_,_,_⟩:=F21.c 1;obtain⟨_,_,_,_,_,_,_,_,_⟩:=F21.f 1))
     all_goals
      have F22:=F21.set 1 8 (.slice A21 (nc19+1) cp21);go_wp2_with fail;go_meet;exact⟨rq,A21,nc19+1,cp21,HRQ,zA rfl,F22.pk [(w3.heap.size),X] [0,1,2] (by simp) (by decide) rfl (by simp) (by simp)⟩
    case rest=>
     obtain⟨rqc23,Ac23,nc23,cpc23,HRQc23,HNc23,Fc23⟩:=hcut;obtain⟨wc23,rfl⟩:∃x,x=wc:=⟨_,rfl⟩;have HADc23:=zA (show Adv C.L (rqc19.2) rqc23.2 by have:=(zV HL.out (p:=.statement) (s:=rqc19.2) ⟨Fc19.P.hi,trivial⟩).adv;rw[HRQc23.out]at this;exact this);obtain⟨_,_,_,_,_,_,_,_,_⟩:=Fc23.c 1;obtain⟨_,_,_,_,_,_,_,_,_⟩:=Fc23.c 0;obtain⟨_,_,_,_,_,_,_,_,_⟩:=Fc23.f 0;go_wp2_with fail;have F24:=Fc23.rowK 2 rfl 10;refine zM (F24.put 0 3) fun V25 F25=>?_;have q:=F25.c 0;exact F25.ret 3 rfl (by simp[results,results179,go_sem,q]) rfl (HR.out.symm.trans (by
      unfold zE;dsimp only;simp[Hb1.out,Hb2.out,HRQc11.out,HRQc15.out,HRQc19.out,HRQc23.out])) (fun _ h=>h)
theorem zOL {C:Pc} {s:Ps} {w:World} (hp:Pre C.L .loop s) (K:KP C (zZ C.L .loop s)) (h:Pa C s w):zc C s w .loop:=by
 cases b1:onP C.L [108,101,116] (zN C.L [40] (zB s))with
 | true=>exact zOK hp K h b1
 | false=>
  cases b2:onP C.L [99,111,110,115,116] (zN C.L [40] (zB s))with
  | true=>exact zJn hp K h b1 b2
  | false=>exact zHl hp K h b1 b2
theorem zGu {C:Pc} {s:Ps} {w:World} (hp:Pre C.L (.declares) s) (K:KP C (zZ C.L (.declares) s)) (h:Pa C s w):zc C s w (.declares):=by
 refine zAg hp h fun HL hlen hsk r W X HR hW hX F0=>?_;have HK:=zA K;clear K h hp;go_enter func93,ntmps93;go_upto_region 1 with(fail);clear hW hX;go_wp2_with fail;refine F0.made0 _ fun w1 F1=>?_;have F2:=F1.bt 1 72 rfl;obtain⟨b,hb⟩:∃b,onP C.L [99,111,110,115,116] s=b:=⟨_,rfl⟩;have Hb:=zA hb;clear hb;go_wp2_with fail;refine F2.kM (zAV F2.P [99,111,110,115,116] Hb.out) fun w3 F3=>?_
 go_upto_if 7 with(fail)
 go_cut [8] (fun _ wx=>∃(kz:Int) (s1:Ps),Hid (zF C.L (.declL kz []) s1=r)∧s.k≤s1.k∧Fr C (w.heap.size≤·) w [(w1.heap.size),X] [.bx X 72 [.int .i64 0,.string ⟨#[]⟩,.slice none 0 0,.int .i64 0,.int .i64 0,.bool false,.slice none 0 0,.slice none 0 0,.slice none 0 0],.bx (w1.heap.size) 72 [.int .i64 kz,.string ⟨#[]⟩,.slice none 0 0,.int .i64 0,.int .i64 0,.bool false,.slice none 0 0,.slice none 0 0,.slice none 0 0]] s1 wx)
 case first=>
  cases b with
  | true=>
   have F4:=(show Fr _ _ _ _ _ (zB s) _ from F3);have hlt:=zA (HL.out.on hsk Hb.out);go_wp2_with fail;refine F4.made0 _ fun w5 F5=>?_;obtain⟨_,_,_,_,_,_,_,_,_⟩:=F5.c 2;obtain⟨_,_,_,_,_,_,_,_,_⟩:=F5.f 2;go_wp2_with fail;go_meet;exact⟨6,zB s,zA (by
    refine Eq.trans ?_ HR.out;unfold zE;dsimp only;rw[if_pos Hb.out]),Nat.le_succ _,(F5.put 2 3).pk [(w1.heap.size),X] [0,2] (by simp) (by decide) rfl (by simp) (by simp)⟩
  | false=>
   have F6:=(show Fr _ _ _ _ _ (s) _ from F3);go_wp2_with fail;refine F6.kN (zr F6.P [108,101,116]) fun w7 F7=>?_;go_wp2_with fail;go_meet;exact⟨5,zN C.L [108,101,116] s,zA (by
    refine Eq.trans ?_ HR.out;unfold zE;dsimp only;rw[if_neg (by rw[Hb.out];decide)]),(zU (w:=[108,101,116]) HL.out hsk).adv.le,F7.pk [(w1.heap.size),X] [0,2] (by simp) (by decide) rfl (by simp) (by simp)⟩
 case rest=>
  obtain⟨k,s1,HR1,hk1,Fq⟩:=hcut;obtain⟨wq,rfl⟩:∃x,x=wc:=⟨_,rfl⟩;go_wp2_with fail
  go_loopg [4] (C.L.length - s1.k) (fun gk _ wr=>∃(acc:List Tr) (s':Ps) (A:Option Addr) (n cp:Nat),C.L.length - s'.k≤gk∧s.k≤s'.k∧n≤s'.k∧Hid (zF C.L (.declL k acc) s'=r)∧Fr C (w.heap.size≤·) w [(w1.heap.size),X] [.bx X 72 [.int .i64 0,.string ⟨#[]⟩,.slice none 0 0,.int .i64 0,.int .i64 0,.bool false,.slice none 0 0,.slice none 0 0,.slice none 0 0],.bx (w1.heap.size) 72 [.int .i64 k,.string ⟨#[]⟩,.slice none 0 0,.int .i64 0,.int .i64 0,.bool false,.slice none 0 0,.slice none 0 0,.slice A n cp],.ro (.slice A n cp) acc] s' wr)
  case atStart=>exact⟨[],s1,none,0,0,yAC _,hk1,yAE _,HR1.out,Fq.nil.pk [(w1.heap.size),X] [0,1,2] (by simp) (by decide) rfl (by simp) (by simp)⟩
  case round=>
   obtain⟨acc,s',A,n,cp,hgk,hsk',hns,HRl,Fl⟩:=hrel;obtain⟨⟨nb,sn⟩,HNM⟩:∃q,Hid (zd C.L s'=q):=⟨_,zA rfl⟩;have HCN:=zA (show Calls prog 96 #[.pointer (some ⟨C.g,0,none⟩)] wr (zRS C (nb,sn) wr) by have:=zCa Fl.P;rw[HNM.out]at this;exact this);have HEN:=zA (show Eat C.L s' sn by have:=zAY HL.out Fl.P.hi;rw[HNM.out]at this;exact this);go_wp2_with fail;refine Fl.kS2 HCN.out fun w8 F8=>?_;go_wp2_with fail;refine F8.named0 _ nb fun w9 F9=>?_;have F10:=F9.bt 3 72 rfl;obtain⟨be,hbe⟩:∃b,onP C.L [61] sn=b:=⟨_,rfl⟩;have Hbe:=zA hbe;clear hbe;go_wp2_with fail;refine F10.kM (zAV F10.P [61] Hbe.out) fun w11 F11=>?_
   go_upto_if 15 with(fail)
   go_cut [16] (fun _ wx=>∃(l:List Tr) (sd:Ps) (Ad:Option Addr) (nd cpd lo:Nat),Hid ((if onP C.L [61] sn=true then(trN 7 nb [(zF C.L .assign (zB sn)).1],(zF C.L .assign (zB sn)).2)else(trN 7 nb [],sn))=(trN 7 nb l,sd))∧Hid (Adv C.L sn sd)∧Fr C (w.heap.size≤·) w [(w9.heap.size),(w1.heap.size),X] [.bx X 72 [.int .i64 0,.string ⟨#[]⟩,.slice none 0 0,.int .i64 0,.int .i64 0,.bool false,.slice none 0 0,.slice none 0 0,.slice none 0 0],.bx (w1.heap.size) 72 [.int .i64 k,.string ⟨#[]⟩,.slice none 0 0,.int .i64 0,.int .i64 0,.bool false,.slice none 0 0,.slice none 0 0,.slice A n cp],.rn lo (.slice A n cp) acc,.bx (w9.heap.size) 72 [.int .i64 7,.string ⟨nb.toArray⟩,.slice none 0 0,.int .i64 0,.int .i64 0,.bool false,.slice none 0 0,.slice none 0 0,.slice Ad nd cpd],.tn lo (trN 7 nb l) [.int .i64 7,.string ⟨nb.toArray⟩,.slice none 0 0,.int .i64 0,.int .i64 0,.bool false,.slice none 0 0,.slice none 0 0,.slice Ad nd cpd]] sd wx)
   case first=>
    cases be with
    | true=>
     have F12:=(show Fr _ _ _ _ _ (zB sn) _ from F11);have hlt:=zA (HL.out.on HEN.out.adv.hi Hbe.out);have hkn:s.k < (zB sn).k:=by have:=HEN.out.adv.le;have:(zB sn).k=sn.k+1:=rfl;omega
     have CLq:=zA (fun Q=>F12.dr.kRX 2 rfl (Q:=Q) (HK.out.more (q:=.assign) ⟨F12.dr.P.hi,trivial⟩ F12.dr.P hkn));obtain⟨_,_,_,_,_,_,_,_,_⟩:=F12.c 4;go_wp2_with fail;go_region_law (first | (go_simp;go_at_call 140;(with_reducible refine CLq.out _ fun rq HRQ wa d0 d1 d2 d3 d4 d5 d6 d7 d8 Fa=>?_);obtain⟨_,_,_,_,_,_,_,_,_⟩:=Fa.c 4;obtain⟨_,_,_,_,_,_,_,_,_⟩:=(Fa.al (.cells #[d0,d1,d2,d3,d4,d5,d6,d7,d8] 72)).c 4) | (refine Fa.snoc0 5 7 nb rfl rfl _ _ rfl rfl rfl fun A3 cp3 wb Fb=>?_;obtain⟨_,_,_,_,_,_,_,_,_⟩:=Fb.c 4;obtain⟨_,_,_,_,_,_,_,_,_⟩:=Fb.f 4))
     all_goals
      have Fc:=Fb.set 4 8 (.slice A3 1 cp3);go_wp2_with fail;go_meet;exact⟨[rq.1],rq.2,A3,1,cp3,_,zA (by rw[if_pos Hbe.out,HRQ.out]),zA ((zv hlt.out).trans (by have:=(zV HL.out (p:=.assign) (s:=zB sn) ⟨F12.P.hi,trivial⟩).adv;rw[HRQ.out]at this;exact this)),Fc.pk3 [(w9.heap.size),(w1.heap.size),X] [0,1,2,4,6] (by simp) (by decide) rfl (by simp) (by simp) (by simp)⟩
    | false=>
     have F13:=(show Fr _ _ _ _ _ (sn) _ from F11);go_wp2_with fail;go_meet;exact⟨[],sn,none,0,0,_,zA (if_neg (by rw[Hbe.out];decide)),zA (Adv.refl HEN.out.adv.hi),((F13.nar 2 rfl).leafM 7 nb).pk3 [(w9.heap.size),(w1.heap.size),X] [0,1,2,4,5] (by simp) (by decide) rfl (by simp) (by simp) (by simp)⟩
   case rest=>
    obtain⟨l,sd,Ad,nd,cpd,lo,HDS,HAD,Fe⟩:=hcut;obtain⟨we,rfl⟩:∃x,x=wc:=⟨_,rfl⟩;obtain⟨_,_,_,_,_,_,_,_,_⟩:=Fe.c 3;obtain⟨_,_,_,_,_,_,_,_,_⟩:=Fe.c 1;have hn7:n≤4097:=by have:=Fe.P.cx.n;have:=Fl.P.hi;omega
    go_wp2_with (at_builtin;refine Fe.snocL 2 4 rfl rfl (fun _ h=>h) hn7 rfl _ _ rfl rfl rfl fun A3 cp3 w3 Ff=>?_;obtain⟨_,_,_,_,_,_,_,_,_⟩:=Ff.c 1;obtain⟨_,_,_,_,_,_,_,_,_⟩:=Ff.f 1);have Fg:=Ff.set 1 8 (.slice A3 (n+1) cp3);have hsd:=HAD.out.le;have hse:=HEN.out.adv.le
    by_cases hb:sd.bad=0
    · have HBD:=zA (show(sd.bad==0)=true by rw[hb];rfl);have HBZ:=zA hb;clear hb;go_wp2_with fail;refine Fg.kB (zA3 Fg.P HBD.out) fun w14 F14=>?_
      by_cases hon:onP C.L [44] sd=true
      · have HO:=zA hon;have hlo:=zA (HL.out.on HAD.out.hi hon);clear hon;go_wp2_with fail;refine F14.kM (zAw F14.P [44] HO.out) fun w15 F15=>?_;have HQR:=zA (show zF C.L (.declL k (acc++[trN 7 nb l])) (zB sd)=r from Eq.trans (Eq.symm (by
         rw[zAH HL.out (p:=.declL k acc) (s:=s') ⟨Fl.P.hi,trivial⟩];unfold zE;dsimp only;rw[HNM.out];dsimp only;rw[HDS.out];dsimp only;rw[if_neg (by rw[HBZ.out];simp),if_pos HO.out])) HRl.out)
        have hst:(zB sd).k=sd.k+1:=rfl;have hlo2:=hlo.out;go_wp2_with fail
        go_roundg (C.L.length - (zB sd).k)
        case measure=>omega
        case rel=>exact⟨_,_,A3,n+1,cp3,yAC _,by omega,by omega,HQR,F15.pk [(w1.heap.size),X] [0,1,2] (by simp) (by decide) rfl (by simp) (by simp)⟩
      · have HO:=zA (show onP C.L [44] sd=false by simpa using hon);clear hon;go_wp2_with fail;refine F14.kM (zA1 F14.P [44] HO.out) fun w16 F16=>?_;obtain⟨_,_,_,_,_,_,_,_,_⟩:=F16.c 1;obtain⟨_,_,_,_,_,_,_,_,_⟩:=F16.c 0;obtain⟨_,_,_,_,_,_,_,_,_⟩:=F16.f 0;go_wp2_with fail;have F17:=F16.rowK 2 rfl k;refine zM (F17.put 0 5) fun V18 F18=>?_;have q:=F18.c 0;exact F18.ret 5 rfl (by simp[results,results93,go_sem,q]) rfl (HRl.out.symm.trans (by
         rw[zAH HL.out (p:=.declL k acc) ⟨Fl.P.hi,trivial⟩];unfold zE;dsimp only;rw[HNM.out];dsimp only;rw[HDS.out];dsimp only;rw[if_neg (by rw[HBZ.out];simp),if_neg (by rw[HO.out];decide)])) (fun _ h=>h)
    · have HBD:=zA (show(sd.bad==0)=false by rw[yA];exact hb);have HBZ:=zA hb;clear hb;go_wp2_with fail;refine Fg.kB (zA3 Fg.P HBD.out) fun w19 F19=>?_;obtain⟨_,_,_,_,_,_,_,_,_⟩:=F19.c 1;obtain⟨_,_,_,_,_,_,_,_,_⟩:=F19.c 0;obtain⟨_,_,_,_,_,_,_,_,_⟩:=F19.f 0;go_wp2_with fail;have F20:=F19.rowK 2 rfl k;refine zM (F20.put 0 5) fun V21 F21=>?_;have q:=F21.c 0;exact F21.ret 5 rfl (by simp[results,results93,go_sem,q]) rfl (HRl.out.symm.trans (by
       rw[zAH HL.out (p:=.declL k acc) ⟨Fl.P.hi,trivial⟩];unfold zE;dsimp only;rw[HNM.out];dsimp only;rw[HDS.out];dsimp only;rw[if_pos HBZ.out])) (fun _ h=>h)
end Go.Proofs.YtlohaclgbfhijaaGreatDoor
