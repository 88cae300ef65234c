/- Joined for the claim EarlyRoot: the parser, the lexer and the trees as they are walked, made short by a program of mine. -/
import Derived.Test.YtlohaclgbfhijaaGreatDoorE12
import Derived.Deep.LoopGhost
import Derived.Test.YtlohaclgbfhijaaGreatDoorE09
import Derived.Test.YtlohaclgbfhijaaGreatDoorE01
set_option maxHeartbeats 16000000
set_option maxRecDepth 1000000
namespace Go.Proofs.YtlohaclgbfhijaaGreatDoor
open Go.Proofs.Tryz
open Go.RowKit
theorem zJV {A:Option Addr} {c g B k n:Nat} {u:List UInt16} {w:World} (hr:Rd w g A n c k) (hn:u.length=n) (ha:Reads w B 1 A n (zAD u)) (hB:B≤g) (hk:k < u.length) (hl:n≤4096) (hc:n≤c) {m e:Nat} {t:Tok} (hq:zA9 (k==0) (u.drop k)=(e,t,m)):
 Calls prog 40 #[.pointer (some ⟨g,0,none⟩)] w fun ev w'=>∃v,ev=.returned (.tuple #[v,.int .i64 (e:Int)])∧(e≠0→v=noV)∧(e=0→zQo w' w.heap.size t v∧Mv w w' g A n c (k+m))∧w.grownBy w' (some g):=by
 subst hn;have hg:=hr.lt;obtain⟨x,hx⟩:∃x,u[k]=x:=⟨_,rfl⟩;have hdr:=yAH hk;rw[hx]at hdr;rw[hdr,zBb]at hq;obtain⟨blk,off,rfl,hblk,hcell⟩:=ha.spotL (by omega);have hca:=hcell k hk;rw[hx]at hca;have hca':=World.cell?_alloc_lt w (.cells zAp.toArray 44) ⟨blk,off+k,none⟩ (by show blk < _;omega);rw[hca]at hca';have HX:=zA hx;have HDR:=zA hdr;have HQ:=zA hq;have HA:=zA ha;have hS0:=zA (show SgS w (w.alloc (.cells zAp.toArray 44)) g (some ⟨blk,off,none⟩) u.length c k from⟨⟨hr.alloc _,zG w _ _⟩,Blk.new w zAp 44⟩);have hc0:=hr.c0;have hc1:=hr.c1;have hx16:=x.toNat_lt;have hbw:blk < w.heap.size:=by omega
 clear hcell hx hdr hq ha hr hca';go_enter func40,ntmps40;go_wp2_with fail
 go_quiet (fail)
 have hM1:=zA (hS0.out.drewN hg nq).mv;have hz1:=zA (hS0.out.drewN hg nq).zero;obtain⟨w1,hw1⟩:∃w1,(w.alloc (.cells zAp.toArray 44)).drewN nq=w1:=⟨_,rfl⟩;have hsz1:w.heap.size < w1.heap.size:=by rw[←hw1];simp
 have HW1:=zA hw1;rw[hw1]at hM1 hz1;have HW1':=zA (show(w.alloc (.cells #[.int .i64 0,.string ⟨#[]⟩,.slice none 0 0,.int .i64 0,.int .i64 0,.bool false,.slice none 0 0,.int .i64 0,.bool false] 44)).drewN nq=w1 from hw1);rw[HW1'.out];have hA1:=zA (HA.out.grown hM1.out.grown hB (Nat.le_of_lt hg));clear hw1 hS0 hc0 hc1 hca HW1 HW1';cases hlet:zAs x with
 | true=>
  have HQ2:=zA (show zDm (u.drop k)=(e,t,m) by
   have:=HQ.out;rw[if_pos hlet]at this;rw[HDR.out];exact this)
  have HT:=zA hlet;go_wp2_with (go_at_call 66;refine(zAW _ _).mono ?_;rintro e2 w2 ⟨rfl,rfl⟩);refine(zJL (m:=m) (e:=e) (t:=t) hM1.out.rd rfl hA1.out hB (Nat.le_of_lt hk) hl HQ2.out).mono ?_;rintro e4 w4 ⟨v,rfl,hbad,hgood,hG4⟩;have hz4:=zA (hz1.out.grown hG4 (by omega));have HBAD:=zA hbad;have HGOOD:=zA hgood;have HG4:=zA (zC hM1.out.grown hG4);clear hbad hgood hG4;obtain⟨b0',fb0⟩:=hz4.out.2 0 (by decide);obtain⟨b1',fb1⟩:=hz4.out.2 1 (by decide);obtain⟨b2',fb2⟩:=hz4.out.2 2 (by decide);obtain⟨b3',fb3⟩:=hz4.out.2 3 (by decide);obtain⟨b4',fb4⟩:=hz4.out.2 4 (by decide);obtain⟨b5',fb5⟩:=hz4.out.2 5 (by decide);obtain⟨b6',fb6⟩:=hz4.out.2 6 (by decide);obtain⟨b7',fb7⟩:=hz4.out.2 7 (by decide);obtain⟨b8',fb8⟩:=hz4.out.2 8 (by decide)
  by_cases he:e=0
  · obtain⟨⟨vs,vm,hv,ho1,ho2⟩,hM4⟩:=HGOOD.out he;subst hv;obtain⟨As,cs,rfl,_,_⟩:=zR ho1;obtain⟨Am,cm,rfl,_,_⟩:=zR ho2;have HO1:=zA ho1;have HO2:=zA ho2;have HM4:=zA (Mv.then hM1.out hM4);have HE:=zA he;obtain⟨ls,hls⟩:∃l,t.str.length=l:=⟨_,rfl⟩;obtain⟨lm,hlm⟩:∃l,t.mag.length=l:=⟨_,rfl⟩;rw[hls,hlm];rw[hls]at HO1;rw[hlm]at HO2;have HLS:=zA hls;have HLM:=zA hlm;clear ho1 ho2 hM4 he hls hlm;go_wp2_with fail;obtain⟨q0,q1,q2,q3,q4,q5,q6,q7,q8⟩:=zS (v0:=.int .i64 (t.kind:Int)) (v1:=.string ⟨t.text.toArray⟩) (v2:=.slice As ls cs) (v3:=.int .i64 t.nk) (v4:=.int .i64 t.nn) (v5:=.bool false) (v6:=.slice Am lm cm) (v7:=.int .i64 (t.pos:Int)) (v8:=.bool t.nl) hz4.out rfl;refine bodyPost_ret (v:=.tuple #[.agg #[.int .i64 (t.kind:Int),.string ⟨t.text.toArray⟩,.slice As ls cs,.int .i64 t.nk,.int .i64 t.nn,.bool false,.slice Am lm cm,.int .i64 (t.pos:Int),.bool t.nl],.int .i64 (e:Int)]) (by simp[results,results40,go_sem,q0,q1,q2,q3,q4,q5,q6,q7,q8]) rfl ?_;refine⟨_,rfl,fun h=>absurd HE.out h,fun _=>⟨⟨_,_,rfl,?_,?_⟩,?_⟩,zAC HG4.out (yAC _)⟩
    · rw[HLS.out];exact zAG (zAZ HO1.out hsz1) (by omega)
    · rw[HLM.out];exact zAG (zAZ HO2.out hsz1) (by omega)
    · exact zn HM4.out (yAC _) hg
  · obtain rfl:=HBAD.out he;unfold noV;go_wp2_with fail;obtain⟨q0,q1,q2,q3,q4,q5,q6,q7,q8⟩:=zS (v0:=.int .i64 0) (v1:=.string ⟨#[]⟩) (v2:=.slice none 0 0) (v3:=.int .i64 0) (v4:=.int .i64 0) (v5:=.bool false) (v6:=.slice none 0 0) (v7:=.int .i64 0) (v8:=.bool false) hz4.out rfl;refine bodyPost_ret (v:=.tuple #[.agg #[.int .i64 0,.string ⟨#[]⟩,.slice none 0 0,.int .i64 0,.int .i64 0,.bool false,.slice none 0 0,.int .i64 0,.bool false],.int .i64 (e:Int)]) (by simp[results,results40,go_sem,q0,q1,q2,q3,q4,q5,q6,q7,q8]) rfl ?_;exact⟨_,rfl,fun _=>rfl,fun h=>absurd h he,zAC HG4.out (yAC _)⟩
 | false=>
  cases hdig:zO x with
  | true=>
   have HQ2:=zA (show zB1 (u.drop k)=(e,t,m) by
    have:=HQ.out;rw[if_neg (by rw[hlet];simp),if_pos hdig]at this;rw[HDR.out];exact this)
   go_wp2_with (first | (go_at_call 66;refine(zAW _ _).mono ?_;rintro e2 w2 ⟨rfl,rfl⟩) | (go_at_call 68;refine(zo _ _).mono ?_;rintro e2 w2 ⟨rfl,rfl⟩));refine(zHZ (m:=m) (e:=e) (t:=t) hM1.out.rd rfl hA1.out hB hk (by rw[HX.out];exact hdig) hl HQ2.out).mono ?_;rintro e4 w4 ⟨v,rfl,hbad,hgood,hG4⟩;have hz4:=zA (hz1.out.grown hG4 (by omega));have HBAD:=zA hbad;have HGOOD:=zA hgood;have HG4:=zA (zC hM1.out.grown hG4);clear hbad hgood hG4;obtain⟨b0',fb0⟩:=hz4.out.2 0 (by decide);obtain⟨b1',fb1⟩:=hz4.out.2 1 (by decide);obtain⟨b2',fb2⟩:=hz4.out.2 2 (by decide);obtain⟨b3',fb3⟩:=hz4.out.2 3 (by decide);obtain⟨b4',fb4⟩:=hz4.out.2 4 (by decide);obtain⟨b5',fb5⟩:=hz4.out.2 5 (by decide);obtain⟨b6',fb6⟩:=hz4.out.2 6 (by decide);obtain⟨b7',fb7⟩:=hz4.out.2 7 (by decide);obtain⟨b8',fb8⟩:=hz4.out.2 8 (by decide)
   by_cases he:e=0
   · obtain⟨⟨vs,vm,hv,ho1,ho2⟩,hM4⟩:=HGOOD.out he;subst hv;obtain⟨As,cs,rfl,_,_⟩:=zR ho1;obtain⟨Am,cm,rfl,_,_⟩:=zR ho2;have HO1:=zA ho1;have HO2:=zA ho2;have HM4:=zA (Mv.then hM1.out hM4);have HE:=zA he;obtain⟨ls,hls⟩:∃l,t.str.length=l:=⟨_,rfl⟩;obtain⟨lm,hlm⟩:∃l,t.mag.length=l:=⟨_,rfl⟩;rw[hls,hlm];rw[hls]at HO1;rw[hlm]at HO2;have HLS:=zA hls;have HLM:=zA hlm;clear ho1 ho2 hM4 he hls hlm;go_wp2_with fail;obtain⟨q0,q1,q2,q3,q4,q5,q6,q7,q8⟩:=zS (v0:=.int .i64 (t.kind:Int)) (v1:=.string ⟨t.text.toArray⟩) (v2:=.slice As ls cs) (v3:=.int .i64 t.nk) (v4:=.int .i64 t.nn) (v5:=.bool false) (v6:=.slice Am lm cm) (v7:=.int .i64 (t.pos:Int)) (v8:=.bool t.nl) hz4.out rfl;refine bodyPost_ret (v:=.tuple #[.agg #[.int .i64 (t.kind:Int),.string ⟨t.text.toArray⟩,.slice As ls cs,.int .i64 t.nk,.int .i64 t.nn,.bool false,.slice Am lm cm,.int .i64 (t.pos:Int),.bool t.nl],.int .i64 (e:Int)]) (by simp[results,results40,go_sem,q0,q1,q2,q3,q4,q5,q6,q7,q8]) rfl ?_;refine⟨_,rfl,fun h=>absurd HE.out h,fun _=>⟨⟨_,_,rfl,?_,?_⟩,?_⟩,zAC HG4.out (yAC _)⟩
     · rw[HLS.out];exact zAG (zAZ HO1.out hsz1) (by omega)
     · rw[HLM.out];exact zAG (zAZ HO2.out hsz1) (by omega)
     · exact zn HM4.out (yAC _) hg
   · obtain rfl:=HBAD.out he;unfold noV;go_wp2_with fail;obtain⟨q0,q1,q2,q3,q4,q5,q6,q7,q8⟩:=zS (v0:=.int .i64 0) (v1:=.string ⟨#[]⟩) (v2:=.slice none 0 0) (v3:=.int .i64 0) (v4:=.int .i64 0) (v5:=.bool false) (v6:=.slice none 0 0) (v7:=.int .i64 0) (v8:=.bool false) hz4.out rfl;refine bodyPost_ret (v:=.tuple #[.agg #[.int .i64 0,.string ⟨#[]⟩,.slice none 0 0,.int .i64 0,.int .i64 0,.bool false,.slice none 0 0,.int .i64 0,.bool false],.int .i64 (e:Int)]) (by simp[results,results40,go_sem,q0,q1,q2,q3,q4,q5,q6,q7,q8]) rfl ?_;exact⟨_,rfl,fun _=>rfl,fun h=>absurd h he,zAC HG4.out (yAC _)⟩
  | false=>
   by_cases h39:x.toNat=39
   · have e39:((x.toNat:Int)==39)=true:=by rw[h39];rfl
     have HQU:=zA (show(x.toNat==39 || x.toNat==34)=true by rw[h39];rfl);clear h39;have HQ2:=zA (show zBD u[k] (u.drop (k+1))=(e,t,m) by
      have:=HQ.out;rw[if_neg (by rw[hlet];simp),if_neg (by rw[hdig];simp),if_pos HQU.out]at this;rw[HX.out];exact this)
     go_wp2_with (first | (go_at_call 66;refine(zAW _ _).mono ?_;rintro e2 w2 ⟨rfl,rfl⟩) | (go_at_call 68;refine(zo _ _).mono ?_;rintro e2 w2 ⟨rfl,rfl⟩));refine(zEX (m:=m) (e:=e) (t:=t) hM1.out.rd rfl hA1.out hB hk hl HQ2.out).mono ?_;rintro e4 w4 ⟨v,rfl,hbad,hgood,hG4⟩;have hz4:=zA (hz1.out.grown hG4 (by omega));have HBAD:=zA hbad;have HGOOD:=zA hgood;have HG4:=zA (zC hM1.out.grown hG4);clear hbad hgood hG4;obtain⟨b0',fb0⟩:=hz4.out.2 0 (by decide);obtain⟨b1',fb1⟩:=hz4.out.2 1 (by decide);obtain⟨b2',fb2⟩:=hz4.out.2 2 (by decide);obtain⟨b3',fb3⟩:=hz4.out.2 3 (by decide);obtain⟨b4',fb4⟩:=hz4.out.2 4 (by decide);obtain⟨b5',fb5⟩:=hz4.out.2 5 (by decide);obtain⟨b6',fb6⟩:=hz4.out.2 6 (by decide);obtain⟨b7',fb7⟩:=hz4.out.2 7 (by decide);obtain⟨b8',fb8⟩:=hz4.out.2 8 (by decide)
     by_cases he:e=0
     · obtain⟨⟨vs,vm,hv,ho1,ho2⟩,hM4⟩:=HGOOD.out he;subst hv;obtain⟨As,cs,rfl,_,_⟩:=zR ho1;obtain⟨Am,cm,rfl,_,_⟩:=zR ho2;have HO1:=zA ho1;have HO2:=zA ho2;have HM4:=zA (Mv.then hM1.out hM4);have HE:=zA he;obtain⟨ls,hls⟩:∃l,t.str.length=l:=⟨_,rfl⟩;obtain⟨lm,hlm⟩:∃l,t.mag.length=l:=⟨_,rfl⟩;rw[hls,hlm];rw[hls]at HO1;rw[hlm]at HO2;have HLS:=zA hls;have HLM:=zA hlm;clear ho1 ho2 hM4 he hls hlm;go_wp2_with fail;obtain⟨q0,q1,q2,q3,q4,q5,q6,q7,q8⟩:=zS (v0:=.int .i64 (t.kind:Int)) (v1:=.string ⟨t.text.toArray⟩) (v2:=.slice As ls cs) (v3:=.int .i64 t.nk) (v4:=.int .i64 t.nn) (v5:=.bool false) (v6:=.slice Am lm cm) (v7:=.int .i64 (t.pos:Int)) (v8:=.bool t.nl) hz4.out rfl;refine bodyPost_ret (v:=.tuple #[.agg #[.int .i64 (t.kind:Int),.string ⟨t.text.toArray⟩,.slice As ls cs,.int .i64 t.nk,.int .i64 t.nn,.bool false,.slice Am lm cm,.int .i64 (t.pos:Int),.bool t.nl],.int .i64 (e:Int)]) (by simp[results,results40,go_sem,q0,q1,q2,q3,q4,q5,q6,q7,q8]) rfl ?_;refine⟨_,rfl,fun h=>absurd HE.out h,fun _=>⟨⟨_,_,rfl,?_,?_⟩,?_⟩,zAC HG4.out (yAC _)⟩
       · rw[HLS.out];exact zAG (zAZ HO1.out hsz1) (by omega)
       · rw[HLM.out];exact zAG (zAZ HO2.out hsz1) (by omega)
       · exact zn HM4.out (yAC _) hg
     · obtain rfl:=HBAD.out he;unfold noV;go_wp2_with fail;obtain⟨q0,q1,q2,q3,q4,q5,q6,q7,q8⟩:=zS (v0:=.int .i64 0) (v1:=.string ⟨#[]⟩) (v2:=.slice none 0 0) (v3:=.int .i64 0) (v4:=.int .i64 0) (v5:=.bool false) (v6:=.slice none 0 0) (v7:=.int .i64 0) (v8:=.bool false) hz4.out rfl;refine bodyPost_ret (v:=.tuple #[.agg #[.int .i64 0,.string ⟨#[]⟩,.slice none 0 0,.int .i64 0,.int .i64 0,.bool false,.slice none 0 0,.int .i64 0,.bool false],.int .i64 (e:Int)]) (by simp[results,results40,go_sem,q0,q1,q2,q3,q4,q5,q6,q7,q8]) rfl ?_;exact⟨_,rfl,fun _=>rfl,fun h=>absurd h he,zAC HG4.out (yAC _)⟩
   · have e39:((x.toNat:Int)==39)=false:=yA.2 (by omega)
     by_cases h34:x.toNat=34
     · have e34:((x.toNat:Int)==34)=true:=by rw[h34];rfl
       have HQU:=zA (show(x.toNat==39 || x.toNat==34)=true by rw[h34];rfl);clear h34 h39;have HQ2:=zA (show zBD u[k] (u.drop (k+1))=(e,t,m) by
        have:=HQ.out;rw[if_neg (by rw[hlet];simp),if_neg (by rw[hdig];simp),if_pos HQU.out]at this;rw[HX.out];exact this)
       go_wp2_with (first | (go_at_call 66;refine(zAW _ _).mono ?_;rintro e2 w2 ⟨rfl,rfl⟩) | (go_at_call 68;refine(zo _ _).mono ?_;rintro e2 w2 ⟨rfl,rfl⟩));refine(zEX (m:=m) (e:=e) (t:=t) hM1.out.rd rfl hA1.out hB hk hl HQ2.out).mono ?_;rintro e4 w4 ⟨v,rfl,hbad,hgood,hG4⟩;have hz4:=zA (hz1.out.grown hG4 (by omega));have HBAD:=zA hbad;have HGOOD:=zA hgood;have HG4:=zA (zC hM1.out.grown hG4);clear hbad hgood hG4;obtain⟨b0',fb0⟩:=hz4.out.2 0 (by decide);obtain⟨b1',fb1⟩:=hz4.out.2 1 (by decide);obtain⟨b2',fb2⟩:=hz4.out.2 2 (by decide);obtain⟨b3',fb3⟩:=hz4.out.2 3 (by decide);obtain⟨b4',fb4⟩:=hz4.out.2 4 (by decide);obtain⟨b5',fb5⟩:=hz4.out.2 5 (by decide);obtain⟨b6',fb6⟩:=hz4.out.2 6 (by decide);obtain⟨b7',fb7⟩:=hz4.out.2 7 (by decide);obtain⟨b8',fb8⟩:=hz4.out.2 8 (by decide)
       by_cases he:e=0
       · obtain⟨⟨vs,vm,hv,ho1,ho2⟩,hM4⟩:=HGOOD.out he;subst hv;obtain⟨As,cs,rfl,_,_⟩:=zR ho1;obtain⟨Am,cm,rfl,_,_⟩:=zR ho2;have HO1:=zA ho1;have HO2:=zA ho2;have HM4:=zA (Mv.then hM1.out hM4);have HE:=zA he;obtain⟨ls,hls⟩:∃l,t.str.length=l:=⟨_,rfl⟩;obtain⟨lm,hlm⟩:∃l,t.mag.length=l:=⟨_,rfl⟩;rw[hls,hlm];rw[hls]at HO1;rw[hlm]at HO2;have HLS:=zA hls;have HLM:=zA hlm;clear ho1 ho2 hM4 he hls hlm;go_wp2_with fail;obtain⟨q0,q1,q2,q3,q4,q5,q6,q7,q8⟩:=zS (v0:=.int .i64 (t.kind:Int)) (v1:=.string ⟨t.text.toArray⟩) (v2:=.slice As ls cs) (v3:=.int .i64 t.nk) (v4:=.int .i64 t.nn) (v5:=.bool false) (v6:=.slice Am lm cm) (v7:=.int .i64 (t.pos:Int)) (v8:=.bool t.nl) hz4.out rfl;refine bodyPost_ret (v:=.tuple #[.agg #[.int .i64 (t.kind:Int),.string ⟨t.text.toArray⟩,.slice As ls cs,.int .i64 t.nk,.int .i64 t.nn,.bool false,.slice Am lm cm,.int .i64 (t.pos:Int),.bool t.nl],.int .i64 (e:Int)]) (by simp[results,results40,go_sem,q0,q1,q2,q3,q4,q5,q6,q7,q8]) rfl ?_;refine⟨_,rfl,fun h=>absurd HE.out h,fun _=>⟨⟨_,_,rfl,?_,?_⟩,?_⟩,zAC HG4.out (yAC _)⟩
         · rw[HLS.out];exact zAG (zAZ HO1.out hsz1) (by omega)
         · rw[HLM.out];exact zAG (zAZ HO2.out hsz1) (by omega)
         · exact zn HM4.out (yAC _) hg
       · obtain rfl:=HBAD.out he;unfold noV;go_wp2_with fail;obtain⟨q0,q1,q2,q3,q4,q5,q6,q7,q8⟩:=zS (v0:=.int .i64 0) (v1:=.string ⟨#[]⟩) (v2:=.slice none 0 0) (v3:=.int .i64 0) (v4:=.int .i64 0) (v5:=.bool false) (v6:=.slice none 0 0) (v7:=.int .i64 0) (v8:=.bool false) hz4.out rfl;refine bodyPost_ret (v:=.tuple #[.agg #[.int .i64 0,.string ⟨#[]⟩,.slice none 0 0,.int .i64 0,.int .i64 0,.bool false,.slice none 0 0,.int .i64 0,.bool false],.int .i64 (e:Int)]) (by simp[results,results40,go_sem,q0,q1,q2,q3,q4,q5,q6,q7,q8]) rfl ?_;exact⟨_,rfl,fun _=>rfl,fun h=>absurd h he,zAC HG4.out (yAC _)⟩
     · have e34:((x.toNat:Int)==34)=false:=yA.2 (by omega);have HQU:=zA (show(x.toNat==39 || x.toNat==34)=false by
        rw[Bool.or_eq_false_iff];exact⟨yA.2 h39,yA.2 h34⟩)
       clear h39 h34;obtain⟨b,hb⟩:∃b,zAy 1 zO (u.drop k)=b:=⟨_,rfl⟩;have HB0:=zA (show zAy 0 zO (u.drop (k+1))=b by
        rw[←hb,HDR.out];unfold zAy;rfl)
       have HB:=zA hb;clear hb
       by_cases h46:x.toNat=46
       · have e46:((x.toNat:Int)==46)=true:=by rw[h46];rfl
         have H46:=zA (show(x.toNat==46)=true by rw[h46];rfl);clear h46;go_wp2_with (first | (go_at_call 66;refine(zAW _ _).mono ?_;rintro e2 w2 ⟨rfl,rfl⟩) | (go_at_call 68;refine(zo _ _).mono ?_;rintro e2 w2 ⟨rfl,rfl⟩));refine(zAO (j:=1) hM1.out.rd rfl hA1.out (Nat.le_of_lt hk) hl (by omega) HB.out).mono ?_;rintro e3 w3 ⟨rfl,m3,hw3⟩;have hM3:=zA (show Mv w w3 g (some ⟨blk,off,none⟩) u.length c k by rw[hw3];exact hM1.out.drewN m3);have hz3:=zA (show Blk w3 w.heap.size zAp by rw[hw3];exact hz1.out.grown (zp _ (some g) _) (by omega));have hsz3:w.heap.size < w3.heap.size:=by rw[hw3];simpa using hsz1
         have hA3:=zA (HA.out.grown hM3.out.grown hB (Nat.le_of_lt hg));clear hw3 m3 hM1 hz1 hA1 hsz1;cases b with
         | true=>
          obtain⟨b0',fb0⟩:=hz3.out.2 0 (by decide);obtain⟨b1',fb1⟩:=hz3.out.2 1 (by decide);obtain⟨b2',fb2⟩:=hz3.out.2 2 (by decide);obtain⟨b3',fb3⟩:=hz3.out.2 3 (by decide);obtain⟨b4',fb4⟩:=hz3.out.2 4 (by decide);obtain⟨b5',fb5⟩:=hz3.out.2 5 (by decide);obtain⟨b6',fb6⟩:=hz3.out.2 6 (by decide);obtain⟨b7',fb7⟩:=hz3.out.2 7 (by decide);obtain⟨b8',fb8⟩:=hz3.out.2 8 (by decide);go_wp2_with fail;obtain⟨q0,q1,q2,q3,q4,q5,q6,q7,q8⟩:=zS (v0:=.int .i64 0) (v1:=.string ⟨#[]⟩) (v2:=.slice none 0 0) (v3:=.int .i64 0) (v4:=.int .i64 0) (v5:=.bool false) (v6:=.slice none 0 0) (v7:=.int .i64 0) (v8:=.bool false) hz3.out rfl;refine bodyPost_ret (v:=.tuple #[.agg #[.int .i64 0,.string ⟨#[]⟩,.slice none 0 0,.int .i64 0,.int .i64 0,.bool false,.slice none 0 0,.int .i64 0,.bool false],.int .i64 6]) (by simp[results,results40,go_sem,q0,q1,q2,q3,q4,q5,q6,q7,q8]) rfl ?_;have hq:=HQ.out;rw[if_neg (by rw[hlet];simp),if_neg (by rw[hdig];simp),if_neg (by rw[HQU.out];simp),if_pos (by rw[H46.out,HB0.out];rfl)]at hq;obtain⟨z1,z2,z3⟩:=zBS hq;subst z1;exact⟨_,rfl,fun _=>rfl,fun h=>absurd h (by decide),(zn hM3.out (yAC _) hg).grown⟩
         | false=>
          have HQ2:=zA (show zCA (k==0) (u.drop k)=(e,t,m) by
           have:=HQ.out;rw[if_neg (by rw[hlet];simp),if_neg (by rw[hdig];simp),if_neg (by rw[HQU.out];simp),if_neg (by rw[HB0.out];simp)]at this;rw[HDR.out];exact this)
          go_wp2_with fail;refine(zFK (m:=m) (e:=e) (t:=t) hM3.out.rd rfl hA3.out hB hk hl hc HQ2.out).mono ?_;rintro e4 w4 ⟨v,rfl,hbad,hgood,hG4⟩;have hz4:=zA (hz3.out.grown hG4 (by omega));have HBAD:=zA hbad;have HGOOD:=zA hgood;have HG4:=zA (zC hM3.out.grown hG4);clear hbad hgood hG4;obtain⟨b0',fb0⟩:=hz4.out.2 0 (by decide);obtain⟨b1',fb1⟩:=hz4.out.2 1 (by decide);obtain⟨b2',fb2⟩:=hz4.out.2 2 (by decide);obtain⟨b3',fb3⟩:=hz4.out.2 3 (by decide);obtain⟨b4',fb4⟩:=hz4.out.2 4 (by decide);obtain⟨b5',fb5⟩:=hz4.out.2 5 (by decide);obtain⟨b6',fb6⟩:=hz4.out.2 6 (by decide);obtain⟨b7',fb7⟩:=hz4.out.2 7 (by decide);obtain⟨b8',fb8⟩:=hz4.out.2 8 (by decide)
          by_cases he:e=0
          · obtain⟨⟨vs,vm,hv,ho1,ho2⟩,hM4⟩:=HGOOD.out he;subst hv;obtain⟨As,cs,rfl,_,_⟩:=zR ho1;obtain⟨Am,cm,rfl,_,_⟩:=zR ho2;have HO1:=zA ho1;have HO2:=zA ho2;have HM4:=zA (Mv.then hM3.out hM4);have HE:=zA he;obtain⟨ls,hls⟩:∃l,t.str.length=l:=⟨_,rfl⟩;obtain⟨lm,hlm⟩:∃l,t.mag.length=l:=⟨_,rfl⟩;rw[hls,hlm];rw[hls]at HO1;rw[hlm]at HO2;have HLS:=zA hls;have HLM:=zA hlm;clear ho1 ho2 hM4 he hls hlm;go_wp2_with fail;obtain⟨q0,q1,q2,q3,q4,q5,q6,q7,q8⟩:=zS (v0:=.int .i64 (t.kind:Int)) (v1:=.string ⟨t.text.toArray⟩) (v2:=.slice As ls cs) (v3:=.int .i64 t.nk) (v4:=.int .i64 t.nn) (v5:=.bool false) (v6:=.slice Am lm cm) (v7:=.int .i64 (t.pos:Int)) (v8:=.bool t.nl) hz4.out rfl;refine bodyPost_ret (v:=.tuple #[.agg #[.int .i64 (t.kind:Int),.string ⟨t.text.toArray⟩,.slice As ls cs,.int .i64 t.nk,.int .i64 t.nn,.bool false,.slice Am lm cm,.int .i64 (t.pos:Int),.bool t.nl],.int .i64 (e:Int)]) (by simp[results,results40,go_sem,q0,q1,q2,q3,q4,q5,q6,q7,q8]) rfl ?_;refine⟨_,rfl,fun h=>absurd HE.out h,fun _=>⟨⟨_,_,rfl,?_,?_⟩,?_⟩,zAC HG4.out (yAC _)⟩
            · rw[HLS.out];exact zAG (zAZ HO1.out hsz3) (by omega)
            · rw[HLM.out];exact zAG (zAZ HO2.out hsz3) (by omega)
            · exact zn HM4.out (yAC _) hg
          · obtain rfl:=HBAD.out he;unfold noV;go_wp2_with fail;obtain⟨q0,q1,q2,q3,q4,q5,q6,q7,q8⟩:=zS (v0:=.int .i64 0) (v1:=.string ⟨#[]⟩) (v2:=.slice none 0 0) (v3:=.int .i64 0) (v4:=.int .i64 0) (v5:=.bool false) (v6:=.slice none 0 0) (v7:=.int .i64 0) (v8:=.bool false) hz4.out rfl;refine bodyPost_ret (v:=.tuple #[.agg #[.int .i64 0,.string ⟨#[]⟩,.slice none 0 0,.int .i64 0,.int .i64 0,.bool false,.slice none 0 0,.int .i64 0,.bool false],.int .i64 (e:Int)]) (by simp[results,results40,go_sem,q0,q1,q2,q3,q4,q5,q6,q7,q8]) rfl ?_;exact⟨_,rfl,fun _=>rfl,fun h=>absurd h he,zAC HG4.out (yAC _)⟩
       · have e46:((x.toNat:Int)==46)=false:=yA.2 (by omega);have H46:=zA (show(x.toNat==46)=false from yA.2 h46);clear h46;have HQ2:=zA (show zCA (k==0) (u.drop k)=(e,t,m) by
          have:=HQ.out;rw[if_neg (by rw[hlet];simp),if_neg (by rw[hdig];simp),if_neg (by rw[HQU.out];simp),if_neg (by rw[H46.out];simp)]at this;rw[HDR.out];exact this)
         go_wp2_with (first | (go_at_call 66;refine(zAW _ _).mono ?_;rintro e2 w2 ⟨rfl,rfl⟩) | (go_at_call 68;refine(zo _ _).mono ?_;rintro e2 w2 ⟨rfl,rfl⟩));refine(zFK (m:=m) (e:=e) (t:=t) hM1.out.rd rfl hA1.out hB hk hl hc HQ2.out).mono ?_;rintro e4 w4 ⟨v,rfl,hbad,hgood,hG4⟩;have hz4:=zA (hz1.out.grown hG4 (by omega));have HBAD:=zA hbad;have HGOOD:=zA hgood;have HG4:=zA (zC hM1.out.grown hG4);clear hbad hgood hG4;obtain⟨b0',fb0⟩:=hz4.out.2 0 (by decide);obtain⟨b1',fb1⟩:=hz4.out.2 1 (by decide);obtain⟨b2',fb2⟩:=hz4.out.2 2 (by decide);obtain⟨b3',fb3⟩:=hz4.out.2 3 (by decide);obtain⟨b4',fb4⟩:=hz4.out.2 4 (by decide);obtain⟨b5',fb5⟩:=hz4.out.2 5 (by decide);obtain⟨b6',fb6⟩:=hz4.out.2 6 (by decide);obtain⟨b7',fb7⟩:=hz4.out.2 7 (by decide);obtain⟨b8',fb8⟩:=hz4.out.2 8 (by decide)
         by_cases he:e=0
         · obtain⟨⟨vs,vm,hv,ho1,ho2⟩,hM4⟩:=HGOOD.out he;subst hv;obtain⟨As,cs,rfl,_,_⟩:=zR ho1;obtain⟨Am,cm,rfl,_,_⟩:=zR ho2;have HO1:=zA ho1;have HO2:=zA ho2;have HM4:=zA (Mv.then hM1.out hM4);have HE:=zA he;obtain⟨ls,hls⟩:∃l,t.str.length=l:=⟨_,rfl⟩;obtain⟨lm,hlm⟩:∃l,t.mag.length=l:=⟨_,rfl⟩;rw[hls,hlm];rw[hls]at HO1;rw[hlm]at HO2;have HLS:=zA hls;have HLM:=zA hlm;clear ho1 ho2 hM4 he hls hlm;go_wp2_with fail;obtain⟨q0,q1,q2,q3,q4,q5,q6,q7,q8⟩:=zS (v0:=.int .i64 (t.kind:Int)) (v1:=.string ⟨t.text.toArray⟩) (v2:=.slice As ls cs) (v3:=.int .i64 t.nk) (v4:=.int .i64 t.nn) (v5:=.bool false) (v6:=.slice Am lm cm) (v7:=.int .i64 (t.pos:Int)) (v8:=.bool t.nl) hz4.out rfl;refine bodyPost_ret (v:=.tuple #[.agg #[.int .i64 (t.kind:Int),.string ⟨t.text.toArray⟩,.slice As ls cs,.int .i64 t.nk,.int .i64 t.nn,.bool false,.slice Am lm cm,.int .i64 (t.pos:Int),.bool t.nl],.int .i64 (e:Int)]) (by simp[results,results40,go_sem,q0,q1,q2,q3,q4,q5,q6,q7,q8]) rfl ?_;refine⟨_,rfl,fun h=>absurd HE.out h,fun _=>⟨⟨_,_,rfl,?_,?_⟩,?_⟩,zAC HG4.out (yAC _)⟩
           · rw[HLS.out];exact zAG (zAZ HO1.out hsz1) (by omega)
           · rw[HLM.out];exact zAG (zAZ HO2.out hsz1) (by omega)
           · exact zn HM4.out (yAC _) hg
         · obtain rfl:=HBAD.out he;unfold noV;go_wp2_with fail;obtain⟨q0,q1,q2,q3,q4,q5,q6,q7,q8⟩:=zS (v0:=.int .i64 0) (v1:=.string ⟨#[]⟩) (v2:=.slice none 0 0) (v3:=.int .i64 0) (v4:=.int .i64 0) (v5:=.bool false) (v6:=.slice none 0 0) (v7:=.int .i64 0) (v8:=.bool false) hz4.out rfl;refine bodyPost_ret (v:=.tuple #[.agg #[.int .i64 0,.string ⟨#[]⟩,.slice none 0 0,.int .i64 0,.int .i64 0,.bool false,.slice none 0 0,.int .i64 0,.bool false],.int .i64 (e:Int)]) (by simp[results,results40,go_sem,q0,q1,q2,q3,q4,q5,q6,q7,q8]) rfl ?_;exact⟨_,rfl,fun _=>rfl,fun h=>absurd h he,zAC HG4.out (yAC _)⟩
theorem Tryz.info_tok:(prog.info? 44).map (fun i=>(i.zero,i.size,i.bytes))=some (some (.agg zAp.toArray),9,112):=by kernel_rfl
def zDZ (t:Tok) (vs vm:Value):List Value:=[.int .i64 (t.kind:Int),.string ⟨t.text.toArray⟩,vs,.int .i64 t.nk,.int .i64 t.nn,.bool false,vm,.int .i64 (t.pos:Int),.bool t.nl]
def TokC (w:World) (base:Nat):List Tok→List Value→Prop
 | [],cs=>cs=[]
 | t::r,cs=>∃vs vm rest,cs=zDZ t vs vm++rest∧w.ownsRow base 24 1 vs t.str.length (zAD t.str)∧w.ownsRow base 87 1 vm t.mag.length (zBm t.mag)∧TokC w base r rest
theorem TokC.map {w w':World} {base base':Nat} (hk:∀(e:TypeId) (v:Value) (n:Nat) (xs:List Value),(e=24∨e=87)→w.ownsRow base e 1 v n xs→w'.ownsRow base' e 1 v n xs):∀{ts:List Tok} {cs:List Value},TokC w base ts cs→TokC w' base' ts cs:=by
 intro ts
 induction ts with
 | nil=>intro cs h;exact h
 | cons t r ih=>
  intro cs h;obtain⟨vs,vm,rest,rfl,h1,h2,h3⟩:=h;exact⟨vs,vm,rest,rfl,hk _ _ _ _ (.inl rfl) h1,hk _ _ _ _ (.inr rfl) h2,ih h3⟩
theorem TokC.snoc {w:World} {base:Nat} {t:Tok} {vs vm:Value} (h1:w.ownsRow base 24 1 vs t.str.length (zAD t.str)) (h2:w.ownsRow base 87 1 vm t.mag.length (zBm t.mag)):∀{ts:List Tok} {cs:List Value},TokC w base ts cs→TokC w base (ts++[t]) (cs++zDZ t vs vm):=by
 intro ts
 induction ts with
 | nil=>intro cs h;rw[show cs=[]from h];exact⟨vs,vm,[],by simp,h1,h2,rfl⟩
 | cons s r ih=>
  intro cs h;obtain⟨vs',vm',rest,rfl,g1,g2,g3⟩:=h;exact⟨vs',vm',rest++zDZ t vs vm,by simp,g1,g2,ih g3⟩
theorem zEa {w w':World} {b1 b2:Nat} {e1 e2:TypeId} {s1 s2 n1 n2:Nat} {v1 v2:Value} {xs ys:List Value} (h1:w.ownsRow b1 e1 s1 v1 n1 xs) (h2:w.ownsRow b2 e2 s2 v2 n2 ys) (hne:e1≠e2) (hg:w.grownBy w' v2.ownBlock):w'.ownsRow b1 e1 s1 v1 n1 xs:=by
 refine h1.kept hg ?_;rcases h1.2 with⟨rfl,_⟩ | ⟨g,cap,cur,rfl,_,hgg,_⟩
 · exact .inl rfl
 · right;rcases h2.2 with⟨rfl,_⟩ | ⟨g2,cap2,cur2,rfl,_,hgg2,_⟩
   · simp[Value.ownBlock]
   · intro e;simp only[Value.ownBlock,Option.some.injEq]at e;subst e;rw[hgg]at hgg2;injection hgg2 with hgg2;injection hgg2 with _ h4 _;exact hne h4
theorem zLg {w w':World} {base:Nat} {e:TypeId} {s n:Nat} {v:Value} {xs:List Value} (h:w.ownsRow base e s v n xs) (hg:w.grownBy w' none):w'.ownsRow base e s v n xs:=
 h.kept hg (by cases hv:v.ownBlock<;>simp)
def TokL (w:World) (base:Nat) (ts:List Tok) (v:Value):Prop:=∃cs,w.ownsRow base 44 9 v ts.length cs∧TokC w base ts cs
theorem TokL.nil (w:World) (base:Nat):TokL w base [] (.slice none 0 0):=⟨[],yAJ _ _ _ _,rfl⟩
theorem TokL.grown {w w':World} {base g:Nat} {ts:List Tok} {v:Value} (h:TokL w base ts v) (hg:w.grownBy w' (some g)) (hb:g < base):TokL w' base ts v:=by
 obtain⟨cs,h1,h2⟩:=h;exact⟨cs,zBK h1 hg hb,h2.map fun _ _ _ _ _ h=>zBK h hg hb⟩
theorem TokL.new {w w':World} {base:Nat} {ts:List Tok} {v:Value} (h:TokL w base ts v) (hg:w.grownBy w' none):TokL w' base ts v:=by
 obtain⟨cs,h1,h2⟩:=h;exact⟨cs,zLg h1 hg,h2.map fun _ _ _ _ _ h=>zLg h hg⟩
theorem TokL.base {w:World} {base base':Nat} {ts:List Tok} {v:Value} (h:TokL w base ts v) (hb:base'≤base):TokL w base' ts v:=by
 obtain⟨cs,h1,h2⟩:=h;exact⟨cs,zAG h1 hb,h2.map fun _ _ _ _ _ h=>zAG h hb⟩
theorem TokL.snoc {w w':World} {base:Nat} {ts:List Tok} {v v':Value} {t:Tok} {vs vm:Value} {cs:List Value} (hc:w.ownsRow base 44 9 v ts.length cs) (ht:TokC w base ts cs) (h1:w.ownsRow base 24 1 vs t.str.length (zAD t.str)) (h2:w.ownsRow base 87 1 vm t.mag.length (zBm t.mag))
 (ho:w'.ownsRow base 44 9 v' (ts.length+1) (cs++zDZ t vs vm)) (hg:w.grownBy w' v.ownBlock):TokL w' base (ts++[t]) v':=by
 refine⟨cs++zDZ t vs vm,by rw[List.length_append];exact ho,TokC.snoc (zEa h1 hc (by decide) hg) (zEa h2 hc (by decide) hg) (ht.map fun e _ _ _ he h=>zEa h hc (by rcases he with rfl | rfl<;>decide) hg)⟩
section
variable {P:Program} {w:World} {ops:Array Oper} {rest:List Oper} {o:Oper} {a:Act} {Q:Exit→Act→World→Prop}
theorem zEb (hgd:o.guard=none) (s x:Operand) (t:TypeId)
 (ho:o.op=.call {callee:=.builtin .append,args:=#[s,x],argTypes:=#[t,t]})
 (e:TypeId) (i:TypeInfo) (z:Value) (size bytes:Nat) (ht:P.underlying t=some (.slice e)) (hi:P.info? e=some i) (hz:i.zero=some z)
 (hsize:i.size=size) (hby:i.bytes=bytes) (hzs:z.cells.size=size) (hsz0:0 < size) (base:Nat) (hbase:base≤w.heap.size)
 (v:Value) (xs:List Value) (k:Nat) (hs:a.eval s=v) (hm:w.ownsRow base e size v k xs)
 (cs:List Value) (m c B0:Nat) (hB0:B0=w.heap.size) (hx:a.eval x=.slice (some ⟨B0,0,none⟩) m c) (hl:cs.length=m*size) (h1:(cs.all fun u=>u.oneCell')=true)
 (hsz:k+m≤70368744177664) (hb2:(k+m)*bytes≤140737488355328)
 (h:∀v' w',w'.ownsRow base e size v' (k+m) (xs++cs)→w.grownBy w' v.ownBlock→wpList P ops Q rest (a.put o.dst v') w'):wpList P ops Q (o::rest) a (w.alloc (.cells cs.toArray e)):=by
 subst hB0;exact zCo hgd s x t ho e i z size bytes ht hi hz hsize hby hzs hsz0 base hbase v xs k hs hm cs m c hx hl h1 hsz hb2 h
end
structure LxS (w wr:World) (A:Option Addr) (n c p:Nat) (v:Value) (acc:List Tok):Prop where
 rd:Rd wr w.heap.size A n c p
 below:Below w.heap.size w wr
 toks:TokL wr (w.heap.size+1) acc v
theorem zCp {w wr w':World} (h:Below w.heap.size w wr) (hg:wr.grownBy w' (some w.heap.size)):Below w.heap.size w w':=
 h.grown hg h.size (fun k hk=>by injection hk with hk;omega)
theorem LxS.mov {w wr w':World} {A:Option Addr} {n c p p':Nat} {v:Value} {acc:List Tok} (h:LxS w wr A n c p v acc) (hm:Mv wr w' w.heap.size A n c p'):LxS w w' A n c p' v acc:=
 ⟨hm.rd,zCp h.below hm.grown,h.toks.grown hm.grown (by omega)⟩
theorem LxS.new {w wr w':World} {A:Option Addr} {n c p:Nat} {v:Value} {acc:List Tok} (h:LxS w wr A n c p v acc) (hg:wr.grownBy w' none):LxS w w' A n c p v acc:=
 ⟨⟨hg.cell h.rd.c0 (by simp),hg.cell h.rd.c1 (by simp),(World.frozen?_of_block (w:=wr) (hg.block _ h.rd.lt (by simp))).trans h.rd.f1⟩,h.below.grown hg h.below.size (fun k hk=>by cases hk),h.toks.new hg⟩
theorem LxS.app {w wr w':World} {A:Option Addr} {n c p:Nat} {v v':Value} {acc acc':List Tok} (h:LxS w wr A n c p v acc) (hg:wr.grownBy w' v.ownBlock) (ht:TokL w' (w.heap.size+1) acc' v'):LxS w w' A n c p v' acc':=by
 obtain⟨cs,ho,_⟩:=h.toks;have hne:∀k,k < w.heap.size+1→some k≠v.ownBlock:=fun k hk e=>by have:=(ho.lt k e.symm).1;omega
 exact⟨⟨hg.cell h.rd.c0 (hne _ (by simp)),hg.cell h.rd.c1 (hne _ (by simp)),(World.frozen?_of_block (w:=wr) (hg.block _ h.rd.lt (hne _ (by simp)))).trans h.rd.f1⟩,h.below.grown hg h.below.size (fun k hk=>by have:=(ho.lt k hk).1;omega),ht⟩
def zPA (acc:List Tok) (q:List Tok×Nat×Nat):List Tok×Nat×Nat:=if q.2.2≠0 then([],q.2)else(acc++q.1,0,0)
theorem zLh (acc:List Tok) (t:Tok) (q:List Tok×Nat×Nat):zPA acc (zDn t q)=zPA (acc++[t]) q:=by
 unfold zPA zDn
 by_cases h:q.2.2≠0
 · rw[if_pos h,if_pos h];simp only;rw[if_pos h]
 · rw[if_neg h,if_neg h];simp
theorem zGg:∀(f k:Nat) (l:List UInt16),(zDI f k l).2.2=0→(zDI f k l).2.1=0:=by
 intro f
 induction f with
 | zero=>intro k l _;rfl
 | succ f ih=>
  intro k l;rw[zDI]
  by_cases h1:(zAB l).2.2≠0
  · rw[if_pos h1];intro h;exact absurd h h1
  rw[if_neg h1]
  by_cases h2:l.drop (zAB l).1=[]
  · rw[if_pos h2];intro _;rfl
  rw[if_neg h2]
  by_cases h3:(zAi k l).1≠0
  · rw[if_pos h3];intro h;exact absurd h h3
  rw[if_neg h3];unfold zDn;split
  · intro h;rename_i h4;exact absurd h h4
  · intro _;rfl
theorem zIP:∀(f k:Nat) (l:List UInt16),(zDI f k l).2.2≠0→(zDI f k l).1=[]:=by
 intro f
 induction f with
 | zero=>intro k l _;rfl
 | succ f ih=>
  intro k l;rw[zDI]
  by_cases h1:(zAB l).2.2≠0
  · rw[if_pos h1];intro h;rfl
  rw[if_neg h1]
  by_cases h2:l.drop (zAB l).1=[]
  · rw[if_pos h2];intro h;exact absurd rfl h
  rw[if_neg h2]
  by_cases h3:(zAi k l).1≠0
  · rw[if_pos h3];intro h;rfl
  rw[if_neg h3];unfold zDn;split
  · intro _;rfl
  · intro h;exact absurd rfl h
def AtLex (u:List UInt16) (p:Nat) (acc:List Tok):Prop:=acc.length≤p∧p≤u.length∧zE9 0 u=zPA acc (zE9 p (u.drop p))
theorem AtLex.start (u:List UInt16):AtLex u 0 []:=by
 refine⟨yAC _,yAE _,?_⟩;rw[List.drop_zero];unfold zPA;split
 · rename_i h
   have:=zIP _ _ _ h;exact Prod.ext this rfl
 · rename_i h
   have h1:=Decidable.not_not.1 h;have h2:=zGg _ _ _ h1;exact Prod.ext rfl (Prod.ext h2 h1)
theorem AtLex.pass {u:List UInt16} {p m e:Nat} {nl:Bool} {acc:List Tok} (h:AtLex u p acc) (hq:zAB (u.drop p)=(m,nl,e)) (he:e≠0):zE9 0 u=([],p+m,e):=by
 obtain⟨_,_,h⟩:=h;rw[h,zF6 (by rw[hq];exact he),hq];unfold zPA;rw[if_pos he]
theorem AtLex.last {u:List UInt16} {p m:Nat} {nl:Bool} {acc:List Tok} (h:AtLex u p acc) (hq:zAB (u.drop p)=(m,nl,0)) (hm:p+m=u.length):zE9 0 u=(acc++[setAt zj u.length nl],0,0):=by
 obtain⟨_,_,h⟩:=h;rw[h,zH0 (by rw[hq]) (by rw[hq,List.drop_drop,hm,List.drop_length]),hq,←hm];unfold zPA;rw[if_neg (by simp)]
theorem AtLex.bad {u:List UInt16} {p m e k:Nat} {nl:Bool} {t:Tok} {acc:List Tok} (h:AtLex u p acc) (hq:zAB (u.drop p)=(m,nl,0)) (hm:p+m < u.length) (ht:zA9 (p+m==0) (u.drop (p+m))=(e,t,k)) (he:e≠0):zE9 0 u=([],p+m,e):=by
 obtain⟨_,_,h⟩:=h;have htok:zAi p (u.drop p)=(e,t,k):=by unfold zAi;rw[hq,List.drop_drop];exact ht
 rw[h,zH1 (by rw[hq]) (by rw[hq,List.drop_drop];intro h2;have:=congrArg List.length h2;rw[List.length_drop]at this;simp at this;omega) (by rw[htok];exact he),hq,htok];unfold zPA;rw[if_pos he]
theorem AtLex.more {u:List UInt16} {p m k:Nat} {nl:Bool} {t:Tok} {acc:List Tok} (h:AtLex u p acc) (hq:zAB (u.drop p)=(m,nl,0)) (hm:p+m < u.length) (ht:zA9 (p+m==0) (u.drop (p+m))=(0,t,k)):AtLex u (p+m+k) (acc++[setAt t (p+m) nl])∧1≤k:=by
 obtain⟨ha,hp,h⟩:=h;have htok:zAi p (u.drop p)=(0,t,k):=by unfold zAi;rw[hq,List.drop_drop];exact ht
 have hlen:=zF5 (z:=p+m==0) (l:=u.drop (p+m)) (by rw[ht]);rw[ht,List.length_drop]at hlen;simp only at hlen;refine⟨⟨by simp;omega,by omega,?_⟩,hlen.1⟩;rw[h,zF7 (by rw[hq]) (by rw[hq,List.drop_drop];intro h2;have:=congrArg List.length h2;rw[List.length_drop]at this;simp at this;omega) (by rw[htok]),zLh,hq,htok,List.drop_drop,Nat.add_assoc]
theorem zIQ {a b:Bool} {m n:Nat} (h:a=b) (h2:m=n):Ending.returned (.tuple #[.bool a,.int .i64 (m:Int)])=.returned (.tuple #[.bool b,.int .i64 (n:Int)]):=by rw[h,h2]
def AtRem (long:Bool) (u:List UInt16) (k p:Nat) (b d:Bool):Prop:=∃i,p=k+2+i∧zCC long (u.drop (k+2)) false false=zDr i (zCC long (u.drop p) b d)
theorem AtRem.step {long:Bool} {u:List UInt16} {k p:Nat} {b d:Bool} (h:AtRem long u k p b d) (hp:p < u.length) (h1:(long&&zq [42,47] (u.drop p))=false) (h2:(!long &&zAJ u[p])=false):
 AtRem long u k (p+1) (b || zAJ u[p]) (d || zFz u[p]):=by
 obtain⟨i,hi,he⟩:=h;refine⟨i+1,by omega,?_⟩;have hd:u.drop p=u[p]::u.drop (p+1):=yAH hp;rw[he,hd,zCC,if_neg (by rw[←hd,h1];simp),if_neg (by rw[h2];simp)];simp only[zDr];congr 1;omega
theorem AtRem.close {u:List UInt16} {k p:Nat} {b d:Bool} (h:AtRem true u k p b d) (hp:p < u.length) (h1:zq [42,47] (u.drop p)=true):
 zCC true (u.drop (k+2)) false false=(p - (k+2)+2,b,zFS d)∧k+2≤p:=by
 obtain⟨i,hi,he⟩:=h;have hd:u.drop p=u[p]::u.drop (p+1):=yAH hp;refine⟨?_,by omega⟩;rw[he,hd,zCC,if_pos (by rw[←hd,h1];rfl)];simp only[zDr];congr 1;omega
theorem AtRem.line {u:List UInt16} {k p:Nat} {b d:Bool} (h:AtRem false u k p b d) (hp:p < u.length) (h1:zAJ u[p]=true):
 zCC false (u.drop (k+2)) false false=(p - (k+2),false,zFS d)∧k+2≤p:=by
 obtain⟨i,hi,he⟩:=h;have hd:u.drop p=u[p]::u.drop (p+1):=yAH hp;refine⟨?_,by omega⟩;rw[he,hd,zCC,if_neg (by simp),if_pos (by rw[h1];rfl)];simp only[zDr];congr 1;omega
theorem AtRem.stop {long:Bool} {u:List UInt16} {k:Nat} {b d:Bool} (h:AtRem long u k u.length b d):
 zCC long (u.drop (k+2)) false false=(u.length - (k+2),false,if long=true then 5 else zFS d)∧k+2≤u.length:=by
 obtain⟨i,hi,he⟩:=h;refine⟨?_,by omega⟩;rw[he,List.drop_length,zCC];simp only[zDr];congr 1;omega
theorem zQy {u:List UInt16} {k m e:Nat} {nl:Bool} {long:Bool} (hlong:zq [47,42] (u.drop k)=long) (hq:zAR (u.drop k)=(m,nl,e)):∀(i:Nat) (b:Bool) (e':Nat),zCC long (u.drop (k+2)) false false=(i,b,e')→2+i=m∧b=nl∧e'=e:=by
 intro i b e' h;unfold zAR at hq;rw[hlong,List.drop_drop,h]at hq;simpa [zDr]using hq
theorem zB6 {A:Option Addr} {c g B k n:Nat} {u:List UInt16} {w:World} (hr:Rd w g A n c k) (hn:u.length=n) (ha:Reads w B 1 A n (zAD u)) (hB:B≤g) (hk:k+2≤n) (hl:n≤4096) {m e:Nat} {nl:Bool} (hq:zAR (u.drop k)=(m,nl,e)):
 Calls prog 65 #[.pointer (some ⟨g,0,none⟩)] w fun ev w'=>ev=.returned (.tuple #[.bool nl,.int .i64 (e:Int)])∧Mv w w' g A n c (k+m):=by
 subst hn;obtain⟨long,hlong⟩:∃q,zq [47,42] (u.drop k)=q:=⟨_,rfl⟩;have HQ:=zA (zQy hlong hq);have HL:=zA hlong;have HA:=zA ha;have HR:=zA hr;have hg:=hr.lt;clear hq hlong ha hr;go_enter func65,ntmps65;go_wp2_with fail;refine(zAP ⟨#[47,42]⟩ HR.out rfl HA.out (by omega) hl (by decide) HL.out).mono ?_;rintro e1 w1 ⟨rfl,m1,hw1⟩;subst hw1;have hc0:=HR.out.c0;have hc1:=HR.out.c1;have hf1:=HR.out.f1;go_wp2;have hM0:=zA (Mv.step ((Mv.refl HR.out).drewN m1) (z:=(k:Int)+2) (k':=k+2) (by omega));clear hc0 hc1 hf1
 go_loopg [5,6] (u.length - (k+2)) (fun r a st wr=>∃p b d,p+r=u.length∧a=.bool b∧st=.bool d∧Hid (Mv w wr g A u.length c p)∧Hid (AtRem long u k p b d))
 case atStart=>exact⟨k+2,false,false,by omega,rfl,rfl,hM0,0,by omega,by simp[zDr]⟩
 case round=>
  obtain⟨p,b,d,hpr,rfl,rfl,hM,hat⟩:=hrel;have hc0:=hM.out.rd.c0;have hc1:=hM.out.rd.c1;have hf1:=hM.out.rd.f1;have har:=zA (HA.out.grown hM.out.grown hB (Nat.le_of_lt hg))
  by_cases hlt:p < u.length
  · have hlt2:(p:Int) < (u.length:Int):=by omega
    obtain⟨blk,off,rfl,_,hcell⟩:=har.out.spotL (by omega);have hca:=hcell p hlt;have hStep:=zA (fun h1 h2=>hat.out.step hlt h1 h2);have hClose:=zA (fun(e:long=true) h1=>(by subst e;exact hat.out.close hlt h1:zCC long (u.drop (k+2)) false false=(p - (k+2)+2,b,zFS d)∧k+2≤p));have hLine:=zA (fun(e:long=false) h1=>(by subst e;exact hat.out.line hlt h1:zCC long (u.drop (k+2)) false false=(p - (k+2),false,zFS d)∧k+2≤p));obtain⟨x,hx⟩:∃x,u[p]=x:=⟨_,rfl⟩;rw[hx]at hca hStep hLine;obtain⟨st,hst⟩:∃q,zq [42,47] (u.drop p)=q:=⟨_,rfl⟩;have HST:=zA hst;rw[hst]at hStep hClose;clear hcell hx hst;cases long with
    | true=>
     cases st with
     | true=>
      have hcl:=zA (hClose.out rfl rfl);go_wp2_with fail
      go_quiet (fail)
      go_wp2_with fail
      go_quiet (fail)
      go_wp2_with (first | (go_at_call 64;refine(zAP ⟨#[42,47]⟩ (hM.out.rd.drewN _) rfl (har.out.drewN _) (by omega) hl (by decide) HST.out).mono ?_;rintro e2 w2 ⟨rfl,m2,hw2⟩;subst hw2) | (go_at_call 99;refine(zED _ _).mono ?_;rintro e2 w2 ⟨rfl,rfl⟩))
      go_ret2
      obtain⟨q1,q2⟩:=hcl.out;obtain⟨z1,z2,z3⟩:=HQ.out _ _ _ q1;exact⟨zIQ z2 z3,by rw[show k+m=p+2 by omega];exact Mv.step ((hM.out.drewN _)) (by omega)⟩
     | false=>
      have hsp:=zA (hStep.out rfl rfl);cases b
      all_goals cases d
      all_goals
       go_wp2_with fail
       go_quiet (fail)
       go_wp2_with fail
       go_quiet (fail)
       go_wp2_with (first | (go_at_call 64;refine(zAP ⟨#[42,47]⟩ (hM.out.rd.drewN _) rfl (har.out.drewN _) (by omega) hl (by decide) HST.out).mono ?_;rintro e2 w2 ⟨rfl,m2,hw2⟩;subst hw2) | (go_at_call 63;refine(zw _ _).mono ?_;rintro e2 w2 ⟨rfl,rfl⟩) | (go_at_call 100;refine(zAc _ _).mono ?_;rintro e2 w2 ⟨rfl,rfl⟩))
       go_roundg (gk - 1)
       case measure=>omega
       case rel=>exact⟨p+1,_,_,by omega,rfl,rfl,Mv.step (hM.out.drewN _) (by omega),hsp.out⟩
    | false=>
     cases hln:zAJ x with
     | true=>
      have hcl:=zA (hLine.out rfl hln);go_wp2_with fail
      go_quiet (fail)
      go_wp2_with fail
      go_quiet (fail)
      go_wp2_with (first | (go_at_call 63;refine(zw _ _).mono ?_;rintro e2 w2 ⟨rfl,rfl⟩) | (go_at_call 99;refine(zED _ _).mono ?_;rintro e2 w2 ⟨rfl,rfl⟩))
      go_ret2
      obtain⟨q1,q2⟩:=hcl.out;obtain⟨z1,z2,z3⟩:=HQ.out _ _ _ q1;exact⟨zIQ z2 z3,by rw[show k+m=p by omega];exact hM.out.drewN _⟩
     | false=>
      have hsp:=zA (hStep.out (by rfl) (by rw[hln];rfl));have HLN:=zA hln;cases b
      all_goals cases d
      all_goals
       go_wp2_with fail
       go_quiet (fail)
       go_wp2_with fail
       go_quiet (fail)
       go_wp2_with (first | (go_at_call 63;refine(zw _ _).mono ?_;rintro e2 w2 ⟨rfl,rfl⟩) | (go_at_call 100;refine(zAc _ _).mono ?_;rintro e2 w2 ⟨rfl,rfl⟩))
       go_roundg (gk - 1)
       case measure=>omega
       case rel=>exact⟨p+1,_,_,by omega,rfl,rfl,Mv.step (hM.out.drewN _) (by omega),by first | exact hsp.out | (have z:=hsp.out;rw[HLN.out]at z;exact z)⟩
  · obtain rfl:p=u.length:=by have:=hM.out;omega
    have hst:=zA hat.out.stop;cases long with
    | true=>
     go_wp2_with fail
     go_quiet (fail)
     go_wp2
     go_ret2
     obtain⟨q1,q2⟩:=hst.out;obtain⟨z1,z2,z3⟩:=HQ.out _ _ _ q1;exact⟨zIQ (n:=e) (m:=5) z2 z3,by rw[show k+m=u.length by omega];exact hM.out.drewN _⟩
    | false=>
     go_wp2_with fail
     go_quiet (fail)
     go_wp2_with (go_at_call 99;refine(zED _ _).mono ?_;rintro e2 w2 ⟨rfl,rfl⟩)
     go_ret2
     obtain⟨q1,q2⟩:=hst.out;obtain⟨z1,z2,z3⟩:=HQ.out _ _ _ q1;exact⟨zIQ z2 z3,by rw[show k+m=u.length by omega];exact hM.out.drewN _⟩
theorem zBX {a b:Bool} (h:(a || b)=false):a=false∧b=false:=by cases a<;>simp_all
theorem zLi {b:Bool} (h:(false || b)=true):b=true:=h
theorem zLj {a b:Bool} {m n p q:Nat} (h:a=b) (h2:m=n) (h3:p=q):Ending.returned (.tuple #[.bool a,.int .i64 (m:Int),.int .i64 (p:Int)])=.returned (.tuple #[.bool b,.int .i64 (n:Int),.int .i64 (q:Int)]):=by rw[h,h2,h3]
def AtPass (u:List UInt16) (k p:Nat) (b:Bool):Prop:=∃i,p=k+i∧zCe (u.drop k) false=zDr i (zCe (u.drop p) b)
theorem AtPass.blank {u:List UInt16} {k p:Nat} {b:Bool} (h:AtPass u k p b) (hp:p < u.length) (h1:(zIh u[p] || zAJ u[p])=true):AtPass u k (p+1) (b || zAJ u[p]):=by
 obtain⟨i,hi,he⟩:=h;refine⟨i+1,by omega,?_⟩;rw[he,yAH hp,zG9 h1];simp only[zDr];congr 1;omega
theorem AtPass.remark {u:List UInt16} {k p m:Nat} {b nl:Bool} (h:AtPass u k p b) (hp:p < u.length) (h1:(zIh u[p] || zAJ u[p])=false) (h2:(zq [47,47] (u.drop p) || zq [47,42] (u.drop p))=true)
 (hq:zAR (u.drop p)=(m,nl,0)):AtPass u k (p+m) (b || nl):=by
 obtain⟨i,hi,he⟩:=h;refine⟨i+m,by omega,?_⟩;have hd:u.drop p=u[p]::u.drop (p+1):=yAH hp;rw[hd]at hq h2;rw[he,hd,zDf h1 h2,hq,if_neg (by simp),←hd,List.drop_drop];simp only[zDr];congr 1;omega
theorem AtPass.bad {u:List UInt16} {k p m e:Nat} {b nl:Bool} (h:AtPass u k p b) (hp:p < u.length) (h1:(zIh u[p] || zAJ u[p])=false) (h2:(zq [47,47] (u.drop p) || zq [47,42] (u.drop p))=true)
 (hq:zAR (u.drop p)=(m,nl,e)) (he0:e≠0):zCe (u.drop k) false=(p - k,false,e)∧k≤p:=by
 obtain⟨i,hi,he⟩:=h;refine⟨?_,by omega⟩;have hd:u.drop p=u[p]::u.drop (p+1):=yAH hp;rw[hd]at hq h2;rw[he,hd,zDf h1 h2,hq,if_pos he0];simp only[zDr];congr 1;omega
theorem AtPass.halt {u:List UInt16} {k p:Nat} {b:Bool} (h:AtPass u k p b) (hp:p < u.length) (h1:(zIh u[p] || zAJ u[p])=false) (h2:(zq [47,47] (u.drop p) || zq [47,42] (u.drop p))=false):
 zCe (u.drop k) false=(p - k,b,0)∧k≤p:=by
 obtain⟨i,hi,he⟩:=h;refine⟨?_,by omega⟩;have hd:u.drop p=u[p]::u.drop (p+1):=yAH hp;rw[hd]at h2;rw[he,hd,zIr h1 h2];simp only[zDr];congr 1;omega
theorem AtPass.stop {u:List UInt16} {k:Nat} {b:Bool} (h:AtPass u k u.length b):zCe (u.drop k) false=(u.length - k,b,0)∧k≤u.length:=by
 obtain⟨i,hi,he⟩:=h;refine⟨?_,by omega⟩;rw[he,List.drop_length,zKF];simp only[zDr];congr 1;omega
theorem zP4 {u:List UInt16} {k m e:Nat} {nl:Bool} (hq:zAB (u.drop k)=(m,nl,e)):∀(i:Nat) (b:Bool) (e':Nat),zCe (u.drop k) false=(i,b,e')→i=m∧b=nl∧e'=e:=by
 intro i b e' h;have:zAB (u.drop k)=zCe (u.drop k) false:=rfl;rw[this,h]at hq;simpa using hq
theorem zLk {A:Option Addr} {c g B k n:Nat} {u:List UInt16} {w:World} (hr:Rd w g A n c k) (hn:u.length=n) (ha:Reads w B 1 A n (zAD u)) (hB:B≤g) (hk:k≤n) (hl:n≤4096) {m e:Nat} {nl:Bool} (hq:zAB (u.drop k)=(m,nl,e)):
 Calls prog 39 #[.pointer (some ⟨g,0,none⟩)] w fun ev w'=>(ev=.returned (.tuple #[.bool nl,.int .i64 ((if e=0 then 0 else k+m:Nat):Int),.int .i64 (e:Int)]))∧(e=0→Mv w w' g A n c (k+m))∧w.grownBy w' (some g):=by
 subst hn;have HQ:=zA (zP4 hq);have HA:=zA ha;have HR:=zA hr;have hg:=hr.lt;have hM0:=zA (Mv.refl hr);clear hq ha hr;go_enter func39,ntmps39;go_wp2
 go_step3
 go_wp2
 go_step3
 go_wp2
 go_loopg [5] (u.length - k) (fun r a wr=>∃p b,p+r=u.length∧a=.bool b∧Hid (Mv w wr g A u.length c p)∧Hid (AtPass u k p b))
 case atStart=>exact⟨k,false,by omega,rfl,hM0,0,rfl,by simp[zDr]⟩
 case round=>
  obtain⟨p,b,hpr,rfl,hM,hat⟩:=hrel;have hc0:=hM.out.rd.c0;have hc1:=hM.out.rd.c1;have hf1:=hM.out.rd.f1;have har:=zA (HA.out.grown hM.out.grown hB (Nat.le_of_lt hg))
  by_cases hlt:p < u.length
  · have hlt2:(p:Int) < (u.length:Int):=by omega
    obtain⟨blk,off,rfl,_,hcell⟩:=har.out.spotL (by omega);have hca:=hcell p hlt;have hBlank:=zA (fun h1=>hat.out.blank hlt h1);have hRem:=zA (fun m nl h1 h2 hq=>hat.out.remark (m:=m) (nl:=nl) hlt h1 h2 hq);have hBad:=zA (fun m nl e h1 h2 hq he=>hat.out.bad (m:=m) (nl:=nl) (e:=e) hlt h1 h2 hq he);have hHalt:=zA (fun h1 h2=>hat.out.halt hlt h1 h2);obtain⟨x,hx⟩:∃x,u[p]=x:=⟨_,rfl⟩;rw[hx]at hca hBlank hRem hBad hHalt;clear hcell hx;cases hbl:(zIh x || zAJ x)with
    | true=>
     have hsp:=zA (hBlank.out hbl);cases hb1:zIh x with
     | true=>
      cases b
      all_goals
       go_wp2_with fail
       go_quiet (fail)
       go_wp2_with fail
       go_quiet (fail)
       go_wp2_with (first | (go_at_call 63;refine(zw _ _).mono ?_;rintro e2 w2 ⟨rfl,rfl⟩) | (go_at_call 62;refine(zBF _ _).mono ?_;rintro e2 w2 ⟨rfl,rfl⟩))
       go_roundg (gk - 1)
       case measure=>omega
       case rel=>exact⟨p+1,_,by omega,rfl,Mv.step (hM.out.drewN _) (by omega),hsp.out⟩
     | false=>
      have hl1:zAJ x=true:=by rw[hb1]at hbl;exact hbl
      cases b
      all_goals
       go_wp2_with fail
       go_quiet (fail)
       go_wp2_with fail
       go_quiet (fail)
       go_wp2_with (first | (go_at_call 63;refine(zw _ _).mono ?_;rintro e2 w2 ⟨rfl,rfl⟩) | (go_at_call 62;refine(zBF _ _).mono ?_;rintro e2 w2 ⟨rfl,rfl⟩))
       go_roundg (gk - 1)
       case measure=>omega
       case rel=>exact⟨p+1,_,by omega,rfl,Mv.step (hM.out.drewN _) (by omega),by first | exact hsp.out | (have z:=hsp.out;rw[hl1]at z;exact z)⟩
    | false=>
     have hb1:zIh x=false:=(zBX hbl).1;have hb2:zAJ x=false:=(zBX hbl).2;have HBL:=zA hbl;clear hbl;obtain⟨s1,hs1⟩:∃q,zq [47,47] (u.drop p)=q:=⟨_,rfl⟩;obtain⟨s2,hs2⟩:∃q,zq [47,42] (u.drop p)=q:=⟨_,rfl⟩;have HS1:=zA hs1;have HS2:=zA hs2;have HS:=zA (show(zq [47,47] (u.drop p) || zq [47,42] (u.drop p))=(s1 || s2) by rw[hs1,hs2]);clear hs1 hs2;cases hss:(s1 || s2)with
     | false=>
      have h1:s1=false:=(zBX hss).1;have h2:s2=false:=(zBX hss).2;have hcl:=zA (hHalt.out HBL.out (by rw[HS.out,hss]));subst h1 h2;clear hss;go_wp2_with fail
      go_quiet (fail)
      go_wp2_with fail
      go_quiet (fail)
      go_wp2_with (first | (go_at_call 63;refine(zw _ _).mono ?_;rintro e2 w2 ⟨rfl,rfl⟩) | (go_at_call 62;refine(zBF _ _).mono ?_;rintro e2 w2 ⟨rfl,rfl⟩));refine(zAP ⟨#[47,47]⟩ (hM.out.rd.drewN _) rfl (har.out.drewN _) (by omega) hl (by decide) HS1.out).mono ?_;rintro e2 w2 ⟨rfl,m2,hw2⟩;subst hw2;go_wp2_with fail;refine(zAP ⟨#[47,42]⟩ (hM.out.rd.drewN _) rfl (har.out.drewN _) (by omega) hl (by decide) HS2.out).mono ?_;rintro e3 w3 ⟨rfl,m3,hw3⟩;subst hw3;go_wp2
      (try rw[Exit.noGoto_ret])
      go_ret3
      obtain⟨q1,q2⟩:=hcl.out;obtain⟨z1,z2,z3⟩:=HQ.out _ _ _ q1;subst z1 z2 z3;exact⟨rfl,fun _=>by rw[show k+(p - k)=p by omega];exact hM.out.drewN _,(hM.out.drewN _).grown⟩
     | true=>
      obtain⟨⟨rm,rnl,re⟩,hrem⟩:∃z,zAR (u.drop p)=z:=⟨_,rfl⟩;have hp2:p+2≤u.length:=by
       have:=zCX (l:=u.drop p) (by rw[HS.out,hss]);rw[List.length_drop]at this;omega
      have hrl:=zC0 (l:=u.drop p) (by rw[List.length_drop];omega);rw[hrem,List.length_drop]at hrl;have HREM:=zA hrem
      by_cases he0:re=0
      · subst he0;have hsp:=zA (hRem.out rm rnl HBL.out (by rw[HS.out,hss]) hrem);clear hrem;cases s1 with
        | true=>
         cases b
         all_goals
          go_wp2_with fail
          go_quiet (fail)
          go_wp2_with fail
          go_quiet (fail)
          go_wp2_with (first | (go_at_call 63;refine(zw _ _).mono ?_;rintro e2 w2 ⟨rfl,rfl⟩) | (go_at_call 62;refine(zBF _ _).mono ?_;rintro e2 w2 ⟨rfl,rfl⟩));refine(zAP ⟨#[47,47]⟩ (hM.out.rd.drewN _) rfl (har.out.drewN _) (by omega) hl (by decide) HS1.out).mono ?_;rintro e2 w2 ⟨rfl,m2,hw2⟩;subst hw2;go_wp2_with fail;refine(zB6 (hM.out.rd.drewN _) rfl (har.out.drewN _) hB hp2 hl HREM.out).mono ?_;rintro e4 w4 ⟨rfl,hM3⟩;go_wp2
          go_roundg (u.length - (p+rm))
          case measure=>omega
          case rel=>exact⟨p+rm,_,by omega,rfl,Mv.then (hM.out.drewN _) hM3,hsp.out⟩
        | false=>
         obtain rfl:s2=true:=zLi hss;cases b
         all_goals
          go_wp2_with fail
          go_quiet (fail)
          go_wp2_with fail
          go_quiet (fail)
          go_wp2_with (first | (go_at_call 63;refine(zw _ _).mono ?_;rintro e2 w2 ⟨rfl,rfl⟩) | (go_at_call 62;refine(zBF _ _).mono ?_;rintro e2 w2 ⟨rfl,rfl⟩));refine(zAP ⟨#[47,47]⟩ (hM.out.rd.drewN _) rfl (har.out.drewN _) (by omega) hl (by decide) HS1.out).mono ?_;rintro e2 w2 ⟨rfl,m2,hw2⟩;subst hw2;go_wp2_with fail;refine(zAP ⟨#[47,42]⟩ (hM.out.rd.drewN _) rfl (har.out.drewN _) (by omega) hl (by decide) HS2.out).mono ?_;rintro e3 w3 ⟨rfl,m3,hw3⟩;subst hw3;go_wp2_with fail;refine(zB6 (hM.out.rd.drewN _) rfl (har.out.drewN _) hB hp2 hl HREM.out).mono ?_;rintro e4 w4 ⟨rfl,hM3⟩;go_wp2
          go_roundg (u.length - (p+rm))
          case measure=>omega
          case rel=>exact⟨p+rm,_,by omega,rfl,Mv.then (hM.out.drewN _) hM3,hsp.out⟩
      · have he1:((re:Int) !=0)=true:=by rw[bne_iff_ne];omega
        have hcl:=zA (hBad.out rm rnl re HBL.out (by rw[HS.out,hss]) hrem he0);clear hrem;cases s1 with
        | true=>
         go_wp2_with fail
         go_quiet (fail)
         go_wp2_with fail
         go_quiet (fail)
         go_wp2_with (first | (go_at_call 63;refine(zw _ _).mono ?_;rintro e2 w2 ⟨rfl,rfl⟩) | (go_at_call 62;refine(zBF _ _).mono ?_;rintro e2 w2 ⟨rfl,rfl⟩));refine(zAP ⟨#[47,47]⟩ (hM.out.rd.drewN _) rfl (har.out.drewN _) (by omega) hl (by decide) HS1.out).mono ?_;rintro e2 w2 ⟨rfl,m2,hw2⟩;subst hw2;go_wp2_with fail;refine(zB6 (hM.out.rd.drewN _) rfl (har.out.drewN _) hB hp2 hl HREM.out).mono ?_;rintro e4 w4 ⟨rfl,hM3⟩;go_wp2
         (try rw[Exit.noGoto_ret])
         go_ret3
         obtain⟨q1,q2⟩:=hcl.out;obtain⟨z1,z2,z3⟩:=HQ.out _ _ _ q1;subst z1 z2 z3;exact⟨zLj rfl (by rw[if_neg he0];omega) rfl,fun h=>absurd h he0,(Mv.then (hM.out.drewN _) hM3).grown⟩
        | false=>
         obtain rfl:s2=true:=zLi hss;go_wp2_with fail
         go_quiet (fail)
         go_wp2_with fail
         go_quiet (fail)
         go_wp2_with (first | (go_at_call 63;refine(zw _ _).mono ?_;rintro e2 w2 ⟨rfl,rfl⟩) | (go_at_call 62;refine(zBF _ _).mono ?_;rintro e2 w2 ⟨rfl,rfl⟩));refine(zAP ⟨#[47,47]⟩ (hM.out.rd.drewN _) rfl (har.out.drewN _) (by omega) hl (by decide) HS1.out).mono ?_;rintro e2 w2 ⟨rfl,m2,hw2⟩;subst hw2;go_wp2_with fail;refine(zAP ⟨#[47,42]⟩ (hM.out.rd.drewN _) rfl (har.out.drewN _) (by omega) hl (by decide) HS2.out).mono ?_;rintro e3 w3 ⟨rfl,m3,hw3⟩;subst hw3;go_wp2_with fail;refine(zB6 (hM.out.rd.drewN _) rfl (har.out.drewN _) hB hp2 hl HREM.out).mono ?_;rintro e4 w4 ⟨rfl,hM3⟩;go_wp2
         (try rw[Exit.noGoto_ret])
         go_ret3
         obtain⟨q1,q2⟩:=hcl.out;obtain⟨z1,z2,z3⟩:=HQ.out _ _ _ q1;subst z1 z2 z3;exact⟨zLj rfl (by rw[if_neg he0];omega) rfl,fun h=>absurd h he0,(Mv.then (hM.out.drewN _) hM3).grown⟩
  · obtain rfl:p=u.length:=by omega
    have hst:=zA hat.out.stop;go_wp2_with fail
    go_quiet (fail)
    go_wp2
    (try rw[Exit.noGoto_ret])
    go_ret3
    obtain⟨q1,q2⟩:=hst.out;obtain⟨z1,z2,z3⟩:=HQ.out _ _ _ q1;subst z1 z2 z3;exact⟨rfl,fun _=>by rw[show k+(u.length - k)=u.length by omega];exact hM.out.drewN _,(hM.out.drewN _).grown⟩
def LexPost (q:List Tok×Nat×Nat) (w:World) (ev:Ending) (w':World):Prop:=
 ∃v,ev=.returned (.tuple #[v,.int .i64 (q.2.1:Int),.int .i64 (q.2.2:Int)])∧TokL w' w.heap.size q.1 v∧Below w.heap.size w w'
theorem LexPost.mk {q:List Tok×Nat×Nat} {w w':World} {v:Value} {ts:List Tok} {a e:Nat} (hq:q=(ts,a,e)) (h:TokL w' w.heap.size ts v) (hb:Below w.heap.size w w'):LexPost q w (.returned (.tuple #[v,.int .i64 (a:Int),.int .i64 (e:Int)])) w':=by
 subst hq;exact⟨v,rfl,h,hb⟩
theorem zHa {A:Option Addr} {c B n:Nat} {u:List UInt16} {w:World} (hB:B≤w.heap.size) (hn:u.length=n) (ha:Reads w B 1 A n (zAD u)) (hc:n≤c) (_hc2:c≤maxLen):
 Calls prog 19 #[.slice A n c] w (LexPost (zCD u) w):=by
 subst hn
 by_cases hlong:4096 < u.length
 · have HQ:=zA (show zCD u=([],0,3) by unfold zCD;rw[if_pos hlong]);have hlong2:(4096:Int) < (u.length:Int):=by omega
   go_enter func19,ntmps19;go_wp2_with fail
   go_ret3
   exact LexPost.mk HQ.out (TokL.nil _ _) (Below.refl _ _)
 · obtain⟨i0,hi0,hz0,hz1,hz2⟩:=info_parts Tryz.info_tok;have hl:u.length≤4096:=by omega
   have HF:=zA (zBY hlong);have HA:=zA ha;have HS0:=zA (show LxS w (w.alloc (.cells #[.slice A u.length c,.int .i64 0] 80)) A u.length c 0 (.slice none 0 0) []from
    ⟨⟨by go_simp,by go_simp,by go_simp⟩,(Below.refl _ _).alloc (yAC _) _,TokL.nil _ _⟩)
   clear ha hlong;go_enter func19,ntmps19;go_wp2_with fail
   go_loopg [6] (u.length+1) (fun r v wr=>∃(p:Nat) (acc:List Tok),p+r=u.length+1∧Hid (LxS w wr A u.length c p v acc)∧Hid (AtLex u p acc))
   case atStart=>exact⟨0,[],by omega,HS0.out,AtLex.start u⟩
   case round=>
    obtain⟨p,acc,hpr,hS,hat⟩:=hrel;have hpl:=hat.out.2.1;have hacl:=hat.out.1;obtain⟨⟨m,nl,e⟩,hpq⟩:∃q,zAB (u.drop p)=q:=⟨_,rfl⟩;have hple:=zFW (u.drop p);rw[hpq,List.length_drop]at hple;simp only at hple;have HPQ:=zA hpq;clear hpq;have har:=zA (HA.out.below (hS.out.below.mono hB));go_wp2_with fail;refine(zLk hS.out.rd rfl har.out hB hpl hl HPQ.out).mono ?_;rintro e1 w1 ⟨rfl,hM1,hG1⟩;have HM1:=zA hM1;have hb1:=zA (zCp hS.out.below hG1);clear hM1 hG1
    by_cases he:e=0
    · subst he;have hS1:=zA (hS.out.mov (HM1.out rfl));clear hS HM1 har hb1;have hc1:=hS1.out.rd.c1;rw[if_pos rfl];obtain⟨k,hk⟩:∃k,p+m=k:=⟨_,rfl⟩;rw[hk]at hS1 hc1;have HK:=zA hk;have hkl:k≤u.length:=by omega
      have hpk:p≤k:=by omega
      obtain⟨cs,ho,htc⟩:=hS1.out.toks;obtain⟨Av,cv,hv,_,_⟩:=zR ho;subst hv;have HO:=zA ho;have HTC:=zA htc;have hbase:w.heap.size+1≤w1.heap.size:=hS1.out.rd.lt;clear ho htc
      by_cases hend:k=u.length
      · have e1:((k:Int)==(u.length:Int))=true:=by rw[hend];simp
        have hlast:=zA (hat.out.last HPQ.out (by rw[HK.out];exact hend));have HEND:=zA hend;clear hend hk;go_wp2_with (at_builtin;refine zEb rfl _ _ 35 rfl 44 i0 _ 9 112 underlying35 hi0 hz0 hz1 hz2 rfl (by decide) (w.heap.size+1) hbase (.slice Av acc.length cv) cs acc.length rfl HO.out (zDZ (setAt zj k nl) (.slice none 0 0) (.slice none 0 0)) 1 1 w1.heap.size rfl rfl rfl rfl (by omega) (by omega) ?_;intro v' w' ho' hgr)
        go_ret3
        have htl:=TokL.snoc HO.out HTC.out (yAJ _ _ _ _) (yAJ _ _ _ _) ho' hgr;have hS2:=hS1.out.app hgr htl;rw[HEND.out]at hS2;exact LexPost.mk (HF.out.trans hlast.out) (hS2.toks.base (by omega)) hS2.below
      · have e1:((k:Int)==(u.length:Int))=false:=yA.2 (by omega);have hkl2:k < u.length:=by omega
        clear hend hk;obtain⟨⟨e2,t,tk⟩,htq⟩:∃q,zA9 (k==0) (u.drop k)=q:=⟨_,rfl⟩;have HTQ:=zA htq;clear htq;have har:=zA (HA.out.below (hS1.out.below.mono hB));go_wp2_with fail;refine(zJV (m:=tk) (e:=e2) (t:=t) hS1.out.rd rfl har.out hB hkl2 hl hc HTQ.out).mono ?_;rintro e3 w3 ⟨v,rfl,hbad,hgood,hG3⟩;have HBAD:=zA hbad;have HGOOD:=zA hgood;have HG3:=zA hG3;clear hbad hgood hG3
        by_cases he2:e2=0
        · subst he2;obtain⟨⟨vs,vm,hv,ho1,ho2⟩,hM4⟩:=HGOOD.out rfl;subst hv;obtain⟨As,c1,rfl,_,_⟩:=zR ho1;obtain⟨Am,cm,rfl,_,_⟩:=zR ho2;have hmore:=zA (hat.out.more HPQ.out (by rw[HK.out];exact hkl2) (by rw[HK.out];exact HTQ.out));rw[HK.out]at hmore;have hS3:=zA (hS1.out.mov hM4);obtain⟨cs3,ho3,htc3⟩:=hS3.out.toks;have HO3:=zA ho3;have HTC3:=zA htc3;have HO1:=zA (zAG ho1 hbase);have HO2:=zA (zAG ho2 hbase);have hbase3:w.heap.size+1≤w3.heap.size:=hS3.out.rd.lt;clear ho1 ho2 ho3 htc3 hM4 HGOOD HBAD HO HTC;go_wp2_with (at_builtin;refine zEb rfl _ _ 35 rfl 44 i0 _ 9 112 underlying35 hi0 hz0 hz1 hz2 rfl (by decide) (w.heap.size+1) (by simp;omega) (.slice Av acc.length cv) cs3 acc.length rfl (HO3.out.alloc _) (zDZ (setAt t k nl) (.slice As t.str.length c1) (.slice Am t.mag.length cm)) 1 1 (w3.heap.size+1) (by simp) rfl rfl rfl (by omega) (by omega) ?_;intro v' w' ho' hgr);have h1k:=hmore.out.2
          go_roundg (u.length+1 - (k+tk))
          case measure=>omega
          case rel=>
           refine⟨k+tk,acc++[setAt t k nl],?_,(hS3.out.new (zG w3 _ none)).app hgr (TokL.snoc (HO3.out.alloc _) (HTC3.out.map fun _ _ _ _ _ h=>h.alloc _) (HO1.out.alloc _) (HO2.out.alloc _) ho' hgr),hmore.out.1⟩;have:=hmore.out.1.2.1;omega
        · obtain rfl:=HBAD.out he2;have e2':((e2:Int) !=0)=true:=by rw[bne_iff_ne];omega
          have hbq:=zA (hat.out.bad HPQ.out (by rw[HK.out];exact hkl2) (by rw[HK.out];exact HTQ.out) he2);clear he2;unfold noV;go_wp2_with fail
          go_ret3
          rw[HK.out]at hbq;exact LexPost.mk (HF.out.trans hbq.out) (TokL.nil _ _) ((zCp hS1.out.below HG3.out).alloc (yAD hS1.out.below.size HG3.out.size) _)
    · have hpp:=zA (hat.out.pass HPQ.out he);have e1:((e:Int) !=0)=true:=by rw[bne_iff_ne];omega
      rw[if_neg he];clear he;go_wp2_with fail
      go_ret3
      exact LexPost.mk (HF.out.trans hpp.out) (TokL.nil _ _) hb1.out
theorem TokC.get {w:World} {base:Nat}:∀{ts:List Tok} {cs:List Value} (_:TokC w base ts cs) (i:Nat) (hi:i < ts.length),∃vs vm,(∀j,j < 9→cs[i*9+j]? =(zDZ ts[i] vs vm)[j]?)∧w.ownsRow base 24 1 vs ts[i].str.length (zAD ts[i].str)∧w.ownsRow base 87 1 vm ts[i].mag.length (zBm ts[i].mag):=by
 intro ts
 induction ts with
 | nil=>intro cs h i hi;simp at hi
 | cons t r ih=>
  intro cs h i hi;obtain⟨vs,vm,rest,rfl,h1,h2,h3⟩:=h;cases i with
  | zero=>
   refine⟨vs,vm,fun j hj=>?_,h1,h2⟩;rw[Nat.zero_mul,Nat.zero_add,List.getElem?_append_left (by simp[zDZ];omega)];rfl
  | succ i=>
   obtain⟨vs',vm',g1,g2,g3⟩:=ih h3 i (by simpa using hi);refine⟨vs',vm',fun j hj=>?_,g2,g3⟩;rw[List.getElem?_append_right (by simp[zDZ];omega),show(i+1)*9+j - (zDZ t vs vm).length=i*9+j by simp[zDZ];omega];exact g1 j hj
structure TokAt (w:World) (base g i:Nat) (t:Tok) (As Am:Option Addr) (cs cm:Nat):Prop where
 k0:w.cell? ⟨g,i*9,none⟩=some (.int .i64 (t.kind:Int))
 k1:w.cell? ⟨g,i*9+1,none⟩=some (.string ⟨t.text.toArray⟩)
 k2:w.cell? ⟨g,i*9+2,none⟩=some (.slice As t.str.length cs)
 k3:w.cell? ⟨g,i*9+3,none⟩=some (.int .i64 t.nk)
 k4:w.cell? ⟨g,i*9+4,none⟩=some (.int .i64 t.nn)
 k5:w.cell? ⟨g,i*9+5,none⟩=some (.bool false)
 k6:w.cell? ⟨g,i*9+6,none⟩=some (.slice Am t.mag.length cm)
 k7:w.cell? ⟨g,i*9+7,none⟩=some (.int .i64 (t.pos:Int))
 k8:w.cell? ⟨g,i*9+8,none⟩=some (.bool t.nl)
 str:w.ownsRow base 24 1 (.slice As t.str.length cs) t.str.length (zAD t.str)
 mag:w.ownsRow base 87 1 (.slice Am t.mag.length cm) t.mag.length (zBm t.mag)
theorem TokL.at_ {w:World} {base n c:Nat} {ts:List Tok} {A:Option Addr} (h:TokL w base ts (.slice A n c)) (h0:0 < ts.length):∃g,A=some ⟨g,0,none⟩∧base≤g∧g < w.heap.size∧∀i (hi:i < ts.length),∃As Am c1 c2,TokAt w base g i ts[i] As Am c1 c2:=by
 obtain⟨cs,ho,htc⟩:=h;obtain⟨g,cap,hv,hgb,hgl⟩:=ho.form h0;injection hv with hA hn hc;subst hA hn hc;refine⟨g,rfl,hgb,hgl,fun i hi=>?_⟩;obtain⟨vs,vm,hc,h1,h2⟩:=htc.get i hi;obtain⟨As,c1,rfl,_,_⟩:=zR h1;obtain⟨Am,c2,rfl,_,_⟩:=zR h2;have hcell:∀j (hj:j < 9),w.cell? ⟨g,i*9+j,none⟩=(zDZ ts[i] (.slice As ts[i].str.length c1) (.slice Am ts[i].mag.length c2))[j]? :=by
  intro j hj;rw[ho.cellAt (i*9+j) (by omega),hc j hj]
 exact⟨As,Am,c1,c2,⟨hcell 0 (by omega),hcell 1 (by omega),hcell 2 (by omega),hcell 3 (by omega),hcell 4 (by omega),hcell 5 (by omega),hcell 6 (by omega),hcell 7 (by omega),hcell 8 (by omega),h1,h2⟩⟩
end Go.Proofs.YtlohaclgbfhijaaGreatDoor
