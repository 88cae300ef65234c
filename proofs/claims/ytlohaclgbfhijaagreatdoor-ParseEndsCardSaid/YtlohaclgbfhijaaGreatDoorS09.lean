/- Joined for the claim ParseEnds: the parser, the lexer and the trees as they are walked, made short by a program of mine. -/
import Derived.Test.YtlohaclgbfhijaaGreatDoorS07
import Derived.Test.YtlohaclgbfhijaaGreatDoorS08
set_option maxHeartbeats 16000000
set_option maxRecDepth 1000000
namespace Go.Proofs.YtlohaclgbfhijaaGreatDoor
open Go.RowKit
theorem zEr {u:List UInt16} (h0:0 < u.length) (hd:∀x∈u,zQ x=true) (hf:¬zr u≤9007199254740991):zK2 u=(⟨2,0⟩,false):=by
 have hx:=zBB.1 (hd _ (List.getElem_mem h0))
 have hne:u≠[]:=List.ne_nil_of_length_pos h0
 obtain⟨x,r,rfl⟩:=List.exists_cons_of_ne_nil hne
 simp only[List.getElem_cons_zero]at hx
 have hs:zBp (x::r)=false:=by
  simp only[zBp,List.headD_cons,beq_eq_false_iff_ne]
  rintro rfl
  simp at hx
 have hr:zAJ (x::r)=x::r:=by
  unfold zAJ
  rw[if_neg]
  simp only[List.headD_cons]
  rintro(rfl | rfl)<;>simp at hx
 have hi:x::r≠zAz:=by
  intro h
  have h73:x=73:=by injection h
  rw[h73]at hx
  simp at hx
 unfold zK2
 rw[zFD (fun x hx=>zCj (hd x hx))]
 unfold zNr
 rw[if_neg hne,hs]
 unfold zDi
 have hall:=List.all_eq_true.2 hd
 simp only[hr,hi,hf,hall,ne_eq,hne,not_false_eq_true,and_self,if_true,if_false,Bool.false_eq_true]
theorem zMS {A:Option Addr} {c B m:Nat} {xs:List UInt16} {w:World} (hB:B≤w.heap.size) (hm:xs.length=m) (ha:Reads w B 1 A m (zAH xs)) (hc:m≤c) (hc2:c≤maxLen) (hl:m≤70368744177664) {k n:Int} {ok:Bool} (h:zK2 xs=(⟨k,n⟩,ok)):
 Calls Tryz.prog 106 #[.slice A m c] w fun e w'=>e=.returned (.tuple #[.agg #[.int .i64 k,.int .i64 n],.bool ok])∧Below w.heap.size w w':=by
 subst hm
 have:=zJ0 hB ha hc hc2 hl
 rw[h]at this
 exact this
theorem zFc {A:Option Addr} {c g B k n:Nat} {u:List UInt16} {w:World} {sv:ByteArray} (hr:Rd w g A n c k) (hn:u.length=n) (ha:Reads w B 1 A n (zAH u)) (hB:B≤g) (hk:k≤n) (hl:n≤4096) {l:List UInt16} (hq:(u.drop k).takeWhile zQ=l) (hs:sv=⟨(asc l).toArray⟩):
 Calls Tryz.prog 101 #[.pointer (some ⟨g,0,none⟩),.func (.func 68) #[] #[]] w fun e w'=>e=.returned (.string sv)∧Mv w w' g A n c (k+l.length):=by
 subst hs
 exact zIi hr hn ha hB hk hl hq
theorem zGT {d:List UInt16} (hd:∀x∈d,zQ x=true):zAg (asc d)=d:=by
 unfold zAg asc
 rw[List.map_map]
 conv=>rhs;rw[←List.map_id d]
 refine List.map_congr_left fun x hx=>?_
 have h:=zBB.1 (hd x hx)
 refine UInt16.toNat_inj.1 ?_
 show x.toNat % 256=x.toNat
 omega
theorem zMT {s:ByteArray} {d:List UInt16} (hs:s.data.toList=asc d) (hd:∀x∈d,zQ x=true) (hl:d.length≤4096) (w:World):
 Calls Tryz.prog 32 #[.string s] w fun e w'=>∃A c,e=.returned (.slice A d.length c)∧Reads w' w'.heap.size 1 A d.length (zAH d)∧d.length≤c∧c≤maxLen∧Below w.heap.size w w':=by
 have hsz:s.size=d.length:=by
  have:=congrArg List.length hs
  simpa [asc]using this
 refine(zDT s w (by omega)).mono ?_
 rintro e w' ⟨v,rfl,hm⟩
 have hb:=hm.below
 rw[hs,zGT hd]at hm
 obtain⟨A,c,rfl,h1,h2,h3⟩:=hm.u16
 exact⟨A,c,rfl,h3,h1,h2,hb⟩
theorem zMU {d r:List UInt16} {e m:Nat} {t:Tok} (h:(zAx 0 (fun x=>x.toNat==48) d&& !decide (d=[48]))=true) (hq:zBq d r=(e,t,m)):5=e∧zo=t∧0=m:=by
 unfold zBq at hq
 rw[if_pos h]at hq
 exact zBi hq
theorem zRx {d r:List UInt16} {e m:Nat} {t:Tok} (h:(zAx 0 (fun x=>x.toNat==48) d&& !decide (d=[48]))=false) (h2:zi [110] r=true) (hq:zBq d r=(e,t,m)):zGw (zr d) d.length (r.drop 1)=(e,t,m):=by
 unfold zBq at hq
 rw[if_neg (by rw[h];simp),if_pos h2]at hq
 exact hq
theorem zOT {d r:List UInt16} {e m:Nat} {t:Tok} (h:(zAx 0 (fun x=>x.toNat==48) d&& !decide (d=[48]))=false) (h2:zi [110] r=false) (h3:zAx 0 (zu (decide (d=[48]))) r=true) (hq:zBq d r=(e,t,m)):6=e∧zo=t∧0=m:=by
 unfold zBq at hq
 rw[if_neg (by rw[h];simp),if_neg (by rw[h2];simp),if_pos h3]at hq
 exact zBi hq
theorem zOU {d r:List UInt16} {e m:Nat} {t:Tok} (h:(zAx 0 (fun x=>x.toNat==48) d&& !decide (d=[48]))=false) (h2:zi [110] r=false) (h3:zAx 0 (zu (decide (d=[48]))) r=false) (h4:zAx 0 zBI r=true) (hq:zBq d r=(e,t,m)):5=e∧zo=t∧0=m:=by
 unfold zBq at hq
 rw[if_neg (by rw[h];simp),if_neg (by rw[h2];simp),if_neg (by rw[h3];simp),if_pos h4]at hq
 exact zBi hq
theorem zMV {d r:List UInt16} {e m:Nat} {t:Tok} (h:(zAx 0 (fun x=>x.toNat==48) d&& !decide (d=[48]))=false) (h2:zi [110] r=false) (h3:zAx 0 (zu (decide (d=[48]))) r=false) (h4:zAx 0 zBI r=false) (h5:¬zr d≤9007199254740991) (hq:zBq d r=(e,t,m)):6=e∧zo=t∧0=m:=by
 unfold zBq at hq
 rw[if_neg (by rw[h];simp),if_neg (by rw[h2];simp),if_neg (by rw[h3];simp),if_neg (by rw[h4];simp),if_pos (by omega)]at hq
 exact zBi hq
theorem zMW {d r:List UInt16} {e m:Nat} {t:Tok} (h:(zAx 0 (fun x=>x.toNat==48) d&& !decide (d=[48]))=false) (h2:zi [110] r=false) (h3:zAx 0 (zu (decide (d=[48]))) r=false) (h4:zAx 0 zBI r=false) (h5:zr d≤9007199254740991) (hq:zBq d r=(e,t,m)):0=e∧{zo with kind:=2,nn:=zr d}=t∧d.length=m:=by
 unfold zBq at hq
 rw[if_neg (by rw[h];simp),if_neg (by rw[h2];simp),if_neg (by rw[h3];simp),if_neg (by rw[h4];simp),if_neg (by omega)]at hq
 exact zEP hq
theorem zHD {A:Option Addr} {c g B k n:Nat} {u:List UInt16} {w:World} (hr:Rd w g A n c k) (hn:u.length=n) (ha:Reads w B 1 A n (zAH u)) (hB:B≤g) (hk:k < u.length) (hdk:zQ u[k]=true) (hl:n≤4096) {m e:Nat} {t:Tok} (hq:zBg (u.drop k)=(e,t,m)):
 Calls Tryz.prog 69 #[.pointer (some ⟨g,0,none⟩)] w fun ev w'=>∃v,ev=.returned (.tuple #[v,.int .i64 (e:Int)])∧(e≠0→v=noV)∧(e=0→zRi w' w.heap.size t v∧Mv w w' g A n c (k+m))∧w.grownBy w' (some g):=by
 subst hn
 have hg:=hr.lt
 obtain⟨d,hdd⟩:∃d,(u.drop k).takeWhile zQ=d:=⟨_,rfl⟩
 have hd:∀x∈d,zQ x=true:=by
  rw[←hdd]
  exact List.all_eq_true.1 List.all_takeWhile
 have hd0:d=u[k]::(u.drop (k+1)).takeWhile zQ:=by rw[←hdd,List.drop_eq_getElem_cons hk,List.takeWhile_cons_of_pos hdk]
 have h0:0 < d.length:=by rw[hd0];simp
 have hle:k+d.length≤u.length:=by
  have h1:=zAy zQ (u.drop k)
  rw[hdd,List.length_drop]at h1
  omega
 unfold zBg at hq
 rw[hdd,List.drop_drop]at hq
 obtain⟨sv,hsv⟩:∃sv:ByteArray,sv=⟨(asc d).toArray⟩:=⟨_,rfl⟩
 have hsd:sv.data.toList=asc d:=by rw[hsv]
 obtain⟨hsz,hget⟩:=zLT hsd hd
 have hs0:0 < sv.size:=by omega
 obtain⟨q,hqq⟩:∃q,((sv[0].toNat:Int)==48)=q:=⟨_,rfl⟩
 obtain⟨z,hzz⟩:∃z,decide (d=[48])=z:=⟨_,rfl⟩
 have hlead:(zAx 0 (fun x=>x.toNat==48) d&& !decide (d=[48]))=(q&& !z):=by
  rw[hzz]
  congr 1
  have h1:=(hget 0 hs0 h0).1
  have h2:zAx 0 (fun x=>x.toNat==48) d=(d[0].toNat==48):=by
   unfold zAx
   rw[List.getElem?_eq_getElem h0];rfl
  rw[h2,←h1,←hqq,Bool.eq_iff_iff,beq_iff_eq,beq_iff_eq]
  omega
 have hst:(sv.toList==[48])=z:=by
  rw[zZ,hsd,←hzz,Bool.eq_iff_iff,decide_eq_true_eq,decide_eq_true_eq]
  constructor
  · intro h
    rw[←zGT hd,h];rfl
  · intro h
    rw[h];rfl
 have hnl:(q&& !z)=false→d[0]≠48∨d=[48]:=by
  intro h
  cases hzc:z with
  | true=>right;exact of_decide_eq_true (by rw[hzz,hzc])
  | false=>
   left
   intro h3
   rw[hzc]at h
   have h4:q=false:=by simpa using h
   rw[h4,beq_eq_false_iff_ne]at hqq
   have h1:=(hget 0 hs0 h0).1
   rw[h3]at h1
   exact hqq (by rw[h1];rfl)
 obtain⟨b,hb⟩:∃b,zi [110] (u.drop (k+d.length))=b:=⟨_,rfl⟩
 obtain⟨bo,hbo⟩:∃b,zAx 0 (zu z) (u.drop (k+d.length))=b:=⟨_,rfl⟩
 obtain⟨bl,hbl⟩:∃b,zAx 0 zBI (u.drop (k+d.length))=b:=⟨_,rfl⟩
 have HL:=zD hdd
 have HD:=zD hd
 have HSV:=zD hsv
 have HSD:=zD hsd
 have HQ:=zD hq
 have HLEAD:=zD hlead
 have HNL:=zD hnl
 have HB:=zD hb
 have HBO:=zD hbo
 have HBL:=zD hbl
 have HZ:=zD hzz
 have HA:=zD ha
 have hR:=zD (hr.alloc (.cells zAw.toArray 44))
 have hAl:=zD (ha.alloc (Nat.le_trans hB (Nat.le_of_lt hg)) (.cells zAw.toArray 44))
 have HZ0:=zD (Blk.new w zAw 44)
 have hG0:=zD (zL w (.cells zAw.toArray 44) (some g))
 have hdl:d.length≤4096:=by omega
 clear hdd hd hd0 hsv hsd hq hlead hnl hb hbo hbl hzz ha hr hget hsz
 go_enter Tryz.func69,Tryz.ntmps69
 go_wp2_with fail
 refine(zFc hR.out rfl hAl.out hB (Nat.le_of_lt hk) hl HL.out HSV.out).mono ?_
 rintro e1 w1 ⟨rfl,hM1⟩
 have hS1:=zD (show SgS w w1 g A u.length c (k+d.length)from⟨⟨hM1.rd,zF hG0.out hM1.grown⟩,HZ0.out.grown hM1.grown (by omega)⟩)
 clear hM1 hR hAl HZ0 hG0
 go_upto_region 3 with(fail)
 go_cut [12] (fun v wx=>v=.bool (q&& !z)∧wx=w1)
 case first=>
  cases q<;>cases z
  all_goals
   go_wp2_with fail
   go_meet
   exact⟨rfl,rfl⟩
 case rest=>
  obtain⟨hv,hwx⟩:=hcut
  subst hv hwx
  obtain⟨ld,hld⟩:∃b,(q&& !z)=b:=⟨_,rfl⟩
  rw[hld]at HLEAD HNL⊢
  clear hld hqq hst
  cases ld with
  | true=>
   obtain⟨b0',fb0⟩:=hS1.out.zero.2 0 (by decide)
   obtain⟨b1',fb1⟩:=hS1.out.zero.2 1 (by decide)
   obtain⟨b2',fb2⟩:=hS1.out.zero.2 2 (by decide)
   obtain⟨b3',fb3⟩:=hS1.out.zero.2 3 (by decide)
   obtain⟨b4',fb4⟩:=hS1.out.zero.2 4 (by decide)
   obtain⟨b5',fb5⟩:=hS1.out.zero.2 5 (by decide)
   obtain⟨b6',fb6⟩:=hS1.out.zero.2 6 (by decide)
   obtain⟨b7',fb7⟩:=hS1.out.zero.2 7 (by decide)
   obtain⟨b8',fb8⟩:=hS1.out.zero.2 8 (by decide)
   go_wp2_with fail
   obtain⟨q0,q1,q2,q3,q4,q5,q6,q7,q8⟩:=ze (v0:=.int .i64 0) (v1:=.string ⟨#[]⟩) (v2:=.slice none 0 0) (v3:=.int .i64 0) (v4:=.int .i64 0) (v5:=.bool false) (v6:=.slice none 0 0) (v7:=.int .i64 0) (v8:=.bool false) hS1.out.zero rfl
   refine bodyPost_ret (v:=.tuple #[.agg #[.int .i64 0,.string ⟨#[]⟩,.slice none 0 0,.int .i64 0,.int .i64 0,.bool false,.slice none 0 0,.int .i64 0,.bool false],.int .i64 5]) (by simp[results,Tryz.results69,go_sem,q0,q1,q2,q3,q4,q5,q6,q7,q8]) rfl ?_
   obtain⟨z1,z2,z3⟩:=zMU HLEAD.out HQ.out
   subst z1
   exact⟨_,rfl,fun _=>rfl,fun h=>absurd h (by decide),(zy hS1.out.mv (Nat.le_refl _) hg).grown⟩
  | false=>
   have HNZ:=zD (HNL.out rfl)
   clear HNL
   go_wp2_with fail
   refine(zAV ⟨#[110]⟩ hS1.out.mv.rd rfl (HA.out.grown hS1.out.mv.grown hB (Nat.le_of_lt hg)) hle hl (by decide) HB.out).mono ?_
   rintro e2 w2 ⟨rfl,m2,hw2⟩
   have hS2:=zD (show SgS w w2 g A u.length c (k+d.length) by rw[hw2];exact hS1.out.drewN hg m2)
   clear hw2 m2 hS1
   cases b with
   | true=>
    have hkd:k+d.length+1≤u.length:=by
     have:=zCA HB.out
     rw[List.length_drop]at this
     simp at this
     omega
    have HQB:=zD (zRx HLEAD.out HB.out HQ.out)
    rw[List.drop_drop]at HQB
    have hc1:=hS2.out.mv.rd.c1
    have hf1:=hS2.out.mv.rd.f1
    have hM3:=zD (Mv.step hS2.out.mv (k':=k+d.length+1) (z:=(((k+d.length:Nat):Int)+1)) (by omega))
    have hz3:=zD (hS2.out.zero.setOther (S:=g) (i:=1) (by omega) (.int .i64 (((k+d.length:Nat):Int)+1)))
    obtain⟨p,hp⟩:∃p,k+d.length=p:=⟨_,rfl⟩
    rw[hp]at hc1 hM3 hz3
    go_wp2_with fail
    refine(zG5 (m:=m) (e:=e) (t:=t) HSD.out HD.out h0 HNZ.out hdl (by exact hM3.out.rd) rfl (HA.out.grown hM3.out.grown hB (Nat.le_of_lt hg)) hB (by omega) hl (by rw[←hp];exact HQB.out)).mono ?_
    rintro e4 w4 ⟨v,rfl,hbad,hgood,hG4⟩
    have hz4:=zD (hz3.out.grown hG4 (by omega))
    have HBAD:=zD hbad
    have HGOOD:=zD hgood
    have HG4:=zD (zF hM3.out.grown hG4)
    have hsz4:w.heap.size < w2.heap.size:=hS2.out.zero.1
    have hszs:(w2.setCell ⟨g,1,none⟩ (.int .i64 ((p:Int)+1))).heap.size=w2.heap.size:=by simp
    have HSZ:=zD hszs
    clear hbad hgood hG4 hszs hc1 hf1
    obtain⟨b0',fb0⟩:=hz4.out.2 0 (by decide)
    obtain⟨b1',fb1⟩:=hz4.out.2 1 (by decide)
    obtain⟨b2',fb2⟩:=hz4.out.2 2 (by decide)
    obtain⟨b3',fb3⟩:=hz4.out.2 3 (by decide)
    obtain⟨b4',fb4⟩:=hz4.out.2 4 (by decide)
    obtain⟨b5',fb5⟩:=hz4.out.2 5 (by decide)
    obtain⟨b6',fb6⟩:=hz4.out.2 6 (by decide)
    obtain⟨b7',fb7⟩:=hz4.out.2 7 (by decide)
    obtain⟨b8',fb8⟩:=hz4.out.2 8 (by decide)
    by_cases he:e=0
    · obtain⟨⟨vs,vm,hv,ho1,ho2⟩,hM4,hm4⟩:=HGOOD.out he
      subst hv
      obtain⟨As,cs,rfl,_,_⟩:=zb ho1
      obtain⟨Am,cm,rfl,_,_⟩:=zb ho2
      rw[HSZ.out]at ho1 ho2
      have HO1:=zD ho1
      have HO2:=zD ho2
      have HM4:=zD (Mv.then hM3.out hM4)
      have HE:=zD he
      have Hm4:=zD hm4
      obtain⟨ls,hls⟩:∃l,t.str.length=l:=⟨_,rfl⟩
      obtain⟨lm,hlm⟩:∃l,t.mag.length=l:=⟨_,rfl⟩
      rw[hls,hlm]
      rw[hls]at HO1
      rw[hlm]at HO2
      have HLS:=zD hls
      have HLM:=zD hlm
      clear ho1 ho2 hM4 hm4 he hls hlm
      go_wp2_with fail
      obtain⟨q0,q1,q2,q3,q4,q5,q6,q7,q8⟩:=ze (v0:=.int .i64 (t.kind:Int)) (v1:=.string ⟨t.text.toArray⟩) (v2:=.slice As ls cs) (v3:=.int .i64 t.nk) (v4:=.int .i64 t.nn) (v5:=.bool false) (v6:=.slice Am lm cm) (v7:=.int .i64 (t.pos:Int)) (v8:=.bool t.nl) hz4.out rfl
      refine bodyPost_ret (v:=.tuple #[.agg #[.int .i64 (t.kind:Int),.string ⟨t.text.toArray⟩,.slice As ls cs,.int .i64 t.nk,.int .i64 t.nn,.bool false,.slice Am lm cm,.int .i64 (t.pos:Int),.bool t.nl],.int .i64 (e:Int)]) (by simp[results,Tryz.results69,go_sem,q0,q1,q2,q3,q4,q5,q6,q7,q8]) rfl ?_
      refine⟨_,rfl,fun h=>absurd HE.out h,fun _=>⟨⟨_,_,rfl,?_,?_⟩,?_⟩,zAK HG4.out (Nat.le_refl _)⟩
      · rw[HLS.out];exact zAM (zAh HO1.out hsz4) (by omega)
      · rw[HLM.out];exact zAM (zAh HO2.out hsz4) (by omega)
      · rw[Hm4.out,show k+(d.length+1)=p+1 by omega]
        exact zy HM4.out (Nat.le_refl _) hg
    · obtain rfl:=HBAD.out he
      unfold noV
      go_wp2_with fail
      obtain⟨q0,q1,q2,q3,q4,q5,q6,q7,q8⟩:=ze (v0:=.int .i64 0) (v1:=.string ⟨#[]⟩) (v2:=.slice none 0 0) (v3:=.int .i64 0) (v4:=.int .i64 0) (v5:=.bool false) (v6:=.slice none 0 0) (v7:=.int .i64 0) (v8:=.bool false) hz4.out rfl
      refine bodyPost_ret (v:=.tuple #[.agg #[.int .i64 0,.string ⟨#[]⟩,.slice none 0 0,.int .i64 0,.int .i64 0,.bool false,.slice none 0 0,.int .i64 0,.bool false],.int .i64 (e:Int)]) (by simp[results,Tryz.results69,go_sem,q0,q1,q2,q3,q4,q5,q6,q7,q8]) rfl ?_
      exact⟨_,rfl,fun _=>rfl,fun h=>absurd h he,zAK HG4.out (Nat.le_refl _)⟩
   | false=>
    go_wp2_with fail
    refine(zGO hS2.out.mv.rd rfl (HA.out.grown hS2.out.mv.grown hB (Nat.le_of_lt hg)) hB hle hl HBO.out).mono ?_
    rintro e3 w3 ⟨rfl,hb3⟩
    have hS3:=zD (hS2.out.below hg hb3)
    clear hb3 hS2
    cases bo with
    | true=>
     obtain⟨b0',fb0⟩:=hS3.out.zero.2 0 (by decide)
     obtain⟨b1',fb1⟩:=hS3.out.zero.2 1 (by decide)
     obtain⟨b2',fb2⟩:=hS3.out.zero.2 2 (by decide)
     obtain⟨b3',fb3⟩:=hS3.out.zero.2 3 (by decide)
     obtain⟨b4',fb4⟩:=hS3.out.zero.2 4 (by decide)
     obtain⟨b5',fb5⟩:=hS3.out.zero.2 5 (by decide)
     obtain⟨b6',fb6⟩:=hS3.out.zero.2 6 (by decide)
     obtain⟨b7',fb7⟩:=hS3.out.zero.2 7 (by decide)
     obtain⟨b8',fb8⟩:=hS3.out.zero.2 8 (by decide)
     go_wp2_with fail
     obtain⟨q0,q1,q2,q3,q4,q5,q6,q7,q8⟩:=ze (v0:=.int .i64 0) (v1:=.string ⟨#[]⟩) (v2:=.slice none 0 0) (v3:=.int .i64 0) (v4:=.int .i64 0) (v5:=.bool false) (v6:=.slice none 0 0) (v7:=.int .i64 0) (v8:=.bool false) hS3.out.zero rfl
     refine bodyPost_ret (v:=.tuple #[.agg #[.int .i64 0,.string ⟨#[]⟩,.slice none 0 0,.int .i64 0,.int .i64 0,.bool false,.slice none 0 0,.int .i64 0,.bool false],.int .i64 6]) (by simp[results,Tryz.results69,go_sem,q0,q1,q2,q3,q4,q5,q6,q7,q8]) rfl ?_
     obtain⟨z1,z2,z3⟩:=zOT HLEAD.out HB.out (by rw[HZ.out];exact HBO.out) HQ.out
     subst z1
     exact⟨_,rfl,fun _=>rfl,fun h=>absurd h (by decide),(zy hS3.out.mv (Nat.le_refl _) hg).grown⟩
    | false=>
     go_wp2_with fail
     refine(zE6 (j:=0) hS3.out.mv.rd rfl (HA.out.grown hS3.out.mv.grown hB (Nat.le_of_lt hg)) hle hl (by omega) HBL.out).mono ?_
     rintro e4 w4 ⟨rfl,m4,hw4⟩
     have hS4:=zD (show SgS w w4 g A u.length c (k+d.length) by rw[hw4];exact hS3.out.drewN hg m4)
     clear hw4 m4 hS3
     cases bl with
     | true=>
      obtain⟨b0',fb0⟩:=hS4.out.zero.2 0 (by decide)
      obtain⟨b1',fb1⟩:=hS4.out.zero.2 1 (by decide)
      obtain⟨b2',fb2⟩:=hS4.out.zero.2 2 (by decide)
      obtain⟨b3',fb3⟩:=hS4.out.zero.2 3 (by decide)
      obtain⟨b4',fb4⟩:=hS4.out.zero.2 4 (by decide)
      obtain⟨b5',fb5⟩:=hS4.out.zero.2 5 (by decide)
      obtain⟨b6',fb6⟩:=hS4.out.zero.2 6 (by decide)
      obtain⟨b7',fb7⟩:=hS4.out.zero.2 7 (by decide)
      obtain⟨b8',fb8⟩:=hS4.out.zero.2 8 (by decide)
      go_wp2_with fail
      obtain⟨q0,q1,q2,q3,q4,q5,q6,q7,q8⟩:=ze (v0:=.int .i64 0) (v1:=.string ⟨#[]⟩) (v2:=.slice none 0 0) (v3:=.int .i64 0) (v4:=.int .i64 0) (v5:=.bool false) (v6:=.slice none 0 0) (v7:=.int .i64 0) (v8:=.bool false) hS4.out.zero rfl
      refine bodyPost_ret (v:=.tuple #[.agg #[.int .i64 0,.string ⟨#[]⟩,.slice none 0 0,.int .i64 0,.int .i64 0,.bool false,.slice none 0 0,.int .i64 0,.bool false],.int .i64 5]) (by simp[results,Tryz.results69,go_sem,q0,q1,q2,q3,q4,q5,q6,q7,q8]) rfl ?_
      obtain⟨z1,z2,z3⟩:=zOU HLEAD.out HB.out (by rw[HZ.out];exact HBO.out) HBL.out HQ.out
      subst z1
      exact⟨_,rfl,fun _=>rfl,fun h=>absurd h (by decide),(zy hS4.out.mv (Nat.le_refl _) hg).grown⟩
     | false=>
      go_wp2_with fail
      refine(zMT HSD.out HD.out hdl _).mono ?_
      rintro e5 w5 ⟨Aa,ca,rfl,hra,hca1,hca2,hb5⟩
      have hS5:=zD (hS4.out.below hg hb5)
      have HRA:=zD hra
      clear hb5 hS4 hra
      by_cases hbig:zr d≤9007199254740991
      · have HN:=zD (zJ1 h0 HD.out hbig)
        have HBIG:=zD hbig
        clear hbig
        go_wp2_with fail
        refine(zMS (Nat.le_refl _) rfl HRA.out hca1 hca2 (by omega) HN.out).mono ?_
        rintro e6 w6 ⟨rfl,hb6⟩
        have hS6:=zD (show SgS w (w6.alloc (.cells #[.int .i64 0,.int .i64 (zr d:Int)] 39)) g A u.length c (k+d.length)from((hS5.out.below hg hb6).below hg ((Below.refl _ _).alloc (Nat.le_refl _) _)))
        obtain⟨dv,hdv⟩:∃dv,zr d=dv:=⟨_,rfl⟩
        rw[hdv]at hS6⊢
        have HDV:=zD hdv
        clear hb6 hS5 hdv
        obtain⟨b0',fb0⟩:=hS6.out.zero.2 0 (by decide)
        obtain⟨b1',fb1⟩:=hS6.out.zero.2 1 (by decide)
        obtain⟨b2',fb2⟩:=hS6.out.zero.2 2 (by decide)
        obtain⟨b3',fb3⟩:=hS6.out.zero.2 3 (by decide)
        obtain⟨b4',fb4⟩:=hS6.out.zero.2 4 (by decide)
        obtain⟨b5',fb5⟩:=hS6.out.zero.2 5 (by decide)
        obtain⟨b6',fb6⟩:=hS6.out.zero.2 6 (by decide)
        obtain⟨b7',fb7⟩:=hS6.out.zero.2 7 (by decide)
        obtain⟨b8',fb8⟩:=hS6.out.zero.2 8 (by decide)
        go_wp2_with fail
        obtain⟨q0,q1,q2,q3,q4,q5,q6,q7,q8⟩:=ze (v0:=.int .i64 2) (v1:=.string ⟨#[]⟩) (v2:=.slice none 0 0) (v3:=.int .i64 0) (v4:=.int .i64 (dv:Int)) (v5:=.bool false) (v6:=.slice none 0 0) (v7:=.int .i64 0) (v8:=.bool false) hS6.out.zero rfl
        refine bodyPost_ret (v:=.tuple #[.agg #[.int .i64 2,.string ⟨#[]⟩,.slice none 0 0,.int .i64 0,.int .i64 (dv:Int),.bool false,.slice none 0 0,.int .i64 0,.bool false],.int .i64 0]) (by simp[results,Tryz.results69,go_sem,q0,q1,q2,q3,q4,q5,q6,q7,q8]) rfl ?_
        obtain⟨z1,z2,z3⟩:=zMW HLEAD.out HB.out (by rw[HZ.out];exact HBO.out) HBL.out HBIG.out HQ.out
        subst z1 z2 z3
        exact⟨_,rfl,fun h=>absurd rfl h,fun _=>⟨⟨_,_,by rw[HDV.out];rfl,World.ownsRow_nil _ _ _ _,World.ownsRow_nil _ _ _ _⟩,zy hS6.out.mv (Nat.le_refl _) hg⟩,(zy hS6.out.mv (Nat.le_refl _) hg).grown⟩
      · have HN:=zD (zEr h0 HD.out hbig)
        have HBIG:=zD hbig
        clear hbig
        go_wp2_with fail
        refine(zMS (Nat.le_refl _) rfl HRA.out hca1 hca2 (by omega) HN.out).mono ?_
        rintro e6 w6 ⟨rfl,hb6⟩
        have hS6:=zD (show SgS w (w6.alloc (.cells #[.int .i64 2,.int .i64 0] 39)) g A u.length c (k+d.length)from((hS5.out.below hg hb6).below hg ((Below.refl _ _).alloc (Nat.le_refl _) _)))
        clear hb6 hS5
        obtain⟨b0',fb0⟩:=hS6.out.zero.2 0 (by decide)
        obtain⟨b1',fb1⟩:=hS6.out.zero.2 1 (by decide)
        obtain⟨b2',fb2⟩:=hS6.out.zero.2 2 (by decide)
        obtain⟨b3',fb3⟩:=hS6.out.zero.2 3 (by decide)
        obtain⟨b4',fb4⟩:=hS6.out.zero.2 4 (by decide)
        obtain⟨b5',fb5⟩:=hS6.out.zero.2 5 (by decide)
        obtain⟨b6',fb6⟩:=hS6.out.zero.2 6 (by decide)
        obtain⟨b7',fb7⟩:=hS6.out.zero.2 7 (by decide)
        obtain⟨b8',fb8⟩:=hS6.out.zero.2 8 (by decide)
        go_wp2_with fail
        obtain⟨q0,q1,q2,q3,q4,q5,q6,q7,q8⟩:=ze (v0:=.int .i64 0) (v1:=.string ⟨#[]⟩) (v2:=.slice none 0 0) (v3:=.int .i64 0) (v4:=.int .i64 0) (v5:=.bool false) (v6:=.slice none 0 0) (v7:=.int .i64 0) (v8:=.bool false) hS6.out.zero rfl
        refine bodyPost_ret (v:=.tuple #[.agg #[.int .i64 0,.string ⟨#[]⟩,.slice none 0 0,.int .i64 0,.int .i64 0,.bool false,.slice none 0 0,.int .i64 0,.bool false],.int .i64 6]) (by simp[results,Tryz.results69,go_sem,q0,q1,q2,q3,q4,q5,q6,q7,q8]) rfl ?_
        obtain⟨z1,z2,z3⟩:=zMV HLEAD.out HB.out (by rw[HZ.out];exact HBO.out) HBL.out HBIG.out HQ.out
        subst z1
        exact⟨_,rfl,fun _=>rfl,fun h=>absurd h (by decide),(zy hS6.out.mv (Nat.le_refl _) hg).grown⟩
theorem zJ2 {A:Option Addr} {c g B k n:Nat} {u:List UInt16} {w:World} (hr:Rd w g A n c k) (hn:u.length=n) (ha:Reads w B 1 A n (zAH u)) (hB:B≤g) (hk:k < u.length) (hl:n≤4096) (hc:n≤c) {m e:Nat} {t:Tok} (hq:zAo (k==0) (u.drop k)=(e,t,m)):
 Calls Tryz.prog 40 #[.pointer (some ⟨g,0,none⟩)] w fun ev w'=>∃v,ev=.returned (.tuple #[v,.int .i64 (e:Int)])∧(e≠0→v=noV)∧(e=0→zRi w' w.heap.size t v∧Mv w w' g A n c (k+m))∧w.grownBy w' (some g):=by
 subst hn
 have hg:=hr.lt
 obtain⟨x,hx⟩:∃x,u[k]=x:=⟨_,rfl⟩
 have hdr:=List.drop_eq_getElem_cons hk
 rw[hx]at hdr
 rw[hdr,zAY]at hq
 obtain⟨blk,off,rfl,hblk,hcell⟩:=ha.spotL (by omega)
 have hca:=hcell k hk
 rw[hx]at hca
 have hca':=World.cell?_alloc_lt w (.cells zAw.toArray 44) ⟨blk,off+k,none⟩ (by show blk < _;omega)
 rw[hca]at hca'
 have HX:=zD hx
 have HDR:=zD hdr
 have HQ:=zD hq
 have HA:=zD ha
 have hS0:=zD (show SgS w (w.alloc (.cells zAw.toArray 44)) g (some ⟨blk,off,none⟩) u.length c k from⟨⟨hr.alloc _,zL w _ _⟩,Blk.new w zAw 44⟩)
 have hc0:=hr.c0
 have hc1:=hr.c1
 have hx16:=x.toNat_lt
 have hbw:blk < w.heap.size:=by omega
 clear hcell hx hdr hq ha hr hca'
 go_enter Tryz.func40,Tryz.ntmps40
 go_wp2_with fail
 go_quiet (fail)
 have hM1:=zD (hS0.out.drewN hg nq).mv
 have hz1:=zD (hS0.out.drewN hg nq).zero
 obtain⟨w1,hw1⟩:∃w1,(w.alloc (.cells zAw.toArray 44)).drewN nq=w1:=⟨_,rfl⟩
 have hsz1:w.heap.size < w1.heap.size:=by rw[←hw1];simp
 have HW1:=zD hw1
 rw[hw1]at hM1 hz1
 have HW1':=zD (show(w.alloc (.cells #[.int .i64 0,.string ⟨#[]⟩,.slice none 0 0,.int .i64 0,.int .i64 0,.bool false,.slice none 0 0,.int .i64 0,.bool false] 44)).drewN nq=w1 from hw1)
 rw[HW1'.out]
 have hA1:=zD (HA.out.grown hM1.out.grown hB (Nat.le_of_lt hg))
 clear hw1 hS0 hc0 hc1 hca HW1 HW1'
 cases hlet:zBI x with
 | true=>
  have HQ2:=zD (show zDD (u.drop k)=(e,t,m) by
   have:=HQ.out
   rw[if_pos hlet]at this
   rw[HDR.out];exact this)
  have HT:=zD hlet
  go_wp2_with (go_at_call 66;refine(zAm _ _).mono ?_;rintro e2 w2 ⟨rfl,rfl⟩)
  refine(zJs (m:=m) (e:=e) (t:=t) hM1.out.rd rfl hA1.out hB (Nat.le_of_lt hk) hl HQ2.out).mono ?_
  rintro e4 w4 ⟨v,rfl,hbad,hgood,hG4⟩
  have hz4:=zD (hz1.out.grown hG4 (by omega))
  have HBAD:=zD hbad
  have HGOOD:=zD hgood
  have HG4:=zD (zF hM1.out.grown hG4)
  clear hbad hgood hG4
  obtain⟨b0',fb0⟩:=hz4.out.2 0 (by decide)
  obtain⟨b1',fb1⟩:=hz4.out.2 1 (by decide)
  obtain⟨b2',fb2⟩:=hz4.out.2 2 (by decide)
  obtain⟨b3',fb3⟩:=hz4.out.2 3 (by decide)
  obtain⟨b4',fb4⟩:=hz4.out.2 4 (by decide)
  obtain⟨b5',fb5⟩:=hz4.out.2 5 (by decide)
  obtain⟨b6',fb6⟩:=hz4.out.2 6 (by decide)
  obtain⟨b7',fb7⟩:=hz4.out.2 7 (by decide)
  obtain⟨b8',fb8⟩:=hz4.out.2 8 (by decide)
  by_cases he:e=0
  · obtain⟨⟨vs,vm,hv,ho1,ho2⟩,hM4⟩:=HGOOD.out he
    subst hv
    obtain⟨As,cs,rfl,_,_⟩:=zb ho1
    obtain⟨Am,cm,rfl,_,_⟩:=zb ho2
    have HO1:=zD ho1
    have HO2:=zD ho2
    have HM4:=zD (Mv.then hM1.out hM4)
    have HE:=zD he
    obtain⟨ls,hls⟩:∃l,t.str.length=l:=⟨_,rfl⟩
    obtain⟨lm,hlm⟩:∃l,t.mag.length=l:=⟨_,rfl⟩
    rw[hls,hlm]
    rw[hls]at HO1
    rw[hlm]at HO2
    have HLS:=zD hls
    have HLM:=zD hlm
    clear ho1 ho2 hM4 he hls hlm
    go_wp2_with fail
    obtain⟨q0,q1,q2,q3,q4,q5,q6,q7,q8⟩:=ze (v0:=.int .i64 (t.kind:Int)) (v1:=.string ⟨t.text.toArray⟩) (v2:=.slice As ls cs) (v3:=.int .i64 t.nk) (v4:=.int .i64 t.nn) (v5:=.bool false) (v6:=.slice Am lm cm) (v7:=.int .i64 (t.pos:Int)) (v8:=.bool t.nl) hz4.out rfl
    refine bodyPost_ret (v:=.tuple #[.agg #[.int .i64 (t.kind:Int),.string ⟨t.text.toArray⟩,.slice As ls cs,.int .i64 t.nk,.int .i64 t.nn,.bool false,.slice Am lm cm,.int .i64 (t.pos:Int),.bool t.nl],.int .i64 (e:Int)]) (by simp[results,Tryz.results40,go_sem,q0,q1,q2,q3,q4,q5,q6,q7,q8]) rfl ?_
    refine⟨_,rfl,fun h=>absurd HE.out h,fun _=>⟨⟨_,_,rfl,?_,?_⟩,?_⟩,zAK HG4.out (Nat.le_refl _)⟩
    · rw[HLS.out];exact zAM (zAh HO1.out hsz1) (by omega)
    · rw[HLM.out];exact zAM (zAh HO2.out hsz1) (by omega)
    · exact zy HM4.out (Nat.le_refl _) hg
  · obtain rfl:=HBAD.out he
    unfold noV
    go_wp2_with fail
    obtain⟨q0,q1,q2,q3,q4,q5,q6,q7,q8⟩:=ze (v0:=.int .i64 0) (v1:=.string ⟨#[]⟩) (v2:=.slice none 0 0) (v3:=.int .i64 0) (v4:=.int .i64 0) (v5:=.bool false) (v6:=.slice none 0 0) (v7:=.int .i64 0) (v8:=.bool false) hz4.out rfl
    refine bodyPost_ret (v:=.tuple #[.agg #[.int .i64 0,.string ⟨#[]⟩,.slice none 0 0,.int .i64 0,.int .i64 0,.bool false,.slice none 0 0,.int .i64 0,.bool false],.int .i64 (e:Int)]) (by simp[results,Tryz.results40,go_sem,q0,q1,q2,q3,q4,q5,q6,q7,q8]) rfl ?_
    exact⟨_,rfl,fun _=>rfl,fun h=>absurd h he,zAK HG4.out (Nat.le_refl _)⟩
 | false=>
  cases hdig:zQ x with
  | true=>
   have HQ2:=zD (show zBg (u.drop k)=(e,t,m) by
    have:=HQ.out
    rw[if_neg (by rw[hlet];simp),if_pos hdig]at this
    rw[HDR.out];exact this)
   go_wp2_with (first | (go_at_call 66;refine(zAm _ _).mono ?_;rintro e2 w2 ⟨rfl,rfl⟩) | (go_at_call 68;refine(zAG _ _).mono ?_;rintro e2 w2 ⟨rfl,rfl⟩))
   refine(zHD (m:=m) (e:=e) (t:=t) hM1.out.rd rfl hA1.out hB hk (by rw[HX.out];exact hdig) hl HQ2.out).mono ?_
   rintro e4 w4 ⟨v,rfl,hbad,hgood,hG4⟩
   have hz4:=zD (hz1.out.grown hG4 (by omega))
   have HBAD:=zD hbad
   have HGOOD:=zD hgood
   have HG4:=zD (zF hM1.out.grown hG4)
   clear hbad hgood hG4
   obtain⟨b0',fb0⟩:=hz4.out.2 0 (by decide)
   obtain⟨b1',fb1⟩:=hz4.out.2 1 (by decide)
   obtain⟨b2',fb2⟩:=hz4.out.2 2 (by decide)
   obtain⟨b3',fb3⟩:=hz4.out.2 3 (by decide)
   obtain⟨b4',fb4⟩:=hz4.out.2 4 (by decide)
   obtain⟨b5',fb5⟩:=hz4.out.2 5 (by decide)
   obtain⟨b6',fb6⟩:=hz4.out.2 6 (by decide)
   obtain⟨b7',fb7⟩:=hz4.out.2 7 (by decide)
   obtain⟨b8',fb8⟩:=hz4.out.2 8 (by decide)
   by_cases he:e=0
   · obtain⟨⟨vs,vm,hv,ho1,ho2⟩,hM4⟩:=HGOOD.out he
     subst hv
     obtain⟨As,cs,rfl,_,_⟩:=zb ho1
     obtain⟨Am,cm,rfl,_,_⟩:=zb ho2
     have HO1:=zD ho1
     have HO2:=zD ho2
     have HM4:=zD (Mv.then hM1.out hM4)
     have HE:=zD he
     obtain⟨ls,hls⟩:∃l,t.str.length=l:=⟨_,rfl⟩
     obtain⟨lm,hlm⟩:∃l,t.mag.length=l:=⟨_,rfl⟩
     rw[hls,hlm]
     rw[hls]at HO1
     rw[hlm]at HO2
     have HLS:=zD hls
     have HLM:=zD hlm
     clear ho1 ho2 hM4 he hls hlm
     go_wp2_with fail
     obtain⟨q0,q1,q2,q3,q4,q5,q6,q7,q8⟩:=ze (v0:=.int .i64 (t.kind:Int)) (v1:=.string ⟨t.text.toArray⟩) (v2:=.slice As ls cs) (v3:=.int .i64 t.nk) (v4:=.int .i64 t.nn) (v5:=.bool false) (v6:=.slice Am lm cm) (v7:=.int .i64 (t.pos:Int)) (v8:=.bool t.nl) hz4.out rfl
     refine bodyPost_ret (v:=.tuple #[.agg #[.int .i64 (t.kind:Int),.string ⟨t.text.toArray⟩,.slice As ls cs,.int .i64 t.nk,.int .i64 t.nn,.bool false,.slice Am lm cm,.int .i64 (t.pos:Int),.bool t.nl],.int .i64 (e:Int)]) (by simp[results,Tryz.results40,go_sem,q0,q1,q2,q3,q4,q5,q6,q7,q8]) rfl ?_
     refine⟨_,rfl,fun h=>absurd HE.out h,fun _=>⟨⟨_,_,rfl,?_,?_⟩,?_⟩,zAK HG4.out (Nat.le_refl _)⟩
     · rw[HLS.out];exact zAM (zAh HO1.out hsz1) (by omega)
     · rw[HLM.out];exact zAM (zAh HO2.out hsz1) (by omega)
     · exact zy HM4.out (Nat.le_refl _) hg
   · obtain rfl:=HBAD.out he
     unfold noV
     go_wp2_with fail
     obtain⟨q0,q1,q2,q3,q4,q5,q6,q7,q8⟩:=ze (v0:=.int .i64 0) (v1:=.string ⟨#[]⟩) (v2:=.slice none 0 0) (v3:=.int .i64 0) (v4:=.int .i64 0) (v5:=.bool false) (v6:=.slice none 0 0) (v7:=.int .i64 0) (v8:=.bool false) hz4.out rfl
     refine bodyPost_ret (v:=.tuple #[.agg #[.int .i64 0,.string ⟨#[]⟩,.slice none 0 0,.int .i64 0,.int .i64 0,.bool false,.slice none 0 0,.int .i64 0,.bool false],.int .i64 (e:Int)]) (by simp[results,Tryz.results40,go_sem,q0,q1,q2,q3,q4,q5,q6,q7,q8]) rfl ?_
     exact⟨_,rfl,fun _=>rfl,fun h=>absurd h he,zAK HG4.out (Nat.le_refl _)⟩
  | false=>
   by_cases h39:x.toNat=39
   · have e39:((x.toNat:Int)==39)=true:=by rw[h39];rfl
     have HQU:=zD (show(x.toNat==39 || x.toNat==34)=true by rw[h39];rfl)
     clear h39
     have HQ2:=zD (show zAr u[k] (u.drop (k+1))=(e,t,m) by
      have:=HQ.out
      rw[if_neg (by rw[hlet];simp),if_neg (by rw[hdig];simp),if_pos HQU.out]at this
      rw[HX.out];exact this)
     go_wp2_with (first | (go_at_call 66;refine(zAm _ _).mono ?_;rintro e2 w2 ⟨rfl,rfl⟩) | (go_at_call 68;refine(zAG _ _).mono ?_;rintro e2 w2 ⟨rfl,rfl⟩))
     refine(zEU (m:=m) (e:=e) (t:=t) hM1.out.rd rfl hA1.out hB hk hl HQ2.out).mono ?_
     rintro e4 w4 ⟨v,rfl,hbad,hgood,hG4⟩
     have hz4:=zD (hz1.out.grown hG4 (by omega))
     have HBAD:=zD hbad
     have HGOOD:=zD hgood
     have HG4:=zD (zF hM1.out.grown hG4)
     clear hbad hgood hG4
     obtain⟨b0',fb0⟩:=hz4.out.2 0 (by decide)
     obtain⟨b1',fb1⟩:=hz4.out.2 1 (by decide)
     obtain⟨b2',fb2⟩:=hz4.out.2 2 (by decide)
     obtain⟨b3',fb3⟩:=hz4.out.2 3 (by decide)
     obtain⟨b4',fb4⟩:=hz4.out.2 4 (by decide)
     obtain⟨b5',fb5⟩:=hz4.out.2 5 (by decide)
     obtain⟨b6',fb6⟩:=hz4.out.2 6 (by decide)
     obtain⟨b7',fb7⟩:=hz4.out.2 7 (by decide)
     obtain⟨b8',fb8⟩:=hz4.out.2 8 (by decide)
     by_cases he:e=0
     · obtain⟨⟨vs,vm,hv,ho1,ho2⟩,hM4⟩:=HGOOD.out he
       subst hv
       obtain⟨As,cs,rfl,_,_⟩:=zb ho1
       obtain⟨Am,cm,rfl,_,_⟩:=zb ho2
       have HO1:=zD ho1
       have HO2:=zD ho2
       have HM4:=zD (Mv.then hM1.out hM4)
       have HE:=zD he
       obtain⟨ls,hls⟩:∃l,t.str.length=l:=⟨_,rfl⟩
       obtain⟨lm,hlm⟩:∃l,t.mag.length=l:=⟨_,rfl⟩
       rw[hls,hlm]
       rw[hls]at HO1
       rw[hlm]at HO2
       have HLS:=zD hls
       have HLM:=zD hlm
       clear ho1 ho2 hM4 he hls hlm
       go_wp2_with fail
       obtain⟨q0,q1,q2,q3,q4,q5,q6,q7,q8⟩:=ze (v0:=.int .i64 (t.kind:Int)) (v1:=.string ⟨t.text.toArray⟩) (v2:=.slice As ls cs) (v3:=.int .i64 t.nk) (v4:=.int .i64 t.nn) (v5:=.bool false) (v6:=.slice Am lm cm) (v7:=.int .i64 (t.pos:Int)) (v8:=.bool t.nl) hz4.out rfl
       refine bodyPost_ret (v:=.tuple #[.agg #[.int .i64 (t.kind:Int),.string ⟨t.text.toArray⟩,.slice As ls cs,.int .i64 t.nk,.int .i64 t.nn,.bool false,.slice Am lm cm,.int .i64 (t.pos:Int),.bool t.nl],.int .i64 (e:Int)]) (by simp[results,Tryz.results40,go_sem,q0,q1,q2,q3,q4,q5,q6,q7,q8]) rfl ?_
       refine⟨_,rfl,fun h=>absurd HE.out h,fun _=>⟨⟨_,_,rfl,?_,?_⟩,?_⟩,zAK HG4.out (Nat.le_refl _)⟩
       · rw[HLS.out];exact zAM (zAh HO1.out hsz1) (by omega)
       · rw[HLM.out];exact zAM (zAh HO2.out hsz1) (by omega)
       · exact zy HM4.out (Nat.le_refl _) hg
     · obtain rfl:=HBAD.out he
       unfold noV
       go_wp2_with fail
       obtain⟨q0,q1,q2,q3,q4,q5,q6,q7,q8⟩:=ze (v0:=.int .i64 0) (v1:=.string ⟨#[]⟩) (v2:=.slice none 0 0) (v3:=.int .i64 0) (v4:=.int .i64 0) (v5:=.bool false) (v6:=.slice none 0 0) (v7:=.int .i64 0) (v8:=.bool false) hz4.out rfl
       refine bodyPost_ret (v:=.tuple #[.agg #[.int .i64 0,.string ⟨#[]⟩,.slice none 0 0,.int .i64 0,.int .i64 0,.bool false,.slice none 0 0,.int .i64 0,.bool false],.int .i64 (e:Int)]) (by simp[results,Tryz.results40,go_sem,q0,q1,q2,q3,q4,q5,q6,q7,q8]) rfl ?_
       exact⟨_,rfl,fun _=>rfl,fun h=>absurd h he,zAK HG4.out (Nat.le_refl _)⟩
   · have e39:((x.toNat:Int)==39)=false:=beq_eq_false_iff_ne.2 (by omega)
     by_cases h34:x.toNat=34
     · have e34:((x.toNat:Int)==34)=true:=by rw[h34];rfl
       have HQU:=zD (show(x.toNat==39 || x.toNat==34)=true by rw[h34];rfl)
       clear h34 h39
       have HQ2:=zD (show zAr u[k] (u.drop (k+1))=(e,t,m) by
        have:=HQ.out
        rw[if_neg (by rw[hlet];simp),if_neg (by rw[hdig];simp),if_pos HQU.out]at this
        rw[HX.out];exact this)
       go_wp2_with (first | (go_at_call 66;refine(zAm _ _).mono ?_;rintro e2 w2 ⟨rfl,rfl⟩) | (go_at_call 68;refine(zAG _ _).mono ?_;rintro e2 w2 ⟨rfl,rfl⟩))
       refine(zEU (m:=m) (e:=e) (t:=t) hM1.out.rd rfl hA1.out hB hk hl HQ2.out).mono ?_
       rintro e4 w4 ⟨v,rfl,hbad,hgood,hG4⟩
       have hz4:=zD (hz1.out.grown hG4 (by omega))
       have HBAD:=zD hbad
       have HGOOD:=zD hgood
       have HG4:=zD (zF hM1.out.grown hG4)
       clear hbad hgood hG4
       obtain⟨b0',fb0⟩:=hz4.out.2 0 (by decide)
       obtain⟨b1',fb1⟩:=hz4.out.2 1 (by decide)
       obtain⟨b2',fb2⟩:=hz4.out.2 2 (by decide)
       obtain⟨b3',fb3⟩:=hz4.out.2 3 (by decide)
       obtain⟨b4',fb4⟩:=hz4.out.2 4 (by decide)
       obtain⟨b5',fb5⟩:=hz4.out.2 5 (by decide)
       obtain⟨b6',fb6⟩:=hz4.out.2 6 (by decide)
       obtain⟨b7',fb7⟩:=hz4.out.2 7 (by decide)
       obtain⟨b8',fb8⟩:=hz4.out.2 8 (by decide)
       by_cases he:e=0
       · obtain⟨⟨vs,vm,hv,ho1,ho2⟩,hM4⟩:=HGOOD.out he
         subst hv
         obtain⟨As,cs,rfl,_,_⟩:=zb ho1
         obtain⟨Am,cm,rfl,_,_⟩:=zb ho2
         have HO1:=zD ho1
         have HO2:=zD ho2
         have HM4:=zD (Mv.then hM1.out hM4)
         have HE:=zD he
         obtain⟨ls,hls⟩:∃l,t.str.length=l:=⟨_,rfl⟩
         obtain⟨lm,hlm⟩:∃l,t.mag.length=l:=⟨_,rfl⟩
         rw[hls,hlm]
         rw[hls]at HO1
         rw[hlm]at HO2
         have HLS:=zD hls
         have HLM:=zD hlm
         clear ho1 ho2 hM4 he hls hlm
         go_wp2_with fail
         obtain⟨q0,q1,q2,q3,q4,q5,q6,q7,q8⟩:=ze (v0:=.int .i64 (t.kind:Int)) (v1:=.string ⟨t.text.toArray⟩) (v2:=.slice As ls cs) (v3:=.int .i64 t.nk) (v4:=.int .i64 t.nn) (v5:=.bool false) (v6:=.slice Am lm cm) (v7:=.int .i64 (t.pos:Int)) (v8:=.bool t.nl) hz4.out rfl
         refine bodyPost_ret (v:=.tuple #[.agg #[.int .i64 (t.kind:Int),.string ⟨t.text.toArray⟩,.slice As ls cs,.int .i64 t.nk,.int .i64 t.nn,.bool false,.slice Am lm cm,.int .i64 (t.pos:Int),.bool t.nl],.int .i64 (e:Int)]) (by simp[results,Tryz.results40,go_sem,q0,q1,q2,q3,q4,q5,q6,q7,q8]) rfl ?_
         refine⟨_,rfl,fun h=>absurd HE.out h,fun _=>⟨⟨_,_,rfl,?_,?_⟩,?_⟩,zAK HG4.out (Nat.le_refl _)⟩
         · rw[HLS.out];exact zAM (zAh HO1.out hsz1) (by omega)
         · rw[HLM.out];exact zAM (zAh HO2.out hsz1) (by omega)
         · exact zy HM4.out (Nat.le_refl _) hg
       · obtain rfl:=HBAD.out he
         unfold noV
         go_wp2_with fail
         obtain⟨q0,q1,q2,q3,q4,q5,q6,q7,q8⟩:=ze (v0:=.int .i64 0) (v1:=.string ⟨#[]⟩) (v2:=.slice none 0 0) (v3:=.int .i64 0) (v4:=.int .i64 0) (v5:=.bool false) (v6:=.slice none 0 0) (v7:=.int .i64 0) (v8:=.bool false) hz4.out rfl
         refine bodyPost_ret (v:=.tuple #[.agg #[.int .i64 0,.string ⟨#[]⟩,.slice none 0 0,.int .i64 0,.int .i64 0,.bool false,.slice none 0 0,.int .i64 0,.bool false],.int .i64 (e:Int)]) (by simp[results,Tryz.results40,go_sem,q0,q1,q2,q3,q4,q5,q6,q7,q8]) rfl ?_
         exact⟨_,rfl,fun _=>rfl,fun h=>absurd h he,zAK HG4.out (Nat.le_refl _)⟩
     · have e34:((x.toNat:Int)==34)=false:=beq_eq_false_iff_ne.2 (by omega)
       have HQU:=zD (show(x.toNat==39 || x.toNat==34)=false by
        rw[Bool.or_eq_false_iff]
        exact⟨beq_eq_false_iff_ne.2 h39,beq_eq_false_iff_ne.2 h34⟩)
       clear h39 h34
       obtain⟨b,hb⟩:∃b,zAx 1 zQ (u.drop k)=b:=⟨_,rfl⟩
       have HB0:=zD (show zAx 0 zQ (u.drop (k+1))=b by
        rw[←hb,HDR.out]
        unfold zAx
        rfl)
       have HB:=zD hb
       clear hb
       by_cases h46:x.toNat=46
       · have e46:((x.toNat:Int)==46)=true:=by rw[h46];rfl
         have H46:=zD (show(x.toNat==46)=true by rw[h46];rfl)
         clear h46
         go_wp2_with (first | (go_at_call 66;refine(zAm _ _).mono ?_;rintro e2 w2 ⟨rfl,rfl⟩) | (go_at_call 68;refine(zAG _ _).mono ?_;rintro e2 w2 ⟨rfl,rfl⟩))
         refine(zAU (j:=1) hM1.out.rd rfl hA1.out (Nat.le_of_lt hk) hl (by omega) HB.out).mono ?_
         rintro e3 w3 ⟨rfl,m3,hw3⟩
         have hM3:=zD (show Mv w w3 g (some ⟨blk,off,none⟩) u.length c k by rw[hw3];exact hM1.out.drewN m3)
         have hz3:=zD (show Blk w3 w.heap.size zAw by rw[hw3];exact hz1.out.grown (zAB _ (some g) _) (by omega))
         have hsz3:w.heap.size < w3.heap.size:=by rw[hw3];simpa using hsz1
         have hA3:=zD (HA.out.grown hM3.out.grown hB (Nat.le_of_lt hg))
         clear hw3 m3 hM1 hz1 hA1 hsz1
         cases b with
         | true=>
          obtain⟨b0',fb0⟩:=hz3.out.2 0 (by decide)
          obtain⟨b1',fb1⟩:=hz3.out.2 1 (by decide)
          obtain⟨b2',fb2⟩:=hz3.out.2 2 (by decide)
          obtain⟨b3',fb3⟩:=hz3.out.2 3 (by decide)
          obtain⟨b4',fb4⟩:=hz3.out.2 4 (by decide)
          obtain⟨b5',fb5⟩:=hz3.out.2 5 (by decide)
          obtain⟨b6',fb6⟩:=hz3.out.2 6 (by decide)
          obtain⟨b7',fb7⟩:=hz3.out.2 7 (by decide)
          obtain⟨b8',fb8⟩:=hz3.out.2 8 (by decide)
          go_wp2_with fail
          obtain⟨q0,q1,q2,q3,q4,q5,q6,q7,q8⟩:=ze (v0:=.int .i64 0) (v1:=.string ⟨#[]⟩) (v2:=.slice none 0 0) (v3:=.int .i64 0) (v4:=.int .i64 0) (v5:=.bool false) (v6:=.slice none 0 0) (v7:=.int .i64 0) (v8:=.bool false) hz3.out rfl
          refine bodyPost_ret (v:=.tuple #[.agg #[.int .i64 0,.string ⟨#[]⟩,.slice none 0 0,.int .i64 0,.int .i64 0,.bool false,.slice none 0 0,.int .i64 0,.bool false],.int .i64 6]) (by simp[results,Tryz.results40,go_sem,q0,q1,q2,q3,q4,q5,q6,q7,q8]) rfl ?_
          have hq:=HQ.out
          rw[if_neg (by rw[hlet];simp),if_neg (by rw[hdig];simp),if_neg (by rw[HQU.out];simp),if_pos (by rw[H46.out,HB0.out];rfl)]at hq
          obtain⟨z1,z2,z3⟩:=zBi hq
          subst z1
          exact⟨_,rfl,fun _=>rfl,fun h=>absurd h (by decide),(zy hM3.out (Nat.le_refl _) hg).grown⟩
         | false=>
          have HQ2:=zD (show zBY (k==0) (u.drop k)=(e,t,m) by
           have:=HQ.out
           rw[if_neg (by rw[hlet];simp),if_neg (by rw[hdig];simp),if_neg (by rw[HQU.out];simp),if_neg (by rw[HB0.out];simp)]at this
           rw[HDR.out];exact this)
          go_wp2_with fail
          refine(zFA (m:=m) (e:=e) (t:=t) hM3.out.rd rfl hA3.out hB hk hl hc HQ2.out).mono ?_
          rintro e4 w4 ⟨v,rfl,hbad,hgood,hG4⟩
          have hz4:=zD (hz3.out.grown hG4 (by omega))
          have HBAD:=zD hbad
          have HGOOD:=zD hgood
          have HG4:=zD (zF hM3.out.grown hG4)
          clear hbad hgood hG4
          obtain⟨b0',fb0⟩:=hz4.out.2 0 (by decide)
          obtain⟨b1',fb1⟩:=hz4.out.2 1 (by decide)
          obtain⟨b2',fb2⟩:=hz4.out.2 2 (by decide)
          obtain⟨b3',fb3⟩:=hz4.out.2 3 (by decide)
          obtain⟨b4',fb4⟩:=hz4.out.2 4 (by decide)
          obtain⟨b5',fb5⟩:=hz4.out.2 5 (by decide)
          obtain⟨b6',fb6⟩:=hz4.out.2 6 (by decide)
          obtain⟨b7',fb7⟩:=hz4.out.2 7 (by decide)
          obtain⟨b8',fb8⟩:=hz4.out.2 8 (by decide)
          by_cases he:e=0
          · obtain⟨⟨vs,vm,hv,ho1,ho2⟩,hM4⟩:=HGOOD.out he
            subst hv
            obtain⟨As,cs,rfl,_,_⟩:=zb ho1
            obtain⟨Am,cm,rfl,_,_⟩:=zb ho2
            have HO1:=zD ho1
            have HO2:=zD ho2
            have HM4:=zD (Mv.then hM3.out hM4)
            have HE:=zD he
            obtain⟨ls,hls⟩:∃l,t.str.length=l:=⟨_,rfl⟩
            obtain⟨lm,hlm⟩:∃l,t.mag.length=l:=⟨_,rfl⟩
            rw[hls,hlm]
            rw[hls]at HO1
            rw[hlm]at HO2
            have HLS:=zD hls
            have HLM:=zD hlm
            clear ho1 ho2 hM4 he hls hlm
            go_wp2_with fail
            obtain⟨q0,q1,q2,q3,q4,q5,q6,q7,q8⟩:=ze (v0:=.int .i64 (t.kind:Int)) (v1:=.string ⟨t.text.toArray⟩) (v2:=.slice As ls cs) (v3:=.int .i64 t.nk) (v4:=.int .i64 t.nn) (v5:=.bool false) (v6:=.slice Am lm cm) (v7:=.int .i64 (t.pos:Int)) (v8:=.bool t.nl) hz4.out rfl
            refine bodyPost_ret (v:=.tuple #[.agg #[.int .i64 (t.kind:Int),.string ⟨t.text.toArray⟩,.slice As ls cs,.int .i64 t.nk,.int .i64 t.nn,.bool false,.slice Am lm cm,.int .i64 (t.pos:Int),.bool t.nl],.int .i64 (e:Int)]) (by simp[results,Tryz.results40,go_sem,q0,q1,q2,q3,q4,q5,q6,q7,q8]) rfl ?_
            refine⟨_,rfl,fun h=>absurd HE.out h,fun _=>⟨⟨_,_,rfl,?_,?_⟩,?_⟩,zAK HG4.out (Nat.le_refl _)⟩
            · rw[HLS.out];exact zAM (zAh HO1.out hsz3) (by omega)
            · rw[HLM.out];exact zAM (zAh HO2.out hsz3) (by omega)
            · exact zy HM4.out (Nat.le_refl _) hg
          · obtain rfl:=HBAD.out he
            unfold noV
            go_wp2_with fail
            obtain⟨q0,q1,q2,q3,q4,q5,q6,q7,q8⟩:=ze (v0:=.int .i64 0) (v1:=.string ⟨#[]⟩) (v2:=.slice none 0 0) (v3:=.int .i64 0) (v4:=.int .i64 0) (v5:=.bool false) (v6:=.slice none 0 0) (v7:=.int .i64 0) (v8:=.bool false) hz4.out rfl
            refine bodyPost_ret (v:=.tuple #[.agg #[.int .i64 0,.string ⟨#[]⟩,.slice none 0 0,.int .i64 0,.int .i64 0,.bool false,.slice none 0 0,.int .i64 0,.bool false],.int .i64 (e:Int)]) (by simp[results,Tryz.results40,go_sem,q0,q1,q2,q3,q4,q5,q6,q7,q8]) rfl ?_
            exact⟨_,rfl,fun _=>rfl,fun h=>absurd h he,zAK HG4.out (Nat.le_refl _)⟩
       · have e46:((x.toNat:Int)==46)=false:=beq_eq_false_iff_ne.2 (by omega)
         have H46:=zD (show(x.toNat==46)=false from beq_eq_false_iff_ne.2 h46)
         clear h46
         have HQ2:=zD (show zBY (k==0) (u.drop k)=(e,t,m) by
          have:=HQ.out
          rw[if_neg (by rw[hlet];simp),if_neg (by rw[hdig];simp),if_neg (by rw[HQU.out];simp),if_neg (by rw[H46.out];simp)]at this
          rw[HDR.out];exact this)
         go_wp2_with (first | (go_at_call 66;refine(zAm _ _).mono ?_;rintro e2 w2 ⟨rfl,rfl⟩) | (go_at_call 68;refine(zAG _ _).mono ?_;rintro e2 w2 ⟨rfl,rfl⟩))
         refine(zFA (m:=m) (e:=e) (t:=t) hM1.out.rd rfl hA1.out hB hk hl hc HQ2.out).mono ?_
         rintro e4 w4 ⟨v,rfl,hbad,hgood,hG4⟩
         have hz4:=zD (hz1.out.grown hG4 (by omega))
         have HBAD:=zD hbad
         have HGOOD:=zD hgood
         have HG4:=zD (zF hM1.out.grown hG4)
         clear hbad hgood hG4
         obtain⟨b0',fb0⟩:=hz4.out.2 0 (by decide)
         obtain⟨b1',fb1⟩:=hz4.out.2 1 (by decide)
         obtain⟨b2',fb2⟩:=hz4.out.2 2 (by decide)
         obtain⟨b3',fb3⟩:=hz4.out.2 3 (by decide)
         obtain⟨b4',fb4⟩:=hz4.out.2 4 (by decide)
         obtain⟨b5',fb5⟩:=hz4.out.2 5 (by decide)
         obtain⟨b6',fb6⟩:=hz4.out.2 6 (by decide)
         obtain⟨b7',fb7⟩:=hz4.out.2 7 (by decide)
         obtain⟨b8',fb8⟩:=hz4.out.2 8 (by decide)
         by_cases he:e=0
         · obtain⟨⟨vs,vm,hv,ho1,ho2⟩,hM4⟩:=HGOOD.out he
           subst hv
           obtain⟨As,cs,rfl,_,_⟩:=zb ho1
           obtain⟨Am,cm,rfl,_,_⟩:=zb ho2
           have HO1:=zD ho1
           have HO2:=zD ho2
           have HM4:=zD (Mv.then hM1.out hM4)
           have HE:=zD he
           obtain⟨ls,hls⟩:∃l,t.str.length=l:=⟨_,rfl⟩
           obtain⟨lm,hlm⟩:∃l,t.mag.length=l:=⟨_,rfl⟩
           rw[hls,hlm]
           rw[hls]at HO1
           rw[hlm]at HO2
           have HLS:=zD hls
           have HLM:=zD hlm
           clear ho1 ho2 hM4 he hls hlm
           go_wp2_with fail
           obtain⟨q0,q1,q2,q3,q4,q5,q6,q7,q8⟩:=ze (v0:=.int .i64 (t.kind:Int)) (v1:=.string ⟨t.text.toArray⟩) (v2:=.slice As ls cs) (v3:=.int .i64 t.nk) (v4:=.int .i64 t.nn) (v5:=.bool false) (v6:=.slice Am lm cm) (v7:=.int .i64 (t.pos:Int)) (v8:=.bool t.nl) hz4.out rfl
           refine bodyPost_ret (v:=.tuple #[.agg #[.int .i64 (t.kind:Int),.string ⟨t.text.toArray⟩,.slice As ls cs,.int .i64 t.nk,.int .i64 t.nn,.bool false,.slice Am lm cm,.int .i64 (t.pos:Int),.bool t.nl],.int .i64 (e:Int)]) (by simp[results,Tryz.results40,go_sem,q0,q1,q2,q3,q4,q5,q6,q7,q8]) rfl ?_
           refine⟨_,rfl,fun h=>absurd HE.out h,fun _=>⟨⟨_,_,rfl,?_,?_⟩,?_⟩,zAK HG4.out (Nat.le_refl _)⟩
           · rw[HLS.out];exact zAM (zAh HO1.out hsz1) (by omega)
           · rw[HLM.out];exact zAM (zAh HO2.out hsz1) (by omega)
           · exact zy HM4.out (Nat.le_refl _) hg
         · obtain rfl:=HBAD.out he
           unfold noV
           go_wp2_with fail
           obtain⟨q0,q1,q2,q3,q4,q5,q6,q7,q8⟩:=ze (v0:=.int .i64 0) (v1:=.string ⟨#[]⟩) (v2:=.slice none 0 0) (v3:=.int .i64 0) (v4:=.int .i64 0) (v5:=.bool false) (v6:=.slice none 0 0) (v7:=.int .i64 0) (v8:=.bool false) hz4.out rfl
           refine bodyPost_ret (v:=.tuple #[.agg #[.int .i64 0,.string ⟨#[]⟩,.slice none 0 0,.int .i64 0,.int .i64 0,.bool false,.slice none 0 0,.int .i64 0,.bool false],.int .i64 (e:Int)]) (by simp[results,Tryz.results40,go_sem,q0,q1,q2,q3,q4,q5,q6,q7,q8]) rfl ?_
           exact⟨_,rfl,fun _=>rfl,fun h=>absurd h he,zAK HG4.out (Nat.le_refl _)⟩
theorem Tryz.info_tok:(Tryz.prog.info? 44).map (fun i=>(i.zero,i.size,i.bytes))=some (some (.agg zAw.toArray),9,112):=by kernel_rfl
def zDd (t:Tok) (vs vm:Value):List Value:=[.int .i64 (t.kind:Int),.string ⟨t.text.toArray⟩,vs,.int .i64 t.nk,.int .i64 t.nn,.bool false,vm,.int .i64 (t.pos:Int),.bool t.nl]
def TokC (w:World) (base:Nat):List Tok→List Value→Prop
 | [],cs=>cs=[]
 | t::r,cs=>∃vs vm rest,cs=zDd t vs vm++rest∧w.ownsRow base 24 1 vs t.str.length (zAH t.str)∧w.ownsRow base 87 1 vm t.mag.length (zBv t.mag)∧TokC w base r rest
theorem TokC.len {w:World} {base:Nat}:∀{ts:List Tok} {cs:List Value},TokC w base ts cs→cs.length=ts.length*9:=by
 intro ts
 induction ts with
 | nil=>intro cs h;rw[show cs=[]from h];rfl
 | cons t r ih=>
  intro cs h
  obtain⟨vs,vm,rest,rfl,_,_,h3⟩:=h
  have:=ih h3
  simp only[zDd,List.length_append,List.length_cons,List.length_nil,this]
  omega
theorem TokC.map {w w':World} {base base':Nat} (hk:∀(e:TypeId) (v:Value) (n:Nat) (xs:List Value),(e=24∨e=87)→w.ownsRow base e 1 v n xs→w'.ownsRow base' e 1 v n xs):∀{ts:List Tok} {cs:List Value},TokC w base ts cs→TokC w' base' ts cs:=by
 intro ts
 induction ts with
 | nil=>intro cs h;exact h
 | cons t r ih=>
  intro cs h
  obtain⟨vs,vm,rest,rfl,h1,h2,h3⟩:=h
  exact⟨vs,vm,rest,rfl,hk _ _ _ _ (.inl rfl) h1,hk _ _ _ _ (.inr rfl) h2,ih h3⟩
theorem TokC.snoc {w:World} {base:Nat} {t:Tok} {vs vm:Value} (h1:w.ownsRow base 24 1 vs t.str.length (zAH t.str)) (h2:w.ownsRow base 87 1 vm t.mag.length (zBv t.mag)):∀{ts:List Tok} {cs:List Value},TokC w base ts cs→TokC w base (ts++[t]) (cs++zDd t vs vm):=by
 intro ts
 induction ts with
 | nil=>intro cs h;rw[show cs=[]from h];exact⟨vs,vm,[],by simp,h1,h2,rfl⟩
 | cons s r ih=>
  intro cs h
  obtain⟨vs',vm',rest,rfl,g1,g2,g3⟩:=h
  exact⟨vs',vm',rest++zDd t vs vm,by simp,g1,g2,ih g3⟩
theorem zEX {w w':World} {b1 b2:Nat} {e1 e2:TypeId} {s1 s2 n1 n2:Nat} {v1 v2:Value} {xs ys:List Value} (h1:w.ownsRow b1 e1 s1 v1 n1 xs) (h2:w.ownsRow b2 e2 s2 v2 n2 ys) (hne:e1≠e2) (hg:w.grownBy w' v2.ownBlock):w'.ownsRow b1 e1 s1 v1 n1 xs:=by
 refine h1.kept hg ?_
 rcases h1.2 with⟨rfl,_⟩ | ⟨g,cap,cur,rfl,_,hgg,_⟩
 · exact .inl rfl
 · right
   rcases h2.2 with⟨rfl,_⟩ | ⟨g2,cap2,cur2,rfl,_,hgg2,_⟩
   · simp[Value.ownBlock]
   · intro e
     simp only[Value.ownBlock,Option.some.injEq]at e
     subst e
     rw[hgg]at hgg2
     injection hgg2 with hgg2
     injection hgg2 with _ h4 _
     exact hne h4
theorem zMX {w w':World} {base:Nat} {e:TypeId} {s n:Nat} {v:Value} {xs:List Value} (h:w.ownsRow base e s v n xs) (hg:w.grownBy w' none):w'.ownsRow base e s v n xs:=
 h.kept hg (by cases hv:v.ownBlock<;>simp)
def TokL (w:World) (base:Nat) (ts:List Tok) (v:Value):Prop:=∃cs,w.ownsRow base 44 9 v ts.length cs∧TokC w base ts cs
theorem TokL.nil (w:World) (base:Nat):TokL w base [] (.slice none 0 0):=⟨[],World.ownsRow_nil _ _ _ _,rfl⟩
theorem TokL.grown {w w':World} {base g:Nat} {ts:List Tok} {v:Value} (h:TokL w base ts v) (hg:w.grownBy w' (some g)) (hb:g < base):TokL w' base ts v:=by
 obtain⟨cs,h1,h2⟩:=h
 exact⟨cs,zBX h1 hg hb,h2.map fun _ _ _ _ _ h=>zBX h hg hb⟩
theorem TokL.new {w w':World} {base:Nat} {ts:List Tok} {v:Value} (h:TokL w base ts v) (hg:w.grownBy w' none):TokL w' base ts v:=by
 obtain⟨cs,h1,h2⟩:=h
 exact⟨cs,zMX h1 hg,h2.map fun _ _ _ _ _ h=>zMX h hg⟩
theorem TokL.base {w:World} {base base':Nat} {ts:List Tok} {v:Value} (h:TokL w base ts v) (hb:base'≤base):TokL w base' ts v:=by
 obtain⟨cs,h1,h2⟩:=h
 exact⟨cs,zAM h1 hb,h2.map fun _ _ _ _ _ h=>zAM h hb⟩
theorem TokL.below {w w':World} {base:Nat} {ts:List Tok} {v:Value} (h:TokL w base ts v) (hb:Below w.heap.size w w'):TokL w' base ts v:=
 h.new ⟨hb.os,hb.tape,hb.output,hb.size,fun k hk _=>hb.block k hk⟩
theorem TokL.snoc {w w':World} {base:Nat} {ts:List Tok} {v v':Value} {t:Tok} {vs vm:Value} {cs:List Value} (hc:w.ownsRow base 44 9 v ts.length cs) (ht:TokC w base ts cs) (h1:w.ownsRow base 24 1 vs t.str.length (zAH t.str)) (h2:w.ownsRow base 87 1 vm t.mag.length (zBv t.mag))
 (ho:w'.ownsRow base 44 9 v' (ts.length+1) (cs++zDd t vs vm)) (hg:w.grownBy w' v.ownBlock):TokL w' base (ts++[t]) v':=by
 refine⟨cs++zDd t vs vm,by rw[List.length_append];exact ho,TokC.snoc (zEX h1 hc (by decide) hg) (zEX h2 hc (by decide) hg) (ht.map fun e _ _ _ he h=>zEX h hc (by rcases he with rfl | rfl<;>decide) hg)⟩
section
variable {P:Program} {w:World} {ops:Array Oper} {rest:List Oper} {o:Oper} {a:Act} {Q:Exit→Act→World→Prop}
theorem zEY (hgd:o.guard=none) (s x:Operand) (t:TypeId)
 (ho:o.op=.call {callee:=.builtin .append,args:=#[s,x],argTypes:=#[t,t]})
 (e:TypeId) (i:TypeInfo) (z:Value) (size bytes:Nat) (ht:P.underlying t=some (.slice e)) (hi:P.info? e=some i) (hz:i.zero=some z)
 (hsize:i.size=size) (hby:i.bytes=bytes) (hzs:z.cells.size=size) (hsz0:0 < size) (base:Nat) (hbase:base≤w.heap.size)
 (v:Value) (xs:List Value) (k:Nat) (hs:a.eval s=v) (hm:w.ownsRow base e size v k xs)
 (cs:List Value) (m c B0:Nat) (hB0:B0=w.heap.size) (hx:a.eval x=.slice (some ⟨B0,0,none⟩) m c) (hl:cs.length=m*size) (h1:(cs.all fun u=>u.oneCell')=true)
 (hsz:k+m≤70368744177664) (hb2:(k+m)*bytes≤140737488355328)
 (h:∀v' w',w'.ownsRow base e size v' (k+m) (xs++cs)→w.grownBy w' v.ownBlock→wpList P ops Q rest (a.put o.dst v') w'):wpList P ops Q (o::rest) a (w.alloc (.cells cs.toArray e)):=by
 subst hB0
 exact zDF hgd s x t ho e i z size bytes ht hi hz hsize hby hzs hsz0 base hbase v xs k hs hm cs m c hx hl h1 hsz hb2 h
end
structure LxS (w wr:World) (A:Option Addr) (n c p:Nat) (v:Value) (acc:List Tok):Prop where
 rd:Rd wr w.heap.size A n c p
 below:Below w.heap.size w wr
 toks:TokL wr (w.heap.size+1) acc v
theorem zDG {w wr w':World} (h:Below w.heap.size w wr) (hg:wr.grownBy w' (some w.heap.size)):Below w.heap.size w w':=
 h.grown hg h.size (fun k hk=>by injection hk with hk;omega)
theorem LxS.mov {w wr w':World} {A:Option Addr} {n c p p':Nat} {v:Value} {acc:List Tok} (h:LxS w wr A n c p v acc) (hm:Mv wr w' w.heap.size A n c p'):LxS w w' A n c p' v acc:=
 ⟨hm.rd,zDG h.below hm.grown,h.toks.grown hm.grown (by omega)⟩
theorem LxS.new {w wr w':World} {A:Option Addr} {n c p:Nat} {v:Value} {acc:List Tok} (h:LxS w wr A n c p v acc) (hg:wr.grownBy w' none):LxS w w' A n c p v acc:=
 ⟨⟨hg.cell h.rd.c0 (by simp),hg.cell h.rd.c1 (by simp),(World.frozen?_of_block (w:=wr) (hg.block _ h.rd.lt (by simp))).trans h.rd.f1⟩,h.below.grown hg h.below.size (fun k hk=>by cases hk),h.toks.new hg⟩
theorem LxS.app {w wr w':World} {A:Option Addr} {n c p:Nat} {v v':Value} {acc acc':List Tok} (h:LxS w wr A n c p v acc) (hg:wr.grownBy w' v.ownBlock) (ht:TokL w' (w.heap.size+1) acc' v'):LxS w w' A n c p v' acc':=by
 obtain⟨cs,ho,_⟩:=h.toks
 have hne:∀k,k < w.heap.size+1→some k≠v.ownBlock:=fun k hk e=>by have:=(ho.lt k e.symm).1;omega
 exact⟨⟨hg.cell h.rd.c0 (hne _ (by simp)),hg.cell h.rd.c1 (hne _ (by simp)),(World.frozen?_of_block (w:=wr) (hg.block _ h.rd.lt (hne _ (by simp)))).trans h.rd.f1⟩,h.below.grown hg h.below.size (fun k hk=>by have:=(ho.lt k hk).1;omega),ht⟩
def zGU (acc:List Tok) (q:List Tok×Nat×Nat):List Tok×Nat×Nat:=if q.2.2≠0 then([],q.2)else(acc++q.1,0,0)
theorem zMY (acc:List Tok) (t:Tok) (q:List Tok×Nat×Nat):zGU acc (zBZ t q)=zGU (acc++[t]) q:=by
 unfold zGU zBZ
 by_cases h:q.2.2≠0
 · rw[if_pos h,if_pos h];simp only;rw[if_pos h]
 · rw[if_neg h,if_neg h];simp
theorem zEZ:∀(f k:Nat) (l:List UInt16),(zCr f k l).2.2=0→(zCr f k l).2.1=0:=by
 intro f
 induction f with
 | zero=>intro k l _;rfl
 | succ f ih=>
  intro k l
  rw[zCr]
  by_cases h1:(zd l).2.2≠0
  · rw[if_pos h1];intro h;exact absurd h h1
  rw[if_neg h1]
  by_cases h2:l.drop (zd l).1=[]
  · rw[if_pos h2];intro _;rfl
  rw[if_neg h2]
  by_cases h3:(zAA k l).1≠0
  · rw[if_pos h3];intro h;exact absurd h h3
  rw[if_neg h3]
  unfold zBZ
  split
  · intro h;rename_i h4;exact absurd h h4
  · intro _;rfl
theorem zFd:∀(f k:Nat) (l:List UInt16),(zCr f k l).2.2≠0→(zCr f k l).1=[]:=by
 intro f
 induction f with
 | zero=>intro k l _;rfl
 | succ f ih=>
  intro k l
  rw[zCr]
  by_cases h1:(zd l).2.2≠0
  · rw[if_pos h1];intro h;rfl
  rw[if_neg h1]
  by_cases h2:l.drop (zd l).1=[]
  · rw[if_pos h2];intro h;exact absurd rfl h
  rw[if_neg h2]
  by_cases h3:(zAA k l).1≠0
  · rw[if_pos h3];intro h;rfl
  rw[if_neg h3]
  unfold zBZ
  split
  · intro _;rfl
  · intro h;exact absurd rfl h
def AtLex (u:List UInt16) (p:Nat) (acc:List Tok):Prop:=acc.length≤p∧p≤u.length∧zBb 0 u=zGU acc (zBb p (u.drop p))
theorem AtLex.start (u:List UInt16):AtLex u 0 []:=by
 refine⟨Nat.le_refl _,Nat.zero_le _,?_⟩
 rw[List.drop_zero]
 unfold zGU
 split
 · rename_i h
   have:=zFd _ _ _ h
   exact Prod.ext this rfl
 · rename_i h
   have h1:=Decidable.not_not.1 h
   have h2:=zEZ _ _ _ h1
   exact Prod.ext rfl (Prod.ext h2 h1)
theorem AtLex.pass {u:List UInt16} {p m e:Nat} {nl:Bool} {acc:List Tok} (h:AtLex u p acc) (hq:zd (u.drop p)=(m,nl,e)) (he:e≠0):zBb 0 u=([],p+m,e):=by
 obtain⟨_,_,h⟩:=h
 rw[h,zDY (by rw[hq];exact he),hq]
 unfold zGU
 rw[if_pos he]
theorem AtLex.last {u:List UInt16} {p m:Nat} {nl:Bool} {acc:List Tok} (h:AtLex u p acc) (hq:zd (u.drop p)=(m,nl,0)) (hm:p+m=u.length):zBb 0 u=(acc++[setAt zo u.length nl],0,0):=by
 obtain⟨_,_,h⟩:=h
 rw[h,zD9 (by rw[hq]) (by rw[hq,List.drop_drop,hm,List.drop_length]),hq,←hm]
 unfold zGU
 rw[if_neg (by simp)]
theorem AtLex.bad {u:List UInt16} {p m e k:Nat} {nl:Bool} {t:Tok} {acc:List Tok} (h:AtLex u p acc) (hq:zd (u.drop p)=(m,nl,0)) (hm:p+m < u.length) (ht:zAo (p+m==0) (u.drop (p+m))=(e,t,k)) (he:e≠0):zBb 0 u=([],p+m,e):=by
 obtain⟨_,_,h⟩:=h
 have htok:zAA p (u.drop p)=(e,t,k):=by unfold zAA;rw[hq,List.drop_drop];exact ht
 rw[h,zEA (by rw[hq]) (by rw[hq,List.drop_drop];intro h2;have:=congrArg List.length h2;rw[List.length_drop]at this;simp at this;omega) (by rw[htok];exact he),hq,htok]
 unfold zGU
 rw[if_pos he]
theorem AtLex.more {u:List UInt16} {p m k:Nat} {nl:Bool} {t:Tok} {acc:List Tok} (h:AtLex u p acc) (hq:zd (u.drop p)=(m,nl,0)) (hm:p+m < u.length) (ht:zAo (p+m==0) (u.drop (p+m))=(0,t,k)):AtLex u (p+m+k) (acc++[setAt t (p+m) nl])∧1≤k:=by
 obtain⟨ha,hp,h⟩:=h
 have htok:zAA p (u.drop p)=(0,t,k):=by unfold zAA;rw[hq,List.drop_drop];exact ht
 have hlen:=zGB (z:=p+m==0) (l:=u.drop (p+m)) (by rw[ht])
 rw[ht,List.length_drop]at hlen
 simp only at hlen
 refine⟨⟨by simp;omega,by omega,?_⟩,hlen.1⟩
 rw[h,zCC (by rw[hq]) (by rw[hq,List.drop_drop];intro h2;have:=congrArg List.length h2;rw[List.length_drop]at this;simp at this;omega) (by rw[htok]),zMY,hq,htok,List.drop_drop,Nat.add_assoc]
end Go.Proofs.YtlohaclgbfhijaaGreatDoor
