/- Joined for the claim ParseBack: the parser, the lexer and the trees as they are walked, made short by a program of mine. -/
import Derived.Test.YtlnbbaehihgigaaGreatDoorB05
import Derived.Test.YtlnbbaehihgigaaGreatDoorB02
import Derived.Deep.LoopGhost
import Derived.Test.YtlnbbaehihgigaaGreatDoorB04
import Derived.Test.YtlnbbaehihgigaaGreatDoorB01
set_option maxHeartbeats 16000000
set_option maxRecDepth 1000000
namespace Go.Proofs.YtlnbbaehihgigaaGreatDoor
open Go.Proofs.Tryz
open Go.RowKit
variable {u l d r:List UInt16} {A:Option Addr} {t:Tok} {m k n e p c B g:Nat} {nl b z:Bool} {ts:List Tok} {w' wr:World} {s:List UInt8} {xs:List Value}
theorem zG8 (f:0 < u.length) (d:∀x∈u,zK x=true) (j:¬zx u≤9007199254740991):zNr u=(⟨2,0⟩,false):=by
 have b:=zA3.1 (d _ (List.getElem_mem f));have c:u≠[]:=List.ne_nil_of_length_pos f;obtain⟨x,r,rfl⟩:=List.exists_cons_of_ne_nil c;simp only[List.getElem_cons_zero]at b;have hs:zCX (x::r)=false:=by
  simp only[zCX,List.headD_cons,yA];rintro rfl;simp at b
 have k:zAX (x::r)=x::r:=by
  unfold zAX;rw[if_neg];simp only[List.headD_cons];rintro(rfl | rfl)<;>simp at b
 have hi:x::r≠zBW:=by
  intro h;have g:x=73:=by injection h
  rw[g]at b;simp at b
 unfold zNr;rw[zHX (fun x b=>zDh (d x b))];unfold zRC;rw[if_neg c,hs];unfold zFG;have e:=List.all_eq_true.2 d;simp only[k,hi,j,e,ne_eq,c,not_false_eq_true,and_self,if_true,if_false,Bool.false_eq_true]
theorem zPP {xs:List UInt16} {w:World} (hB:B≤w.heap.size) (d:xs.length=m) (f:Reads w B 1 A m (zAI xs)) (g:m≤c) (b:c≤maxLen) (j:m≤70368744177664) {k n:Int} {ok:Bool} (h:zNr xs=(⟨k,n⟩,ok)):
 Calls prog 100 #[.slice A m c] w fun e w'=>e=.returned (.tuple #[.agg #[.int .i64 k,.int .i64 n],.bool ok])∧Below w.heap.size w w':=by
 subst d;have:=zMs hB f g b j;rwa[h]at this
theorem zIE {w:World} {b:ByteArray} (d:Rd w g A n c k) (f:u.length=n) (j:Reads w B 1 A n (zAI u)) (hB:B≤g) (hk:k≤n) (m:n≤4096) (o:(u.drop k).takeWhile zK=l) (hs:b=⟨(asc l).toArray⟩):
 Calls prog 95 #[.pointer (some ⟨g,0,none⟩),.func (.func 62) #[] #[]] w fun e w'=>e=.returned (.string b)∧Mv w w' g A n c (k+l.length):=by
 subst hs;exact zMh d f j hB hk m o
theorem zJS (b:∀x∈d,zK x=true):zV (asc d)=d:=by
 unfold zV asc;rw[List.map_map]
 conv=>rhs;rw[←List.map_id d]
 refine List.map_congr_left fun x c=>?_;have h:=zA3.1 (b x c);refine UInt16.toNat_inj.1 ?_;show x.toNat % 256=x.toNat
 omega
theorem zPQ {s:ByteArray} (hs:s.data.toList=asc d) (f:∀x∈d,zK x=true) (l:d.length≤4096) (w:World):
 Calls prog 11 #[.string s] w fun e w'=>∃A c,e=.returned (.slice A d.length c)∧Reads w' w'.heap.size 1 A d.length (zAI d)∧d.length≤c∧c≤maxLen∧Below w.heap.size w w':=by
 have k:s.size=d.length:=by
  have:=congrArg List.length hs;simpa [asc]using this
 refine(zDc s w jo).mono ?_;rintro e w' ⟨v,rfl,b⟩;have hb:=b.below;rw[hs,zJS f]at b;obtain⟨A,c,rfl,h1,g,j⟩:=b.u16;exact⟨A,c,rfl,j,h1,g,hb⟩
theorem zPR (h:(zBF 0 (fun x=>x.toNat==48) d&& !decide (d=[48]))=true) (b:zBu d r=(e,t,m)):5=e∧zr=t∧0=m:=by
 unfold zBu at b;rw[if_pos h]at b;exact zCJ b
theorem zWx (h:(zBF 0 (fun x=>x.toNat==48) d&& !decide (d=[48]))=false) (c:zq [110] r=true) (b:zBu d r=(e,t,m)):zIg (zx d) d.length (r.drop 1)=(e,t,m):=by
 unfold zBu at b;rw[if_neg (by rw[h];simp),if_pos c]at b;exact b
theorem zSU (h:(zBF 0 (fun x=>x.toNat==48) d&& !decide (d=[48]))=false) (c:zq [110] r=false) (f:zBF 0 (zAA (decide (d=[48]))) r=true) (b:zBu d r=(e,t,m)):6=e∧zr=t∧0=m:=by
 unfold zBu at b;rw[if_neg (by rw[h];simp),if_neg (by rw[c];simp),if_pos f]at b;exact zCJ b
theorem zSV (h:(zBF 0 (fun x=>x.toNat==48) d&& !decide (d=[48]))=false) (c:zq [110] r=false) (f:zBF 0 (zAA (decide (d=[48]))) r=false) (g:zBF 0 zAz r=true) (b:zBu d r=(e,t,m)):5=e∧zr=t∧0=m:=by
 unfold zBu at b;rw[if_neg (by rw[h];simp),if_neg (by rw[c];simp),if_neg (by rw[f];simp),if_pos g]at b;exact zCJ b
theorem zPS (h:(zBF 0 (fun x=>x.toNat==48) d&& !decide (d=[48]))=false) (c:zq [110] r=false) (f:zBF 0 (zAA (decide (d=[48]))) r=false) (g:zBF 0 zAz r=false) (j:¬zx d≤9007199254740991) (b:zBu d r=(e,t,m)):6=e∧zr=t∧0=m:=by
 unfold zBu at b;rw[if_neg (by rw[h];simp),if_neg (by rw[c];simp),if_neg (by rw[f];simp),if_neg (by rw[g];simp),if_pos jo]at b;exact zCJ b
theorem zPT (h:(zBF 0 (fun x=>x.toNat==48) d&& !decide (d=[48]))=false) (c:zq [110] r=false) (f:zBF 0 (zAA (decide (d=[48]))) r=false) (g:zBF 0 zAz r=false) (j:zx d≤9007199254740991) (b:zBu d r=(e,t,m)):0=e∧{zr with kind:=2,nn:=zx d}=t∧d.length=m:=by
 unfold zBu at b;rw[if_neg (by rw[h];simp),if_neg (by rw[c];simp),if_neg (by rw[f];simp),if_neg (by rw[g];simp),jn]at b;exact zGY b
theorem zKS {w:World} (hr:Rd w g A n c k) (hn:u.length=n) (ha:Reads w B 1 A n (zAI u)) (hB:B≤g) (hk:k < u.length) (g4:zK u[k]=true) (hl:n≤4096) (hq:zBe (u.drop k)=(e,t,m)):
 Calls prog 63 #[.pointer (some ⟨g,0,none⟩)] w fun ev w'=>∃v,ev=.returned (.tuple #[v,.int .i64 (e:Int)])∧(e≠0→v=noV)∧(e=0→zWg w' w.heap.size t v∧Mv w w' g A n c (k+m))∧w.grownBy w' (some g):=by
 subst hn;have hg:=hr.lt;obtain⟨d,F⟩:=jx ((u.drop k).takeWhile zK);have hd:∀x∈d,zK x=true:=by
  rw[←F];exact List.all_eq_true.1 List.all_takeWhile
 have d1:d=u[k]::(u.drop (k+1)).takeWhile zK:=by rw[←F,yAH hk,List.takeWhile_cons_of_pos g4]
 have h0:0 < d.length:=by rw[d1];simp
 have b9:k+d.length≤u.length:=by
  have h1:=zBV zK (u.drop k);rw[F,List.length_drop]at h1;omega
 unfold zBe at hq;rw[F,List.drop_drop]at hq;obtain⟨sv,c0⟩:∃sv:ByteArray,sv=⟨(asc d).toArray⟩:=⟨_,rfl⟩;have a8:sv.data.toList=asc d:=by rw[c0]
 obtain⟨g5,a6⟩:=zO0 a8 hd;have d2:0 < sv.size:=by omega
 obtain⟨q,a9⟩:=jx (((sv[0].toNat:Int)==48));obtain⟨z,H⟩:=jx (decide (d=[48]));have b0:(zBF 0 (fun x=>x.toNat==48) d&& !decide (d=[48]))=(q&& !z):=by
  rw[H];congr 1;have h1:=(a6 0 d2 h0).1;have h2:zBF 0 (fun x=>x.toNat==48) d=(d[0].toNat==48):=by
   unfold zBF;rw[yAB h0];rfl
  rw[h2,←h1,←a9,Bool.eq_iff_iff,beq_iff_eq,beq_iff_eq];omega
 have g6:(sv.toList==[48])=z:=by
  rw[zO6,a8,←H,Bool.eq_iff_iff,decide_eq_true_eq,decide_eq_true_eq];constructor
  · intro h;rw[←zJS hd,h];rfl
  · intro h;rw[h];rfl
 have d3:(q&& !z)=false→d[0]≠48∨d=[48]:=by
  intro h;cases hzc:z with
  | true=>right;exact of_decide_eq_true (by rw[H,hzc])
  | false=>
   left;intro h3;rw[hzc]at h;have h4:q=false:=by simpa using h
   rw[h4,yA]at a9;have h1:=(a6 0 d2 h0).1;rw[h3]at h1;exact a9 (by rw[h1];rfl)
 obtain⟨b,hb⟩:=jx (zq [110] (u.drop (k+d.length)));obtain⟨bo,d4⟩:=jx (zBF 0 (zAA z) (u.drop (k+d.length)));obtain⟨bl,d5⟩:=jx (zBF 0 zAz (u.drop (k+d.length)));have HL:=zA F;have HD:=zA hd;have g7:=zA c0;have d6:=zA a8;have HQ:=zA hq;have y:=zA b0;have c2:=zA d3;have HB:=zA hb;have I:=zA d4;have b1:=zA d5;have HZ:=zA H;have HA:=zA ha;have hR:=zA (hr.alloc (.cells zBQ.toArray 80));have d7:=zA (ha.alloc (yAD hB (Nat.le_of_lt hg)) (.cells zBQ.toArray 80));have d8:=zA (Blk.new w zBQ 80);have d9:=zA (zF w (.cells zBQ.toArray 80) (some g));have e0:d.length≤4096:=by omega
 clear F hd d1 c0 a8 hq b0 d3 hb d4 d5 H ha hr a6 g5;go_enter func63,ntmps63;go_wp2_with fail;refine(zIE hR.out rfl d7.out hB (Nat.le_of_lt hk) hl HL.out g7.out).mono ?_;rintro e1 w1 ⟨rfl,b2⟩;have o:=zA (show SgS w w1 g A u.length c (k+d.length)from⟨⟨b2.rd,zC d9.out b2.grown⟩,d8.out.grown b2.grown jo⟩);clear b2 hR d7 d8 d9;go_upto_region 3 with(fail)
 go_cut [12] (fun v wx=>v=.bool (q&& !z)∧wx=w1)
 case first=>
  cases q<;>cases z
  all_goals
   go_wp2_with fail;go_meet;exact⟨rfl,rfl⟩
 case rest=>
  obtain⟨hv,g8⟩:=hcut;subst hv g8;obtain⟨ld,e7⟩:=jx ((q&& !z));rw[e7]at y c2⊢;clear e7 a9 g6;cases ld with
  | true=>
   obtain⟨J,L⟩:=o.out.zero.2 0 jd;obtain⟨M,N⟩:=o.out.zero.2 1 jd;obtain⟨O,P⟩:=o.out.zero.2 2 jd;obtain⟨Q,R⟩:=o.out.zero.2 3 jd;obtain⟨T,U⟩:=o.out.zero.2 4 jd;obtain⟨V,W⟩:=o.out.zero.2 5 jd;obtain⟨X,Y⟩:=o.out.zero.2 6 jd;obtain⟨a0,a1⟩:=o.out.zero.2 7 jd;obtain⟨a2,a3⟩:=o.out.zero.2 8 jd;go_wp2_with fail;obtain⟨q0,q1,q2,q3,q4,q5,q6,q7,q8⟩:=zZ (v0:=.int .i64 0) (v1:=.string ⟨#[]⟩) (v2:=.slice none 0 0) (v3:=.int .i64 0) (v4:=.int .i64 0) (v5:=.bool false) (v6:=.slice none 0 0) (v7:=.int .i64 0) (v8:=.bool false) o.out.zero rfl;refine bodyPost_ret (v:=.tuple #[.agg #[.int .i64 0,.string ⟨#[]⟩,.slice none 0 0,.int .i64 0,.int .i64 0,.bool false,.slice none 0 0,.int .i64 0,.bool false],.int .i64 5]) (by simp[results,results63,go_sem,q0,q1,q2,q3,q4,q5,q6,q7,q8]) rfl ?_;obtain⟨G,z2,z3⟩:=zPR y.out HQ.out;subst G;exact⟨_,rfl,fun _=>rfl,fun h=>absurd h jd,(zAG o.out.mv (yAC _) hg).grown⟩
  | false=>
   have g9:=zA (c2.out rfl);clear c2;go_wp2_with fail;refine(zAr ⟨#[110]⟩ o.out.mv.rd rfl (HA.out.grown o.out.mv.grown hB (Nat.le_of_lt hg)) b9 hl jd HB.out).mono ?_;rintro e2 w2 ⟨rfl,m2,e8⟩;have D:=zA (show SgS w w2 g A u.length c (k+d.length) by rw[e8];exact o.out.drewN hg m2);clear e8 m2 o;cases b with
   | true=>
    have j2:k+d.length+1≤u.length:=by
     have:=zC3 HB.out;rw[List.length_drop]at this;simp at this;omega
    have e9:=zA (zWx y.out HB.out HQ.out);rw[List.drop_drop]at e9;have f0:=D.out.mv.rd.c1;have h5:=D.out.mv.rd.f1;have a4:=zA (Mv.step D.out.mv (k':=k+d.length+1) (z:=(((k+d.length:Nat):Int)+1)) jo);have f2:=zA (D.out.zero.setOther (S:=g) (i:=1) jo (.int .i64 (((k+d.length:Nat):Int)+1)));obtain⟨p,hp⟩:=jx (k+d.length);rw[hp]at f0 a4 f2;go_wp2_with fail;refine(zKL (m:=m) (e:=e) (t:=t) d6.out HD.out h0 g9.out e0 (by exact a4.out.rd) rfl (HA.out.grown a4.out.grown hB (Nat.le_of_lt hg)) hB jo hl (by rw[←hp];exact e9.out)).mono ?_;rintro e4 w4 ⟨v,rfl,c3,b3,c4⟩;have C:=zA (f2.out.grown c4 jo);have g3:=zA c3;have d0:=zA b3;have f3:=zA (zC a4.out.grown c4);have c5:w.heap.size < w2.heap.size:=D.out.zero.1;have c6:(w2.setCell ⟨g,1,none⟩ (.int .i64 ((p:Int)+1))).heap.size=w2.heap.size:=by simp
    have h6:=zA c6;clear c3 b3 c4 c6 f0 h5;obtain⟨J,L⟩:=C.out.2 0 jd;obtain⟨M,N⟩:=C.out.2 1 jd;obtain⟨O,P⟩:=C.out.2 2 jd;obtain⟨Q,R⟩:=C.out.2 3 jd;obtain⟨T,U⟩:=C.out.2 4 jd;obtain⟨V,W⟩:=C.out.2 5 jd;obtain⟨X,Y⟩:=C.out.2 6 jd;obtain⟨a0,a1⟩:=C.out.2 7 jd;obtain⟨a2,a3⟩:=C.out.2 8 jd
    by_cases he:e=0
    · obtain⟨⟨vs,vm,hv,b4,b5⟩,f4,f5⟩:=d0.out he;subst hv;obtain⟨As,cs,rfl,_,_⟩:=zR b4;obtain⟨Am,cm,rfl,_,_⟩:=zR b5;rw[h6.out]at b4 b5;have f6:=zA b4;have f7:=zA b5;have h7:=zA (Mv.then a4.out f4);have HE:=zA he;have h8:=zA f5;obtain⟨ls,b6⟩:=jx t.str.length;obtain⟨lm,b7⟩:=jx t.mag.length;rw[b6,b7];rw[b6]at f6;rw[b7]at f7;have h9:=zA b6;have j0:=zA b7;clear b4 b5 f4 f5 he b6 b7;go_wp2_with fail;obtain⟨q0,q1,q2,q3,q4,q5,q6,q7,q8⟩:=zZ (v0:=.int .i64 (t.kind:Int)) (v1:=.string ⟨t.text.toArray⟩) (v2:=.slice As ls cs) (v3:=.int .i64 t.nk) (v4:=.int .i64 t.nn) (v5:=.bool false) (v6:=.slice Am lm cm) (v7:=.int .i64 (t.pos:Int)) (v8:=.bool t.nl) C.out rfl;refine bodyPost_ret (v:=.tuple #[.agg #[.int .i64 (t.kind:Int),.string ⟨t.text.toArray⟩,.slice As ls cs,.int .i64 t.nk,.int .i64 t.nn,.bool false,.slice Am lm cm,.int .i64 (t.pos:Int),.bool t.nl],.int .i64 (e:Int)]) (by simp[results,results63,go_sem,q0,q1,q2,q3,q4,q5,q6,q7,q8]) rfl ?_;refine⟨_,rfl,fun h=>absurd HE.out h,fun _=>⟨⟨_,_,rfl,?_,?_⟩,?_⟩,zAa f3.out (yAC _)⟩
      · rw[h9.out];exact zAf (zA9 f6.out c5) jo
      · rw[j0.out];exact zAf (zA9 f7.out c5) jo
      · rw[h8.out,show k+(d.length+1)=p+1 by omega];exact zAG h7.out (yAC _) hg
    · obtain rfl:=g3.out he;unfold noV;go_wp2_with fail;obtain⟨q0,q1,q2,q3,q4,q5,q6,q7,q8⟩:=zZ (v0:=.int .i64 0) (v1:=.string ⟨#[]⟩) (v2:=.slice none 0 0) (v3:=.int .i64 0) (v4:=.int .i64 0) (v5:=.bool false) (v6:=.slice none 0 0) (v7:=.int .i64 0) (v8:=.bool false) C.out rfl;refine bodyPost_ret (v:=.tuple #[.agg #[.int .i64 0,.string ⟨#[]⟩,.slice none 0 0,.int .i64 0,.int .i64 0,.bool false,.slice none 0 0,.int .i64 0,.bool false],.int .i64 (e:Int)]) (by simp[results,results63,go_sem,q0,q1,q2,q3,q4,q5,q6,q7,q8]) rfl ?_;exact⟨_,rfl,fun _=>rfl,fun h=>absurd h he,zAa f3.out (yAC _)⟩
   | false=>
    go_wp2_with fail;refine(zJN D.out.mv.rd rfl (HA.out.grown D.out.mv.grown hB (Nat.le_of_lt hg)) hB b9 hl I.out).mono ?_;rintro e3 w3 ⟨rfl,f8⟩;have r:=zA (D.out.below hg f8);clear f8 D;cases bo with
    | true=>
     obtain⟨J,L⟩:=r.out.zero.2 0 jd;obtain⟨M,N⟩:=r.out.zero.2 1 jd;obtain⟨O,P⟩:=r.out.zero.2 2 jd;obtain⟨Q,R⟩:=r.out.zero.2 3 jd;obtain⟨T,U⟩:=r.out.zero.2 4 jd;obtain⟨V,W⟩:=r.out.zero.2 5 jd;obtain⟨X,Y⟩:=r.out.zero.2 6 jd;obtain⟨a0,a1⟩:=r.out.zero.2 7 jd;obtain⟨a2,a3⟩:=r.out.zero.2 8 jd;go_wp2_with fail;obtain⟨q0,q1,q2,q3,q4,q5,q6,q7,q8⟩:=zZ (v0:=.int .i64 0) (v1:=.string ⟨#[]⟩) (v2:=.slice none 0 0) (v3:=.int .i64 0) (v4:=.int .i64 0) (v5:=.bool false) (v6:=.slice none 0 0) (v7:=.int .i64 0) (v8:=.bool false) r.out.zero rfl;refine bodyPost_ret (v:=.tuple #[.agg #[.int .i64 0,.string ⟨#[]⟩,.slice none 0 0,.int .i64 0,.int .i64 0,.bool false,.slice none 0 0,.int .i64 0,.bool false],.int .i64 6]) (by simp[results,results63,go_sem,q0,q1,q2,q3,q4,q5,q6,q7,q8]) rfl ?_;obtain⟨G,z2,z3⟩:=zSU y.out HB.out (by rw[HZ.out];exact I.out) HQ.out;subst G;exact⟨_,rfl,fun _=>rfl,fun h=>absurd h jd,(zAG r.out.mv (yAC _) hg).grown⟩
    | false=>
     go_wp2_with fail;refine(zHc (j:=0) r.out.mv.rd rfl (HA.out.grown r.out.mv.grown hB (Nat.le_of_lt hg)) b9 hl jo b1.out).mono ?_;rintro e4 w4 ⟨rfl,m4,f9⟩;have s:=zA (show SgS w w4 g A u.length c (k+d.length) by rw[f9];exact r.out.drewN hg m4);clear f9 m4 r;cases bl with
     | true=>
      obtain⟨J,L⟩:=s.out.zero.2 0 jd;obtain⟨M,N⟩:=s.out.zero.2 1 jd;obtain⟨O,P⟩:=s.out.zero.2 2 jd;obtain⟨Q,R⟩:=s.out.zero.2 3 jd;obtain⟨T,U⟩:=s.out.zero.2 4 jd;obtain⟨V,W⟩:=s.out.zero.2 5 jd;obtain⟨X,Y⟩:=s.out.zero.2 6 jd;obtain⟨a0,a1⟩:=s.out.zero.2 7 jd;obtain⟨a2,a3⟩:=s.out.zero.2 8 jd;go_wp2_with fail;obtain⟨q0,q1,q2,q3,q4,q5,q6,q7,q8⟩:=zZ (v0:=.int .i64 0) (v1:=.string ⟨#[]⟩) (v2:=.slice none 0 0) (v3:=.int .i64 0) (v4:=.int .i64 0) (v5:=.bool false) (v6:=.slice none 0 0) (v7:=.int .i64 0) (v8:=.bool false) s.out.zero rfl;refine bodyPost_ret (v:=.tuple #[.agg #[.int .i64 0,.string ⟨#[]⟩,.slice none 0 0,.int .i64 0,.int .i64 0,.bool false,.slice none 0 0,.int .i64 0,.bool false],.int .i64 5]) (by simp[results,results63,go_sem,q0,q1,q2,q3,q4,q5,q6,q7,q8]) rfl ?_;obtain⟨G,z2,z3⟩:=zSV y.out HB.out (by rw[HZ.out];exact I.out) b1.out HQ.out;subst G;exact⟨_,rfl,fun _=>rfl,fun h=>absurd h jd,(zAG s.out.mv (yAC _) hg).grown⟩
     | false=>
      go_wp2_with fail;refine(zPQ d6.out HD.out e0 _).mono ?_;rintro e5 w5 ⟨Aa,ca,rfl,g0,c7,c8,g1⟩;have b8:=zA (s.out.below hg g1);have g2:=zA g0;clear g1 s g0
      by_cases E:zx d≤9007199254740991
      · have HN:=zA (zMT h0 HD.out E);have a7:=zA E;clear E;go_wp2_with fail;refine(zPP (yAC _) rfl g2.out c7 c8 jo HN.out).mono ?_;rintro e6 w6 ⟨rfl,a5⟩;have f:=zA (show SgS w (w6.alloc (.cells #[.int .i64 0,.int .i64 (zx d:Int)] 37)) g A u.length c (k+d.length)from((b8.out.below hg a5).below hg (ja)));obtain⟨dv,c9⟩:=jx (zx d);rw[c9]at f⊢;have j1:=zA c9;clear a5 b8 c9;obtain⟨J,L⟩:=f.out.zero.2 0 jd;obtain⟨M,N⟩:=f.out.zero.2 1 jd;obtain⟨O,P⟩:=f.out.zero.2 2 jd;obtain⟨Q,R⟩:=f.out.zero.2 3 jd;obtain⟨T,U⟩:=f.out.zero.2 4 jd;obtain⟨V,W⟩:=f.out.zero.2 5 jd;obtain⟨X,Y⟩:=f.out.zero.2 6 jd;obtain⟨a0,a1⟩:=f.out.zero.2 7 jd;obtain⟨a2,a3⟩:=f.out.zero.2 8 jd;go_wp2_with fail;obtain⟨q0,q1,q2,q3,q4,q5,q6,q7,q8⟩:=zZ (v0:=.int .i64 2) (v1:=.string ⟨#[]⟩) (v2:=.slice none 0 0) (v3:=.int .i64 0) (v4:=.int .i64 (dv:Int)) (v5:=.bool false) (v6:=.slice none 0 0) (v7:=.int .i64 0) (v8:=.bool false) f.out.zero rfl;refine bodyPost_ret (v:=.tuple #[.agg #[.int .i64 2,.string ⟨#[]⟩,.slice none 0 0,.int .i64 0,.int .i64 (dv:Int),.bool false,.slice none 0 0,.int .i64 0,.bool false],.int .i64 0]) (by simp[results,results63,go_sem,q0,q1,q2,q3,q4,q5,q6,q7,q8]) rfl ?_;obtain⟨G,z2,z3⟩:=zPT y.out HB.out (by rw[HZ.out];exact I.out) b1.out a7.out HQ.out;subst G z2 z3;exact⟨_,rfl,fun h=>absurd rfl h,fun _=>⟨⟨_,_,by rw[j1.out];rfl,yAJ _ _ _ _,yAJ _ _ _ _⟩,zAG f.out.mv (yAC _) hg⟩,(zAG f.out.mv (yAC _) hg).grown⟩
      · have HN:=zA (zG8 h0 HD.out E);have a7:=zA E;clear E;go_wp2_with fail;refine(zPP (yAC _) rfl g2.out c7 c8 jo HN.out).mono ?_;rintro e6 w6 ⟨rfl,a5⟩;have f:=zA (show SgS w (w6.alloc (.cells #[.int .i64 2,.int .i64 0] 37)) g A u.length c (k+d.length)from((b8.out.below hg a5).below hg (ja)));clear a5 b8;obtain⟨J,L⟩:=f.out.zero.2 0 jd;obtain⟨M,N⟩:=f.out.zero.2 1 jd;obtain⟨O,P⟩:=f.out.zero.2 2 jd;obtain⟨Q,R⟩:=f.out.zero.2 3 jd;obtain⟨T,U⟩:=f.out.zero.2 4 jd;obtain⟨V,W⟩:=f.out.zero.2 5 jd;obtain⟨X,Y⟩:=f.out.zero.2 6 jd;obtain⟨a0,a1⟩:=f.out.zero.2 7 jd;obtain⟨a2,a3⟩:=f.out.zero.2 8 jd;go_wp2_with fail;obtain⟨q0,q1,q2,q3,q4,q5,q6,q7,q8⟩:=zZ (v0:=.int .i64 0) (v1:=.string ⟨#[]⟩) (v2:=.slice none 0 0) (v3:=.int .i64 0) (v4:=.int .i64 0) (v5:=.bool false) (v6:=.slice none 0 0) (v7:=.int .i64 0) (v8:=.bool false) f.out.zero rfl;refine bodyPost_ret (v:=.tuple #[.agg #[.int .i64 0,.string ⟨#[]⟩,.slice none 0 0,.int .i64 0,.int .i64 0,.bool false,.slice none 0 0,.int .i64 0,.bool false],.int .i64 6]) (by simp[results,results63,go_sem,q0,q1,q2,q3,q4,q5,q6,q7,q8]) rfl ?_;obtain⟨G,z2,z3⟩:=zPS y.out HB.out (by rw[HZ.out];exact I.out) b1.out a7.out HQ.out;subst G;exact⟨_,rfl,fun _=>rfl,fun h=>absurd h jd,(zAG f.out.mv (yAC _) hg).grown⟩
theorem zMt {w:World} (hr:Rd w g A n c k) (hn:u.length=n) (ha:Reads w B 1 A n (zAI u)) (hB:B≤g) (hk:k < u.length) (hl:n≤4096) (hc:n≤c) (hq:zAY (k==0) (u.drop k)=(e,t,m)):
 Calls prog 31 #[.pointer (some ⟨g,0,none⟩)] w fun ev w'=>∃v,ev=.returned (.tuple #[v,.int .i64 (e:Int)])∧(e≠0→v=noV)∧(e=0→zWg w' w.heap.size t v∧Mv w w' g A n c (k+m))∧w.grownBy w' (some g):=by
 subst hn;have hg:=hr.lt;obtain⟨x,hx⟩:=jx (u[k]);have c3:=yAH hk;rw[hx]at c3;rw[c3,zA4]at hq;obtain⟨blk,off,rfl,e0,c4⟩:=ha.spotL jo;have c6:=c4 k hk;rw[hx]at c6;have c7:=World.cell?_alloc_lt w (.cells zBQ.toArray 80) ⟨blk,off+k,none⟩ (by show blk < _;omega);rw[c6]at c7;have HX:=zA hx;have b6:=zA c3;have HQ:=zA hq;have HA:=zA ha;have c8:=zA (show SgS w (w.alloc (.cells zBQ.toArray 80)) g (some ⟨blk,off,none⟩) u.length c k from⟨⟨hr.alloc _,zF w _ _⟩,Blk.new w zBQ 80⟩);have d3:=hr.c0;have d4:=hr.c1;have e1:=x.toNat_lt;have e5:blk < w.heap.size:=by omega
 clear c4 hx c3 hq ha hr c7;go_enter func31,ntmps31;go_wp2_with fail
 go_quiet (fail)
 have C:=zA (c8.out.drewN hg nq).mv;have S:=zA (c8.out.drewN hg nq).zero;obtain⟨w1,b7⟩:=jx ((w.alloc (.cells zBQ.toArray 80)).drewN nq);have I:w.heap.size < w1.heap.size:=by rw[←b7];simp
 have d5:=zA b7;rw[b7]at C S;have c9:=zA (show(w.alloc (.cells #[.int .i64 0,.string ⟨#[]⟩,.slice none 0 0,.int .i64 0,.int .i64 0,.bool false,.slice none 0 0,.int .i64 0,.bool false] 80)).drewN nq=w1 from b7);rw[c9.out];have T:=zA (HA.out.grown C.out.grown hB (Nat.le_of_lt hg));clear b7 c8 d3 d4 c6 d5 c9;cases hlet:zAz x with
 | true=>
  have L:=zA (show zCf (u.drop k)=(e,t,m) by
   have:=HQ.out;rw[if_pos hlet]at this;rw[b6.out];exact this)
  have HT:=zA hlet;go_wp2_with (go_at_call 60;refine(zA5 _ _).mono ?_;rintro e2 w2 ⟨rfl,rfl⟩);refine(zMk (m:=m) (e:=e) (t:=t) C.out.rd rfl T.out hB (Nat.le_of_lt hk) hl L.out).mono ?_;rintro e4 w4 ⟨v,rfl,q,f,r⟩;have d:=zA (S.out.grown r jo);have J:=zA q;have D:=zA f;have E:=zA (zC C.out.grown r);clear q f r;obtain⟨W,X⟩:=d.out.2 0 jd;obtain⟨Y,a0⟩:=d.out.2 1 jd;obtain⟨a1,a2⟩:=d.out.2 2 jd;obtain⟨a3,a4⟩:=d.out.2 3 jd;obtain⟨a5,a6⟩:=d.out.2 4 jd;obtain⟨a7,a8⟩:=d.out.2 5 jd;obtain⟨a9,b0⟩:=d.out.2 6 jd;obtain⟨b1,b2⟩:=d.out.2 7 jd;obtain⟨b3,b4⟩:=d.out.2 8 jd
  by_cases s:e=0
  · obtain⟨⟨vs,vm,hv,y,z⟩,F⟩:=D.out s;subst hv;obtain⟨As,cs,rfl,_,_⟩:=zR y;obtain⟨Am,cm,rfl,_,_⟩:=zR z;have G:=zA y;have H:=zA z;have M:=zA (Mv.then C.out F);have U:=zA s;obtain⟨N,o⟩:=jx t.str.length;obtain⟨O,p⟩:=jx t.mag.length;rw[o,p];rw[o]at G;rw[p]at H;have P:=zA o;have Q:=zA p;clear y z F s o p;go_wp2_with fail;obtain⟨q0,q1,q2,q3,q4,q5,q6,q7,q8⟩:=zZ (v0:=.int .i64 (t.kind:Int)) (v1:=.string ⟨t.text.toArray⟩) (v2:=.slice As N cs) (v3:=.int .i64 t.nk) (v4:=.int .i64 t.nn) (v5:=.bool false) (v6:=.slice Am O cm) (v7:=.int .i64 (t.pos:Int)) (v8:=.bool t.nl) d.out rfl;refine bodyPost_ret (v:=.tuple #[.agg #[.int .i64 (t.kind:Int),.string ⟨t.text.toArray⟩,.slice As N cs,.int .i64 t.nk,.int .i64 t.nn,.bool false,.slice Am O cm,.int .i64 (t.pos:Int),.bool t.nl],.int .i64 (e:Int)]) (by simp[results,results31,go_sem,q0,q1,q2,q3,q4,q5,q6,q7,q8]) rfl ?_;refine⟨_,rfl,fun h=>absurd U.out h,fun _=>⟨⟨_,_,rfl,?_,?_⟩,?_⟩,zAa E.out (yAC _)⟩
    · rw[P.out];exact zAf (zA9 G.out I) jo
    · rw[Q.out];exact zAf (zA9 H.out I) jo
    · exact zAG M.out (yAC _) hg
  · obtain rfl:=J.out s;unfold noV;go_wp2_with fail;obtain⟨q0,q1,q2,q3,q4,q5,q6,q7,q8⟩:=zZ (v0:=.int .i64 0) (v1:=.string ⟨#[]⟩) (v2:=.slice none 0 0) (v3:=.int .i64 0) (v4:=.int .i64 0) (v5:=.bool false) (v6:=.slice none 0 0) (v7:=.int .i64 0) (v8:=.bool false) d.out rfl;refine bodyPost_ret (v:=.tuple #[.agg #[.int .i64 0,.string ⟨#[]⟩,.slice none 0 0,.int .i64 0,.int .i64 0,.bool false,.slice none 0 0,.int .i64 0,.bool false],.int .i64 (e:Int)]) (by simp[results,results31,go_sem,q0,q1,q2,q3,q4,q5,q6,q7,q8]) rfl ?_;exact⟨_,rfl,fun _=>rfl,fun h=>absurd h s,zAa E.out (yAC _)⟩
 | false=>
  cases hdig:zK x with
  | true=>
   have L:=zA (show zBe (u.drop k)=(e,t,m) by
    have:=HQ.out;rw[if_neg (by rw[hlet];simp),if_pos hdig]at this;rw[b6.out];exact this)
   go_wp2_with (first | (go_at_call 60;refine(zA5 _ _).mono ?_;rintro e2 w2 ⟨rfl,rfl⟩) | (go_at_call 62;refine(zAH _ _).mono ?_;rintro e2 w2 ⟨rfl,rfl⟩));refine(zKS (m:=m) (e:=e) (t:=t) C.out.rd rfl T.out hB hk (by rw[HX.out];exact hdig) hl L.out).mono ?_;rintro e4 w4 ⟨v,rfl,q,f,r⟩;have d:=zA (S.out.grown r jo);have J:=zA q;have D:=zA f;have E:=zA (zC C.out.grown r);clear q f r;obtain⟨W,X⟩:=d.out.2 0 jd;obtain⟨Y,a0⟩:=d.out.2 1 jd;obtain⟨a1,a2⟩:=d.out.2 2 jd;obtain⟨a3,a4⟩:=d.out.2 3 jd;obtain⟨a5,a6⟩:=d.out.2 4 jd;obtain⟨a7,a8⟩:=d.out.2 5 jd;obtain⟨a9,b0⟩:=d.out.2 6 jd;obtain⟨b1,b2⟩:=d.out.2 7 jd;obtain⟨b3,b4⟩:=d.out.2 8 jd
   by_cases s:e=0
   · obtain⟨⟨vs,vm,hv,y,z⟩,F⟩:=D.out s;subst hv;obtain⟨As,cs,rfl,_,_⟩:=zR y;obtain⟨Am,cm,rfl,_,_⟩:=zR z;have G:=zA y;have H:=zA z;have M:=zA (Mv.then C.out F);have U:=zA s;obtain⟨N,o⟩:=jx t.str.length;obtain⟨O,p⟩:=jx t.mag.length;rw[o,p];rw[o]at G;rw[p]at H;have P:=zA o;have Q:=zA p;clear y z F s o p;go_wp2_with fail;obtain⟨q0,q1,q2,q3,q4,q5,q6,q7,q8⟩:=zZ (v0:=.int .i64 (t.kind:Int)) (v1:=.string ⟨t.text.toArray⟩) (v2:=.slice As N cs) (v3:=.int .i64 t.nk) (v4:=.int .i64 t.nn) (v5:=.bool false) (v6:=.slice Am O cm) (v7:=.int .i64 (t.pos:Int)) (v8:=.bool t.nl) d.out rfl;refine bodyPost_ret (v:=.tuple #[.agg #[.int .i64 (t.kind:Int),.string ⟨t.text.toArray⟩,.slice As N cs,.int .i64 t.nk,.int .i64 t.nn,.bool false,.slice Am O cm,.int .i64 (t.pos:Int),.bool t.nl],.int .i64 (e:Int)]) (by simp[results,results31,go_sem,q0,q1,q2,q3,q4,q5,q6,q7,q8]) rfl ?_;refine⟨_,rfl,fun h=>absurd U.out h,fun _=>⟨⟨_,_,rfl,?_,?_⟩,?_⟩,zAa E.out (yAC _)⟩
     · rw[P.out];exact zAf (zA9 G.out I) jo
     · rw[Q.out];exact zAf (zA9 H.out I) jo
     · exact zAG M.out (yAC _) hg
   · obtain rfl:=J.out s;unfold noV;go_wp2_with fail;obtain⟨q0,q1,q2,q3,q4,q5,q6,q7,q8⟩:=zZ (v0:=.int .i64 0) (v1:=.string ⟨#[]⟩) (v2:=.slice none 0 0) (v3:=.int .i64 0) (v4:=.int .i64 0) (v5:=.bool false) (v6:=.slice none 0 0) (v7:=.int .i64 0) (v8:=.bool false) d.out rfl;refine bodyPost_ret (v:=.tuple #[.agg #[.int .i64 0,.string ⟨#[]⟩,.slice none 0 0,.int .i64 0,.int .i64 0,.bool false,.slice none 0 0,.int .i64 0,.bool false],.int .i64 (e:Int)]) (by simp[results,results31,go_sem,q0,q1,q2,q3,q4,q5,q6,q7,q8]) rfl ?_;exact⟨_,rfl,fun _=>rfl,fun h=>absurd h s,zAa E.out (yAC _)⟩
  | false=>
   by_cases b5:x.toNat=39
   · have d6:((x.toNat:Int)==39)=true:=by rw[b5];rfl
     have V:=zA (show(x.toNat==39 || x.toNat==34)=true by rw[b5];rfl);clear b5;have L:=zA (show zAy u[k] (u.drop (k+1))=(e,t,m) by
      have:=HQ.out;rw[if_neg (by rw[hlet];simp),if_neg (by rw[hdig];simp),if_pos V.out]at this;rw[HX.out];exact this)
     go_wp2_with (first | (go_at_call 60;refine(zA5 _ _).mono ?_;rintro e2 w2 ⟨rfl,rfl⟩) | (go_at_call 62;refine(zAH _ _).mono ?_;rintro e2 w2 ⟨rfl,rfl⟩));refine(zGd (m:=m) (e:=e) (t:=t) C.out.rd rfl T.out hB hk hl L.out).mono ?_;rintro e4 w4 ⟨v,rfl,q,f,r⟩;have d:=zA (S.out.grown r jo);have J:=zA q;have D:=zA f;have E:=zA (zC C.out.grown r);clear q f r;obtain⟨W,X⟩:=d.out.2 0 jd;obtain⟨Y,a0⟩:=d.out.2 1 jd;obtain⟨a1,a2⟩:=d.out.2 2 jd;obtain⟨a3,a4⟩:=d.out.2 3 jd;obtain⟨a5,a6⟩:=d.out.2 4 jd;obtain⟨a7,a8⟩:=d.out.2 5 jd;obtain⟨a9,b0⟩:=d.out.2 6 jd;obtain⟨b1,b2⟩:=d.out.2 7 jd;obtain⟨b3,b4⟩:=d.out.2 8 jd
     by_cases s:e=0
     · obtain⟨⟨vs,vm,hv,y,z⟩,F⟩:=D.out s;subst hv;obtain⟨As,cs,rfl,_,_⟩:=zR y;obtain⟨Am,cm,rfl,_,_⟩:=zR z;have G:=zA y;have H:=zA z;have M:=zA (Mv.then C.out F);have U:=zA s;obtain⟨N,o⟩:=jx t.str.length;obtain⟨O,p⟩:=jx t.mag.length;rw[o,p];rw[o]at G;rw[p]at H;have P:=zA o;have Q:=zA p;clear y z F s o p;go_wp2_with fail;obtain⟨q0,q1,q2,q3,q4,q5,q6,q7,q8⟩:=zZ (v0:=.int .i64 (t.kind:Int)) (v1:=.string ⟨t.text.toArray⟩) (v2:=.slice As N cs) (v3:=.int .i64 t.nk) (v4:=.int .i64 t.nn) (v5:=.bool false) (v6:=.slice Am O cm) (v7:=.int .i64 (t.pos:Int)) (v8:=.bool t.nl) d.out rfl;refine bodyPost_ret (v:=.tuple #[.agg #[.int .i64 (t.kind:Int),.string ⟨t.text.toArray⟩,.slice As N cs,.int .i64 t.nk,.int .i64 t.nn,.bool false,.slice Am O cm,.int .i64 (t.pos:Int),.bool t.nl],.int .i64 (e:Int)]) (by simp[results,results31,go_sem,q0,q1,q2,q3,q4,q5,q6,q7,q8]) rfl ?_;refine⟨_,rfl,fun h=>absurd U.out h,fun _=>⟨⟨_,_,rfl,?_,?_⟩,?_⟩,zAa E.out (yAC _)⟩
       · rw[P.out];exact zAf (zA9 G.out I) jo
       · rw[Q.out];exact zAf (zA9 H.out I) jo
       · exact zAG M.out (yAC _) hg
     · obtain rfl:=J.out s;unfold noV;go_wp2_with fail;obtain⟨q0,q1,q2,q3,q4,q5,q6,q7,q8⟩:=zZ (v0:=.int .i64 0) (v1:=.string ⟨#[]⟩) (v2:=.slice none 0 0) (v3:=.int .i64 0) (v4:=.int .i64 0) (v5:=.bool false) (v6:=.slice none 0 0) (v7:=.int .i64 0) (v8:=.bool false) d.out rfl;refine bodyPost_ret (v:=.tuple #[.agg #[.int .i64 0,.string ⟨#[]⟩,.slice none 0 0,.int .i64 0,.int .i64 0,.bool false,.slice none 0 0,.int .i64 0,.bool false],.int .i64 (e:Int)]) (by simp[results,results31,go_sem,q0,q1,q2,q3,q4,q5,q6,q7,q8]) rfl ?_;exact⟨_,rfl,fun _=>rfl,fun h=>absurd h s,zAa E.out (yAC _)⟩
   · have d6:((x.toNat:Int)==39)=false:=yA.2 jo
     by_cases b8:x.toNat=34
     · have d7:((x.toNat:Int)==34)=true:=by rw[b8];rfl
       have V:=zA (show(x.toNat==39 || x.toNat==34)=true by rw[b8];rfl);clear b8 b5;have L:=zA (show zAy u[k] (u.drop (k+1))=(e,t,m) by
        have:=HQ.out;rw[if_neg (by rw[hlet];simp),if_neg (by rw[hdig];simp),if_pos V.out]at this;rw[HX.out];exact this)
       go_wp2_with (first | (go_at_call 60;refine(zA5 _ _).mono ?_;rintro e2 w2 ⟨rfl,rfl⟩) | (go_at_call 62;refine(zAH _ _).mono ?_;rintro e2 w2 ⟨rfl,rfl⟩));refine(zGd (m:=m) (e:=e) (t:=t) C.out.rd rfl T.out hB hk hl L.out).mono ?_;rintro e4 w4 ⟨v,rfl,q,f,r⟩;have d:=zA (S.out.grown r jo);have J:=zA q;have D:=zA f;have E:=zA (zC C.out.grown r);clear q f r;obtain⟨W,X⟩:=d.out.2 0 jd;obtain⟨Y,a0⟩:=d.out.2 1 jd;obtain⟨a1,a2⟩:=d.out.2 2 jd;obtain⟨a3,a4⟩:=d.out.2 3 jd;obtain⟨a5,a6⟩:=d.out.2 4 jd;obtain⟨a7,a8⟩:=d.out.2 5 jd;obtain⟨a9,b0⟩:=d.out.2 6 jd;obtain⟨b1,b2⟩:=d.out.2 7 jd;obtain⟨b3,b4⟩:=d.out.2 8 jd
       by_cases s:e=0
       · obtain⟨⟨vs,vm,hv,y,z⟩,F⟩:=D.out s;subst hv;obtain⟨As,cs,rfl,_,_⟩:=zR y;obtain⟨Am,cm,rfl,_,_⟩:=zR z;have G:=zA y;have H:=zA z;have M:=zA (Mv.then C.out F);have U:=zA s;obtain⟨N,o⟩:=jx t.str.length;obtain⟨O,p⟩:=jx t.mag.length;rw[o,p];rw[o]at G;rw[p]at H;have P:=zA o;have Q:=zA p;clear y z F s o p;go_wp2_with fail;obtain⟨q0,q1,q2,q3,q4,q5,q6,q7,q8⟩:=zZ (v0:=.int .i64 (t.kind:Int)) (v1:=.string ⟨t.text.toArray⟩) (v2:=.slice As N cs) (v3:=.int .i64 t.nk) (v4:=.int .i64 t.nn) (v5:=.bool false) (v6:=.slice Am O cm) (v7:=.int .i64 (t.pos:Int)) (v8:=.bool t.nl) d.out rfl;refine bodyPost_ret (v:=.tuple #[.agg #[.int .i64 (t.kind:Int),.string ⟨t.text.toArray⟩,.slice As N cs,.int .i64 t.nk,.int .i64 t.nn,.bool false,.slice Am O cm,.int .i64 (t.pos:Int),.bool t.nl],.int .i64 (e:Int)]) (by simp[results,results31,go_sem,q0,q1,q2,q3,q4,q5,q6,q7,q8]) rfl ?_;refine⟨_,rfl,fun h=>absurd U.out h,fun _=>⟨⟨_,_,rfl,?_,?_⟩,?_⟩,zAa E.out (yAC _)⟩
         · rw[P.out];exact zAf (zA9 G.out I) jo
         · rw[Q.out];exact zAf (zA9 H.out I) jo
         · exact zAG M.out (yAC _) hg
       · obtain rfl:=J.out s;unfold noV;go_wp2_with fail;obtain⟨q0,q1,q2,q3,q4,q5,q6,q7,q8⟩:=zZ (v0:=.int .i64 0) (v1:=.string ⟨#[]⟩) (v2:=.slice none 0 0) (v3:=.int .i64 0) (v4:=.int .i64 0) (v5:=.bool false) (v6:=.slice none 0 0) (v7:=.int .i64 0) (v8:=.bool false) d.out rfl;refine bodyPost_ret (v:=.tuple #[.agg #[.int .i64 0,.string ⟨#[]⟩,.slice none 0 0,.int .i64 0,.int .i64 0,.bool false,.slice none 0 0,.int .i64 0,.bool false],.int .i64 (e:Int)]) (by simp[results,results31,go_sem,q0,q1,q2,q3,q4,q5,q6,q7,q8]) rfl ?_;exact⟨_,rfl,fun _=>rfl,fun h=>absurd h s,zAa E.out (yAC _)⟩
     · have d7:((x.toNat:Int)==34)=false:=yA.2 jo;have V:=zA (show(x.toNat==39 || x.toNat==34)=false by
        rw[Bool.or_eq_false_iff];exact⟨yA.2 b5,yA.2 b8⟩)
       clear b5 b8;obtain⟨b,hb⟩:=jx (zBF 1 zK (u.drop k));have d2:=zA (show zBF 0 zK (u.drop (k+1))=b by
        rw[←hb,b6.out];unfold zBF;rfl)
       have HB:=zA hb;clear hb
       by_cases b9:x.toNat=46
       · have d8:((x.toNat:Int)==46)=true:=by rw[b9];rfl
         have d0:=zA (show(x.toNat==46)=true by rw[b9];rfl);clear b9;go_wp2_with (first | (go_at_call 60;refine(zA5 _ _).mono ?_;rintro e2 w2 ⟨rfl,rfl⟩) | (go_at_call 62;refine(zAH _ _).mono ?_;rintro e2 w2 ⟨rfl,rfl⟩));refine(zAq (j:=1) C.out.rd rfl T.out (Nat.le_of_lt hk) hl jo HB.out).mono ?_;rintro e3 w3 ⟨rfl,m3,c5⟩;have c2:=zA (show Mv w w3 g (some ⟨blk,off,none⟩) u.length c k by rw[c5];exact C.out.drewN m3);have R:=zA (show Blk w3 w.heap.size zBQ by rw[c5];exact S.out.grown (zAE _ (some g) _) jo);have d1:w.heap.size < w3.heap.size:=by rw[c5];simpa using I
         have d9:=zA (HA.out.grown c2.out.grown hB (Nat.le_of_lt hg));clear c5 m3 C S T I;cases b with
         | true=>
          obtain⟨W,X⟩:=R.out.2 0 jd;obtain⟨Y,a0⟩:=R.out.2 1 jd;obtain⟨a1,a2⟩:=R.out.2 2 jd;obtain⟨a3,a4⟩:=R.out.2 3 jd;obtain⟨a5,a6⟩:=R.out.2 4 jd;obtain⟨a7,a8⟩:=R.out.2 5 jd;obtain⟨a9,b0⟩:=R.out.2 6 jd;obtain⟨b1,b2⟩:=R.out.2 7 jd;obtain⟨b3,b4⟩:=R.out.2 8 jd;go_wp2_with fail;obtain⟨q0,q1,q2,q3,q4,q5,q6,q7,q8⟩:=zZ (v0:=.int .i64 0) (v1:=.string ⟨#[]⟩) (v2:=.slice none 0 0) (v3:=.int .i64 0) (v4:=.int .i64 0) (v5:=.bool false) (v6:=.slice none 0 0) (v7:=.int .i64 0) (v8:=.bool false) R.out rfl;refine bodyPost_ret (v:=.tuple #[.agg #[.int .i64 0,.string ⟨#[]⟩,.slice none 0 0,.int .i64 0,.int .i64 0,.bool false,.slice none 0 0,.int .i64 0,.bool false],.int .i64 6]) (by simp[results,results31,go_sem,q0,q1,q2,q3,q4,q5,q6,q7,q8]) rfl ?_;have hq:=HQ.out;rw[if_neg (by rw[hlet];simp),if_neg (by rw[hdig];simp),if_neg (by rw[V.out];simp),if_pos (by rw[d0.out,d2.out];rfl)]at hq;obtain⟨z1,z2,z3⟩:=zCJ hq;subst z1;exact⟨_,rfl,fun _=>rfl,fun h=>absurd h jd,(zAG c2.out (yAC _) hg).grown⟩
         | false=>
          have L:=zA (show zCG (k==0) (u.drop k)=(e,t,m) by
           have:=HQ.out;rw[if_neg (by rw[hlet];simp),if_neg (by rw[hdig];simp),if_neg (by rw[V.out];simp),if_neg (by rw[d2.out];simp)]at this;rw[b6.out];exact this)
          go_wp2_with fail;refine(zHf (m:=m) (e:=e) (t:=t) c2.out.rd rfl d9.out hB hk hl hc L.out).mono ?_;rintro e4 w4 ⟨v,rfl,q,f,r⟩;have d:=zA (R.out.grown r jo);have J:=zA q;have D:=zA f;have E:=zA (zC c2.out.grown r);clear q f r;obtain⟨W,X⟩:=d.out.2 0 jd;obtain⟨Y,a0⟩:=d.out.2 1 jd;obtain⟨a1,a2⟩:=d.out.2 2 jd;obtain⟨a3,a4⟩:=d.out.2 3 jd;obtain⟨a5,a6⟩:=d.out.2 4 jd;obtain⟨a7,a8⟩:=d.out.2 5 jd;obtain⟨a9,b0⟩:=d.out.2 6 jd;obtain⟨b1,b2⟩:=d.out.2 7 jd;obtain⟨b3,b4⟩:=d.out.2 8 jd
          by_cases s:e=0
          · obtain⟨⟨vs,vm,hv,y,z⟩,F⟩:=D.out s;subst hv;obtain⟨As,cs,rfl,_,_⟩:=zR y;obtain⟨Am,cm,rfl,_,_⟩:=zR z;have G:=zA y;have H:=zA z;have M:=zA (Mv.then c2.out F);have U:=zA s;obtain⟨N,o⟩:=jx t.str.length;obtain⟨O,p⟩:=jx t.mag.length;rw[o,p];rw[o]at G;rw[p]at H;have P:=zA o;have Q:=zA p;clear y z F s o p;go_wp2_with fail;obtain⟨q0,q1,q2,q3,q4,q5,q6,q7,q8⟩:=zZ (v0:=.int .i64 (t.kind:Int)) (v1:=.string ⟨t.text.toArray⟩) (v2:=.slice As N cs) (v3:=.int .i64 t.nk) (v4:=.int .i64 t.nn) (v5:=.bool false) (v6:=.slice Am O cm) (v7:=.int .i64 (t.pos:Int)) (v8:=.bool t.nl) d.out rfl;refine bodyPost_ret (v:=.tuple #[.agg #[.int .i64 (t.kind:Int),.string ⟨t.text.toArray⟩,.slice As N cs,.int .i64 t.nk,.int .i64 t.nn,.bool false,.slice Am O cm,.int .i64 (t.pos:Int),.bool t.nl],.int .i64 (e:Int)]) (by simp[results,results31,go_sem,q0,q1,q2,q3,q4,q5,q6,q7,q8]) rfl ?_;refine⟨_,rfl,fun h=>absurd U.out h,fun _=>⟨⟨_,_,rfl,?_,?_⟩,?_⟩,zAa E.out (yAC _)⟩
            · rw[P.out];exact zAf (zA9 G.out d1) jo
            · rw[Q.out];exact zAf (zA9 H.out d1) jo
            · exact zAG M.out (yAC _) hg
          · obtain rfl:=J.out s;unfold noV;go_wp2_with fail;obtain⟨q0,q1,q2,q3,q4,q5,q6,q7,q8⟩:=zZ (v0:=.int .i64 0) (v1:=.string ⟨#[]⟩) (v2:=.slice none 0 0) (v3:=.int .i64 0) (v4:=.int .i64 0) (v5:=.bool false) (v6:=.slice none 0 0) (v7:=.int .i64 0) (v8:=.bool false) d.out rfl;refine bodyPost_ret (v:=.tuple #[.agg #[.int .i64 0,.string ⟨#[]⟩,.slice none 0 0,.int .i64 0,.int .i64 0,.bool false,.slice none 0 0,.int .i64 0,.bool false],.int .i64 (e:Int)]) (by simp[results,results31,go_sem,q0,q1,q2,q3,q4,q5,q6,q7,q8]) rfl ?_;exact⟨_,rfl,fun _=>rfl,fun h=>absurd h s,zAa E.out (yAC _)⟩
       · have d8:((x.toNat:Int)==46)=false:=yA.2 jo;have d0:=zA (show(x.toNat==46)=false from yA.2 b9);clear b9;have L:=zA (show zCG (k==0) (u.drop k)=(e,t,m) by
          have:=HQ.out;rw[if_neg (by rw[hlet];simp),if_neg (by rw[hdig];simp),if_neg (by rw[V.out];simp),if_neg (by rw[d0.out];simp)]at this;rw[b6.out];exact this)
         go_wp2_with (first | (go_at_call 60;refine(zA5 _ _).mono ?_;rintro e2 w2 ⟨rfl,rfl⟩) | (go_at_call 62;refine(zAH _ _).mono ?_;rintro e2 w2 ⟨rfl,rfl⟩));refine(zHf (m:=m) (e:=e) (t:=t) C.out.rd rfl T.out hB hk hl hc L.out).mono ?_;rintro e4 w4 ⟨v,rfl,q,f,r⟩;have d:=zA (S.out.grown r jo);have J:=zA q;have D:=zA f;have E:=zA (zC C.out.grown r);clear q f r;obtain⟨W,X⟩:=d.out.2 0 jd;obtain⟨Y,a0⟩:=d.out.2 1 jd;obtain⟨a1,a2⟩:=d.out.2 2 jd;obtain⟨a3,a4⟩:=d.out.2 3 jd;obtain⟨a5,a6⟩:=d.out.2 4 jd;obtain⟨a7,a8⟩:=d.out.2 5 jd;obtain⟨a9,b0⟩:=d.out.2 6 jd;obtain⟨b1,b2⟩:=d.out.2 7 jd;obtain⟨b3,b4⟩:=d.out.2 8 jd
         by_cases s:e=0
         · obtain⟨⟨vs,vm,hv,y,z⟩,F⟩:=D.out s;subst hv;obtain⟨As,cs,rfl,_,_⟩:=zR y;obtain⟨Am,cm,rfl,_,_⟩:=zR z;have G:=zA y;have H:=zA z;have M:=zA (Mv.then C.out F);have U:=zA s;obtain⟨N,o⟩:=jx t.str.length;obtain⟨O,p⟩:=jx t.mag.length;rw[o,p];rw[o]at G;rw[p]at H;have P:=zA o;have Q:=zA p;clear y z F s o p;go_wp2_with fail;obtain⟨q0,q1,q2,q3,q4,q5,q6,q7,q8⟩:=zZ (v0:=.int .i64 (t.kind:Int)) (v1:=.string ⟨t.text.toArray⟩) (v2:=.slice As N cs) (v3:=.int .i64 t.nk) (v4:=.int .i64 t.nn) (v5:=.bool false) (v6:=.slice Am O cm) (v7:=.int .i64 (t.pos:Int)) (v8:=.bool t.nl) d.out rfl;refine bodyPost_ret (v:=.tuple #[.agg #[.int .i64 (t.kind:Int),.string ⟨t.text.toArray⟩,.slice As N cs,.int .i64 t.nk,.int .i64 t.nn,.bool false,.slice Am O cm,.int .i64 (t.pos:Int),.bool t.nl],.int .i64 (e:Int)]) (by simp[results,results31,go_sem,q0,q1,q2,q3,q4,q5,q6,q7,q8]) rfl ?_;refine⟨_,rfl,fun h=>absurd U.out h,fun _=>⟨⟨_,_,rfl,?_,?_⟩,?_⟩,zAa E.out (yAC _)⟩
           · rw[P.out];exact zAf (zA9 G.out I) jo
           · rw[Q.out];exact zAf (zA9 H.out I) jo
           · exact zAG M.out (yAC _) hg
         · obtain rfl:=J.out s;unfold noV;go_wp2_with fail;obtain⟨q0,q1,q2,q3,q4,q5,q6,q7,q8⟩:=zZ (v0:=.int .i64 0) (v1:=.string ⟨#[]⟩) (v2:=.slice none 0 0) (v3:=.int .i64 0) (v4:=.int .i64 0) (v5:=.bool false) (v6:=.slice none 0 0) (v7:=.int .i64 0) (v8:=.bool false) d.out rfl;refine bodyPost_ret (v:=.tuple #[.agg #[.int .i64 0,.string ⟨#[]⟩,.slice none 0 0,.int .i64 0,.int .i64 0,.bool false,.slice none 0 0,.int .i64 0,.bool false],.int .i64 (e:Int)]) (by simp[results,results31,go_sem,q0,q1,q2,q3,q4,q5,q6,q7,q8]) rfl ?_;exact⟨_,rfl,fun _=>rfl,fun h=>absurd h s,zAa E.out (yAC _)⟩
theorem Tryz.info_tok:(prog.info? 80).map (fun i=>(i.zero,i.size,i.bytes))=some (some (.agg zBQ.toArray),9,112):=by kernel_rfl
def zFb (t:Tok) (vs vm:Value):List Value:=[.int .i64 (t.kind:Int),.string ⟨t.text.toArray⟩,vs,.int .i64 t.nk,.int .i64 t.nn,.bool false,vm,.int .i64 (t.pos:Int),.bool t.nl]
def TokC (w:World) (base:Nat):List Tok→List Value→Prop
 | [],cs=>cs=[]
 | t::r,cs=>∃vs vm rest,cs=zFb t vs vm++rest∧w.ownsRow base 65 1 vs t.str.length (zAI t.str)∧w.ownsRow base 67 1 vm t.mag.length (zBi t.mag)∧TokC w base r rest
theorem TokC.map {w:World} {base b:Nat} (hk:∀(e:TypeId) (v:Value) (n:Nat) (xs:List Value),(e=65∨e=67)→w.ownsRow base e 1 v n xs→w'.ownsRow b e 1 v n xs):∀{ts:List Tok} {cs:List Value},TokC w base ts cs→TokC w' b ts cs:=by
 intro ts
 induction ts with
 | nil=>intro cs h;exact h
 | cons t r c=>
  intro cs h;obtain⟨vs,d,rest,rfl,h1,f,g⟩:=h;exact⟨vs,d,rest,rfl,hk _ _ _ _ (.inl rfl) h1,hk _ _ _ _ (.inr rfl) f,c g⟩
theorem TokC.snoc {w:World} {base:Nat} {vs b:Value} (h1:w.ownsRow base 65 1 vs t.str.length (zAI t.str)) (e:w.ownsRow base 67 1 b t.mag.length (zBi t.mag)):∀{ts:List Tok} {cs:List Value},TokC w base ts cs→TokC w base (ts++[t]) (cs++zFb t vs b):=by
 intro ts
 induction ts with
 | nil=>intro cs h;rw[show cs=[]from h];exact⟨vs,b,[],by simp,h1,e,rfl⟩
 | cons s r f=>
  intro cs h;obtain⟨c,d,rest,rfl,g1,g2,g⟩:=h;exact⟨c,d,rest++zFb t vs b,by simp,g1,g2,f g⟩
theorem zGg {w:World} {e1 e2:TypeId} {s1 l d:Nat} {v1 v2:Value} {o:List Value} (h1:w.ownsRow c e1 s1 v1 d xs) (p:w.ownsRow k e2 l v2 m o) (f:e1≠e2) (hg:w.grownBy w' v2.ownBlock):w'.ownsRow c e1 s1 v1 d xs:=by
 refine h1.kept hg ?_;rcases h1.2 with⟨rfl,_⟩ | ⟨g,cap,s,rfl,_,j,_⟩
 · exact .inl rfl
 · right;rcases p.2 with⟨rfl,_⟩ | ⟨g2,q,r,rfl,_,b,_⟩
   · simp[Value.ownBlock]
   · intro e;simp only[Value.ownBlock,Option.some.injEq]at e;subst e;rw[j]at b;injection b with b;injection b with _ h4 _;exact f h4
theorem zPU {w:World} {base:Nat} {e:TypeId} {s:Nat} {v:Value} (h:w.ownsRow base e s v n xs) (hg:w.grownBy w' none):w'.ownsRow base e s v n xs:=
 h.kept hg (by cases hv:v.ownBlock<;>simp)
def TokL (w:World) (base:Nat) (ts:List Tok) (v:Value):Prop:=∃cs,w.ownsRow base 80 9 v ts.length cs∧TokC w base ts cs
theorem TokL.nil (w:World) (base:Nat):TokL w base [] (.slice none 0 0):=⟨[],yAJ _ _ _ _,rfl⟩
theorem TokL.grown {w:World} {base:Nat} {v:Value} (h:TokL w base ts v) (hg:w.grownBy w' (some g)) (hb:g < base):TokL w' base ts v:=by
 obtain⟨cs,h1,b⟩:=h;exact⟨cs,zBl h1 hg hb,b.map fun _ _ _ _ _ h=>zBl h hg hb⟩
theorem TokL.new {w:World} {base:Nat} {v:Value} (h:TokL w base ts v) (hg:w.grownBy w' none):TokL w' base ts v:=by
 obtain⟨cs,h1,b⟩:=h;exact⟨cs,zPU h1 hg,b.map fun _ _ _ _ _ h=>zPU h hg⟩
theorem TokL.base {w:World} {base b:Nat} {v:Value} (h:TokL w base ts v) (hb:b≤base):TokL w b ts v:=by
 obtain⟨cs,h1,c⟩:=h;exact⟨cs,zAf h1 hb,c.map fun _ _ _ _ _ h=>zAf h hb⟩
theorem TokL.snoc {w:World} {base:Nat} {v v':Value} {vs b:Value} {cs:List Value} (c:w.ownsRow base 80 9 v ts.length cs) (d:TokC w base ts cs) (h1:w.ownsRow base 65 1 vs t.str.length (zAI t.str)) (f:w.ownsRow base 67 1 b t.mag.length (zBi t.mag))
 (g:w'.ownsRow base 80 9 v' (ts.length+1) (cs++zFb t vs b)) (hg:w.grownBy w' v.ownBlock):TokL w' base (ts++[t]) v':=by
 refine⟨cs++zFb t vs b,by rw[List.length_append];exact g,TokC.snoc (zGg h1 c jd hg) (zGg f c jd hg) (d.map fun e _ _ _ j h=>zGg h c (by rcases j with rfl | rfl<;>decide) hg)⟩
section
variable {P:Program} {w:World} {ops:Array Oper} {rest:List Oper} {o:Oper} {a:Act} {Q:Exit→Act→World→Prop}
theorem zGh (b:o.guard=none) (s x:Operand) (t:TypeId)
 (d:o.op=.call {callee:=.builtin .append,args:=#[s,x],argTypes:=#[t,t]})
 (e:TypeId) (i:TypeInfo) (z:Value) (size bytes:Nat) (ht:P.underlying t=some (.slice e)) (hi:P.info? e=some i) (hz:i.zero=some z)
 (hsize:i.size=size) (hby:i.bytes=bytes) (hzs:z.cells.size=size) (hsz0:0 < size) (base:Nat) (hbase:base≤w.heap.size)
 (v:Value) (xs:List Value) (k:Nat) (hs:a.eval s=v) (hm:w.ownsRow base e size v k xs)
 (cs:List Value) (m c B0:Nat) (hB0:B0=w.heap.size) (hx:a.eval x=.slice (some ⟨B0,0,none⟩) m c) (hl:cs.length=m*size) (h1:(cs.all fun u=>u.oneCell')=true)
 (hsz:k+m≤70368744177664) (hb2:(k+m)*bytes≤140737488355328)
 (h:∀v' w',w'.ownsRow base e size v' (k+m) (xs++cs)→w.grownBy w' v.ownBlock→wpList P ops Q rest (a.put o.dst v') w'):wpList P ops Q (o::rest) a (w.alloc (.cells cs.toArray e)):=by
 subst hB0;exact zEY b s x t d e i z size bytes ht hi hz hsize hby hzs hsz0 base hbase v xs k hs hm cs m c hx hl h1 hsz hb2 h
end
structure LxS (w wr:World) (A:Option Addr) (n c p:Nat) (v:Value) (acc:List Tok):Prop where
 rd:Rd wr w.heap.size A n c p
 below:Below w.heap.size w wr
 toks:TokL wr (w.heap.size+1) acc v
theorem zEZ {w:World} (h:Below w.heap.size w wr) (hg:wr.grownBy w' (some w.heap.size)):Below w.heap.size w w':=
 h.grown hg h.size (fun k hk=>by injection hk with hk;omega)
theorem LxS.mov {w:World} {v:Value} {b:List Tok} (h:LxS w wr A n c p v b) (d:Mv wr w' w.heap.size A n c e):LxS w w' A n c e v b:=
 ⟨d.rd,zEZ h.below d.grown,h.toks.grown d.grown jo⟩
theorem LxS.new {w:World} {v:Value} {b:List Tok} (h:LxS w wr A n c p v b) (hg:wr.grownBy w' none):LxS w w' A n c p v b:=
 ⟨⟨hg.cell h.rd.c0 js,hg.cell h.rd.c1 js,(World.frozen?_of_block (w:=wr) (hg.block _ h.rd.lt js)).trans h.rd.f1⟩,h.below.grown hg h.below.size (fun k hk=>by cases hk),h.toks.new hg⟩
theorem LxS.app {w:World} {v v':Value} {f b:List Tok} (h:LxS w wr A n c p v f) (hg:wr.grownBy w' v.ownBlock) (j:TokL w' (w.heap.size+1) b v'):LxS w w' A n c p v' b:=by
 obtain⟨cs,g,_⟩:=h.toks;have d:∀k,k < w.heap.size+1→some k≠v.ownBlock:=fun k hk e=>by have:=(g.lt k e.symm).1;omega
 exact⟨⟨hg.cell h.rd.c0 (d _ js),hg.cell h.rd.c1 (d _ js),(World.frozen?_of_block (w:=wr) (hg.block _ h.rd.lt (d _ js))).trans h.rd.f1⟩,h.below.grown hg h.below.size (fun k hk=>by have:=(g.lt k hk).1;omega),j⟩
def zUc (acc:List Tok) (q:List Tok×Nat×Nat):List Tok×Nat×Nat:=if q.2.2≠0 then([],q.2)else(acc++q.1,0,0)
theorem zPV (b:List Tok) (t:Tok) (q:List Tok×Nat×Nat):zUc b (zFo t q)=zUc (b++[t]) q:=by
 unfold zUc zFo
 by_cases h:q.2.2≠0
 · rw[if_pos h,if_pos h];simp only;rw[if_pos h]
 · rw[if_neg h,if_neg h];simp
theorem zJT:∀(f k:Nat) (l:List UInt16),(zFD f k l).2.2=0→(zFD f k l).2.1=0:=by
 intro f
 induction f with
 | zero=>intro k l _;rfl
 | succ f e=>
  intro k l;rw[zFD]
  by_cases h1:(zAQ l).2.2≠0
  · rw[if_pos h1];intro h;exact absurd h h1
  rw[if_neg h1]
  by_cases c:l.drop (zAQ l).1=[]
  · rw[if_pos c];intro _;rfl
  rw[if_neg c]
  by_cases b:(zA6 k l).1≠0
  · rw[if_pos b];intro h;exact absurd h b
  rw[if_neg b];unfold zFo;split
  · intro h;rename_i d;exact absurd h d
  · intro _;rfl
theorem zLh:∀(f k:Nat) (l:List UInt16),(zFD f k l).2.2≠0→(zFD f k l).1=[]:=by
 intro f
 induction f with
 | zero=>intro k l _;rfl
 | succ f d=>
  intro k l;rw[zFD]
  by_cases h1:(zAQ l).2.2≠0
  · rw[if_pos h1];intro h;rfl
  rw[if_neg h1]
  by_cases b:l.drop (zAQ l).1=[]
  · rw[if_pos b];intro h;exact absurd rfl h
  rw[if_neg b]
  by_cases c:(zA6 k l).1≠0
  · rw[if_pos c];intro h;rfl
  rw[if_neg c];unfold zFo;split
  · intro _;rfl
  · intro h;exact absurd rfl h
def AtLex (u:List UInt16) (p:Nat) (acc:List Tok):Prop:=acc.length≤p∧p≤u.length∧zGW 0 u=zUc acc (zGW p (u.drop p))
theorem AtLex.start (u:List UInt16):AtLex u 0 []:=by
 refine⟨yAC _,yAE _,?_⟩;rw[List.drop_zero];unfold zUc;split
 · rename_i h
   have:=zLh _ _ _ h;exact Prod.ext this rfl
 · rename_i h
   have h1:=Decidable.not_not.1 h;have b:=zJT _ _ _ h1;exact Prod.ext rfl (Prod.ext b h1)
theorem AtLex.pass {b:List Tok} (h:AtLex u p b) (c:zAQ (u.drop p)=(m,nl,e)) (d:e≠0):zGW 0 u=([],p+m,e):=by
 obtain⟨_,_,h⟩:=h;rw[h,zJA (by rw[c];exact d),c];unfold zUc;rw[if_pos d]
theorem AtLex.last {b:List Tok} (h:AtLex u p b) (c:zAQ (u.drop p)=(m,nl,0)) (d:p+m=u.length):zGW 0 u=(b++[setAt zr u.length nl],0,0):=by
 obtain⟨_,_,h⟩:=h;rw[h,zIC (by rw[c]) (by rw[c,List.drop_drop,d,List.drop_length]),c,←d];unfold zUc;rw[if_neg js]
theorem AtLex.bad {d:List Tok} (h:AtLex u p d) (c:zAQ (u.drop p)=(m,nl,0)) (l:p+m < u.length) (g:zAY (p+m==0) (u.drop (p+m))=(e,t,k)) (f:e≠0):zGW 0 u=([],p+m,e):=by
 obtain⟨_,_,h⟩:=h;have b:zA6 p (u.drop p)=(e,t,k):=by unfold zA6;rw[c,List.drop_drop];exact g
 rw[h,zLY (by rw[c]) (by rw[c,List.drop_drop];intro j;have:=congrArg List.length j;rw[List.length_drop]at this;simp at this;omega) (by rw[b];exact f),c,b];unfold zUc;rw[if_pos f]
theorem AtLex.more {e:List Tok} (h:AtLex u p e) (d:zAQ (u.drop p)=(m,nl,0)) (j:p+m < u.length) (f:zAY (p+m==0) (u.drop (p+m))=(0,t,k)):AtLex u (p+m+k) (e++[setAt t (p+m) nl])∧1≤k:=by
 obtain⟨o,q,h⟩:=h;have c:zA6 p (u.drop p)=(0,t,k):=by unfold zA6;rw[d,List.drop_drop];exact f
 have b:=zI9 (z:=p+m==0) (l:=u.drop (p+m)) (by rw[f]);rw[f,List.length_drop]at b;simp only at b;refine⟨⟨by simp;omega,by omega,?_⟩,b.1⟩;rw[h,zE2 (by rw[d]) (by rw[d,List.drop_drop];intro g;have:=congrArg List.length g;rw[List.length_drop]at this;simp at this;omega) (by rw[c]),zPV,d,c,List.drop_drop,Nat.add_assoc]
theorem zLi {a:Bool} (h:a=b) (c:m=n):Ending.returned (.tuple #[.bool a,.int .i64 (m:Int)])=.returned (.tuple #[.bool b,.int .i64 (n:Int)]):=by rw[h,c]
def AtRem (long:Bool) (u:List UInt16) (k p:Nat) (b d:Bool):Prop:=∃i,p=k+2+i∧zDY long (u.drop (k+2)) false false=zFt i (zDY long (u.drop p) b d)
theorem AtRem.step {c:Bool} {d:Bool} (h:AtRem c u k p b d) (f:p < u.length) (h1:(c&&zq [42,47] (u.drop p))=false) (g:(!c &&zAJ u[p])=false):
 AtRem c u k (p+1) (b || zAJ u[p]) (d || zHu u[p]):=by
 obtain⟨i,hi,j⟩:=h;refine⟨i+1,by omega,?_⟩;have e:u.drop p=u[p]::u.drop (p+1):=yAH f;rw[j,e,zDY,if_neg (by rw[←e,h1];simp),if_neg (by rw[g];simp)];simp only[zFt];congr 1;omega
theorem AtRem.close {d:Bool} (h:AtRem true u k p b d) (e:p < u.length) (h1:zq [42,47] (u.drop p)=true):
 zDY true (u.drop (k+2)) false false=(p - (k+2)+2,b,zHv d)∧k+2≤p:=by
 obtain⟨i,hi,f⟩:=h;have c:u.drop p=u[p]::u.drop (p+1):=yAH e;refine⟨?_,by omega⟩;rw[f,c,zDY,if_pos (by rw[←c,h1];rfl)];simp only[zFt];congr 1;omega
theorem AtRem.line {d:Bool} (h:AtRem false u k p b d) (c:p < u.length) (h1:zAJ u[p]=true):
 zDY false (u.drop (k+2)) false false=(p - (k+2),false,zHv d)∧k+2≤p:=by
 obtain⟨i,hi,e⟩:=h;have f:u.drop p=u[p]::u.drop (p+1):=yAH c;refine⟨?_,by omega⟩;rw[e,f,zDY,if_neg js,if_pos (by rw[h1];rfl)];simp only[zFt];congr 1;omega
theorem AtRem.stop {c:Bool} {d:Bool} (h:AtRem c u k u.length b d):
 zDY c (u.drop (k+2)) false false=(u.length - (k+2),false,if c=true then 5 else zHv d)∧k+2≤u.length:=by
 obtain⟨i,hi,e⟩:=h;refine⟨?_,by omega⟩;rw[e,List.drop_length,zDY];simp only[zFt];congr 1;omega
theorem zWy {c:Bool} (d:zq [47,42] (u.drop k)=c) (f:zAt (u.drop k)=(m,nl,e)):∀(i:Nat) (b:Bool) (e':Nat),zDY c (u.drop (k+2)) false false=(i,b,e')→2+i=m∧b=nl∧e'=e:=by
 intro i b e' h;unfold zAt at f;rw[d,List.drop_drop,h]at f;simpa [zFt]using f
theorem zDK {w:World} (R:Rd w g A n c k) (hn:u.length=n) (V:Reads w B 1 A n (zAI u)) (hB:B≤g) (hk:k+2≤n) (S:n≤4096) (W:zAt (u.drop k)=(m,nl,e)):
 Calls prog 59 #[.pointer (some ⟨g,0,none⟩)] w fun ev w'=>ev=.returned (.tuple #[.bool nl,.int .i64 (e:Int)])∧Mv w w' g A n c (k+m):=by
 subst hn;obtain⟨f,s⟩:=jx (zq [47,42] (u.drop k));have M:=zA (zWy s W);have HL:=zA s;have X:=zA V;have H:=zA R;have hg:=R.lt;clear W s V R;go_enter func59,ntmps59;go_wp2_with fail;refine(zAr ⟨#[47,42]⟩ H.out rfl X.out jo S jd HL.out).mono ?_;rintro e1 w1 ⟨rfl,m1,Y⟩;subst Y;have N:=H.out.c0;have O:=H.out.c1;have P:=H.out.f1;go_wp2;have a0:=zA (Mv.step ((Mv.refl H.out).drewN m1) (z:=(k:Int)+2) (k':=k+2) jo);clear N O P
 go_loopg [5,6] (u.length - (k+2)) (fun r a T wr=>∃p b d,p+r=u.length∧a=.bool b∧T=.bool d∧Hid (Mv w wr g A u.length c p)∧Hid (AtRem f u k p b d))
 case atStart=>exact⟨k+2,false,false,by omega,rfl,rfl,a0,0,by omega,by simp[zFt]⟩
 case round=>
  obtain⟨p,b,d,a4,rfl,rfl,j,C⟩:=hrel;have N:=j.out.rd.c0;have O:=j.out.rd.c1;have P:=j.out.rd.f1;have I:=zA (X.out.grown j.out.grown hB (Nat.le_of_lt hg))
  by_cases D:p < u.length
  · have a3:(p:Int) < (u.length:Int):=by omega
    obtain⟨blk,off,rfl,_,E⟩:=I.out.spotL jo;have a1:=E p D;have l:=zA (fun h1 h2=>C.out.step D h1 h2);have t:=zA (fun(e:f=true) h1=>(by subst e;exact C.out.close D h1:zDY f (u.drop (k+2)) false false=(p - (k+2)+2,b,zHv d)∧k+2≤p));have F:=zA (fun(e:f=false) h1=>(by subst e;exact C.out.line D h1:zDY f (u.drop (k+2)) false false=(p - (k+2),false,zHv d)∧k+2≤p));obtain⟨x,hx⟩:=jx (u[p]);rw[hx]at a1 l F;obtain⟨T,o⟩:=jx (zq [42,47] (u.drop p));have Q:=zA o;rw[o]at l t;clear E hx o;cases f with
    | true=>
     cases T with
     | true=>
      have J:=zA (t.out rfl rfl);go_wp2_with fail
      go_quiet (fail)
      go_wp2_with fail
      go_quiet (fail)
      go_wp2_with (first | (go_at_call 58;refine(zAr ⟨#[42,47]⟩ (j.out.rd.drewN _) rfl (I.out.drewN _) jo S jd Q.out).mono ?_;rintro e2 w2 ⟨rfl,m2,L⟩;subst L) | (go_at_call 93;refine(zGX _ _).mono ?_;rintro e2 w2 ⟨rfl,rfl⟩))
      go_ret2
      obtain⟨q1,q2⟩:=J.out;obtain⟨U,v,y⟩:=M.out _ _ _ q1;exact⟨zLi v y,by rw[show k+m=p+2 by omega];exact Mv.step ((j.out.drewN _)) jo⟩
     | false=>
      have G:=zA (l.out rfl rfl);cases b
      all_goals cases d
      all_goals
       go_wp2_with fail
       go_quiet (fail)
       go_wp2_with fail
       go_quiet (fail)
       go_wp2_with (first | (go_at_call 58;refine(zAr ⟨#[42,47]⟩ (j.out.rd.drewN _) rfl (I.out.drewN _) jo S jd Q.out).mono ?_;rintro e2 w2 ⟨rfl,m2,L⟩;subst L) | (go_at_call 57;refine(zAT _ _).mono ?_;rintro e2 w2 ⟨rfl,rfl⟩) | (go_at_call 94;refine(zBD _ _).mono ?_;rintro e2 w2 ⟨rfl,rfl⟩))
       go_roundg (gk - 1)
       case measure=>omega
       case rel=>exact⟨p+1,_,_,by omega,rfl,rfl,Mv.step (j.out.drewN _) jo,G.out⟩
    | false=>
     cases hln:zAJ x with
     | true=>
      have J:=zA (F.out rfl hln);go_wp2_with fail
      go_quiet (fail)
      go_wp2_with fail
      go_quiet (fail)
      go_wp2_with (first | (go_at_call 57;refine(zAT _ _).mono ?_;rintro e2 w2 ⟨rfl,rfl⟩) | (go_at_call 93;refine(zGX _ _).mono ?_;rintro e2 w2 ⟨rfl,rfl⟩))
      go_ret2
      obtain⟨q1,q2⟩:=J.out;obtain⟨U,v,y⟩:=M.out _ _ _ q1;exact⟨zLi v y,by rw[show k+m=p by omega];exact j.out.drewN _⟩
     | false=>
      have G:=zA (l.out (by rfl) (by rw[hln];rfl));have a2:=zA hln;cases b
      all_goals cases d
      all_goals
       go_wp2_with fail
       go_quiet (fail)
       go_wp2_with fail
       go_quiet (fail)
       go_wp2_with (first | (go_at_call 57;refine(zAT _ _).mono ?_;rintro e2 w2 ⟨rfl,rfl⟩) | (go_at_call 94;refine(zBD _ _).mono ?_;rintro e2 w2 ⟨rfl,rfl⟩))
       go_roundg (gk - 1)
       case measure=>omega
       case rel=>exact⟨p+1,_,_,by omega,rfl,rfl,Mv.step (j.out.drewN _) jo,by first | exact G.out | (have z:=G.out;rw[a2.out]at z;exact z)⟩
  · obtain rfl:p=u.length:=by have:=j.out;omega
    have o:=zA C.out.stop;cases f with
    | true=>
     go_wp2_with fail
     go_quiet (fail)
     go_wp2
     go_ret2
     obtain⟨q1,q2⟩:=o.out;obtain⟨U,v,y⟩:=M.out _ _ _ q1;exact⟨zLi (n:=e) (m:=5) v y,by rw[show k+m=u.length by omega];exact j.out.drewN _⟩
    | false=>
     go_wp2_with fail
     go_quiet (fail)
     go_wp2_with (go_at_call 93;refine(zGX _ _).mono ?_;rintro e2 w2 ⟨rfl,rfl⟩)
     go_ret2
     obtain⟨q1,q2⟩:=o.out;obtain⟨U,v,y⟩:=M.out _ _ _ q1;exact⟨zLi v y,by rw[show k+m=u.length by omega];exact j.out.drewN _⟩
theorem zCR {a:Bool} (h:(a || b)=false):a=false∧b=false:=by cases a<;>simp_all
theorem zPW (h:(false || b)=true):b=true:=h
theorem zPX {a:Bool} {q:Nat} (h:a=b) (c:m=n) (d:p=q):Ending.returned (.tuple #[.bool a,.int .i64 (m:Int),.int .i64 (p:Int)])=.returned (.tuple #[.bool b,.int .i64 (n:Int),.int .i64 (q:Int)]):=by rw[h,c,d]
def AtPass (u:List UInt16) (k p:Nat) (b:Bool):Prop:=∃i,p=k+i∧zC4 (u.drop k) false=zFt i (zC4 (u.drop p) b)
theorem AtPass.blank (h:AtPass u k p b) (c:p < u.length) (h1:(zHM u[p] || zAJ u[p])=true):AtPass u k (p+1) (b || zAJ u[p]):=by
 obtain⟨i,hi,d⟩:=h;refine⟨i+1,by omega,?_⟩;rw[d,yAH c,zGV h1];simp only[zFt];congr 1;omega
theorem AtPass.remark (h:AtPass u k p b) (f:p < u.length) (h1:(zHM u[p] || zAJ u[p])=false) (d:(zq [47,47] (u.drop p) || zq [47,42] (u.drop p))=true)
 (e:zAt (u.drop p)=(m,nl,0)):AtPass u k (p+m) (b || nl):=by
 obtain⟨i,hi,g⟩:=h;refine⟨i+m,by omega,?_⟩;have c:u.drop p=u[p]::u.drop (p+1):=yAH f;rw[c]at e d;rw[g,c,zFj h1 d,e,if_neg js,←c,List.drop_drop];simp only[zFt];congr 1;omega
theorem AtPass.bad (h:AtPass u k p b) (j:p < u.length) (h1:(zHM u[p] || zAJ u[p])=false) (c:(zq [47,47] (u.drop p) || zq [47,42] (u.drop p))=true)
 (d:zAt (u.drop p)=(m,nl,e)) (f:e≠0):zC4 (u.drop k) false=(p - k,false,e)∧k≤p:=by
 obtain⟨i,hi,l⟩:=h;refine⟨?_,by omega⟩;have g:u.drop p=u[p]::u.drop (p+1):=yAH j;rw[g]at d c;rw[l,g,zFj h1 c,d,if_pos f];simp only[zFt];congr 1;omega
theorem AtPass.halt (h:AtPass u k p b) (e:p < u.length) (h1:(zHM u[p] || zAJ u[p])=false) (c:(zq [47,47] (u.drop p) || zq [47,42] (u.drop p))=false):
 zC4 (u.drop k) false=(p - k,b,0)∧k≤p:=by
 obtain⟨i,hi,f⟩:=h;refine⟨?_,by omega⟩;have d:u.drop p=u[p]::u.drop (p+1):=yAH e;rw[d]at c;rw[f,d,zFT h1 c];simp only[zFt];congr 1;omega
theorem AtPass.stop (h:AtPass u k u.length b):zC4 (u.drop k) false=(u.length - k,b,0)∧k≤u.length:=by
 obtain⟨i,hi,c⟩:=h;refine⟨?_,by omega⟩;rw[c,List.drop_length,zO1];simp only[zFt];congr 1;omega
theorem zVW (c:zAQ (u.drop k)=(m,nl,e)):∀(i:Nat) (b:Bool) (e':Nat),zC4 (u.drop k) false=(i,b,e')→i=m∧b=nl∧e'=e:=by
 intro i b e' h;have:zAQ (u.drop k)=zC4 (u.drop k) false:=rfl;rw[this,h]at c;simpa using c
theorem zPY {w:World} (hr:Rd w g A n c k) (hn:u.length=n) (ha:Reads w B 1 A n (zAI u)) (hB:B≤g) (hk:k≤n) (s:n≤4096) (R:zAQ (u.drop k)=(m,nl,e)):
 Calls prog 30 #[.pointer (some ⟨g,0,none⟩)] w fun ev w'=>(ev=.returned (.tuple #[.bool nl,.int .i64 ((if e=0 then 0 else k+m:Nat):Int),.int .i64 (e:Int)]))∧(e=0→Mv w w' g A n c (k+m))∧w.grownBy w' (some g):=by
 subst hn;have HQ:=zA (zVW R);have HA:=zA ha;have HR:=zA hr;have hg:=hr.lt;have a3:=zA (Mv.refl hr);clear R ha hr;go_enter func30,ntmps30;go_wp2
 go_step3
 go_wp2
 go_step3
 go_wp2
 go_loopg [5] (u.length - k) (fun r a wr=>∃p b,p+r=u.length∧a=.bool b∧Hid (Mv w wr g A u.length c p)∧Hid (AtPass u k p b))
 case atStart=>exact⟨k,false,by omega,rfl,a3,0,rfl,by simp[zFt]⟩
 case round=>
  obtain⟨p,b,a9,rfl,d,D⟩:=hrel;have b0:=d.out.rd.c0;have b1:=d.out.rd.c1;have b2:=d.out.rd.f1;have f:=zA (HA.out.grown d.out.grown hB (Nat.le_of_lt hg))
  by_cases E:p < u.length
  · have a8:(p:Int) < (u.length:Int):=by omega
    obtain⟨blk,off,rfl,_,N⟩:=f.out.spotL jo;have a4:=N p E;have F:=zA (fun h1=>D.out.blank E h1);have T:=zA (fun m nl h1 I R=>D.out.remark (m:=m) (nl:=nl) E h1 I R);have U:=zA (fun m nl e h1 I R he=>D.out.bad (m:=m) (nl:=nl) (e:=e) E h1 I R he);have O:=zA (fun h1 I=>D.out.halt E h1 I);obtain⟨x,hx⟩:=jx (u[p]);rw[hx]at a4 F T U O;clear N hx;cases hbl:(zHM x || zAJ x)with
    | true=>
     have v:=zA (F.out hbl);cases a1:zHM x with
     | true=>
      cases b
      all_goals
       go_wp2_with fail
       go_quiet (fail)
       go_wp2_with fail
       go_quiet (fail)
       go_wp2_with (first | (go_at_call 57;refine(zAT _ _).mono ?_;rintro e2 w2 ⟨rfl,rfl⟩) | (go_at_call 56;refine(zB3 _ _).mono ?_;rintro e2 w2 ⟨rfl,rfl⟩))
       go_roundg (gk - 1)
       case measure=>omega
       case rel=>exact⟨p+1,_,by omega,rfl,Mv.step (d.out.drewN _) jo,v.out⟩
     | false=>
      have a5:zAJ x=true:=by rw[a1]at hbl;exact hbl
      cases b
      all_goals
       go_wp2_with fail
       go_quiet (fail)
       go_wp2_with fail
       go_quiet (fail)
       go_wp2_with (first | (go_at_call 57;refine(zAT _ _).mono ?_;rintro e2 w2 ⟨rfl,rfl⟩) | (go_at_call 56;refine(zB3 _ _).mono ?_;rintro e2 w2 ⟨rfl,rfl⟩))
       go_roundg (gk - 1)
       case measure=>omega
       case rel=>exact⟨p+1,_,by omega,rfl,Mv.step (d.out.drewN _) jo,by first | exact v.out | (have z:=v.out;rw[a5]at z;exact z)⟩
    | false=>
     have a1:zHM x=false:=(zCR hbl).1;have b3:zAJ x=false:=(zCR hbl).2;have V:=zA hbl;clear hbl;obtain⟨s1,W⟩:=jx (zq [47,47] (u.drop p));obtain⟨X,Y⟩:=jx (zq [47,42] (u.drop p));have G:=zA W;have a0:=zA Y;have HS:=zA (show(zq [47,47] (u.drop p) || zq [47,42] (u.drop p))=(s1 || X) by rw[W,Y]);clear W Y;cases hss:(s1 || X)with
     | false=>
      have h1:s1=false:=(zCR hss).1;have I:X=false:=(zCR hss).2;have P:=zA (O.out V.out (by rw[HS.out,hss]));subst h1 I;clear hss;go_wp2_with fail
      go_quiet (fail)
      go_wp2_with fail
      go_quiet (fail)
      go_wp2_with (first | (go_at_call 57;refine(zAT _ _).mono ?_;rintro e2 w2 ⟨rfl,rfl⟩) | (go_at_call 56;refine(zB3 _ _).mono ?_;rintro e2 w2 ⟨rfl,rfl⟩));refine(zAr ⟨#[47,47]⟩ (d.out.rd.drewN _) rfl (f.out.drewN _) jo s jd G.out).mono ?_;rintro e2 w2 ⟨rfl,m2,j⟩;subst j;go_wp2_with fail;refine(zAr ⟨#[47,42]⟩ (d.out.rd.drewN _) rfl (f.out.drewN _) jo s jd a0.out).mono ?_;rintro e3 w3 ⟨rfl,m3,H⟩;subst H;go_wp2
      (try rw[Exit.noGoto_ret])
      go_ret3
      obtain⟨q1,q2⟩:=P.out;obtain⟨J,L,M⟩:=HQ.out _ _ _ q1;subst J L M;exact⟨rfl,fun _=>by rw[show k+(p - k)=p by omega];exact d.out.drewN _,(d.out.drewN _).grown⟩
     | true=>
      obtain⟨⟨S,a2,re⟩,o⟩:=jx (zAt (u.drop p));have Q:p+2≤u.length:=by
       have:=zD6 (l:=u.drop p) (by rw[HS.out,hss]);rw[List.length_drop]at this;omega
      have a6:=zEy (l:=u.drop p) (by rw[List.length_drop];omega);rw[o,List.length_drop]at a6;have C:=zA o
      by_cases y:re=0
      · subst y;have v:=zA (T.out S a2 V.out (by rw[HS.out,hss]) o);clear o;cases s1 with
        | true=>
         cases b
         all_goals
          go_wp2_with fail
          go_quiet (fail)
          go_wp2_with fail
          go_quiet (fail)
          go_wp2_with (first | (go_at_call 57;refine(zAT _ _).mono ?_;rintro e2 w2 ⟨rfl,rfl⟩) | (go_at_call 56;refine(zB3 _ _).mono ?_;rintro e2 w2 ⟨rfl,rfl⟩));refine(zAr ⟨#[47,47]⟩ (d.out.rd.drewN _) rfl (f.out.drewN _) jo s jd G.out).mono ?_;rintro e2 w2 ⟨rfl,m2,j⟩;subst j;go_wp2_with fail;refine(zDK (d.out.rd.drewN _) rfl (f.out.drewN _) hB Q s C.out).mono ?_;rintro e4 w4 ⟨rfl,t⟩;go_wp2
          go_roundg (u.length - (p+S))
          case measure=>omega
          case rel=>exact⟨p+S,_,by omega,rfl,Mv.then (d.out.drewN _) t,v.out⟩
        | false=>
         obtain rfl:X=true:=zPW hss;cases b
         all_goals
          go_wp2_with fail
          go_quiet (fail)
          go_wp2_with fail
          go_quiet (fail)
          go_wp2_with (first | (go_at_call 57;refine(zAT _ _).mono ?_;rintro e2 w2 ⟨rfl,rfl⟩) | (go_at_call 56;refine(zB3 _ _).mono ?_;rintro e2 w2 ⟨rfl,rfl⟩));refine(zAr ⟨#[47,47]⟩ (d.out.rd.drewN _) rfl (f.out.drewN _) jo s jd G.out).mono ?_;rintro e2 w2 ⟨rfl,m2,j⟩;subst j;go_wp2_with fail;refine(zAr ⟨#[47,42]⟩ (d.out.rd.drewN _) rfl (f.out.drewN _) jo s jd a0.out).mono ?_;rintro e3 w3 ⟨rfl,m3,H⟩;subst H;go_wp2_with fail;refine(zDK (d.out.rd.drewN _) rfl (f.out.drewN _) hB Q s C.out).mono ?_;rintro e4 w4 ⟨rfl,t⟩;go_wp2
          go_roundg (u.length - (p+S))
          case measure=>omega
          case rel=>exact⟨p+S,_,by omega,rfl,Mv.then (d.out.drewN _) t,v.out⟩
      · have b4:((re:Int) !=0)=true:=by rw[bne_iff_ne];omega
        have P:=zA (U.out S a2 re V.out (by rw[HS.out,hss]) o y);clear o;cases s1 with
        | true=>
         go_wp2_with fail
         go_quiet (fail)
         go_wp2_with fail
         go_quiet (fail)
         go_wp2_with (first | (go_at_call 57;refine(zAT _ _).mono ?_;rintro e2 w2 ⟨rfl,rfl⟩) | (go_at_call 56;refine(zB3 _ _).mono ?_;rintro e2 w2 ⟨rfl,rfl⟩));refine(zAr ⟨#[47,47]⟩ (d.out.rd.drewN _) rfl (f.out.drewN _) jo s jd G.out).mono ?_;rintro e2 w2 ⟨rfl,m2,j⟩;subst j;go_wp2_with fail;refine(zDK (d.out.rd.drewN _) rfl (f.out.drewN _) hB Q s C.out).mono ?_;rintro e4 w4 ⟨rfl,t⟩;go_wp2
         (try rw[Exit.noGoto_ret])
         go_ret3
         obtain⟨q1,q2⟩:=P.out;obtain⟨J,L,M⟩:=HQ.out _ _ _ q1;subst J L M;exact⟨zPX rfl (by rw[if_neg y];omega) rfl,fun h=>absurd h y,(Mv.then (d.out.drewN _) t).grown⟩
        | false=>
         obtain rfl:X=true:=zPW hss;go_wp2_with fail
         go_quiet (fail)
         go_wp2_with fail
         go_quiet (fail)
         go_wp2_with (first | (go_at_call 57;refine(zAT _ _).mono ?_;rintro e2 w2 ⟨rfl,rfl⟩) | (go_at_call 56;refine(zB3 _ _).mono ?_;rintro e2 w2 ⟨rfl,rfl⟩));refine(zAr ⟨#[47,47]⟩ (d.out.rd.drewN _) rfl (f.out.drewN _) jo s jd G.out).mono ?_;rintro e2 w2 ⟨rfl,m2,j⟩;subst j;go_wp2_with fail;refine(zAr ⟨#[47,42]⟩ (d.out.rd.drewN _) rfl (f.out.drewN _) jo s jd a0.out).mono ?_;rintro e3 w3 ⟨rfl,m3,H⟩;subst H;go_wp2_with fail;refine(zDK (d.out.rd.drewN _) rfl (f.out.drewN _) hB Q s C.out).mono ?_;rintro e4 w4 ⟨rfl,t⟩;go_wp2
         (try rw[Exit.noGoto_ret])
         go_ret3
         obtain⟨q1,q2⟩:=P.out;obtain⟨J,L,M⟩:=HQ.out _ _ _ q1;subst J L M;exact⟨zPX rfl (by rw[if_neg y];omega) rfl,fun h=>absurd h y,(Mv.then (d.out.drewN _) t).grown⟩
  · obtain rfl:p=u.length:=by omega
    have a7:=zA D.out.stop;go_wp2_with fail
    go_quiet (fail)
    go_wp2
    (try rw[Exit.noGoto_ret])
    go_ret3
    obtain⟨q1,q2⟩:=a7.out;obtain⟨J,L,M⟩:=HQ.out _ _ _ q1;subst J L M;exact⟨rfl,fun _=>by rw[show k+(u.length - k)=u.length by omega];exact d.out.drewN _,(d.out.drewN _).grown⟩
theorem zB6 {a:UInt8} {x:UInt16} (h:x≠a.toUInt16):zq (a::s) (x::r)=false:=by
 unfold zq;rw[List.map_cons,List.isPrefixOf];rw[show(a.toUInt16==x)=false from yA.2 (fun e=>h e.symm),Bool.false_and]
theorem zPZ {x:UInt16} (h:(zHM x || zAJ x)=false) (b:x≠47):zAQ (x::r)=(0,false,0):=by
 show zC4 (x::r) false=_;rw[zFT h (by rw[zB6 b,zB6 b];rfl)]
theorem zIF:zAQ []=(0,false,0):=rfl
theorem zSW (h:∀x r,l=x::r→x.toNat≠35):zAY true l=zAY false l:=by
 cases l with
 | nil=>rfl
 | cons x r=>
  have b:=h x r rfl;rw[zA4,zA4];have hs:zCG true (x::r)=zCG false (x::r):=by
   unfold zCG;rw[zB6 (fun e=>b (by rw[e];rfl))];rfl
  rw[hs]
theorem zVX (b:u.length≤4096) (h:(zDx u).2.2=0):(zDx u).2.1=0:=by
 rw[zB2 jo]at h⊢;exact zJT _ _ _ h
theorem zSX (b:u.length≤4096) (h:(zDx u).2.2≠0):(zDx u).1=[]:=by
 rw[zB2 jo]at h⊢;exact zLh _ _ _ h
theorem zPa:∀(f k:Nat) (l:List UInt16),(zFD f k l).1.length≤f:=by
 intro f
 induction f with
 | zero=>intro k l;simp[zFD]
 | succ f b=>
  intro k l;rw[zFD];split
  · simp
  · split
    · simp
    · split
      · simp
      · unfold zFo;split
        · simp
        · have:=b (k+(zAQ l).1+(zA6 k l).2.2) (l.drop ((zAQ l).1+(zA6 k l).2.2));simp only[List.length_cons];omega
theorem zJU (b:u.length≤4096):(zDx u).1.length≤u.length+1:=by
 rw[zB2 jo];exact zPa _ _ _
theorem zKT:∀(f v:Nat),(zBI f v).length≤f:=by
 intro f
 induction f with
 | zero=>intro v;simp[zBI]
 | succ f b=>
  intro v;rw[zBI];split
  · simp
  · have:=b (v / 4294967296);simp only[List.length_cons];omega
theorem zMu (q:UInt16):∀(f:Nat) (l b:List UInt16),(zDC q f l b).2.1.length≤b.length+l.length:=by
 intro f
 induction f with
 | zero=>intro l b;simp[zDC]
 | succ f c=>
  intro l b;cases l with
  | nil=>simp[zDC]
  | cons x r=>
   rw[zDC];split
   · simp
   · split
     · simp
     · split
       · split
         · simp
         · rename_i d
           have e:=zFU (Decidable.not_not.1 d);have:=c (r.drop (zEE r).2.2) (b++[(zEE r).2.1]);rw[List.length_drop,List.length_append]at this;simp only[List.length_cons,List.length_nil]at this⊢;omega
       · have:=c r (b++[x]);rw[List.length_append]at this;simp only[List.length_cons,List.length_nil]at this⊢;omega
structure SmallT (n:Nat) (t:Tok):Prop where
 str:t.str.length≤n
 mag:t.mag.length≤9
 text:t.text.length≤n
theorem SmallT.no (n:Nat):SmallT n zr:=⟨by simp[zr],by simp[zr],by simp[zr]⟩
theorem zKU (z:Bool) (l:List UInt16):SmallT l.length (zAY z l).2.1:=by
 cases l with
 | nil=>exact SmallT.no _
 | cons x r=>
  rw[zA4];split
  · unfold zCf;split
    · exact SmallT.no _
    · refine⟨by simp[zr],by simp[zr],?_⟩;have:=zBV zAx (x::r);simpa [asc]using this
  · split
    · unfold zBe zBu;split
      · exact SmallT.no _
      · split
        · unfold zIg;split
          · exact SmallT.no _
          · split
            · exact SmallT.no _
            · exact⟨by simp[zr],zKT 9 _,by simp[zr]⟩
        · split
          · exact SmallT.no _
          · split
            · exact SmallT.no _
            · split
              · exact SmallT.no _
              · exact⟨by simp[zr],by simp[zr],by simp[zr]⟩
    · split
      · unfold zAy;split
        · exact SmallT.no _
        · refine⟨?_,by simp[zr],by simp[zr]⟩;have:=zMu x (r.length+1) r [];simp only[List.length_nil,List.length_cons]at this⊢;unfold zJ5;omega
      · split
        · exact SmallT.no _
        · unfold zCG;split
          · split
            · exact SmallT.no _
            · refine⟨by simp[zr],by simp[zr],?_⟩;simp only[asc,List.length_map];exact List.length_take_le' _ _
          · split<;>exact SmallT.no _
theorem SmallT.set (h:SmallT n t) (k:Nat) (nl:Bool):SmallT n (setAt t k nl):=⟨h.str,h.mag,h.text⟩
theorem SmallT.more (h:SmallT n t) (b:n≤m):SmallT m t:=⟨by have:=h.str;omega,h.mag,by have:=h.text;omega⟩
theorem zMv:∀(f k:Nat) (l:List UInt16),∀t∈(zFD f k l).1,SmallT l.length t∧k≤t.pos∧t.pos≤k+l.length:=by
 intro f
 induction f with
 | zero=>intro k l t d;simp[zFD]at d
 | succ f e=>
  intro k l t;rw[zFD]
  by_cases h1:(zAQ l).2.2≠0
  · rw[if_pos h1];intro h;simp at h
  rw[if_neg h1];have j:=zIB l
  by_cases c:l.drop (zAQ l).1=[]
  · rw[if_pos c];intro h;simp only[List.mem_singleton]at h;subst h;exact⟨(SmallT.no _).set _ _,by simp[setAt],by simp[setAt];omega⟩
  rw[if_neg c]
  by_cases b:(zA6 k l).1≠0
  · rw[if_pos b];intro h;simp at h
  rw[if_neg b];have g:=zE1 (k:=k) (l:=l) (Decidable.not_not.1 b);unfold zFo;split
  · intro h;simp at h
  · intro h;rcases List.mem_cons.1 h with h | h
    · subst h;refine⟨SmallT.set ?_ _ _,by simp[setAt],by simp[setAt];omega⟩;have:=zKU (k+(zAQ l).1==0) (l.drop (zAQ l).1);rw[List.length_drop]at this;exact this.more jo
    · have:=e _ _ t h;rw[List.length_drop]at this;exact⟨this.1.more jo,by omega,by omega⟩
theorem zMw (c:u.length≤4096):∀t∈(zDx u).1,SmallT u.length t∧t.pos≤u.length:=by
 rw[zB2 jo];intro t b;have:=zMv _ _ _ t b;exact⟨this.1,by omega⟩
section
variable {x:UInt16} {v:List UInt16}
theorem zE6 {p:UInt16→Bool} (b:p x=false) (l:List UInt16):(l++x::v).takeWhile p=l.takeWhile p:=by
 induction l with
 | nil=>rw[List.nil_append,List.takeWhile_cons_of_neg (by rw[b];simp)];rfl
 | cons c r d=>
  rw[List.cons_append]
  by_cases h:p c=true
  · rw[List.takeWhile_cons_of_pos h,List.takeWhile_cons_of_pos h,d]
  · rw[List.takeWhile_cons_of_neg h,List.takeWhile_cons_of_neg h]
theorem zDL {p:UInt16→Bool} (b:p x=false) (hk:k≤l.length):zBF k p (l++x::v)=zBF k p l:=by
 unfold zBF
 by_cases h:k < l.length
 · rw[List.getElem?_append_left h]
 · obtain rfl:k=l.length:=by omega
   rw[List.getElem?_append_right (yAC _),Nat.sub_self,List.getElem?_eq_none (yAC _)];simp[b]
theorem zHh (c:UInt8) (y:UInt16) (s:List UInt16):zq [c] (y::s)=(c.toUInt16==y):=by simp[zq,List.isPrefixOf]
theorem zEa {c:UInt8} (b:x≠c.toUInt16) (l:List UInt16):zq [c] (l++x::v)=zq [c] l:=by
 cases l with
 | nil=>rw[List.nil_append,zB6 b];rfl
 | cons y r=>rw[List.cons_append,zHh,zHh]
theorem zPb (b:x=10∨x=32) (l:List UInt16):zCf (l++x::v)=zCf l:=by
 have h1:zAx x=false:=by rcases b with rfl | rfl<;>decide
 have c:x≠(92:UInt8).toUInt16:=by rcases b with rfl | rfl<;>decide
 unfold zCf;rw[zE6 h1,List.drop_append_of_le_length (zBV _ _),zEa c]
theorem zSY (c:x=10∨x=32) (d r:List UInt16):zBu d (r++x::v)=zBu d r:=by
 have h1:x≠(110:UInt8).toUInt16:=by rcases c with rfl | rfl<;>decide
 have f:∀z,zAA z x=false:=by intro z;rcases c with rfl | rfl<;>cases z<;>decide
 have e:zAz x=false:=by rcases c with rfl | rfl<;>decide
 have g:zK x=false:=by rcases c with rfl | rfl<;>decide
 unfold zBu;rw[zEa h1,zDL (f _) (yAE _),zDL e (yAE _)];cases r with
 | nil=>rfl
 | cons y s=>
  have hb:∀a b,zIg a b ((y::s++x::v).drop 1)=zIg a b ((y::s).drop 1):=by
   intro a b;unfold zIg;simp only[List.cons_append,List.drop_succ_cons,List.drop_zero];rw[zDL e (yAE _),zDL g (yAE _)]
  rw[hb]
theorem zJV (b:x=10∨x=32) (l:List UInt16):zBe (l++x::v)=zBe l:=by
 have h1:zK x=false:=by rcases b with rfl | rfl<;>decide
 unfold zBe;rw[zE6 h1,List.drop_append_of_le_length (zBV _ _),zSY b]
theorem zJW (h:(zCO n l).1=0) (y:List UInt16):zCO n (l++y)=zCO n l:=by
 have b:=zLX h;unfold zCO;rw[List.take_append_of_le_length b.2,decide_eq_true b.2,decide_eq_true (by rw[List.length_append];omega)]
theorem zSZ (d:x=10∨x=32) (h:(zEE l).1=0):zEE (l++x::v)=zEE l:=by
 have h1:zK x=false:=by rcases d with rfl | rfl<;>decide
 have g:x≠(123:UInt8).toUInt16:=by rcases d with rfl | rfl<;>decide
 cases l with
 | nil=>cases h
 | cons c r=>
  rw[List.cons_append,zEz,zEz];rw[zEz]at h
  by_cases hs:(zBx c).isSome=true
  · rw[if_pos hs,if_pos hs]
  · rw[if_neg hs]at h⊢;rw[if_neg hs];unfold zRD at h⊢;rw[zDL h1 (yAE _),zEa g]
    by_cases c1:(c.toNat==48&& !zBF 0 zK r)=true
    · rw[if_pos c1,if_pos c1]
    rw[if_neg c1]at h⊢;rw[if_neg c1]
    by_cases c2:zK c=true
    · rw[if_pos c2,if_pos c2]
    rw[if_neg c2]at h⊢;rw[if_neg c2]
    by_cases c3:(zAJ c || zHu c || (c.toNat==117&&zq [123] r))=true
    · rw[if_pos c3,if_pos c3]
    rw[if_neg c3]at h⊢;rw[if_neg c3];have e:∀n,(more 1 (zCO n r)).1=0→(zCO n r).1=0:=by
     intro n b;unfold more at b
     by_cases f:(zCO n r).1=0
     · exact f
     · rw[if_neg f]at b;exact b
    by_cases c4:c.toNat=120
    · rw[if_pos c4]at h⊢;rw[if_pos c4,zJW (e _ h)]
    rw[if_neg c4]at h⊢;rw[if_neg c4]
    by_cases c5:c.toNat=117
    · rw[if_pos c5]at h⊢;rw[if_pos c5,zJW (e _ h)]
    rw[if_neg c5,if_neg c5]
theorem zSa (m:x=10∨x=32) (q:UInt16):∀(f:Nat) (l b:List UInt16),(zDC q f l b).1=0→zDC q f (l++x::v) b=zDC q f l b:=by
 intro f
 induction f with
 | zero=>intro l b h;cases h
 | succ f j=>
  intro l b;cases l with
  | nil=>intro h;cases h
  | cons c r=>
   rw[List.cons_append,zDC,zDC]
   by_cases h1:zAJ c=true
   · rw[if_pos h1];intro h;cases h
   rw[if_neg h1,if_neg h1]
   by_cases e:c=q
   · rw[if_pos e,if_pos e];intro _;rfl
   rw[if_neg e,if_neg e]
   by_cases g:c.toNat=92
   · rw[if_pos g,if_pos g]
     by_cases d:(zEE r).1≠0
     · rw[if_pos d];intro h;exact absurd h d
     · have k:=Decidable.not_not.1 d;rw[if_neg d,zSZ m k,if_neg d];intro h;have h6:=zFU k;rw[List.drop_append_of_le_length h6.2,j _ _ h]
   · rw[if_neg g,if_neg g];intro h;rw[j _ _ h]
theorem zPc (q:UInt16):∀(f g:Nat) (l b:List UInt16),f≤g→(zDC q f l b).1=0→zDC q g l b=zDC q f l b:=by
 intro f
 induction f with
 | zero=>intro g l b _ h;cases h
 | succ f k=>
  intro g l b hg;obtain⟨g,rfl⟩:∃m,g=m+1:=⟨g - 1,by omega⟩;cases l with
  | nil=>intro h;cases h
  | cons c r=>
   rw[zDC,zDC]
   by_cases h1:zAJ c=true
   · rw[if_pos h1];intro h;cases h
   rw[if_neg h1,if_neg h1]
   by_cases d:c=q
   · rw[if_pos d,if_pos d];intro _;rfl
   rw[if_neg d,if_neg d]
   by_cases e:c.toNat=92
   · rw[if_pos e,if_pos e]
     by_cases j:(zEE r).1≠0
     · rw[if_pos j];intro h;exact absurd h j
     · rw[if_neg j,if_neg j];intro h;rw[k g _ _ jo h]
   · rw[if_neg e,if_neg e];intro h;rw[k g _ _ jo h]
theorem zKV (d:x=10∨x=32) {q:UInt16} (h:(zAy q l).1=0):zAy q (l++x::v)=zAy q l:=by
 have h1:(zJ5 q l).1=0:=by
  unfold zAy at h
  by_cases b:(zJ5 q l).1≠0
  · rw[if_pos b]at h;exact absurd h b
  · exact Decidable.not_not.1 b
 have e:zJ5 q (l++x::v)=zJ5 q l:=by
  unfold zJ5 at h1⊢;have c:=zSa (v:=v) d q _ _ _ h1;rw[zPc q (l.length+1) ((l++x::v).length+1) _ _ (by rw[List.length_append];omega) (by rw[c];exact h1),c]
 unfold zAy;rw[e]
theorem zKW:∀b∈zw++zCh,(10:UInt8)∉b∧(32:UInt8)∉b:=by decide+kernel
theorem zMx {b:List UInt8} (h:(10:UInt8)∈b∨(32:UInt8)∈b):zB8 b=0:=by
 unfold zB8;have c:∀s,b∈s→s=zw∨s=zCh→False:=by
  intro s hb hs;have d:b∈zw++zCh:=by rcases hs with rfl | rfl;exact List.mem_append_left _ hb;exact List.mem_append_right _ hb
  obtain⟨e,f⟩:=zKW b d;rcases h with h | h
  · exact e h
  · exact f h
 rw[if_neg (fun hb=>c _ hb (.inl rfl)),if_neg (fun hb=>c _ hb (.inr rfl))]
theorem zHi (e:x=10∨x=32) (l:List UInt16) (n:Nat):zA0 (l++x::v) n=zA0 l n:=by
 have h1:zK x=false:=by rcases e with rfl | rfl<;>decide
 by_cases c:n≤l.length
 · unfold zA0;rw[List.take_append_of_le_length c,decide_eq_true c,decide_eq_true (by rw[List.length_append];omega)]
   by_cases f:asc (l.take n)=[63,46]
   · have g:n=2:=by
      have:=congrArg List.length f;simp only[asc,List.length_map,List.length_take,List.length_cons,List.length_nil]at this;omega
     rw[zDL h1 jo]
   · rw[yAI f];simp
 · have g:zA0 l n=0:=by
    unfold zA0;rw[yAI c];simp
   rw[g];unfold zA0;split
   · refine zMx ?_;have d:x∈(l++x::v).take n:=by
      rw[List.take_append];refine List.mem_append_right _ ?_;obtain⟨m,d⟩:∃m,n - l.length=m+1:=⟨n - l.length - 1,by omega⟩;rw[d,List.take_succ_cons];simp
     have b:x.toUInt8∈asc ((l++x::v).take n):=List.mem_map_of_mem d;rcases e with rfl | rfl
     · exact .inl b
     · exact .inr b
   · rfl
theorem zPd (b:x=10∨x=32) (l:List UInt16):∀m,zBa (l++x::v) m=zBa l m:=by
 intro m
 induction m with
 | zero=>rfl
 | succ m c=>rw[zBa,zBa,zHi b,c]
theorem zPe (b:x=10∨x=32) (h:(zCG z l).1=0):zCG z (l++x::v)=zCG z l:=by
 unfold zCG at h⊢;rw[zPd b];cases hs:zBa l 4 with
 | none=>
  rw[hs]at h;simp only at h;split at h<;>cases h
 | some n=>
  have c:=zFV hs;have h6:=zFW c.2.2;simp only;rw[zHi b,List.take_append_of_le_length h6]
theorem zMy (b:x=10∨x=32) (h:(zAY z l).1=0):zAY z (l++x::v)=zAY z l:=by
 have h1:zK x=false:=by rcases b with rfl | rfl<;>decide
 cases l with
 | nil=>cases h
 | cons c r=>
  rw[zA4]at h;rw[List.cons_append,zA4,zA4,←List.cons_append]
  by_cases c1:zAz c=true
  · rw[if_pos c1,if_pos c1,zPb b]
  rw[if_neg c1]at h⊢;rw[if_neg c1]
  by_cases c2:zK c=true
  · rw[if_pos c2,if_pos c2,zJV b]
  rw[if_neg c2]at h⊢;rw[if_neg c2]
  by_cases c3:(c.toNat==39 || c.toNat==34)=true
  · rw[if_pos c3]at h⊢;rw[if_pos c3,zKV b h]
  rw[if_neg c3]at h⊢;rw[if_neg c3,zDL h1 (yAE _)]
  by_cases c4:(c.toNat==46&&zBF 0 zK r)=true
  · rw[if_pos c4,if_pos c4]
  rw[if_neg c4]at h⊢;rw[if_neg c4,zPe b h]
end
theorem zJX:∀b∈zAF++zDw,zF9 b=true:=by decide+kernel
theorem zSb {b:List UInt8} (h:0 < zCN b):zF9 b=true:=by
 unfold zCN at h
 by_cases h1:b∈zAF
 · exact zJX b (List.mem_append_left _ h1)
 · rw[if_neg h1]at h
   by_cases c:b∈zDw
   · exact zJX b (List.mem_append_right _ c)
   · rw[if_neg c]at h;omega
theorem zPf {x:UInt16} (h:zAz x=true):(zHM x || zAJ x)=false∧x≠47:=by
 simp only[zAz,Bool.or_eq_true,Bool.and_eq_true,decide_eq_true_eq,beq_iff_eq]at h;refine⟨?_,?_⟩
 · rw[Bool.or_eq_false_iff];simp only[zHM,zAJ,Bool.or_eq_false_iff,yA];omega
 · rintro rfl;revert h;decide
theorem zPg:∀b∈zw,zDx (zV b)=([{zr with kind:=5,text:=b},setAt zr b.length false],0,0)∧zBn b=false∧zCN b=0:=by decide+kernel
theorem zSc {b:List UInt8} (h:zB8 b=1):zDx (zV b)=([{zr with kind:=5,text:=b},setAt zr b.length false],0,0)∧zBn b=false∧zCN b=0:=by
 refine zPg b ?_;unfold zB8 at h
 by_cases h1:b∈zw
 · exact h1
 · rw[if_neg h1]at h;split at h<;>cases h
structure PcOk (s:List UInt8):Prop where
 cons:∃x r,zV s=x::r∧(zHM x || zAJ x)=false∧x.toNat≠35∧(x=47→r=[]∨∃q,r=61::q)
 tok:zAY false (zV s)=(0,zCg s,(zV s).length)
theorem zVY:∀s∈zw,(zAY false (zV s)).1=0∧(zAY false (zV s)).2.2=(zV s).length∧zV s≠[]∧(zHM ((zV s).headD 0) || zAJ ((zV s).headD 0))=false∧((zV s).headD 0).toNat≠35∧((zV s).headD 0=47→(zV s).tail=[]∨(zV s).tail.headD 0=61∧(zV s).tail≠[]):=by decide+kernel
theorem zJY (h:zAY false (zV s)=(0,t,n)) (b:n=(zV s).length):zAY false (zV s)=(0,zCg s,(zV s).length):=by
 unfold zCg;rw[h,b]
theorem zGi {x:UInt16} (h:zK x=true):(zHM x || zAJ x)=false∧x.toNat≠35∧x≠47:=by
 have h:=zA3.1 h;refine⟨?_,by omega,fun e=>by rw[e]at h;revert h;decide⟩;unfold zHM zAJ;have e1:¬x.toNat=9:=by omega
 have e2:¬x.toNat=11:=by omega
 have e3:¬x.toNat=12:=by omega
 have e4:¬x.toNat=32:=by omega
 have e5:¬x.toNat=10:=by omega
 have e6:¬x.toNat=13:=by omega
 simp[e1,e2,e3,e4,e5,e6]
theorem zWz (h:zC2 s):PcOk s:=by
 rcases h with h | h | ⟨n,h,rfl⟩ | ⟨m,h,k,rfl⟩ | ⟨u,h,rfl⟩
 · obtain⟨h1,c,d,f,g,h6⟩:=zVY s h;refine⟨?_,?_⟩
   · cases hq:zV s with
     | nil=>exact absurd hq d
     | cons x r=>
      rw[hq]at f g h6;refine⟨x,r,rfl,f,g,fun e=>(h6 e).imp id fun⟨a,b⟩=>?_⟩;cases r with
      | nil=>exact absurd rfl b
      | cons y q=>exact⟨q,by rw[show y=61 from a]⟩
   · exact zJY (s:=s) (t:=(zAY false (zV s)).2.1) (n:=(zAY false (zV s)).2.2) (by rw[←h1]) c
 · obtain⟨x,r,h1,c,d⟩:=zLF h;have f:=zPf c;refine⟨⟨x,r,h1,f.1,fun e=>?_,fun e=>absurd e f.2⟩,?_⟩
   · have:x=35:=UInt16.toNat_inj.1 e;rw[this]at c;revert c;decide
   · have g:zAY false (zV s)=zCf (zV s):=by
      rw[h1];show(if zAz x=true then zCf (x::r)else _)=_;rw[if_pos c]
     refine zJY (t:={zr with kind:=if 0 < zCN (asc (zV s))then 6 else 1,text:=asc (zV s)}) (g.trans ?_) rfl;unfold zCf;rw[h1,zUZ d,List.drop_length,if_neg (by simp[zq])]
 · obtain⟨x,r,h1,c⟩:=zEu n;obtain⟨g1,g2,j⟩:=zGi c;refine⟨⟨x,r,h1,g1,g2,fun e=>absurd e j⟩,?_⟩;have d:=zD2 n [] (fun x q h=>by cases h);rw[List.append_nil]at d;refine zJY (t:={zr with kind:=2,nn:=(n:Int)}) (d.trans ?_) rfl;unfold zBu;rw[zD3,ji,if_neg (by rw[show zq [110] []=false from rfl];decide),if_neg (by unfold zBF;simp),if_neg (by unfold zBF;simp),zFz,jn]
 · obtain⟨h1,c⟩:=zI1 h k;obtain⟨x,r,d,f⟩:=zEu (zEQ m);obtain⟨g1,g2,j⟩:=zGi f;have e:zV (zBR (zEQ m)++[110])=zV (zBR (zEQ m))++[110]:=zCb _ _;refine⟨⟨x,r++[110],by rw[e,d];rfl,g1,g2,fun e=>absurd e j⟩,?_⟩;have g:=zD2 (zEQ m) [110] (fun x q h=>by injection h with h _;rw[←h];decide);refine zJY (t:={zr with kind:=3,mag:=limbs (zEQ m)}) (n:=(zV (zBR (zEQ m))).length+1) (((congrArg (zAY false) e).trans g).trans ?_) (by rw[e,List.length_append];rfl);unfold zBu;rw[zD3,ji,if_pos jd,zFz];unfold zIg;rw[jn,if_neg (by unfold zBF;simp)]
 · have e:zV (zFg u)=34::zV (u.flatMap zGI++[34]):=rfl;refine⟨⟨34,_,e,by decide,by decide,fun e=>absurd e jd⟩,?_⟩;have h1:zAY false (34::zV (u.flatMap zGI++[34]))=zAy 34 (zV (u.flatMap zGI++[34])):=rfl;refine zJY (t:={zr with kind:=4,str:=[]++u}) (n:=1+(zV (u.flatMap zGI++[34])).length) ?_ (by rw[e,List.length_cons];omega);rw[e,h1];unfold zAy zJ5;rw[zOg u [] _ (yAF _),if_neg js]
def zCK:Tks→List UInt16
 | []=>[]
 | s::r=>32::(zV s++zCK r)
def zFk:Nat→Tks→List Tok
 | k,[]=>[setAt zr k false]
 | k,s::r=>setAt (zCg s) (k+1) false::zFk (k+1+(zV s).length) r
theorem zJZ (r:Tks):zCK r=[]∨∃v,zCK r=32::v:=by
 cases r with
 | nil=>exact .inl rfl
 | cons s r=>exact .inr ⟨_,rfl⟩
theorem zIG (h:PcOk s) (r:Tks):zAQ (zV s++zCK r)=(0,false,0)∧zAY false (zV s++zCK r)=(0,zCg s,(zV s).length)∧(∀x q,zV s++zCK r=x::q→x.toNat≠35)∧zV s++zCK r≠[]:=by
 obtain⟨x,q,e,h1,d,f⟩:=h.cons;refine⟨?_,?_,?_,by rw[e];simp⟩
 · rw[e,List.cons_append]
   by_cases c:x=47
   · have hs:(zq [47,47] (x::(q++zCK r)) || zq [47,42] (x::(q++zCK r)))=false:=by
      subst c;rcases f rfl with rfl | ⟨q,rfl⟩
      · rcases zJZ r with e2 | ⟨v,e2⟩
        · rw[e2];rfl
        · rw[e2];simp[zq,List.isPrefixOf]
      · simp[zq,List.isPrefixOf]
     show zC4 (x::(q++zCK r)) false=_;rw[zFT h1 hs]
   · exact zPZ h1 c
 · rcases zJZ r with e2 | ⟨v,e2⟩
   · rw[e2,List.append_nil];exact h.tok
   · rw[e2,zMy (.inr rfl) (by rw[h.tok])];exact h.tok
 · intro y p b;rw[e,List.cons_append]at b;injection b with b _;rw[←b];exact d
theorem zLj:∀(ts:Tks) (k:Nat),(∀s∈ts,PcOk s)→zGW k (zCK ts)=(zFk k ts,0,0):=by
 intro ts
 induction ts with
 | nil=>
  intro k _;show zGW k []=_;rw[zIC (by rw[zIF]) (by rw[zIF];rfl),zIF];rfl
 | cons s r d=>
  intro k hs;obtain⟨a1,a2,a3,a4⟩:=zIG (hs s js) r;have b:zAQ (32::(zV s++zCK r))=(1,false,0):=by
   show zC4 (32::(zV s++zCK r)) false=_;rw[zGV jd];have:zC4 (zV s++zCK r) (false || zAJ 32)=(0,false,0):=a1;rw[this];rfl
  have c:zA6 k (32::(zV s++zCK r))=(0,zCg s,(zV s).length):=by
   unfold zA6;rw[b];show zAY (k+1==0) (zV s++zCK r)=_;rw[show(k+1==0)=false from yA.2 jo,a2]
  show zGW k (32::(zV s++zCK r))=_;rw[zE2 (by rw[b]) (by rw[b];exact a4) (by rw[c]),b,c];have e:(32::(zV s++zCK r)).drop (1+(zV s).length)=zCK r:=by
   rw[Nat.add_comm,List.drop_succ_cons,List.drop_left]
  dsimp only;rw[e,d _ fun t c=>hs t (by simp[c])];rfl
theorem zPh:∀(ts:Tks) (u:List UInt16),u≠[]→zCk u ts=u++zCK ts:=by
 intro ts
 induction ts with
 | nil=>intro u _;rw[zRR];exact(List.append_nil _).symm
 | cons s r c=>
  intro u b;rw[zGJ,c _ (by unfold zN3;rw[if_neg b];simp)];unfold zN3;rw[if_neg b];show u++[32]++zV s++zCK r=u++(32::(zV s++zCK r));simp
def zLk:Tks→List Tok
 | []=>[setAt zr 0 false]
 | s::r=>setAt (zCg s) 0 false::zFk (zV s).length r
theorem zPi {ts:Tks} (hs:∀s∈ts,PcOk s) (d:(zCk [] ts).length≤4096):zDx (zCk [] ts)=(zLk ts,0,0):=by
 rw[zB2 jo];cases ts with
 | nil=>exact zLj [] 0 (fun s h=>by cases h)
 | cons s r=>
  obtain⟨a1,a2,a3,a4⟩:=zIG (hs s js) r;obtain⟨x,q,e,_⟩:=(hs s js).cons;have c:zCk [] (s::r)=zV s++zCK r:=by
   rw[zGJ,show zN3 [] s=zV s from by unfold zN3;rfl,zPh _ _ (by rw[e];simp)]
  rw[c];have b:zA6 0 (zV s++zCK r)=(0,zCg s,(zV s).length):=by
   unfold zA6;rw[a1];show zAY true (zV s++zCK r)=_;rw[zSW a3,a2]
  rw[zE2 (by rw[a1]) (by rw[a1];exact a4) (by rw[b]),a1,b];dsimp only;simp only[Nat.zero_add,List.drop_left];rw[zLj r _ fun t b=>hs t (by simp[b])];rfl
theorem zMz:∀(ts:Tks) (k:Nat),(zFk k ts).length=ts.length+1:=by
 intro ts
 induction ts with
 | nil=>intro k;rfl
 | cons s r b=>intro k;show(zFk _ r).length+1=_;rw[b];rfl
theorem zW0 {L:List Tok}:∀(ts:Tks) (k:Nat) (I:List Tok),L=I++zFk k ts→Std L I.length ts:=by
 intro ts
 induction ts with
 | nil=>
  intro k I e;show I.length≤L.length - 1;rw[e,List.length_append,zMz];simp
 | cons s r c=>
  intro k I e;have b:zI L I.length=setAt (zCg s) (k+1) false:=by
   rw[e];unfold zI;rw[yAG,List.getElem?_append_right (yAC _),Nat.sub_self];rfl
  refine⟨⟨by rw[b];exact⟨rfl,rfl,rfl,rfl,rfl,rfl⟩,by rw[b];rfl⟩,?_⟩;have:=c (k+1+(zV s).length) (I++[setAt (zCg s) (k+1) false]) (by rw[e,List.append_assoc];rfl);rwa [List.length_append]at this
theorem zVZ:∀(ts:Tks) (k:Nat) (I:List Tok),(zI (I++zFk k ts) (I.length+ts.length)).kind=0:=by
 intro ts
 induction ts with
 | nil=>
  intro k I;unfold zI;rw[yAG,List.getElem?_append_right js];simp[zFk,setAt,zr]
 | cons s r b=>
  intro k I;have:=b (k+1+(zV s).length) (I++[setAt (zCg s) (k+1) false]);rw[List.append_assoc,List.length_append]at this;have e:I.length+[setAt (zCg s) (k+1) false].length+r.length=I.length+(s::r).length:=by simp;omega
  rwa[e]at this
theorem zW1 (ts:Tks):Std (zLk ts) 0 ts∧(zI (zLk ts) ts.length).kind=0:=by
 cases ts with
 | nil=>exact⟨by show 0≤_;omega,rfl⟩
 | cons s r=>
  refine⟨⟨⟨⟨rfl,rfl,rfl,rfl,rfl,rfl⟩,rfl⟩,?_⟩,?_⟩
  · exact zW0 r (zV s).length [setAt (zCg s) 0 false] rfl
  · have:=zVZ r (zV s).length [setAt (zCg s) 0 false];have e:[setAt (zCg s) 0 false].length+r.length=(s::r).length:=by simp;omega
    rwa[e]at this
def zW2 (t:Tok):Prop:=t.kind=1∨t.kind=5∨t.kind=6
structure TokOk (l:List UInt16) (t:Tok) (n:Nat):Prop where
 kind:t.kind≠0
 txt:zW2 t→t.text.length=n∧l.take n=zV t.text∧(t.kind=1↔zBn t.text=true)∧(t.kind=5↔zB8 t.text=1)∧(t.kind=6↔0 < zCN t.text)
theorem zUd {x:UInt16} (h:zAx x=true):x.toNat < 128:=by
 unfold zAx zAz zK at h;simp only[Bool.or_eq_true,Bool.and_eq_true,decide_eq_true_eq,beq_iff_eq]at h;omega
theorem zLl (h:∀x∈d,x.toNat < 256):zV (asc d)=d:=by
 unfold zV asc;rw[List.map_map]
 conv=>rhs;rw[←List.map_id d]
 refine List.map_congr_left fun x b=>?_;have h1:=h x b;refine UInt16.toNat_inj.1 ?_;show x.toNat % 256=x.toNat
 omega
theorem zHj:∀b∈zw++zCh,∀c∈b.head?,zAz c.toUInt16=false:=by decide+kernel
theorem zPj {c:UInt8} {r:List UInt8} (h:zAz c.toUInt16=true):zB8 (c::r)=0:=by
 unfold zB8;rw[if_neg,if_neg]
 · intro b;have:=zHj _ (List.mem_append_right _ b) c rfl;rw[h]at this;cases this
 · intro b;have:=zHj _ (List.mem_append_left _ b) c rfl;rw[h]at this;cases this
theorem zM0 {p:UInt16→Bool} (l:List UInt16):l.take (l.takeWhile p).length=l.takeWhile p:=by
 conv=>lhs;arg 2;rw[←List.takeWhile_append_dropWhile (p:=p) (l:=l)]
 rw[List.take_left]
theorem zSd {x:UInt16} (s:zAz x=true) (h:(zCf (x::r)).1=0):TokOk (x::r) (zCf (x::r)).2.1 (zCf (x::r)).2.2:=by
 unfold zCf at h⊢
 by_cases h1:zq [92] ((x::r).drop ((x::r).takeWhile zAx).length)=true
 · rw[if_pos h1]at h;cases h
 · rw[if_neg h1];obtain⟨d,m⟩:=jx ((x::r).takeWhile zAx);have k:=zM0 (p:=zAx) (x::r);have f:∀y∈d,zAx y=true:=by rw[←m];exact List.all_eq_true.1 List.all_takeWhile
   have b:d=x::r.takeWhile zAx:=by rw[←m,List.takeWhile_cons_of_pos (by unfold zAx;rw[s];rfl)]
   rw[m]at k⊢;have g:zV (asc d)=d:=zLl fun y o=>by have:=zUd (f y o);omega
   have t:x.toUInt8.toUInt16=x:=by
    have u:(zV (asc d))[0]? =d[0]? :=by rw[g]
    rw[b]at u;simpa [zV,asc]using u
   have j:zAz x.toUInt8.toUInt16=true:=by rw[t];exact s
   have q:zF9 (asc d)=true:=by
    rw[b];show(zAz x.toUInt8.toUInt16&&((r.takeWhile zAx).map (·.toUInt8)).all fun c=>zAx c.toUInt16)=true;rw[j,Bool.true_and,List.all_eq_true];intro c z;obtain⟨y,o,rfl⟩:=List.mem_map.1 z;have l:zAx y=true:=f y (by rw[b];simp[o]);have A:=zUd l;have:y.toUInt8.toUInt16=y:=by
     refine UInt16.toNat_inj.1 ?_;show y.toNat % 256=y.toNat
     omega
    rw[this];exact l
   have v:zB8 (asc d)=0:=by rw[b];exact zPj j
   refine⟨?_,fun _=>⟨by simp[asc],by rw[k,g],?_,?_,?_⟩⟩
   · simp only;split<;>simp
   · unfold zBn;rw[q,Bool.true_and,beq_iff_eq]
     by_cases e:0 < zCN (asc d)
     · simp only[e,if_true];constructor
       · intro h;cases h
       · intro h;omega
     · simp only[e,if_false,true_iff];omega
   · rw[v]
     by_cases e:0 < zCN (asc d)<;>simp[e]
   · by_cases e:0 < zCN (asc d)<;>simp[e]
theorem zSe (h:(zCG z l).1=0):TokOk l (zCG z l).2.1 (zCG z l).2.2:=by
 unfold zCG at h⊢;cases hs:zBa l 4 with
 | none=>
  rw[hs]at h;simp only at h;split at h<;>cases h
 | some n=>
  have e:=zFV hs;have h6:=zFW e.2.2;rw[hs]at h;simp only at h⊢
  by_cases c:zA0 l n=2
  · rw[if_pos c]at h;cases h
  · rw[if_neg c];have b:=e.2.2;have f:zA0 l n=zB8 (asc (l.take n))∧(l.take n).all (fun x=>decide (x.toNat≤127))=true:=by
     unfold zA0 at b⊢;split at b
     · rename_i d
       rw[if_pos d];simp only[Bool.and_eq_true]at d;exact⟨rfl,d.1.2⟩
     · exact absurd rfl b
    have h1:zB8 (asc (l.take n))=1:=by
     have:=zPK (asc (l.take n));rw[f.1]at c b;omega
    obtain⟨_,g,j⟩:=zSc h1;refine⟨by simp,fun _=>⟨by simp[asc];omega,(zLl fun y k=>by have:=List.all_eq_true.1 f.2 y k;simp at this;omega).symm,?_,?_,?_⟩⟩
    · simp only;rw[g];simp
    · simp only;rw[h1];simp
    · simp only;rw[j];simp
theorem zLm (h:t.kind=2∨t.kind=3∨t.kind=4):TokOk l t n:=by
 refine⟨by omega,fun b=>?_⟩;unfold zW2 at b;omega
theorem zLn (h:(zAY z l).1=0):TokOk l (zAY z l).2.1 (zAY z l).2.2:=by
 cases l with
 | nil=>cases h
 | cons x r=>
  rw[zA4]at h⊢
  by_cases c1:zAz x=true
  · rw[if_pos c1]at h⊢;exact zSd c1 h
  rw[if_neg c1]at h⊢
  by_cases c2:zK x=true
  · rw[if_pos c2]at h⊢;refine zLm ?_;unfold zBe zBu at h⊢;split at h
    · cases h
    · rename_i d1
      rw[if_neg d1];split at h
      · rename_i d2
        rw[if_pos d2];unfold zIg at h⊢;split at h
        · cases h
        · rename_i d3
          rw[if_neg d3];split at h
          · cases h
          · rename_i d4;rw[if_neg d4];simp
      · rename_i d2
        rw[if_neg d2];split at h
        · cases h
        · rename_i d3
          rw[if_neg d3];split at h
          · cases h
          · rename_i d4
            rw[if_neg d4];split at h
            · cases h
            · rename_i d5;rw[if_neg d5];simp
  rw[if_neg c2]at h⊢
  by_cases c3:(x.toNat==39 || x.toNat==34)=true
  · rw[if_pos c3]at h⊢;refine zLm ?_;unfold zAy at h⊢;split at h
    · rename_i d1;exact absurd h d1
    · rename_i d1;rw[if_neg d1];simp
  rw[if_neg c3]at h⊢
  by_cases c4:(x.toNat==46&&zBF 0 zK r)=true
  · rw[if_pos c4]at h;cases h
  rw[if_neg c4]at h⊢;exact zSe h
def zSf (u:List UInt16):Nat→List Tok→Prop
 | _,[]=>False
 | e,t::r=>e≤t.pos∧((r=[]∧t.kind=0∧t.pos=u.length)∨(r≠[]∧∃n,1≤n∧t.pos+n≤u.length∧TokOk (u.drop t.pos) t n∧zSf u (t.pos+n) r))
theorem zM1 (u:List UInt16):∀(m k:Nat),u.length - k < m→k≤u.length→(zGW k (u.drop k)).2.2=0→zSf u k (zGW k (u.drop k)).1:=by
 intro m
 induction m with
 | zero=>intro k h;omega
 | succ m s=>
  intro k t hk h;have b:(zAQ (u.drop k)).2.2=0:=by
   by_cases h1:(zAQ (u.drop k)).2.2≠0
   · rw[zJA h1]at h;exact absurd h h1
   · exact Decidable.not_not.1 h1
  have r:=zIB (u.drop k);rw[List.length_drop]at r
  by_cases g:(u.drop k).drop (zAQ (u.drop k)).1=[]
  · have j:(zAQ (u.drop k)).1=u.length - k:=by
     have:=congrArg List.length g;rw[List.length_drop,List.length_drop]at this;simp only[List.length_nil]at this;omega
    rw[zIC b g];refine⟨by simp[setAt],.inl ⟨rfl,rfl,?_⟩⟩;simp only[setAt];omega
  · have c:(zA6 k (u.drop k)).1=0:=by
     by_cases j:(zA6 k (u.drop k)).1≠0
     · rw[zLY b g j]at h;exact absurd h j
     · exact Decidable.not_not.1 j
    have d:=zE1 c;rw[List.length_drop]at d;have l:=zE2 b g c;have f:TokOk ((u.drop k).drop (zAQ (u.drop k)).1) (zA6 k (u.drop k)).2.1 (zA6 k (u.drop k)).2.2:=zLn c;rw[List.drop_drop]at l;rw[l]at h⊢;have o:(zGW (k+(zAQ (u.drop k)).1+(zA6 k (u.drop k)).2.2) (u.drop (k+((zAQ (u.drop k)).1+(zA6 k (u.drop k)).2.2)))).2.2=0:=by
     unfold zFo at h
     by_cases p:(zGW (k+(zAQ (u.drop k)).1+(zA6 k (u.drop k)).2.2) (u.drop (k+((zAQ (u.drop k)).1+(zA6 k (u.drop k)).2.2)))).2.2≠0
     · rw[if_pos p]at h;exact absurd h p
     · exact Decidable.not_not.1 p
    rw[show k+((zAQ (u.drop k)).1+(zA6 k (u.drop k)).2.2)=k+(zAQ (u.drop k)).1+(zA6 k (u.drop k)).2.2 by omega]at o⊢;have q:=s (k+(zAQ (u.drop k)).1+(zA6 k (u.drop k)).2.2) jo jo o;unfold zFo;rw[if_neg (by rw[o];simp)];refine⟨by simp[setAt],.inr ⟨fun e=>by rw[e]at q;exact q,(zA6 k (u.drop k)).2.2,d.1,by simp only[setAt];omega,?_,q⟩⟩;rw[List.drop_drop]at f;exact⟨f.kind,f.txt⟩
theorem zPk (c:u.length≤4096) (b:zDx u=(ts,0,0)):zSf u 0 ts:=by
 rw[zB2 jo]at b;have:=zM1 u (u.length+1) 0 jo (yAE _) (by rw[List.drop_zero,b]);rwa [List.drop_zero,b]at this
theorem zSg {Q:Tok→Prop} (c:∀z l,(zAY z l).1=0→∀k nl,Q (setAt (zAY z l).2.1 k nl)):∀(f k:Nat) (l:List UInt16),∀t∈(zFD f k l).1,t.kind=0∨Q t:=by
 intro f
 induction f with
 | zero=>intro k l t b;cases b
 | succ f d=>
  intro k l t b;rw[zFD]at b;split at b
  · cases b
  · split at b
    · simp only[List.mem_singleton]at b;subst b;exact .inl rfl
    · split at b
      · cases b
      · rename_i e
        unfold zFo at b;split at b
        · cases b
        · rcases List.mem_cons.1 b with rfl | g
          · exact .inr (c _ _ (Decidable.not_not.1 e) _ _)
          · exact d _ _ t g
theorem zPl:∀{ts:List Tok} {e:Nat},zSf u e ts→Lst ts:=by
 intro ts
 induction ts with
 | nil=>intro e h;exact h.elim
 | cons t r d=>
  intro e h;rcases h.2 with⟨h1,b,_⟩ | ⟨h1,n,_,_,c,b⟩
  · subst h1;exact⟨by simp,b,fun i hi=>by simp at hi⟩
  · have L:=d b;have f:=L.pos;have hs:∀i,zI (t::r) (i+1)=zI r i:=fun i=>by unfold zI;simp
    refine⟨by simp,?_,fun i hi=>?_⟩
    · have:=L.last;rw[←hs]at this;rwa [show(t::r).length - 1=r.length - 1+1 by simp;omega]
    · cases i with
      | zero=>exact c.kind
      | succ i=>
       rw[hs];exact L.mid i (by simp at hi;omega)
theorem zIH {a:Nat} (h:zDx u=(ts,a,0)):Lst ts:=by
 by_cases c:4096 < u.length
 · unfold zDx at h;rw[if_pos c]at h;simp only[Prod.mk.injEq]at h;omega
 · have b:=zVX (u:=u) jo (by rw[h]);rw[h]at b;simp only at b;subst b;exact zPl (zPk jo h)
mutual
theorem size_bare (t:Tr):(bareT t).size=t.size:=by
 cases t with
 | mk x l=>rw[zCQ,zh,zh,sizes_bare l]
theorem sizes_bare (l:List Tr):sizes (bareL l)=sizes l:=by
 cases l with
 | nil=>rw[za]
 | cons t r=>rw[zO,zG,zG,size_bare t,sizes_bare r]
end
mutual
theorem dep_bare (t:Tr):depT (bareT t)=depT t:=by
 cases t with
 | mk x l=>rw[zCQ,zJ7,zJ7,depL_bare l]
theorem depL_bare (l:List Tr):depL (bareL l)=depL l:=by
 cases l with
 | nil=>rw[za]
 | cons t r=>rw[zO,zGF,zGF,dep_bare t,depL_bare r]
end
theorem zKX:∀(l:List Tr) (n:Nat),zz n (bareL l)=zz n l:=by
 intro l
 induction l with
 | nil=>intro n;rw[za]
 | cons t r b=>
  intro n;rw[zO];show(n:Int)::zz (n+(bareT t).size) (bareL r)=(n:Int)::zz (n+t.size) r;rw[b,size_bare]
mutual
theorem flat_bare (n:Nat) (t:Tr):flatT n (bareT t)=flatT n t:=by
 cases t with
 | mk x l=>rw[zCQ,zA7,zA7,flatL_bare (n+1) l,zKX]
theorem flatL_bare (n:Nat) (l:List Tr):flatL n (bareL l)=flatL n l:=by
 cases l with
 | nil=>rw[za]
 | cons t r=>rw[zO,zAb,zAb,flat_bare n t,size_bare,flatL_bare (n+t.size) r]
end
theorem zSh {t:Tr} (hg:Good t) (c:ShortT t) (e:(zDd t).length≤4096):zBT (zDd t)=(flatT 0 t,0,0):=by
 have f:=zOy _ t (yAC _) hg.good c;have b:zDx (zDd t)=(zLk (prT t),0,0):=zPi (fun s hs=>zWz (f s hs)) e;have g:=zIH b;obtain⟨h1,j⟩:=zW1 (prT t);have d:=zOt g hg.good c hg.kind (by rw[List.append_nil];exact h1) j;unfold Rn at d;unfold zBT;rw[b];dsimp only;rw[if_neg js,show(⟨0,0,0⟩:Ps)=pl 0 from rfl,d];dsimp only;have hs:=hg.size;have k:=hg.nest;rw[if_neg js,if_neg (by rw[size_bare];omega),if_neg (by rw[dep_bare];omega),flat_bare]
end Go.Proofs.YtlnbbaehihgigaaGreatDoor
