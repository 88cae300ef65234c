/- Joined for the claim ParseGood: the parser, the lexer and the trees as they are walked, made short by a program of mine. -/
import Derived.Test.YtlnbbaehihgigaaGreatDoorG05
import Derived.Test.YtlnbbaehihgigaaGreatDoorG02
import Derived.Deep.LoopGhost
import Derived.Test.YtlnbbaehihgigaaGreatDoorG04
import Derived.Test.YtlnbbaehihgigaaGreatDoorG01
set_option maxHeartbeats 16000000
set_option maxRecDepth 1000000
namespace Go.Proofs.YtlnbbaehihgigaaGreatDoor
open Go.Proofs.Tryz
open Go.RowKit
variable {u l d r:List UInt16} {A:Option Addr} {t:Tok} {m k n e p c B g:Nat} {nl b z:Bool} {ts:List Tok} {w' wr:World} {s:List UInt8} {q:List Nat×Nat} {xs:List Value}
theorem zHR (f:0 < u.length) (d:∀x∈u,zM x=true) (j:¬zw u≤9007199254740991):zOB u=(⟨2,0⟩,false):=by
 have b:=zBB.1 (d _ (List.getElem_mem f));have c:u≠[]:=List.ne_nil_of_length_pos f;obtain⟨x,r,rfl⟩:=List.exists_cons_of_ne_nil c;simp only[List.getElem_cons_zero]at b;have hs:zCf (x::r)=false:=by
  simp only[zCf,List.headD_cons,yA];rintro rfl;simp at b
 have k:zAX (x::r)=x::r:=by
  unfold zAX;rw[if_neg];simp only[List.headD_cons];rintro(rfl | rfl)<;>simp at b
 have hi:x::r≠zBc:=by
  intro h;have g:x=73:=by injection h
  rw[g]at b;simp at b
 unfold zOB;rw[zHo (fun x b=>zDz (d x b))];unfold zRf;rw[if_neg c,hs];unfold zFU;have e:=List.all_eq_true.2 d;simp only[k,hi,j,e,ne_eq,c,not_false_eq_true,and_self,if_true,if_false,Bool.false_eq_true]
theorem zPd {xs:List UInt16} {w:World} (hB:B≤w.heap.size) (d:xs.length=m) (f:Reads w B 1 A m (zAM xs)) (g:m≤c) (b:c≤maxLen) (j:m≤70368744177664) {k n:Int} {ok:Bool} (h:zOB xs=(⟨k,n⟩,ok)):
 Calls prog 100 #[.slice A m c] w fun e w'=>e=.returned (.tuple #[.agg #[k,n],ok])∧Below w.heap.size w w':=by
 subst d;have:=zNB hB f g b j;rwa[h]at this
theorem zIb {w:World} {b:ByteArray} (d:Rd w g A n c k) (f:u.length=n) (j:Reads w B 1 A n (zAM u)) (hB:B≤g) (hk:k≤n) (m:n≤4096) (o:(u.drop k).takeWhile zM=l) (hs:b=⟨(asc l).toArray⟩):
 Calls prog 95 #[.pointer (some g),.func (.func 62) #[] #[]] w fun e w'=>e=.returned (.string b)∧Mv w w' g A n c (k+l.length):=by
 subst hs;exact zM0 d f j hB hk m o
theorem zJo (b:∀x∈d,zM x=true):zU (asc d)=d:=by
 unfold zU asc;rw[List.map_map]
 conv=>rhs;rw[←List.map_id d]
 refine List.map_congr_left fun x c=>?_;have h:=zBB.1 (b x c);refine UInt16.toNat_inj.1 ?_;show x.toNat % 256=x.toNat
 omega
theorem zPe {s:ByteArray} (hs:s.data.toList=asc d) (f:∀x∈d,zM x=true) (l:d.length≤4096) (w:World):
 Calls prog 11 #[.string s] w fun e w'=>∃A c,e=.returned (.slice A d.length c)∧Reads w' w'.heap.size 1 A d.length (zAM d)∧d.length≤c∧c≤maxLen∧Below w.heap.size w w':=by
 have k:s.size=d.length:=by
  have:=congrArg List.length hs;simpa [asc]using this
 refine(zDs s w jo).mono ?_;rintro e w' ⟨v,rfl,b⟩;have hb:=b.below;rw[hs,zJo f]at b;obtain⟨A,c,rfl,h1,g,j⟩:=b.u16;exact⟨A,c,rfl,j,h1,g,hb⟩
theorem zPf (h:(zBN 0 (fun x=>x.toNat==48) d&& !decide (d=[48]))=true) (b:zB1 d r=(e,t,m)):5=e∧zq=t∧0=m:=by
 unfold zB1 at b;rw[if_pos h]at b;exact zCP b
theorem zXw (h:(zBN 0 (fun x=>x.toNat==48) d&& !decide (d=[48]))=false) (c:zp [110] r=true) (b:zB1 d r=(e,t,m)):zI1 (zw d) d.length (r.drop 1)=(e,t,m):=by
 unfold zB1 at b;rw[if_neg (by rw[h];simp),if_pos c]at b;exact b
theorem zSw (h:(zBN 0 (fun x=>x.toNat==48) d&& !decide (d=[48]))=false) (c:zp [110] r=false) (f:zBN 0 (zAA (decide (d=[48]))) r=true) (b:zB1 d r=(e,t,m)):6=e∧zq=t∧0=m:=by
 unfold zB1 at b;rw[if_neg (by rw[h];simp),if_neg (by rw[c];simp),if_pos f]at b;exact zCP b
theorem zSx (h:(zBN 0 (fun x=>x.toNat==48) d&& !decide (d=[48]))=false) (c:zp [110] r=false) (f:zBN 0 (zAA (decide (d=[48]))) r=false) (g:zBN 0 zA6 r=true) (b:zB1 d r=(e,t,m)):5=e∧zq=t∧0=m:=by
 unfold zB1 at b;rw[if_neg (by rw[h];simp),if_neg (by rw[c];simp),if_neg (by rw[f];simp),if_pos g]at b;exact zCP b
theorem zPg (h:(zBN 0 (fun x=>x.toNat==48) d&& !decide (d=[48]))=false) (c:zp [110] r=false) (f:zBN 0 (zAA (decide (d=[48]))) r=false) (g:zBN 0 zA6 r=false) (j:¬zw d≤9007199254740991) (b:zB1 d r=(e,t,m)):6=e∧zq=t∧0=m:=by
 unfold zB1 at b;rw[if_neg (by rw[h];simp),if_neg (by rw[c];simp),if_neg (by rw[f];simp),if_neg (by rw[g];simp),if_pos jo]at b;exact zCP b
theorem zPh (h:(zBN 0 (fun x=>x.toNat==48) d&& !decide (d=[48]))=false) (c:zp [110] r=false) (f:zBN 0 (zAA (decide (d=[48]))) r=false) (g:zBN 0 zA6 r=false) (j:zw d≤9007199254740991) (b:zB1 d r=(e,t,m)):0=e∧{zq with kind:=2,nn:=zw d}=t∧d.length=m:=by
 unfold zB1 at b;rw[if_neg (by rw[h];simp),if_neg (by rw[c];simp),if_neg (by rw[f];simp),if_neg (by rw[g];simp),jn]at b;exact zGq b
theorem zKp {w:World} (hr:Rd w g A n c k) (hn:u.length=n) (ha:Reads w B 1 A n (zAM u)) (hB:B≤g) (hk:k < u.length) (g4:zM u[k]=true) (hl:n≤4096) (hq:zBn (u.drop k)=(e,t,m)):
 Calls prog 63 #[.pointer (some g)] w fun ev w'=>∃v,ev=.returned (.tuple #[v,e])∧(e≠0→v=noV)∧(e=0→zXd w' w.heap.size t v∧Mv w w' g A n c (k+m))∧w.grownBy w' (some g):=by
 subst hn;have hg:=hr.lt;obtain⟨d,F⟩:=jx ((u.drop k).takeWhile zM);have hd:∀x∈d,zM x=true:=by
  rw[←F];exact List.all_eq_true.1 List.all_takeWhile
 have d1:d=u[k]::(u.drop (k+1)).takeWhile zM:=by rw[←F,yAH hk,List.takeWhile_cons_of_pos g4]
 have h0:0 < d.length:=by rw[d1];simp
 have b9:k+d.length≤u.length:=by
  have h1:=zBb zM (u.drop k);rw[F,List.length_drop]at h1;omega
 unfold zBn at hq;rw[F,List.drop_drop]at hq;obtain⟨sv,c0⟩:∃sv:ByteArray,sv=⟨(asc d).toArray⟩:=⟨_,rfl⟩;have a8:sv.data.toList=asc d:=by rw[c0]
 obtain⟨g5,a6⟩:=zPE a8 hd;have d2:0 < sv.size:=by omega
 obtain⟨q,a9⟩:=jx (((sv[0].toNat:Int)==48));obtain⟨z,H⟩:=jx (decide (d=[48]));have b0:(zBN 0 (fun x=>x.toNat==48) d&& !decide (d=[48]))=(q&& !z):=by
  rw[H];congr 1;have h1:=(a6 0 d2 h0).1;have h2:zBN 0 (fun x=>x.toNat==48) d=(d[0].toNat==48):=by
   unfold zBN;rw[yAB h0];rfl
  rw[h2,←h1,←a9,Bool.eq_iff_iff,beq_iff_eq,beq_iff_eq];omega
 have g6:(sv.toList==[48])=z:=by
  rw[zPK,a8,←H,Bool.eq_iff_iff,decide_eq_true_eq,decide_eq_true_eq];constructor
  · intro h;rw[←zJo hd,h];rfl
  · intro h;rw[h];rfl
 have d3:(q&& !z)=false→d[0]≠48∨d=[48]:=by
  intro h;cases hzc:z with
  | true=>right;exact of_decide_eq_true (by rw[H,hzc])
  | false=>
   left;intro h3;rw[hzc]at h;have h4:q=false:=by simpa using h
   rw[h4,yA]at a9;have h1:=(a6 0 d2 h0).1;rw[h3]at h1;exact a9 (by rw[h1];rfl)
 obtain⟨b,hb⟩:=jx (zp [110] (u.drop (k+d.length)));obtain⟨bo,d4⟩:=jx (zBN 0 (zAA z) (u.drop (k+d.length)));obtain⟨bl,d5⟩:=jx (zBN 0 zA6 (u.drop (k+d.length)));have HL:=zA F;have HD:=zA hd;have g7:=zA c0;have d6:=zA a8;have HQ:=zA hq;have y:=zA b0;have c2:=zA d3;have HB:=zA hb;have I:=zA d4;have b1:=zA d5;have HZ:=zA H;have HA:=zA ha;have hR:=zA (hr.alloc (.cells zBY.toArray 80));have d7:=zA (ha.alloc (yAD hB (Nat.le_of_lt hg)) (.cells zBY.toArray 80));have d8:=zA (Blk.new w zBY 80);have d9:=zA (zF w (.cells zBY.toArray 80) (some g));have e0:d.length≤4096:=by omega
 clear F hd d1 c0 a8 hq b0 d3 hb d4 d5 H ha hr a6 g5;go_enter func63,ntmps63;go_wp2_with fail;refine(zIb hR rfl d7 hB (Nat.le_of_lt hk) hl HL g7).mono ?_;rintro e1 w1 ⟨rfl,b2⟩;have o:=zA (show SgS w w1 g A u.length c (k+d.length)from⟨⟨b2.rd,zC d9 b2.grown⟩,d8.out.grown b2.grown jo⟩);clear b2 hR d7 d8 d9;go_upto_region 3 with(fail)
 go_cut [12] (fun v wx=>v=.bool (q&& !z)∧wx=w1)
 case first=>
  cases q<;>cases z
  all_goals
   go_wp2_with fail;go_meet;exact⟨rfl,rfl⟩
 case rest=>
  obtain⟨hv,g8⟩:=hcut;subst hv g8;obtain⟨ld,e7⟩:=jx ((q&& !z));rw[e7]at y c2⊢;clear e7 a9 g6;cases ld with
  | true=>
   obtain⟨J,L⟩:=o.out.zero.2 0 jd;obtain⟨M,N⟩:=o.out.zero.2 1 jd;obtain⟨O,P⟩:=o.out.zero.2 2 jd;obtain⟨Q,R⟩:=o.out.zero.2 3 jd;obtain⟨T,U⟩:=o.out.zero.2 4 jd;obtain⟨V,W⟩:=o.out.zero.2 5 jd;obtain⟨X,Y⟩:=o.out.zero.2 6 jd;obtain⟨a0,a1⟩:=o.out.zero.2 7 jd;obtain⟨a2,a3⟩:=o.out.zero.2 8 jd;go_wp2_with fail;obtain⟨q0,q1,q2,q3,q4,q5,q6,q7,q8⟩:=zb (v0:=(0:Int)) (v1:= "") (v2:=()) (v3:=(0:Int)) (v4:=(0:Int)) (v5:=false) (v6:=()) (v7:=(0:Int)) (v8:=false) o.out.zero rfl;refine bodyPost_ret (v:=.tuple #[.agg #[(0:Int),"",(),(0:Int),(0:Int),false,(),(0:Int),false],(5:Int)]) (by simp[results,results63,go_sem,q0,q1,q2,q3,q4,q5,q6,q7,q8]) rfl ?_;obtain⟨G,z2,z3⟩:=zPf y HQ;subst G;exact⟨_,rfl,fun _=>rfl,fun h=>absurd h jd,(zAG o.out.mv (yAC _) hg).grown⟩
  | false=>
   have g9:=zA (c2.out rfl);clear c2;go_wp2_with fail;refine(zAw ⟨#[110]⟩ o.out.mv.rd rfl (HA.out.grown o.out.mv.grown hB (Nat.le_of_lt hg)) b9 hl jd HB).mono ?_;rintro e2 w2 ⟨rfl,m2,e8⟩;have D:=zA (show SgS w w2 g A u.length c (k+d.length) by rw[e8];exact o.out.drewN hg m2);clear e8 m2 o;cases b with
   | true=>
    have j2:k+d.length+1≤u.length:=by
     have:=zDG HB;rw[List.length_drop]at this;simp at this;omega
    have e9:=zA (zXw y HB HQ);rw[List.drop_drop]at e9;have f0:=D.out.mv.rd.c1;have h5:=D.out.mv.rd.f1;have a4:=zA (Mv.step D.out.mv (k':=k+d.length+1) (z:=(((k+d.length:Nat):Int)+1)) jo);have f2:=zA (D.out.zero.setOther (S:=g) (i:=1) jo (.int .i64 (((k+d.length:Nat):Int)+1)));obtain⟨p,hp⟩:=jx (k+d.length);rw[hp]at f0 a4 f2;go_wp2_with fail;refine(zKi (m:=m) (e:=e) (t:=t) d6 HD h0 g9 e0 (by exact a4.out.rd) rfl (HA.out.grown a4.out.grown hB (Nat.le_of_lt hg)) hB jo hl (by rw[←hp];exact e9.out)).mono ?_;rintro e4 w4 ⟨v,rfl,c3,b3,c4⟩;have C:=zA (f2.out.grown c4 jo);have g3:=zA c3;have d0:=zA b3;have f3:=zA (zC a4.out.grown c4);have c5:w.heap.size < w2.heap.size:=D.out.zero.1;have c6:(w2.setCell ⟨g,1,none⟩ (.int .i64 ((p:Int)+1))).heap.size=w2.heap.size:=by simp
    have h6:=zA c6;clear c3 b3 c4 c6 f0 h5;obtain⟨J,L⟩:=C.out.2 0 jd;obtain⟨M,N⟩:=C.out.2 1 jd;obtain⟨O,P⟩:=C.out.2 2 jd;obtain⟨Q,R⟩:=C.out.2 3 jd;obtain⟨T,U⟩:=C.out.2 4 jd;obtain⟨V,W⟩:=C.out.2 5 jd;obtain⟨X,Y⟩:=C.out.2 6 jd;obtain⟨a0,a1⟩:=C.out.2 7 jd;obtain⟨a2,a3⟩:=C.out.2 8 jd
    by_cases he:e=0
    · obtain⟨⟨vs,vm,hv,b4,b5⟩,f4,f5⟩:=d0.out he;subst hv;obtain⟨As,cs,rfl,_,_⟩:=zS b4;obtain⟨Am,cm,rfl,_,_⟩:=zS b5;rw[h6.out]at b4 b5;have f6:=zA b4;have f7:=zA b5;have h7:=zA (Mv.then a4 f4);have HE:=zA he;have h8:=zA f5;obtain⟨ls,b6⟩:=jx t.str.length;obtain⟨lm,b7⟩:=jx t.mag.length;rw[b6,b7];rw[b6]at f6;rw[b7]at f7;have h9:=zA b6;have j0:=zA b7;clear b4 b5 f4 f5 he b6 b7;go_wp2_with fail;obtain⟨q0,q1,q2,q3,q4,q5,q6,q7,q8⟩:=zb (v0:=t.kind) (v1:=t.text) (v2:=.slice As ls cs) (v3:=t.nk) (v4:=t.nn) (v5:=false) (v6:=.slice Am lm cm) (v7:=t.pos) (v8:=t.nl) C rfl;refine bodyPost_ret (v:=.tuple #[.agg #[t.kind,t.text,.slice As ls cs,t.nk,t.nn,false,.slice Am lm cm,t.pos,t.nl],e]) (by simp[results,results63,go_sem,q0,q1,q2,q3,q4,q5,q6,q7,q8]) rfl ?_;refine⟨_,rfl,fun h=>absurd HE h,fun _=>⟨⟨_,_,rfl,?_,?_⟩,?_⟩,zAa f3 (yAC _)⟩
      · rw[h9.out];exact zAg (zBG f6 c5) jo
      · rw[j0.out];exact zAg (zBG f7 c5) jo
      · rw[h8.out,show k+(d.length+1)=p+1 by omega];exact zAG h7 (yAC _) hg
    · obtain rfl:=g3.out he;unfold noV;go_wp2_with fail;obtain⟨q0,q1,q2,q3,q4,q5,q6,q7,q8⟩:=zb (v0:=(0:Int)) (v1:= "") (v2:=()) (v3:=(0:Int)) (v4:=(0:Int)) (v5:=false) (v6:=()) (v7:=(0:Int)) (v8:=false) C rfl;refine bodyPost_ret (v:=.tuple #[.agg #[(0:Int),"",(),(0:Int),(0:Int),false,(),(0:Int),false],e]) (by simp[results,results63,go_sem,q0,q1,q2,q3,q4,q5,q6,q7,q8]) rfl ?_;exact⟨_,rfl,fun _=>rfl,fun h=>absurd h he,zAa f3 (yAC _)⟩
   | false=>
    go_wp2_with fail;refine(zJj D.out.mv.rd rfl (HA.out.grown D.out.mv.grown hB (Nat.le_of_lt hg)) hB b9 hl I).mono ?_;rintro e3 w3 ⟨rfl,f8⟩;have r:=zA (D.out.below hg f8);clear f8 D;cases bo with
    | true=>
     obtain⟨J,L⟩:=r.out.zero.2 0 jd;obtain⟨M,N⟩:=r.out.zero.2 1 jd;obtain⟨O,P⟩:=r.out.zero.2 2 jd;obtain⟨Q,R⟩:=r.out.zero.2 3 jd;obtain⟨T,U⟩:=r.out.zero.2 4 jd;obtain⟨V,W⟩:=r.out.zero.2 5 jd;obtain⟨X,Y⟩:=r.out.zero.2 6 jd;obtain⟨a0,a1⟩:=r.out.zero.2 7 jd;obtain⟨a2,a3⟩:=r.out.zero.2 8 jd;go_wp2_with fail;obtain⟨q0,q1,q2,q3,q4,q5,q6,q7,q8⟩:=zb (v0:=(0:Int)) (v1:= "") (v2:=()) (v3:=(0:Int)) (v4:=(0:Int)) (v5:=false) (v6:=()) (v7:=(0:Int)) (v8:=false) r.out.zero rfl;refine bodyPost_ret (v:=.tuple #[.agg #[(0:Int),"",(),(0:Int),(0:Int),false,(),(0:Int),false],(6:Int)]) (by simp[results,results63,go_sem,q0,q1,q2,q3,q4,q5,q6,q7,q8]) rfl ?_;obtain⟨G,z2,z3⟩:=zSw y HB (by rw[HZ.out];exact I.out) HQ;subst G;exact⟨_,rfl,fun _=>rfl,fun h=>absurd h jd,(zAG r.out.mv (yAC _) hg).grown⟩
    | false=>
     go_wp2_with fail;refine(zHt (j:=0) r.out.mv.rd rfl (HA.out.grown r.out.mv.grown hB (Nat.le_of_lt hg)) b9 hl jo b1).mono ?_;rintro e4 w4 ⟨rfl,m4,f9⟩;have s:=zA (show SgS w w4 g A u.length c (k+d.length) by rw[f9];exact r.out.drewN hg m4);clear f9 m4 r;cases bl with
     | true=>
      obtain⟨J,L⟩:=s.out.zero.2 0 jd;obtain⟨M,N⟩:=s.out.zero.2 1 jd;obtain⟨O,P⟩:=s.out.zero.2 2 jd;obtain⟨Q,R⟩:=s.out.zero.2 3 jd;obtain⟨T,U⟩:=s.out.zero.2 4 jd;obtain⟨V,W⟩:=s.out.zero.2 5 jd;obtain⟨X,Y⟩:=s.out.zero.2 6 jd;obtain⟨a0,a1⟩:=s.out.zero.2 7 jd;obtain⟨a2,a3⟩:=s.out.zero.2 8 jd;go_wp2_with fail;obtain⟨q0,q1,q2,q3,q4,q5,q6,q7,q8⟩:=zb (v0:=(0:Int)) (v1:= "") (v2:=()) (v3:=(0:Int)) (v4:=(0:Int)) (v5:=false) (v6:=()) (v7:=(0:Int)) (v8:=false) s.out.zero rfl;refine bodyPost_ret (v:=.tuple #[.agg #[(0:Int),"",(),(0:Int),(0:Int),false,(),(0:Int),false],(5:Int)]) (by simp[results,results63,go_sem,q0,q1,q2,q3,q4,q5,q6,q7,q8]) rfl ?_;obtain⟨G,z2,z3⟩:=zSx y HB (by rw[HZ.out];exact I.out) b1 HQ;subst G;exact⟨_,rfl,fun _=>rfl,fun h=>absurd h jd,(zAG s.out.mv (yAC _) hg).grown⟩
     | false=>
      go_wp2_with fail;refine(zPe d6 HD e0 _).mono ?_;rintro e5 w5 ⟨Aa,ca,rfl,g0,c7,c8,g1⟩;have b8:=zA (s.out.below hg g1);have g2:=zA g0;clear g1 s g0
      by_cases E:zw d≤9007199254740991
      · have HN:=zA (zMm h0 HD E);have a7:=zA E;clear E;go_wp2_with fail;refine(zPd (yAC _) rfl g2 c7 c8 jo HN).mono ?_;rintro e6 w6 ⟨rfl,a5⟩;have f:=zA (show SgS w (w6.alloc (.cells #[(0:Int),(zw d:Int)] 37)) g A u.length c (k+d.length)from((b8.out.below hg a5).below hg (ja)));obtain⟨dv,c9⟩:=jx (zw d);rw[c9]at f⊢;have j1:=zA c9;clear a5 b8 c9;obtain⟨J,L⟩:=f.out.zero.2 0 jd;obtain⟨M,N⟩:=f.out.zero.2 1 jd;obtain⟨O,P⟩:=f.out.zero.2 2 jd;obtain⟨Q,R⟩:=f.out.zero.2 3 jd;obtain⟨T,U⟩:=f.out.zero.2 4 jd;obtain⟨V,W⟩:=f.out.zero.2 5 jd;obtain⟨X,Y⟩:=f.out.zero.2 6 jd;obtain⟨a0,a1⟩:=f.out.zero.2 7 jd;obtain⟨a2,a3⟩:=f.out.zero.2 8 jd;go_wp2_with fail;obtain⟨q0,q1,q2,q3,q4,q5,q6,q7,q8⟩:=zb (v0:=(2:Int)) (v1:= "") (v2:=()) (v3:=(0:Int)) (v4:=dv) (v5:=false) (v6:=()) (v7:=(0:Int)) (v8:=false) f.out.zero rfl;refine bodyPost_ret (v:=.tuple #[.agg #[(2:Int),"",(),(0:Int),dv,false,(),(0:Int),false],(0:Int)]) (by simp[results,results63,go_sem,q0,q1,q2,q3,q4,q5,q6,q7,q8]) rfl ?_;obtain⟨G,z2,z3⟩:=zPh y HB (by rw[HZ.out];exact I.out) b1 a7 HQ;subst G z2 z3;exact⟨_,rfl,fun h=>absurd rfl h,fun _=>⟨⟨_,_,by rw[j1.out];rfl,yAJ _ _ _ _,yAJ _ _ _ _⟩,zAG f.out.mv (yAC _) hg⟩,(zAG f.out.mv (yAC _) hg).grown⟩
      · have HN:=zA (zHR h0 HD E);have a7:=zA E;clear E;go_wp2_with fail;refine(zPd (yAC _) rfl g2 c7 c8 jo HN).mono ?_;rintro e6 w6 ⟨rfl,a5⟩;have f:=zA (show SgS w (w6.alloc (.cells #[(2:Int),(0:Int)] 37)) g A u.length c (k+d.length)from((b8.out.below hg a5).below hg (ja)));clear a5 b8;obtain⟨J,L⟩:=f.out.zero.2 0 jd;obtain⟨M,N⟩:=f.out.zero.2 1 jd;obtain⟨O,P⟩:=f.out.zero.2 2 jd;obtain⟨Q,R⟩:=f.out.zero.2 3 jd;obtain⟨T,U⟩:=f.out.zero.2 4 jd;obtain⟨V,W⟩:=f.out.zero.2 5 jd;obtain⟨X,Y⟩:=f.out.zero.2 6 jd;obtain⟨a0,a1⟩:=f.out.zero.2 7 jd;obtain⟨a2,a3⟩:=f.out.zero.2 8 jd;go_wp2_with fail;obtain⟨q0,q1,q2,q3,q4,q5,q6,q7,q8⟩:=zb (v0:=(0:Int)) (v1:= "") (v2:=()) (v3:=(0:Int)) (v4:=(0:Int)) (v5:=false) (v6:=()) (v7:=(0:Int)) (v8:=false) f.out.zero rfl;refine bodyPost_ret (v:=.tuple #[.agg #[(0:Int),"",(),(0:Int),(0:Int),false,(),(0:Int),false],(6:Int)]) (by simp[results,results63,go_sem,q0,q1,q2,q3,q4,q5,q6,q7,q8]) rfl ?_;obtain⟨G,z2,z3⟩:=zPg y HB (by rw[HZ.out];exact I.out) b1 a7 HQ;subst G;exact⟨_,rfl,fun _=>rfl,fun h=>absurd h jd,(zAG f.out.mv (yAC _) hg).grown⟩
theorem zNC {w:World} (hr:Rd w g A n c k) (hn:u.length=n) (ha:Reads w B 1 A n (zAM u)) (hB:B≤g) (hk:k < u.length) (hl:n≤4096) (hc:n≤c) (hq:zAY (k==0) (u.drop k)=(e,t,m)):
 Calls prog 31 #[.pointer (some g)] w fun ev w'=>∃v,ev=.returned (.tuple #[v,e])∧(e≠0→v=noV)∧(e=0→zXd w' w.heap.size t v∧Mv w w' g A n c (k+m))∧w.grownBy w' (some g):=by
 subst hn;have hg:=hr.lt;obtain⟨x,hx⟩:=jx (u[k]);have c3:=yAH hk;rw[hx]at c3;rw[c3,zBC]at hq;obtain⟨blk,off,rfl,e0,c4⟩:=ha.spotL jo;have c6:=c4 k hk;rw[hx]at c6;have c7:=World.cell?_alloc_lt w (.cells zBY.toArray 80) ⟨blk,off+k,none⟩ (by show blk < _;omega);rw[c6]at c7;have HX:=zA hx;have b6:=zA c3;have HQ:=zA hq;have HA:=zA ha;have c8:=zA (show SgS w (w.alloc (.cells zBY.toArray 80)) g (some ⟨blk,off,none⟩) u.length c k from⟨⟨hr.alloc _,zF w _ _⟩,Blk.new w zBY 80⟩);have d3:=hr.c0;have d4:=hr.c1;have e1:=x.toNat_lt;have e5:blk < w.heap.size:=by omega
 clear c4 hx c3 hq ha hr c7;go_enter func31,ntmps31;go_wp2_with fail
 go_quiet (fail)
 have C:=zA (c8.out.drewN hg nq).mv;have S:=zA (c8.out.drewN hg nq).zero;obtain⟨w1,b7⟩:=jx ((w.alloc (.cells zBY.toArray 80)).drewN nq);have I:w.heap.size < w1.heap.size:=by rw[←b7];simp
 have d5:=zA b7;rw[b7]at C S;have c9:=zA (show(w.alloc (.cells #[(0:Int),"",(),(0:Int),(0:Int),false,(),(0:Int),false] 80)).drewN nq=w1 from b7);rw[c9.out];have T:=zA (HA.out.grown C.out.grown hB (Nat.le_of_lt hg));clear b7 c8 d3 d4 c6 d5 c9;cases hlet:zA6 x with
 | true=>
  have L:=zA (show zCp (u.drop k)=(e,t,m) by
   have:=HQ.out;rw[if_pos hlet]at this;rw[b6.out];exact this)
  have HT:=zA hlet;go_wp2_with (go_at_call 60;refine(zBD _ _).mono ?_;rintro e2 w2 ⟨rfl,rfl⟩);refine(zM3 (m:=m) (e:=e) (t:=t) C.out.rd rfl T hB (Nat.le_of_lt hk) hl L).mono ?_;rintro e4 w4 ⟨v,rfl,q,f,r⟩;have d:=zA (S.out.grown r jo);have J:=zA q;have D:=zA f;have E:=zA (zC C.out.grown r);clear q f r;obtain⟨W,X⟩:=d.out.2 0 jd;obtain⟨Y,a0⟩:=d.out.2 1 jd;obtain⟨a1,a2⟩:=d.out.2 2 jd;obtain⟨a3,a4⟩:=d.out.2 3 jd;obtain⟨a5,a6⟩:=d.out.2 4 jd;obtain⟨a7,a8⟩:=d.out.2 5 jd;obtain⟨a9,b0⟩:=d.out.2 6 jd;obtain⟨b1,b2⟩:=d.out.2 7 jd;obtain⟨b3,b4⟩:=d.out.2 8 jd
  by_cases s:e=0
  · obtain⟨⟨vs,vm,hv,y,z⟩,F⟩:=D.out s;subst hv;obtain⟨As,cs,rfl,_,_⟩:=zS y;obtain⟨Am,cm,rfl,_,_⟩:=zS z;have G:=zA y;have H:=zA z;have M:=zA (Mv.then C F);have U:=zA s;obtain⟨N,o⟩:=jx t.str.length;obtain⟨O,p⟩:=jx t.mag.length;rw[o,p];rw[o]at G;rw[p]at H;have P:=zA o;have Q:=zA p;clear y z F s o p;go_wp2_with fail;obtain⟨q0,q1,q2,q3,q4,q5,q6,q7,q8⟩:=zb (v0:=t.kind) (v1:=t.text) (v2:=.slice As N cs) (v3:=t.nk) (v4:=t.nn) (v5:=false) (v6:=.slice Am O cm) (v7:=t.pos) (v8:=t.nl) d rfl;refine bodyPost_ret (v:=.tuple #[.agg #[t.kind,t.text,.slice As N cs,t.nk,t.nn,false,.slice Am O cm,t.pos,t.nl],e]) (by simp[results,results31,go_sem,q0,q1,q2,q3,q4,q5,q6,q7,q8]) rfl ?_;refine⟨_,rfl,fun h=>absurd U h,fun _=>⟨⟨_,_,rfl,?_,?_⟩,?_⟩,zAa E (yAC _)⟩
    · rw[P.out];exact zAg (zBG G I) jo
    · rw[Q.out];exact zAg (zBG H I) jo
    · exact zAG M (yAC _) hg
  · obtain rfl:=J.out s;unfold noV;go_wp2_with fail;obtain⟨q0,q1,q2,q3,q4,q5,q6,q7,q8⟩:=zb (v0:=(0:Int)) (v1:= "") (v2:=()) (v3:=(0:Int)) (v4:=(0:Int)) (v5:=false) (v6:=()) (v7:=(0:Int)) (v8:=false) d rfl;refine bodyPost_ret (v:=.tuple #[.agg #[(0:Int),"",(),(0:Int),(0:Int),false,(),(0:Int),false],e]) (by simp[results,results31,go_sem,q0,q1,q2,q3,q4,q5,q6,q7,q8]) rfl ?_;exact⟨_,rfl,fun _=>rfl,fun h=>absurd h s,zAa E (yAC _)⟩
 | false=>
  cases hdig:zM x with
  | true=>
   have L:=zA (show zBn (u.drop k)=(e,t,m) by
    have:=HQ.out;rw[if_neg (by rw[hlet];simp),if_pos hdig]at this;rw[b6.out];exact this)
   go_wp2_with (first | (go_at_call 60;refine(zBD _ _).mono ?_;rintro e2 w2 ⟨rfl,rfl⟩) | (go_at_call 62;refine(zAH _ _).mono ?_;rintro e2 w2 ⟨rfl,rfl⟩));refine(zKp (m:=m) (e:=e) (t:=t) C.out.rd rfl T hB hk (by rw[HX.out];exact hdig) hl L).mono ?_;rintro e4 w4 ⟨v,rfl,q,f,r⟩;have d:=zA (S.out.grown r jo);have J:=zA q;have D:=zA f;have E:=zA (zC C.out.grown r);clear q f r;obtain⟨W,X⟩:=d.out.2 0 jd;obtain⟨Y,a0⟩:=d.out.2 1 jd;obtain⟨a1,a2⟩:=d.out.2 2 jd;obtain⟨a3,a4⟩:=d.out.2 3 jd;obtain⟨a5,a6⟩:=d.out.2 4 jd;obtain⟨a7,a8⟩:=d.out.2 5 jd;obtain⟨a9,b0⟩:=d.out.2 6 jd;obtain⟨b1,b2⟩:=d.out.2 7 jd;obtain⟨b3,b4⟩:=d.out.2 8 jd
   by_cases s:e=0
   · obtain⟨⟨vs,vm,hv,y,z⟩,F⟩:=D.out s;subst hv;obtain⟨As,cs,rfl,_,_⟩:=zS y;obtain⟨Am,cm,rfl,_,_⟩:=zS z;have G:=zA y;have H:=zA z;have M:=zA (Mv.then C F);have U:=zA s;obtain⟨N,o⟩:=jx t.str.length;obtain⟨O,p⟩:=jx t.mag.length;rw[o,p];rw[o]at G;rw[p]at H;have P:=zA o;have Q:=zA p;clear y z F s o p;go_wp2_with fail;obtain⟨q0,q1,q2,q3,q4,q5,q6,q7,q8⟩:=zb (v0:=t.kind) (v1:=t.text) (v2:=.slice As N cs) (v3:=t.nk) (v4:=t.nn) (v5:=false) (v6:=.slice Am O cm) (v7:=t.pos) (v8:=t.nl) d rfl;refine bodyPost_ret (v:=.tuple #[.agg #[t.kind,t.text,.slice As N cs,t.nk,t.nn,false,.slice Am O cm,t.pos,t.nl],e]) (by simp[results,results31,go_sem,q0,q1,q2,q3,q4,q5,q6,q7,q8]) rfl ?_;refine⟨_,rfl,fun h=>absurd U h,fun _=>⟨⟨_,_,rfl,?_,?_⟩,?_⟩,zAa E (yAC _)⟩
     · rw[P.out];exact zAg (zBG G I) jo
     · rw[Q.out];exact zAg (zBG H I) jo
     · exact zAG M (yAC _) hg
   · obtain rfl:=J.out s;unfold noV;go_wp2_with fail;obtain⟨q0,q1,q2,q3,q4,q5,q6,q7,q8⟩:=zb (v0:=(0:Int)) (v1:= "") (v2:=()) (v3:=(0:Int)) (v4:=(0:Int)) (v5:=false) (v6:=()) (v7:=(0:Int)) (v8:=false) d rfl;refine bodyPost_ret (v:=.tuple #[.agg #[(0:Int),"",(),(0:Int),(0:Int),false,(),(0:Int),false],e]) (by simp[results,results31,go_sem,q0,q1,q2,q3,q4,q5,q6,q7,q8]) rfl ?_;exact⟨_,rfl,fun _=>rfl,fun h=>absurd h s,zAa E (yAC _)⟩
  | false=>
   by_cases b5:x.toNat=39
   · have d6:((x.toNat:Int)==39)=true:=by rw[b5];rfl
     have V:=zA (show(x.toNat==39 || x.toNat==34)=true by rw[b5];rfl);clear b5;have L:=zA (show zA3 u[k] (u.drop (k+1))=(e,t,m) by
      have:=HQ.out;rw[if_neg (by rw[hlet];simp),if_neg (by rw[hdig];simp),if_pos V.out]at this;rw[HX.out];exact this)
     go_wp2_with (first | (go_at_call 60;refine(zBD _ _).mono ?_;rintro e2 w2 ⟨rfl,rfl⟩) | (go_at_call 62;refine(zAH _ _).mono ?_;rintro e2 w2 ⟨rfl,rfl⟩));refine(zGv (m:=m) (e:=e) (t:=t) C.out.rd rfl T hB hk hl L).mono ?_;rintro e4 w4 ⟨v,rfl,q,f,r⟩;have d:=zA (S.out.grown r jo);have J:=zA q;have D:=zA f;have E:=zA (zC C.out.grown r);clear q f r;obtain⟨W,X⟩:=d.out.2 0 jd;obtain⟨Y,a0⟩:=d.out.2 1 jd;obtain⟨a1,a2⟩:=d.out.2 2 jd;obtain⟨a3,a4⟩:=d.out.2 3 jd;obtain⟨a5,a6⟩:=d.out.2 4 jd;obtain⟨a7,a8⟩:=d.out.2 5 jd;obtain⟨a9,b0⟩:=d.out.2 6 jd;obtain⟨b1,b2⟩:=d.out.2 7 jd;obtain⟨b3,b4⟩:=d.out.2 8 jd
     by_cases s:e=0
     · obtain⟨⟨vs,vm,hv,y,z⟩,F⟩:=D.out s;subst hv;obtain⟨As,cs,rfl,_,_⟩:=zS y;obtain⟨Am,cm,rfl,_,_⟩:=zS z;have G:=zA y;have H:=zA z;have M:=zA (Mv.then C F);have U:=zA s;obtain⟨N,o⟩:=jx t.str.length;obtain⟨O,p⟩:=jx t.mag.length;rw[o,p];rw[o]at G;rw[p]at H;have P:=zA o;have Q:=zA p;clear y z F s o p;go_wp2_with fail;obtain⟨q0,q1,q2,q3,q4,q5,q6,q7,q8⟩:=zb (v0:=t.kind) (v1:=t.text) (v2:=.slice As N cs) (v3:=t.nk) (v4:=t.nn) (v5:=false) (v6:=.slice Am O cm) (v7:=t.pos) (v8:=t.nl) d rfl;refine bodyPost_ret (v:=.tuple #[.agg #[t.kind,t.text,.slice As N cs,t.nk,t.nn,false,.slice Am O cm,t.pos,t.nl],e]) (by simp[results,results31,go_sem,q0,q1,q2,q3,q4,q5,q6,q7,q8]) rfl ?_;refine⟨_,rfl,fun h=>absurd U h,fun _=>⟨⟨_,_,rfl,?_,?_⟩,?_⟩,zAa E (yAC _)⟩
       · rw[P.out];exact zAg (zBG G I) jo
       · rw[Q.out];exact zAg (zBG H I) jo
       · exact zAG M (yAC _) hg
     · obtain rfl:=J.out s;unfold noV;go_wp2_with fail;obtain⟨q0,q1,q2,q3,q4,q5,q6,q7,q8⟩:=zb (v0:=(0:Int)) (v1:= "") (v2:=()) (v3:=(0:Int)) (v4:=(0:Int)) (v5:=false) (v6:=()) (v7:=(0:Int)) (v8:=false) d rfl;refine bodyPost_ret (v:=.tuple #[.agg #[(0:Int),"",(),(0:Int),(0:Int),false,(),(0:Int),false],e]) (by simp[results,results31,go_sem,q0,q1,q2,q3,q4,q5,q6,q7,q8]) rfl ?_;exact⟨_,rfl,fun _=>rfl,fun h=>absurd h s,zAa E (yAC _)⟩
   · have d6:((x.toNat:Int)==39)=false:=yA.2 jo
     by_cases b8:x.toNat=34
     · have d7:((x.toNat:Int)==34)=true:=by rw[b8];rfl
       have V:=zA (show(x.toNat==39 || x.toNat==34)=true by rw[b8];rfl);clear b8 b5;have L:=zA (show zA3 u[k] (u.drop (k+1))=(e,t,m) by
        have:=HQ.out;rw[if_neg (by rw[hlet];simp),if_neg (by rw[hdig];simp),if_pos V.out]at this;rw[HX.out];exact this)
       go_wp2_with (first | (go_at_call 60;refine(zBD _ _).mono ?_;rintro e2 w2 ⟨rfl,rfl⟩) | (go_at_call 62;refine(zAH _ _).mono ?_;rintro e2 w2 ⟨rfl,rfl⟩));refine(zGv (m:=m) (e:=e) (t:=t) C.out.rd rfl T hB hk hl L).mono ?_;rintro e4 w4 ⟨v,rfl,q,f,r⟩;have d:=zA (S.out.grown r jo);have J:=zA q;have D:=zA f;have E:=zA (zC C.out.grown r);clear q f r;obtain⟨W,X⟩:=d.out.2 0 jd;obtain⟨Y,a0⟩:=d.out.2 1 jd;obtain⟨a1,a2⟩:=d.out.2 2 jd;obtain⟨a3,a4⟩:=d.out.2 3 jd;obtain⟨a5,a6⟩:=d.out.2 4 jd;obtain⟨a7,a8⟩:=d.out.2 5 jd;obtain⟨a9,b0⟩:=d.out.2 6 jd;obtain⟨b1,b2⟩:=d.out.2 7 jd;obtain⟨b3,b4⟩:=d.out.2 8 jd
       by_cases s:e=0
       · obtain⟨⟨vs,vm,hv,y,z⟩,F⟩:=D.out s;subst hv;obtain⟨As,cs,rfl,_,_⟩:=zS y;obtain⟨Am,cm,rfl,_,_⟩:=zS z;have G:=zA y;have H:=zA z;have M:=zA (Mv.then C F);have U:=zA s;obtain⟨N,o⟩:=jx t.str.length;obtain⟨O,p⟩:=jx t.mag.length;rw[o,p];rw[o]at G;rw[p]at H;have P:=zA o;have Q:=zA p;clear y z F s o p;go_wp2_with fail;obtain⟨q0,q1,q2,q3,q4,q5,q6,q7,q8⟩:=zb (v0:=t.kind) (v1:=t.text) (v2:=.slice As N cs) (v3:=t.nk) (v4:=t.nn) (v5:=false) (v6:=.slice Am O cm) (v7:=t.pos) (v8:=t.nl) d rfl;refine bodyPost_ret (v:=.tuple #[.agg #[t.kind,t.text,.slice As N cs,t.nk,t.nn,false,.slice Am O cm,t.pos,t.nl],e]) (by simp[results,results31,go_sem,q0,q1,q2,q3,q4,q5,q6,q7,q8]) rfl ?_;refine⟨_,rfl,fun h=>absurd U h,fun _=>⟨⟨_,_,rfl,?_,?_⟩,?_⟩,zAa E (yAC _)⟩
         · rw[P.out];exact zAg (zBG G I) jo
         · rw[Q.out];exact zAg (zBG H I) jo
         · exact zAG M (yAC _) hg
       · obtain rfl:=J.out s;unfold noV;go_wp2_with fail;obtain⟨q0,q1,q2,q3,q4,q5,q6,q7,q8⟩:=zb (v0:=(0:Int)) (v1:= "") (v2:=()) (v3:=(0:Int)) (v4:=(0:Int)) (v5:=false) (v6:=()) (v7:=(0:Int)) (v8:=false) d rfl;refine bodyPost_ret (v:=.tuple #[.agg #[(0:Int),"",(),(0:Int),(0:Int),false,(),(0:Int),false],e]) (by simp[results,results31,go_sem,q0,q1,q2,q3,q4,q5,q6,q7,q8]) rfl ?_;exact⟨_,rfl,fun _=>rfl,fun h=>absurd h s,zAa E (yAC _)⟩
     · have d7:((x.toNat:Int)==34)=false:=yA.2 jo;have V:=zA (show(x.toNat==39 || x.toNat==34)=false by
        rw[Bool.or_eq_false_iff];exact⟨yA.2 b5,yA.2 b8⟩)
       clear b5 b8;obtain⟨b,hb⟩:=jx (zBN 1 zM (u.drop k));have d2:=zA (show zBN 0 zM (u.drop (k+1))=b by
        rw[←hb,b6.out];unfold zBN;rfl)
       have HB:=zA hb;clear hb
       by_cases b9:x.toNat=46
       · have d8:((x.toNat:Int)==46)=true:=by rw[b9];rfl
         have d0:=zA (show(x.toNat==46)=true by rw[b9];rfl);clear b9;go_wp2_with (first | (go_at_call 60;refine(zBD _ _).mono ?_;rintro e2 w2 ⟨rfl,rfl⟩) | (go_at_call 62;refine(zAH _ _).mono ?_;rintro e2 w2 ⟨rfl,rfl⟩));refine(zAt (j:=1) C.out.rd rfl T (Nat.le_of_lt hk) hl jo HB).mono ?_;rintro e3 w3 ⟨rfl,m3,c5⟩;have c2:=zA (show Mv w w3 g (some ⟨blk,off,none⟩) u.length c k by rw[c5];exact C.out.drewN m3);have R:=zA (show Blk w3 w.heap.size zBY by rw[c5];exact S.out.grown (zAE _ (some g) _) jo);have d1:w.heap.size < w3.heap.size:=by rw[c5];simpa using I
         have d9:=zA (HA.out.grown c2.out.grown hB (Nat.le_of_lt hg));clear c5 m3 C S T I;cases b with
         | true=>
          obtain⟨W,X⟩:=R.out.2 0 jd;obtain⟨Y,a0⟩:=R.out.2 1 jd;obtain⟨a1,a2⟩:=R.out.2 2 jd;obtain⟨a3,a4⟩:=R.out.2 3 jd;obtain⟨a5,a6⟩:=R.out.2 4 jd;obtain⟨a7,a8⟩:=R.out.2 5 jd;obtain⟨a9,b0⟩:=R.out.2 6 jd;obtain⟨b1,b2⟩:=R.out.2 7 jd;obtain⟨b3,b4⟩:=R.out.2 8 jd;go_wp2_with fail;obtain⟨q0,q1,q2,q3,q4,q5,q6,q7,q8⟩:=zb (v0:=(0:Int)) (v1:= "") (v2:=()) (v3:=(0:Int)) (v4:=(0:Int)) (v5:=false) (v6:=()) (v7:=(0:Int)) (v8:=false) R rfl;refine bodyPost_ret (v:=.tuple #[.agg #[(0:Int),"",(),(0:Int),(0:Int),false,(),(0:Int),false],(6:Int)]) (by simp[results,results31,go_sem,q0,q1,q2,q3,q4,q5,q6,q7,q8]) rfl ?_;have hq:=HQ.out;rw[if_neg (by rw[hlet];simp),if_neg (by rw[hdig];simp),if_neg (by rw[V.out];simp),if_pos (by rw[d0.out,d2.out];rfl)]at hq;obtain⟨z1,z2,z3⟩:=zCP hq;subst z1;exact⟨_,rfl,fun _=>rfl,fun h=>absurd h jd,(zAG c2 (yAC _) hg).grown⟩
         | false=>
          have L:=zA (show zCL (k==0) (u.drop k)=(e,t,m) by
           have:=HQ.out;rw[if_neg (by rw[hlet];simp),if_neg (by rw[hdig];simp),if_neg (by rw[V.out];simp),if_neg (by rw[d2.out];simp)]at this;rw[b6.out];exact this)
          go_wp2_with fail;refine(zHw (m:=m) (e:=e) (t:=t) c2.out.rd rfl d9 hB hk hl hc L).mono ?_;rintro e4 w4 ⟨v,rfl,q,f,r⟩;have d:=zA (R.out.grown r jo);have J:=zA q;have D:=zA f;have E:=zA (zC c2.out.grown r);clear q f r;obtain⟨W,X⟩:=d.out.2 0 jd;obtain⟨Y,a0⟩:=d.out.2 1 jd;obtain⟨a1,a2⟩:=d.out.2 2 jd;obtain⟨a3,a4⟩:=d.out.2 3 jd;obtain⟨a5,a6⟩:=d.out.2 4 jd;obtain⟨a7,a8⟩:=d.out.2 5 jd;obtain⟨a9,b0⟩:=d.out.2 6 jd;obtain⟨b1,b2⟩:=d.out.2 7 jd;obtain⟨b3,b4⟩:=d.out.2 8 jd
          by_cases s:e=0
          · obtain⟨⟨vs,vm,hv,y,z⟩,F⟩:=D.out s;subst hv;obtain⟨As,cs,rfl,_,_⟩:=zS y;obtain⟨Am,cm,rfl,_,_⟩:=zS z;have G:=zA y;have H:=zA z;have M:=zA (Mv.then c2 F);have U:=zA s;obtain⟨N,o⟩:=jx t.str.length;obtain⟨O,p⟩:=jx t.mag.length;rw[o,p];rw[o]at G;rw[p]at H;have P:=zA o;have Q:=zA p;clear y z F s o p;go_wp2_with fail;obtain⟨q0,q1,q2,q3,q4,q5,q6,q7,q8⟩:=zb (v0:=t.kind) (v1:=t.text) (v2:=.slice As N cs) (v3:=t.nk) (v4:=t.nn) (v5:=false) (v6:=.slice Am O cm) (v7:=t.pos) (v8:=t.nl) d rfl;refine bodyPost_ret (v:=.tuple #[.agg #[t.kind,t.text,.slice As N cs,t.nk,t.nn,false,.slice Am O cm,t.pos,t.nl],e]) (by simp[results,results31,go_sem,q0,q1,q2,q3,q4,q5,q6,q7,q8]) rfl ?_;refine⟨_,rfl,fun h=>absurd U h,fun _=>⟨⟨_,_,rfl,?_,?_⟩,?_⟩,zAa E (yAC _)⟩
            · rw[P.out];exact zAg (zBG G d1) jo
            · rw[Q.out];exact zAg (zBG H d1) jo
            · exact zAG M (yAC _) hg
          · obtain rfl:=J.out s;unfold noV;go_wp2_with fail;obtain⟨q0,q1,q2,q3,q4,q5,q6,q7,q8⟩:=zb (v0:=(0:Int)) (v1:= "") (v2:=()) (v3:=(0:Int)) (v4:=(0:Int)) (v5:=false) (v6:=()) (v7:=(0:Int)) (v8:=false) d rfl;refine bodyPost_ret (v:=.tuple #[.agg #[(0:Int),"",(),(0:Int),(0:Int),false,(),(0:Int),false],e]) (by simp[results,results31,go_sem,q0,q1,q2,q3,q4,q5,q6,q7,q8]) rfl ?_;exact⟨_,rfl,fun _=>rfl,fun h=>absurd h s,zAa E (yAC _)⟩
       · have d8:((x.toNat:Int)==46)=false:=yA.2 jo;have d0:=zA (show(x.toNat==46)=false from yA.2 b9);clear b9;have L:=zA (show zCL (k==0) (u.drop k)=(e,t,m) by
          have:=HQ.out;rw[if_neg (by rw[hlet];simp),if_neg (by rw[hdig];simp),if_neg (by rw[V.out];simp),if_neg (by rw[d0.out];simp)]at this;rw[b6.out];exact this)
         go_wp2_with (first | (go_at_call 60;refine(zBD _ _).mono ?_;rintro e2 w2 ⟨rfl,rfl⟩) | (go_at_call 62;refine(zAH _ _).mono ?_;rintro e2 w2 ⟨rfl,rfl⟩));refine(zHw (m:=m) (e:=e) (t:=t) C.out.rd rfl T hB hk hl hc L).mono ?_;rintro e4 w4 ⟨v,rfl,q,f,r⟩;have d:=zA (S.out.grown r jo);have J:=zA q;have D:=zA f;have E:=zA (zC C.out.grown r);clear q f r;obtain⟨W,X⟩:=d.out.2 0 jd;obtain⟨Y,a0⟩:=d.out.2 1 jd;obtain⟨a1,a2⟩:=d.out.2 2 jd;obtain⟨a3,a4⟩:=d.out.2 3 jd;obtain⟨a5,a6⟩:=d.out.2 4 jd;obtain⟨a7,a8⟩:=d.out.2 5 jd;obtain⟨a9,b0⟩:=d.out.2 6 jd;obtain⟨b1,b2⟩:=d.out.2 7 jd;obtain⟨b3,b4⟩:=d.out.2 8 jd
         by_cases s:e=0
         · obtain⟨⟨vs,vm,hv,y,z⟩,F⟩:=D.out s;subst hv;obtain⟨As,cs,rfl,_,_⟩:=zS y;obtain⟨Am,cm,rfl,_,_⟩:=zS z;have G:=zA y;have H:=zA z;have M:=zA (Mv.then C F);have U:=zA s;obtain⟨N,o⟩:=jx t.str.length;obtain⟨O,p⟩:=jx t.mag.length;rw[o,p];rw[o]at G;rw[p]at H;have P:=zA o;have Q:=zA p;clear y z F s o p;go_wp2_with fail;obtain⟨q0,q1,q2,q3,q4,q5,q6,q7,q8⟩:=zb (v0:=t.kind) (v1:=t.text) (v2:=.slice As N cs) (v3:=t.nk) (v4:=t.nn) (v5:=false) (v6:=.slice Am O cm) (v7:=t.pos) (v8:=t.nl) d rfl;refine bodyPost_ret (v:=.tuple #[.agg #[t.kind,t.text,.slice As N cs,t.nk,t.nn,false,.slice Am O cm,t.pos,t.nl],e]) (by simp[results,results31,go_sem,q0,q1,q2,q3,q4,q5,q6,q7,q8]) rfl ?_;refine⟨_,rfl,fun h=>absurd U h,fun _=>⟨⟨_,_,rfl,?_,?_⟩,?_⟩,zAa E (yAC _)⟩
           · rw[P.out];exact zAg (zBG G I) jo
           · rw[Q.out];exact zAg (zBG H I) jo
           · exact zAG M (yAC _) hg
         · obtain rfl:=J.out s;unfold noV;go_wp2_with fail;obtain⟨q0,q1,q2,q3,q4,q5,q6,q7,q8⟩:=zb (v0:=(0:Int)) (v1:= "") (v2:=()) (v3:=(0:Int)) (v4:=(0:Int)) (v5:=false) (v6:=()) (v7:=(0:Int)) (v8:=false) d rfl;refine bodyPost_ret (v:=.tuple #[.agg #[(0:Int),"",(),(0:Int),(0:Int),false,(),(0:Int),false],e]) (by simp[results,results31,go_sem,q0,q1,q2,q3,q4,q5,q6,q7,q8]) rfl ?_;exact⟨_,rfl,fun _=>rfl,fun h=>absurd h s,zAa E (yAC _)⟩
theorem Tryz.info_tok:(prog.info? 80).map (fun i=>(i.zero,i.size,i.bytes))=some (some (.agg zBY.toArray),9,112):=by kernel_rfl
def zFp (t:Tok) (vs vm:Value):List Value:=[t.kind,t.text,vs,t.nk,t.nn,false,vm,t.pos,t.nl]
def TokC (w:World) (base:Nat):List Tok→List Value→Prop
 | [],cs=>cs=[]
 | t::r,cs=>∃vs vm rest,cs=zFp t vs vm++rest∧w.ownsRow base 65 1 vs t.str.length (zAM t.str)∧w.ownsRow base 67 1 vm t.mag.length (zBq t.mag)∧TokC w base r rest
theorem TokC.map {w:World} {base b:Nat} (hk:∀(e:TypeId) (v:Value) (n:Nat) (xs:List Value),(e=65∨e=67)→w.ownsRow base e 1 v n xs→w'.ownsRow b e 1 v n xs):∀{ts:List Tok} {cs:List Value},TokC w base ts cs→TokC w' b ts cs:=by
 intro ts
 induction ts with
 | nil=>intro cs h;exact h
 | cons t r c=>
  intro cs h;obtain⟨vs,d,rest,rfl,h1,f,g⟩:=h;exact⟨vs,d,rest,rfl,hk _ _ _ _ (.inl rfl) h1,hk _ _ _ _ (.inr rfl) f,c g⟩
theorem TokC.snoc {w:World} {base:Nat} {vs b:Value} (h1:w.ownsRow base 65 1 vs t.str.length (zAM t.str)) (e:w.ownsRow base 67 1 b t.mag.length (zBq t.mag)):∀{ts:List Tok} {cs:List Value},TokC w base ts cs→TokC w base (ts++[t]) (cs++zFp t vs b):=by
 intro ts
 induction ts with
 | nil=>intro cs h;rw[show cs=[]from h];exact⟨vs,b,[],by simp,h1,e,rfl⟩
 | cons s r f=>
  intro cs h;obtain⟨c,d,rest,rfl,g1,g2,g⟩:=h;exact⟨c,d,rest++zFp t vs b,by simp,g1,g2,f g⟩
theorem zGy {w:World} {e1 e2:TypeId} {s1 l d:Nat} {v1 v2:Value} {o:List Value} (h1:w.ownsRow c e1 s1 v1 d xs) (p:w.ownsRow k e2 l v2 m o) (f:e1≠e2) (hg:w.grownBy w' v2.ownBlock):w'.ownsRow c e1 s1 v1 d xs:=by
 refine h1.kept hg ?_;rcases h1.2 with⟨rfl,_⟩ | ⟨g,cap,s,rfl,_,j,_⟩
 · exact .inl rfl
 · right;rcases p.2 with⟨rfl,_⟩ | ⟨g2,q,r,rfl,_,b,_⟩
   · simp[Value.ownBlock]
   · intro e;simp only[Value.ownBlock,Option.some.injEq]at e;subst e;rw[j]at b;injection b with b;injection b with _ h4 _;exact f h4
theorem zPi {w:World} {base:Nat} {e:TypeId} {s:Nat} {v:Value} (h:w.ownsRow base e s v n xs) (hg:w.grownBy w' none):w'.ownsRow base e s v n xs:=
 h.kept hg (by cases hv:v.ownBlock<;>simp)
def TokL (w:World) (base:Nat) (ts:List Tok) (v:Value):Prop:=∃cs,w.ownsRow base 80 9 v ts.length cs∧TokC w base ts cs
theorem TokL.nil (w:World) (base:Nat):TokL w base [] (.slice none 0 0):=⟨[],yAJ _ _ _ _,rfl⟩
theorem TokL.grown {w:World} {base:Nat} {v:Value} (h:TokL w base ts v) (hg:w.grownBy w' (some g)) (hb:g < base):TokL w' base ts v:=by
 obtain⟨cs,h1,b⟩:=h;exact⟨cs,zBt h1 hg hb,b.map fun _ _ _ _ _ h=>zBt h hg hb⟩
theorem TokL.new {w:World} {base:Nat} {v:Value} (h:TokL w base ts v) (hg:w.grownBy w' none):TokL w' base ts v:=by
 obtain⟨cs,h1,b⟩:=h;exact⟨cs,zPi h1 hg,b.map fun _ _ _ _ _ h=>zPi h hg⟩
theorem TokL.base {w:World} {base b:Nat} {v:Value} (h:TokL w base ts v) (hb:b≤base):TokL w b ts v:=by
 obtain⟨cs,h1,c⟩:=h;exact⟨cs,zAg h1 hb,c.map fun _ _ _ _ _ h=>zAg h hb⟩
theorem TokL.snoc {w:World} {base:Nat} {v v':Value} {vs b:Value} {cs:List Value} (c:w.ownsRow base 80 9 v ts.length cs) (d:TokC w base ts cs) (h1:w.ownsRow base 65 1 vs t.str.length (zAM t.str)) (f:w.ownsRow base 67 1 b t.mag.length (zBq t.mag))
 (g:w'.ownsRow base 80 9 v' (ts.length+1) (cs++zFp t vs b)) (hg:w.grownBy w' v.ownBlock):TokL w' base (ts++[t]) v':=by
 refine⟨cs++zFp t vs b,by rw[List.length_append];exact g,TokC.snoc (zGy h1 c jd hg) (zGy f c jd hg) (d.map fun e _ _ _ j h=>zGy h c (by rcases j with rfl | rfl<;>decide) hg)⟩
section
variable {P:Program} {w:World} {ops:Array Oper} {rest:List Oper} {o:Oper} {a:Act} {Q:Exit→Act→World→Prop}
theorem zGz (b:o.guard=none) (s x:Operand) (t:TypeId)
 (d:o.op=.call {callee:=.builtin .append,args:=#[s,x],argTypes:=#[t,t]})
 (e:TypeId) (i:TypeInfo) (z:Value) (size bytes:Nat) (ht:P.underlying t=some (.slice e)) (hi:P.info? e=some i) (hz:i.zero=some z)
 (hsize:i.size=size) (hby:i.bytes=bytes) (hzs:z.cells.size=size) (hsz0:0 < size) (base:Nat) (hbase:base≤w.heap.size)
 (v:Value) (xs:List Value) (k:Nat) (hs:a.eval s=v) (hm:w.ownsRow base e size v k xs)
 (cs:List Value) (m c B0:Nat) (hB0:B0=w.heap.size) (hx:a.eval x=.slice (some ⟨B0,0,none⟩) m c) (hl:cs.length=m*size) (h1:(cs.all fun u=>u.oneCell')=true)
 (hsz:k+m≤70368744177664) (hb2:(k+m)*bytes≤140737488355328)
 (h:∀v' w',w'.ownsRow base e size v' (k+m) (xs++cs)→w.grownBy w' v.ownBlock→wpList P ops Q rest (a.put o.dst v') w'):wpList P ops Q (o::rest) a (w.alloc (.cells cs.toArray e)):=by
 subst hB0;exact zEs b s x t d e i z size bytes ht hi hz hsize hby hzs hsz0 base hbase v xs k hs hm cs m c hx hl h1 hsz hb2 h
end
structure LxS (w wr:World) (A:Option Addr) (n c p:Nat) (v:Value) (acc:List Tok):Prop where
 rd:Rd wr w.heap.size A n c p
 below:Below w.heap.size w wr
 toks:TokL wr (w.heap.size+1) acc v
theorem zEt {w:World} (h:Below w.heap.size w wr) (hg:wr.grownBy w' (some w.heap.size)):Below w.heap.size w w':=
 h.grown hg h.size (fun k hk=>by injection hk with hk;omega)
theorem LxS.mov {w:World} {v:Value} {b:List Tok} (h:LxS w wr A n c p v b) (d:Mv wr w' w.heap.size A n c e):LxS w w' A n c e v b:=
 ⟨d.rd,zEt h.below d.grown,h.toks.grown d.grown jo⟩
theorem LxS.new {w:World} {v:Value} {b:List Tok} (h:LxS w wr A n c p v b) (hg:wr.grownBy w' none):LxS w w' A n c p v b:=
 ⟨⟨hg.cell h.rd.c0 js,hg.cell h.rd.c1 js,(World.frozen?_of_block (w:=wr) (hg.block _ h.rd.lt js)).trans h.rd.f1⟩,h.below.grown hg h.below.size (fun k hk=>by cases hk),h.toks.new hg⟩
theorem LxS.app {w:World} {v v':Value} {f b:List Tok} (h:LxS w wr A n c p v f) (hg:wr.grownBy w' v.ownBlock) (j:TokL w' (w.heap.size+1) b v'):LxS w w' A n c p v' b:=by
 obtain⟨cs,g,_⟩:=h.toks;have d:∀k,k < w.heap.size+1→some k≠v.ownBlock:=fun k hk e=>by have:=(g.lt k e.symm).1;omega
 exact⟨⟨hg.cell h.rd.c0 (d _ js),hg.cell h.rd.c1 (d _ js),(World.frozen?_of_block (w:=wr) (hg.block _ h.rd.lt (d _ js))).trans h.rd.f1⟩,h.below.grown hg h.below.size (fun k hk=>by have:=(g.lt k hk).1;omega),j⟩
def zVI (acc:List Tok) (q:List Tok×Nat×Nat):List Tok×Nat×Nat:=if q.2.2≠0 then([],q.2)else(acc++q.1,0,0)
theorem zPj (b:List Tok) (t:Tok) (q:List Tok×Nat×Nat):zVI b (zFW t q)=zVI (b++[t]) q:=by
 unfold zVI zFW
 by_cases h:q.2.2≠0
 · rw[if_pos h,if_pos h];simp only;rw[if_pos h]
 · rw[if_neg h,if_neg h];simp
theorem zJp:∀(f k:Nat) (l:List UInt16),(zEX f k l).2.2=0→(zEX f k l).2.1=0:=by
 intro f
 induction f with
 | zero=>intro k l _;rfl
 | succ f e=>
  intro k l;rw[zEX]
  by_cases h1:(zAJ l).2.2≠0
  · rw[if_pos h1];intro h;exact absurd h h1
  rw[if_neg h1]
  by_cases c:l.drop (zAJ l).1=[]
  · rw[if_pos c];intro _;rfl
  rw[if_neg c]
  by_cases b:(zA4 k l).1≠0
  · rw[if_pos b];intro h;exact absurd h b
  rw[if_neg b];unfold zFW;split
  · intro h;rename_i d;exact absurd h d
  · intro _;rfl
theorem zL3:∀(f k:Nat) (l:List UInt16),(zEX f k l).2.2≠0→(zEX f k l).1=[]:=by
 intro f
 induction f with
 | zero=>intro k l _;rfl
 | succ f d=>
  intro k l;rw[zEX]
  by_cases h1:(zAJ l).2.2≠0
  · rw[if_pos h1];intro h;rfl
  rw[if_neg h1]
  by_cases b:l.drop (zAJ l).1=[]
  · rw[if_pos b];intro h;exact absurd rfl h
  rw[if_neg b]
  by_cases c:(zA4 k l).1≠0
  · rw[if_pos c];intro h;rfl
  rw[if_neg c];unfold zFW;split
  · intro _;rfl
  · intro h;exact absurd rfl h
def AtLex (u:List UInt16) (p:Nat) (acc:List Tok):Prop:=acc.length≤p∧p≤u.length∧zGo 0 u=zVI acc (zGo p (u.drop p))
theorem AtLex.start (u:List UInt16):AtLex u 0 []:=by
 refine⟨yAC _,yAE _,?_⟩;rw[List.drop_zero];unfold zVI;split
 · rename_i h
   have:=zL3 _ _ _ h;exact Prod.ext this rfl
 · rename_i h
   have h1:=yAK.1 h;have b:=zJp _ _ _ h1;exact Prod.ext rfl (Prod.ext b h1)
theorem AtLex.pass {b:List Tok} (h:AtLex u p b) (c:zAJ (u.drop p)=(m,nl,e)) (d:e≠0):zGo 0 u=([],p+m,e):=by
 obtain⟨_,_,h⟩:=h;rw[h,zJW (by rw[c];exact d),c];unfold zVI;rw[if_pos d]
theorem AtLex.last {b:List Tok} (h:AtLex u p b) (c:zAJ (u.drop p)=(m,nl,0)) (d:p+m=u.length):zGo 0 u=(b++[setAt zq u.length nl],0,0):=by
 obtain⟨_,_,h⟩:=h;rw[h,zIZ (by rw[c]) (by rw[c,List.drop_drop,d,List.drop_length]),c,←d];unfold zVI;rw[if_neg js]
theorem AtLex.bad {d:List Tok} (h:AtLex u p d) (c:zAJ (u.drop p)=(m,nl,0)) (l:p+m < u.length) (g:zAY (p+m==0) (u.drop (p+m))=(e,t,k)) (f:e≠0):zGo 0 u=([],p+m,e):=by
 obtain⟨_,_,h⟩:=h;have b:zA4 p (u.drop p)=(e,t,k):=by unfold zA4;rw[c,List.drop_drop];exact g
 rw[h,zLu (by rw[c]) (by rw[c,List.drop_drop];intro j;have:=congrArg List.length j;rw[List.length_drop]at this;simp at this;omega) (by rw[b];exact f),c,b];unfold zVI;rw[if_pos f]
theorem AtLex.more {e:List Tok} (h:AtLex u p e) (d:zAJ (u.drop p)=(m,nl,0)) (j:p+m < u.length) (f:zAY (p+m==0) (u.drop (p+m))=(0,t,k)):AtLex u (p+m+k) (e++[setAt t (p+m) nl])∧1≤k:=by
 obtain⟨o,q,h⟩:=h;have c:zA4 p (u.drop p)=(0,t,k):=by unfold zA4;rw[d,List.drop_drop];exact f
 have b:=zJV (z:=p+m==0) (l:=u.drop (p+m)) (by rw[f]);rw[f,List.length_drop]at b;simp only at b;refine⟨⟨by simp;omega,by omega,?_⟩,b.1⟩;rw[h,zFG (by rw[d]) (by rw[d,List.drop_drop];intro g;have:=congrArg List.length g;rw[List.length_drop]at this;simp at this;omega) (by rw[c]),zPj,d,c,List.drop_drop,Nat.add_assoc]
theorem zL4 {a:Bool} (h:a=b) (c:m=n):Ending.returned (.tuple #[a,m])=.returned (.tuple #[b,n]):=by rw[h,c]
def AtRem (long:Bool) (u:List UInt16) (k p:Nat) (b d:Bool):Prop:=∃i,p=k+2+i∧zDo long (u.drop (k+2)) false false=zFu i (zDo long (u.drop p) b d)
theorem AtRem.step {c:Bool} {d:Bool} (h:AtRem c u k p b d) (f:p < u.length) (h1:(c&&zp [42,47] (u.drop p))=false) (g:(!c &&zAI u[p])=false):
 AtRem c u k (p+1) (b || zAI u[p]) (d || zIC u[p]):=by
 obtain⟨i,hi,j⟩:=h;refine⟨i+1,by omega,?_⟩;have e:u.drop p=u[p]::u.drop (p+1):=yAH f;rw[j,e,zDo,if_neg (by rw[←e,h1];simp),if_neg (by rw[g];simp)];simp only[zFu];congr 1;omega
theorem AtRem.close {d:Bool} (h:AtRem true u k p b d) (e:p < u.length) (h1:zp [42,47] (u.drop p)=true):
 zDo true (u.drop (k+2)) false false=(p - (k+2)+2,b,zID d)∧k+2≤p:=by
 obtain⟨i,hi,f⟩:=h;have c:u.drop p=u[p]::u.drop (p+1):=yAH e;refine⟨?_,by omega⟩;rw[f,c,zDo,if_pos (by rw[←c,h1];rfl)];simp only[zFu];congr 1;omega
theorem AtRem.line {d:Bool} (h:AtRem false u k p b d) (c:p < u.length) (h1:zAI u[p]=true):
 zDo false (u.drop (k+2)) false false=(p - (k+2),false,zID d)∧k+2≤p:=by
 obtain⟨i,hi,e⟩:=h;have f:u.drop p=u[p]::u.drop (p+1):=yAH c;refine⟨?_,by omega⟩;rw[e,f,zDo,if_neg js,if_pos (by rw[h1];rfl)];simp only[zFu];congr 1;omega
theorem AtRem.stop {c:Bool} {d:Bool} (h:AtRem c u k u.length b d):
 zDo c (u.drop (k+2)) false false=(u.length - (k+2),false,if c=true then 5 else zID d)∧k+2≤u.length:=by
 obtain⟨i,hi,e⟩:=h;refine⟨?_,by omega⟩;rw[e,List.drop_length,zDo];simp only[zFu];congr 1;omega
theorem zXx {c:Bool} (d:zp [47,42] (u.drop k)=c) (f:zAu (u.drop k)=(m,nl,e)):∀(i:Nat) (b:Bool) (e':Nat),zDo c (u.drop (k+2)) false false=(i,b,e')→2+i=m∧b=nl∧e'=e:=by
 intro i b e' h;unfold zAu at f;rw[d,List.drop_drop,h]at f;simpa [zFu]using f
theorem zDX {w:World} (R:Rd w g A n c k) (hn:u.length=n) (V:Reads w B 1 A n (zAM u)) (hB:B≤g) (hk:k+2≤n) (S:n≤4096) (W:zAu (u.drop k)=(m,nl,e)):
 Calls prog 59 #[.pointer (some g)] w fun ev w'=>ev=.returned (.tuple #[nl,e])∧Mv w w' g A n c (k+m):=by
 subst hn;obtain⟨f,s⟩:=jx (zp [47,42] (u.drop k));have M:=zA (zXx s W);have HL:=zA s;have X:=zA V;have H:=zA R;have hg:=R.lt;clear W s V R;go_enter func59,ntmps59;go_wp2_with fail;refine(zAw ⟨#[47,42]⟩ H rfl X jo S jd HL).mono ?_;rintro e1 w1 ⟨rfl,m1,Y⟩;subst Y;have N:=H.out.c0;have O:=H.out.c1;have P:=H.out.f1;go_wp2;have a0:=zA (Mv.step ((Mv.refl H).drewN m1) (z:=(k:Int)+2) (k':=k+2) jo);clear N O P
 go_loopg [5,6] (u.length - (k+2)) (fun r a T wr=>∃p b d,p+r=u.length∧a=.bool b∧T=.bool d∧Hid (Mv w wr g A u.length c p)∧Hid (AtRem f u k p b d))
 case atStart=>exact⟨k+2,false,false,by omega,rfl,rfl,a0,0,by omega,by simp[zFu]⟩
 case round=>
  obtain⟨p,b,d,a4,rfl,rfl,j,C⟩:=hrel;have N:=j.out.rd.c0;have O:=j.out.rd.c1;have P:=j.out.rd.f1;have I:=zA (X.out.grown j.out.grown hB (Nat.le_of_lt hg))
  by_cases D:p < u.length
  · have a3:(p:Int) < (u.length:Int):=by omega
    obtain⟨blk,off,rfl,_,E⟩:=I.out.spotL jo;have a1:=E p D;have l:=zA (fun h1 h2=>C.out.step D h1 h2);have t:=zA (fun(e:f=true) h1=>(by subst e;exact C.out.close D h1:zDo f (u.drop (k+2)) false false=(p - (k+2)+2,b,zID d)∧k+2≤p));have F:=zA (fun(e:f=false) h1=>(by subst e;exact C.out.line D h1:zDo f (u.drop (k+2)) false false=(p - (k+2),false,zID d)∧k+2≤p));obtain⟨x,hx⟩:=jx (u[p]);rw[hx]at a1 l F;obtain⟨T,o⟩:=jx (zp [42,47] (u.drop p));have Q:=zA o;rw[o]at l t;clear E hx o;cases f with
    | true=>
     cases T with
     | true=>
      have J:=zA (t.out rfl rfl);go_wp2_with fail
      go_quiet (fail)
      go_wp2_with fail
      go_quiet (fail)
      go_wp2_with (first | (go_at_call 58;refine(zAw ⟨#[42,47]⟩ (j.out.rd.drewN _) rfl (I.out.drewN _) jo S jd Q.out).mono ?_;rintro e2 w2 ⟨rfl,m2,L⟩;subst L) | (go_at_call 93;refine(zGp _ _).mono ?_;rintro e2 w2 ⟨rfl,rfl⟩))
      go_ret2
      obtain⟨q1,q2⟩:=J.out;obtain⟨U,v,y⟩:=M.out _ _ _ q1;exact⟨zL4 v y,by rw[show k+m=p+2 by omega];exact Mv.step ((j.out.drewN _)) jo⟩
     | false=>
      have G:=zA (l.out rfl rfl);cases b
      all_goals cases d
      all_goals
       go_wp2_with fail
       go_quiet (fail)
       go_wp2_with fail
       go_quiet (fail)
       go_wp2_with (first | (go_at_call 58;refine(zAw ⟨#[42,47]⟩ (j.out.rd.drewN _) rfl (I.out.drewN _) jo S jd Q.out).mono ?_;rintro e2 w2 ⟨rfl,m2,L⟩;subst L) | (go_at_call 57;refine(zAT _ _).mono ?_;rintro e2 w2 ⟨rfl,rfl⟩) | (go_at_call 94;refine(zBK _ _).mono ?_;rintro e2 w2 ⟨rfl,rfl⟩))
       go_roundg (gk - 1)
       case measure=>omega
       case rel=>exact⟨p+1,_,_,by omega,rfl,rfl,Mv.step (j.out.drewN _) jo,G⟩
    | false=>
     cases hln:zAI x with
     | true=>
      have J:=zA (F.out rfl hln);go_wp2_with fail
      go_quiet (fail)
      go_wp2_with fail
      go_quiet (fail)
      go_wp2_with (first | (go_at_call 57;refine(zAT _ _).mono ?_;rintro e2 w2 ⟨rfl,rfl⟩) | (go_at_call 93;refine(zGp _ _).mono ?_;rintro e2 w2 ⟨rfl,rfl⟩))
      go_ret2
      obtain⟨q1,q2⟩:=J.out;obtain⟨U,v,y⟩:=M.out _ _ _ q1;exact⟨zL4 v y,by rw[show k+m=p by omega];exact j.out.drewN _⟩
     | false=>
      have G:=zA (l.out (by rfl) (by rw[hln];rfl));have a2:=zA hln;cases b
      all_goals cases d
      all_goals
       go_wp2_with fail
       go_quiet (fail)
       go_wp2_with fail
       go_quiet (fail)
       go_wp2_with (first | (go_at_call 57;refine(zAT _ _).mono ?_;rintro e2 w2 ⟨rfl,rfl⟩) | (go_at_call 94;refine(zBK _ _).mono ?_;rintro e2 w2 ⟨rfl,rfl⟩))
       go_roundg (gk - 1)
       case measure=>omega
       case rel=>exact⟨p+1,_,_,by omega,rfl,rfl,Mv.step (j.out.drewN _) jo,by first | exact G.out | (have z:=G.out;rw[a2.out]at z;exact z)⟩
  · obtain rfl:p=u.length:=by have:=j.out;omega
    have o:=zA C.out.stop;cases f with
    | true=>
     go_wp2_with fail
     go_quiet (fail)
     go_wp2
     go_ret2
     obtain⟨q1,q2⟩:=o.out;obtain⟨U,v,y⟩:=M.out _ _ _ q1;exact⟨zL4 (n:=e) (m:=5) v y,by rw[show k+m=u.length by omega];exact j.out.drewN _⟩
    | false=>
     go_wp2_with fail
     go_quiet (fail)
     go_wp2_with (go_at_call 93;refine(zGp _ _).mono ?_;rintro e2 w2 ⟨rfl,rfl⟩)
     go_ret2
     obtain⟨q1,q2⟩:=o.out;obtain⟨U,v,y⟩:=M.out _ _ _ q1;exact⟨zL4 v y,by rw[show k+m=u.length by omega];exact j.out.drewN _⟩
theorem zCZ {a:Bool} (h:(a || b)=false):a=false∧b=false:=by cases a<;>simp_all
theorem zPk (h:(false || b)=true):b=true:=h
theorem zPl {a:Bool} {q:Nat} (h:a=b) (c:m=n) (d:p=q):Ending.returned (.tuple #[a,m,p])=.returned (.tuple #[b,n,q]):=by rw[h,c,d]
def AtPass (u:List UInt16) (k p:Nat) (b:Bool):Prop:=∃i,p=k+i∧zDI (u.drop k) false=zFu i (zDI (u.drop p) b)
theorem AtPass.blank (h:AtPass u k p b) (c:p < u.length) (h1:(zHM u[p] || zAI u[p])=true):AtPass u k (p+1) (b || zAI u[p]):=by
 obtain⟨i,hi,d⟩:=h;refine⟨i+1,by omega,?_⟩;rw[d,yAH c,zGn h1];simp only[zFu];congr 1;omega
theorem AtPass.remark (h:AtPass u k p b) (f:p < u.length) (h1:(zHM u[p] || zAI u[p])=false) (d:(zp [47,47] (u.drop p) || zp [47,42] (u.drop p))=true)
 (e:zAu (u.drop p)=(m,nl,0)):AtPass u k (p+m) (b || nl):=by
 obtain⟨i,hi,g⟩:=h;refine⟨i+m,by omega,?_⟩;have c:u.drop p=u[p]::u.drop (p+1):=yAH f;rw[c]at e d;rw[g,c,zFz h1 d,e,if_neg js,←c,List.drop_drop];simp only[zFu];congr 1;omega
theorem AtPass.bad (h:AtPass u k p b) (j:p < u.length) (h1:(zHM u[p] || zAI u[p])=false) (c:(zp [47,47] (u.drop p) || zp [47,42] (u.drop p))=true)
 (d:zAu (u.drop p)=(m,nl,e)) (f:e≠0):zDI (u.drop k) false=(p - k,false,e)∧k≤p:=by
 obtain⟨i,hi,l⟩:=h;refine⟨?_,by omega⟩;have g:u.drop p=u[p]::u.drop (p+1):=yAH j;rw[g]at d c;rw[l,g,zFz h1 c,d,if_pos f];simp only[zFu];congr 1;omega
theorem AtPass.halt (h:AtPass u k p b) (e:p < u.length) (h1:(zHM u[p] || zAI u[p])=false) (c:(zp [47,47] (u.drop p) || zp [47,42] (u.drop p))=false):
 zDI (u.drop k) false=(p - k,b,0)∧k≤p:=by
 obtain⟨i,hi,f⟩:=h;refine⟨?_,by omega⟩;have d:u.drop p=u[p]::u.drop (p+1):=yAH e;rw[d]at c;rw[f,d,zFh h1 c];simp only[zFu];congr 1;omega
theorem AtPass.stop (h:AtPass u k u.length b):zDI (u.drop k) false=(u.length - k,b,0)∧k≤u.length:=by
 obtain⟨i,hi,c⟩:=h;refine⟨?_,by omega⟩;rw[c,List.drop_length,zPF];simp only[zFu];congr 1;omega
theorem zWJ (c:zAJ (u.drop k)=(m,nl,e)):∀(i:Nat) (b:Bool) (e':Nat),zDI (u.drop k) false=(i,b,e')→i=m∧b=nl∧e'=e:=by
 intro i b e' h;have:zAJ (u.drop k)=zDI (u.drop k) false:=rfl;rw[this,h]at c;simpa using c
theorem zPm {w:World} (hr:Rd w g A n c k) (hn:u.length=n) (ha:Reads w B 1 A n (zAM u)) (hB:B≤g) (hk:k≤n) (s:n≤4096) (R:zAJ (u.drop k)=(m,nl,e)):
 Calls prog 30 #[.pointer (some g)] w fun ev w'=>(ev=.returned (.tuple #[nl,.int .i64 ((if e=0 then 0 else k+m:Nat):Int),e]))∧(e=0→Mv w w' g A n c (k+m))∧w.grownBy w' (some g):=by
 subst hn;have HQ:=zA (zWJ R);have HA:=zA ha;have HR:=zA hr;have hg:=hr.lt;have a3:=zA (Mv.refl hr);clear R ha hr;go_enter func30,ntmps30;go_wp2
 go_step3
 go_wp2
 go_step3
 go_wp2
 go_loopg [5] (u.length - k) (fun r a wr=>∃p b,p+r=u.length∧a=.bool b∧Hid (Mv w wr g A u.length c p)∧Hid (AtPass u k p b))
 case atStart=>exact⟨k,false,by omega,rfl,a3,0,rfl,by simp[zFu]⟩
 case round=>
  obtain⟨p,b,a9,rfl,d,D⟩:=hrel;have b0:=d.out.rd.c0;have b1:=d.out.rd.c1;have b2:=d.out.rd.f1;have f:=zA (HA.out.grown d.out.grown hB (Nat.le_of_lt hg))
  by_cases E:p < u.length
  · have a8:(p:Int) < (u.length:Int):=by omega
    obtain⟨blk,off,rfl,_,N⟩:=f.out.spotL jo;have a4:=N p E;have F:=zA (fun h1=>D.out.blank E h1);have T:=zA (fun m nl h1 I R=>D.out.remark (m:=m) (nl:=nl) E h1 I R);have U:=zA (fun m nl e h1 I R he=>D.out.bad (m:=m) (nl:=nl) (e:=e) E h1 I R he);have O:=zA (fun h1 I=>D.out.halt E h1 I);obtain⟨x,hx⟩:=jx (u[p]);rw[hx]at a4 F T U O;clear N hx;cases hbl:(zHM x || zAI x)with
    | true=>
     have v:=zA (F.out hbl);cases a1:zHM x with
     | true=>
      cases b
      all_goals
       go_wp2_with fail
       go_quiet (fail)
       go_wp2_with fail
       go_quiet (fail)
       go_wp2_with (first | (go_at_call 57;refine(zAT _ _).mono ?_;rintro e2 w2 ⟨rfl,rfl⟩) | (go_at_call 56;refine(zCA _ _).mono ?_;rintro e2 w2 ⟨rfl,rfl⟩))
       go_roundg (gk - 1)
       case measure=>omega
       case rel=>exact⟨p+1,_,by omega,rfl,Mv.step (d.out.drewN _) jo,v⟩
     | false=>
      have a5:zAI x=true:=by rw[a1]at hbl;exact hbl
      cases b
      all_goals
       go_wp2_with fail
       go_quiet (fail)
       go_wp2_with fail
       go_quiet (fail)
       go_wp2_with (first | (go_at_call 57;refine(zAT _ _).mono ?_;rintro e2 w2 ⟨rfl,rfl⟩) | (go_at_call 56;refine(zCA _ _).mono ?_;rintro e2 w2 ⟨rfl,rfl⟩))
       go_roundg (gk - 1)
       case measure=>omega
       case rel=>exact⟨p+1,_,by omega,rfl,Mv.step (d.out.drewN _) jo,by first | exact v.out | (have z:=v.out;rw[a5]at z;exact z)⟩
    | false=>
     have a1:zHM x=false:=(zCZ hbl).1;have b3:zAI x=false:=(zCZ hbl).2;have V:=zA hbl;clear hbl;obtain⟨s1,W⟩:=jx (zp [47,47] (u.drop p));obtain⟨X,Y⟩:=jx (zp [47,42] (u.drop p));have G:=zA W;have a0:=zA Y;have HS:=zA (show(zp [47,47] (u.drop p) || zp [47,42] (u.drop p))=(s1 || X) by rw[W,Y]);clear W Y;cases hss:(s1 || X)with
     | false=>
      have h1:s1=false:=(zCZ hss).1;have I:X=false:=(zCZ hss).2;have P:=zA (O.out V (by rw[HS.out,hss]));subst h1 I;clear hss;go_wp2_with fail
      go_quiet (fail)
      go_wp2_with fail
      go_quiet (fail)
      go_wp2_with (first | (go_at_call 57;refine(zAT _ _).mono ?_;rintro e2 w2 ⟨rfl,rfl⟩) | (go_at_call 56;refine(zCA _ _).mono ?_;rintro e2 w2 ⟨rfl,rfl⟩));refine(zAw ⟨#[47,47]⟩ (d.out.rd.drewN _) rfl (f.out.drewN _) jo s jd G).mono ?_;rintro e2 w2 ⟨rfl,m2,j⟩;subst j;go_wp2_with fail;refine(zAw ⟨#[47,42]⟩ (d.out.rd.drewN _) rfl (f.out.drewN _) jo s jd a0).mono ?_;rintro e3 w3 ⟨rfl,m3,H⟩;subst H;go_wp2
      (try rw[Exit.noGoto_ret])
      go_ret3
      obtain⟨q1,q2⟩:=P.out;obtain⟨J,L,M⟩:=HQ.out _ _ _ q1;subst J L M;exact⟨rfl,fun _=>by rw[show k+(p - k)=p by omega];exact d.out.drewN _,(d.out.drewN _).grown⟩
     | true=>
      obtain⟨⟨S,a2,re⟩,o⟩:=jx (zAu (u.drop p));have Q:p+2≤u.length:=by
       have:=zDH (l:=u.drop p) (by rw[HS.out,hss]);rw[List.length_drop]at this;omega
      have a6:=zD3 (l:=u.drop p) (by rw[List.length_drop];omega);rw[o,List.length_drop]at a6;have C:=zA o
      by_cases y:re=0
      · subst y;have v:=zA (T.out S a2 V (by rw[HS.out,hss]) o);clear o;cases s1 with
        | true=>
         cases b
         all_goals
          go_wp2_with fail
          go_quiet (fail)
          go_wp2_with fail
          go_quiet (fail)
          go_wp2_with (first | (go_at_call 57;refine(zAT _ _).mono ?_;rintro e2 w2 ⟨rfl,rfl⟩) | (go_at_call 56;refine(zCA _ _).mono ?_;rintro e2 w2 ⟨rfl,rfl⟩));refine(zAw ⟨#[47,47]⟩ (d.out.rd.drewN _) rfl (f.out.drewN _) jo s jd G).mono ?_;rintro e2 w2 ⟨rfl,m2,j⟩;subst j;go_wp2_with fail;refine(zDX (d.out.rd.drewN _) rfl (f.out.drewN _) hB Q s C).mono ?_;rintro e4 w4 ⟨rfl,t⟩;go_wp2
          go_roundg (u.length - (p+S))
          case measure=>omega
          case rel=>exact⟨p+S,_,by omega,rfl,Mv.then (d.out.drewN _) t,v⟩
        | false=>
         obtain rfl:X=true:=zPk hss;cases b
         all_goals
          go_wp2_with fail
          go_quiet (fail)
          go_wp2_with fail
          go_quiet (fail)
          go_wp2_with (first | (go_at_call 57;refine(zAT _ _).mono ?_;rintro e2 w2 ⟨rfl,rfl⟩) | (go_at_call 56;refine(zCA _ _).mono ?_;rintro e2 w2 ⟨rfl,rfl⟩));refine(zAw ⟨#[47,47]⟩ (d.out.rd.drewN _) rfl (f.out.drewN _) jo s jd G).mono ?_;rintro e2 w2 ⟨rfl,m2,j⟩;subst j;go_wp2_with fail;refine(zAw ⟨#[47,42]⟩ (d.out.rd.drewN _) rfl (f.out.drewN _) jo s jd a0).mono ?_;rintro e3 w3 ⟨rfl,m3,H⟩;subst H;go_wp2_with fail;refine(zDX (d.out.rd.drewN _) rfl (f.out.drewN _) hB Q s C).mono ?_;rintro e4 w4 ⟨rfl,t⟩;go_wp2
          go_roundg (u.length - (p+S))
          case measure=>omega
          case rel=>exact⟨p+S,_,by omega,rfl,Mv.then (d.out.drewN _) t,v⟩
      · have b4:((re:Int) !=0)=true:=by rw[bne_iff_ne];omega
        have P:=zA (U.out S a2 re V (by rw[HS.out,hss]) o y);clear o;cases s1 with
        | true=>
         go_wp2_with fail
         go_quiet (fail)
         go_wp2_with fail
         go_quiet (fail)
         go_wp2_with (first | (go_at_call 57;refine(zAT _ _).mono ?_;rintro e2 w2 ⟨rfl,rfl⟩) | (go_at_call 56;refine(zCA _ _).mono ?_;rintro e2 w2 ⟨rfl,rfl⟩));refine(zAw ⟨#[47,47]⟩ (d.out.rd.drewN _) rfl (f.out.drewN _) jo s jd G).mono ?_;rintro e2 w2 ⟨rfl,m2,j⟩;subst j;go_wp2_with fail;refine(zDX (d.out.rd.drewN _) rfl (f.out.drewN _) hB Q s C).mono ?_;rintro e4 w4 ⟨rfl,t⟩;go_wp2
         (try rw[Exit.noGoto_ret])
         go_ret3
         obtain⟨q1,q2⟩:=P.out;obtain⟨J,L,M⟩:=HQ.out _ _ _ q1;subst J L M;exact⟨zPl rfl (by rw[if_neg y];omega) rfl,fun h=>absurd h y,(Mv.then (d.out.drewN _) t).grown⟩
        | false=>
         obtain rfl:X=true:=zPk hss;go_wp2_with fail
         go_quiet (fail)
         go_wp2_with fail
         go_quiet (fail)
         go_wp2_with (first | (go_at_call 57;refine(zAT _ _).mono ?_;rintro e2 w2 ⟨rfl,rfl⟩) | (go_at_call 56;refine(zCA _ _).mono ?_;rintro e2 w2 ⟨rfl,rfl⟩));refine(zAw ⟨#[47,47]⟩ (d.out.rd.drewN _) rfl (f.out.drewN _) jo s jd G).mono ?_;rintro e2 w2 ⟨rfl,m2,j⟩;subst j;go_wp2_with fail;refine(zAw ⟨#[47,42]⟩ (d.out.rd.drewN _) rfl (f.out.drewN _) jo s jd a0).mono ?_;rintro e3 w3 ⟨rfl,m3,H⟩;subst H;go_wp2_with fail;refine(zDX (d.out.rd.drewN _) rfl (f.out.drewN _) hB Q s C).mono ?_;rintro e4 w4 ⟨rfl,t⟩;go_wp2
         (try rw[Exit.noGoto_ret])
         go_ret3
         obtain⟨q1,q2⟩:=P.out;obtain⟨J,L,M⟩:=HQ.out _ _ _ q1;subst J L M;exact⟨zPl rfl (by rw[if_neg y];omega) rfl,fun h=>absurd h y,(Mv.then (d.out.drewN _) t).grown⟩
  · obtain rfl:p=u.length:=by omega
    have a7:=zA D.out.stop;go_wp2_with fail
    go_quiet (fail)
    go_wp2
    (try rw[Exit.noGoto_ret])
    go_ret3
    obtain⟨q1,q2⟩:=a7.out;obtain⟨J,L,M⟩:=HQ.out _ _ _ q1;subst J L M;exact⟨rfl,fun _=>by rw[show k+(u.length - k)=u.length by omega];exact d.out.drewN _,(d.out.drewN _).grown⟩
theorem zCC {a:UInt8} {x:UInt16} (h:x≠a.toUInt16):zp (a::s) (x::r)=false:=by
 unfold zp;rw[List.map_cons,List.isPrefixOf];rw[show(a.toUInt16==x)=false from yA.2 (fun e=>h e.symm),Bool.false_and]
theorem zPn {x:UInt16} (h:(zHM x || zAI x)=false) (b:x≠47):zAJ (x::r)=(0,false,0):=by
 show zDI (x::r) false=_;rw[zFh h (by rw[zCC b,zCC b];rfl)]
theorem zIc:zAJ []=(0,false,0):=rfl
theorem zSy (h:∀x r,l=x::r→x.toNat≠35):zAY true l=zAY false l:=by
 cases l with
 | nil=>rfl
 | cons x r=>
  have b:=h x r rfl;rw[zBC,zBC];have hs:zCL true (x::r)=zCL false (x::r):=by
   unfold zCL;rw[zCC (fun e=>b (by rw[e];rfl))];rfl
  rw[hs]
theorem zPo:∀(f:Nat) (l:List UInt16) (nl:Bool),(zDp f l nl).2.2≠0→(zDp f l nl).1 < l.length:=by
 intro f
 induction f with
 | zero=>intro l nl h;exact absurd rfl h
 | succ f c=>
  intro l nl;cases l with
  | nil=>intro h;exact absurd rfl h
  | cons x r=>
   rw[zDp]
   by_cases h1:(zHM x || zAI x)=true
   · rw[if_pos h1];intro h;have:=c r _ h;simp only[zFu,List.length_cons];omega
   rw[if_neg h1]
   by_cases b:(zp [47,47] (x::r) || zp [47,42] (x::r))=true
   · rw[if_pos b]
     by_cases d:(zAu (x::r)).2.2≠0
     · rw[if_pos d];intro _;simp
     · rw[if_neg d];intro h;have e:=c _ _ h;have g:=zD3 (zDH b);rw[List.length_drop]at e;simp only[zFu];omega
   · rw[if_neg b];intro h;exact absurd rfl h
theorem zSz (h:(zAJ l).2.2≠0):(zAJ l).1 < l.length:=zPo _ _ _ h
theorem zWK:∀(f k:Nat) (l:List UInt16),(zEX f k l).2.2≠0→k≤(zEX f k l).2.1∧(zEX f k l).2.1 < k+l.length:=by
 intro f
 induction f with
 | zero=>intro k l h;exact absurd rfl h
 | succ f e=>
  intro k l;rw[zEX]
  by_cases h1:(zAJ l).2.2≠0
  · rw[if_pos h1];intro _;have:=zSz h1;simp only;omega
  rw[if_neg h1]
  by_cases b:l.drop (zAJ l).1=[]
  · rw[if_pos b];intro h;exact absurd rfl h
  rw[if_neg b];have j:(zAJ l).1 < l.length:=by
   rcases Nat.lt_or_ge (zAJ l).1 l.length with h | h
   · exact h
   · exact absurd (List.drop_of_length_le h) b
  by_cases c:(zA4 k l).1≠0
  · rw[if_pos c];intro _;simp only;omega
  rw[if_neg c];have g:=zD4 (k:=k) (l:=l) (yAK.1 c);unfold zFW
  by_cases d:(zEX f (k+(zAJ l).1+(zA4 k l).2.2) (l.drop ((zAJ l).1+(zA4 k l).2.2))).2.2≠0
  · rw[if_pos d];intro _;have:=e _ _ d;rw[List.length_drop]at this;simp only;omega
  · rw[if_neg d];intro h;exact absurd rfl h
theorem zPp (b:u.length≤4096) (h:(zC3 u).2.2=0):(zC3 u).2.1=0:=by
 rw[zB9 jo]at h⊢;exact zJp _ _ _ h
theorem zS0 (b:u.length≤4096) (h:(zC3 u).2.2≠0):(zC3 u).1=[]:=by
 rw[zB9 jo]at h⊢;exact zL3 _ _ _ h
theorem zPq:∀(f k:Nat) (l:List UInt16),(zEX f k l).1.length≤f:=by
 intro f
 induction f with
 | zero=>intro k l;simp[zEX]
 | succ f b=>
  intro k l;rw[zEX];split
  · simp
  · split
    · simp
    · split
      · simp
      · unfold zFW;split
        · simp
        · have:=b (k+(zAJ l).1+(zA4 k l).2.2) (l.drop ((zAJ l).1+(zA4 k l).2.2));simp only[List.length_cons];omega
theorem zJq (b:u.length≤4096):(zC3 u).1.length≤u.length+1:=by
 rw[zB9 jo];exact zPq _ _ _
theorem zKq:∀(f v:Nat),(zBQ f v).length≤f:=by
 intro f
 induction f with
 | zero=>intro v;simp[zBQ]
 | succ f b=>
  intro v;rw[zBQ];split
  · simp
  · have:=b (v / 4294967296);simp only[List.length_cons];omega
theorem zND (q:UInt16):∀(f:Nat) (l b:List UInt16),(zDQ q f l b).2.1.length≤b.length+l.length:=by
 intro f
 induction f with
 | zero=>intro l b;simp[zDQ]
 | succ f c=>
  intro l b;cases l with
  | nil=>simp[zDQ]
  | cons x r=>
   rw[zDQ];split
   · simp
   · split
     · simp
     · split
       · split
         · simp
         · rename_i d
           have e:=zFi (yAK.1 d);have:=c (r.drop (zEW r).2.2) (b++[(zEW r).2.1]);rw[List.length_drop,List.length_append]at this;simp only[List.length_cons,List.length_nil]at this⊢;omega
       · have:=c r (b++[x]);rw[List.length_append]at this;simp only[List.length_cons,List.length_nil]at this⊢;omega
structure SmallT (n:Nat) (t:Tok):Prop where
 str:t.str.length≤n
 mag:t.mag.length≤9
 text:t.text.length≤n
theorem SmallT.no (n:Nat):SmallT n zq:=⟨by simp[zq],by simp[zq],by simp[zq]⟩
theorem zKr (z:Bool) (l:List UInt16):SmallT l.length (zAY z l).2.1:=by
 cases l with
 | nil=>exact SmallT.no _
 | cons x r=>
  rw[zBC];split
  · unfold zCp;split
    · exact SmallT.no _
    · refine⟨by simp[zq],by simp[zq],?_⟩;have:=zBb zA2 (x::r);simpa [asc]using this
  · split
    · unfold zBn zB1;split
      · exact SmallT.no _
      · split
        · unfold zI1;split
          · exact SmallT.no _
          · split
            · exact SmallT.no _
            · exact⟨by simp[zq],zKq 9 _,by simp[zq]⟩
        · split
          · exact SmallT.no _
          · split
            · exact SmallT.no _
            · split
              · exact SmallT.no _
              · exact⟨by simp[zq],by simp[zq],by simp[zq]⟩
    · split
      · unfold zA3;split
        · exact SmallT.no _
        · refine⟨?_,by simp[zq],by simp[zq]⟩;have:=zND x (r.length+1) r [];simp only[List.length_nil,List.length_cons]at this⊢;unfold zKS;omega
      · split
        · exact SmallT.no _
        · unfold zCL;split
          · split
            · exact SmallT.no _
            · refine⟨by simp[zq],by simp[zq],?_⟩;simp only[asc,List.length_map];exact List.length_take_le' _ _
          · split<;>exact SmallT.no _
theorem SmallT.set (h:SmallT n t) (k:Nat) (nl:Bool):SmallT n (setAt t k nl):=⟨h.str,h.mag,h.text⟩
theorem SmallT.more (h:SmallT n t) (b:n≤m):SmallT m t:=⟨by have:=h.str;omega,h.mag,by have:=h.text;omega⟩
theorem zNE:∀(f k:Nat) (l:List UInt16),∀t∈(zEX f k l).1,SmallT l.length t∧k≤t.pos∧t.pos≤k+l.length:=by
 intro f
 induction f with
 | zero=>intro k l t d;simp[zEX]at d
 | succ f e=>
  intro k l t;rw[zEX]
  by_cases h1:(zAJ l).2.2≠0
  · rw[if_pos h1];intro h;simp at h
  rw[if_neg h1];have j:=zIY l
  by_cases c:l.drop (zAJ l).1=[]
  · rw[if_pos c];intro h;simp only[List.mem_singleton]at h;subst h;exact⟨(SmallT.no _).set _ _,by simp[setAt],by simp[setAt];omega⟩
  rw[if_neg c]
  by_cases b:(zA4 k l).1≠0
  · rw[if_pos b];intro h;simp at h
  rw[if_neg b];have g:=zD4 (k:=k) (l:=l) (yAK.1 b);unfold zFW;split
  · intro h;simp at h
  · intro h;rcases List.mem_cons.1 h with h | h
    · subst h;refine⟨SmallT.set ?_ _ _,by simp[setAt],by simp[setAt];omega⟩;have:=zKr (k+(zAJ l).1==0) (l.drop (zAJ l).1);rw[List.length_drop]at this;exact this.more jo
    · have:=e _ _ t h;rw[List.length_drop]at this;exact⟨this.1.more jo,by omega,by omega⟩
theorem zHy (c:u.length≤4096):∀t∈(zC3 u).1,SmallT u.length t∧t.pos≤u.length:=by
 rw[zB9 jo];intro t b;have:=zNE _ _ _ t b;exact⟨this.1,by omega⟩
section
variable {x:UInt16} {v:List UInt16}
theorem zFK {p:UInt16→Bool} (b:p x=false) (l:List UInt16):(l++x::v).takeWhile p=l.takeWhile p:=by
 induction l with
 | nil=>rw[List.nil_append,List.takeWhile_cons_of_neg (by rw[b];simp)];rfl
 | cons c r d=>
  rw[List.cons_append]
  by_cases h:p c=true
  · rw[List.takeWhile_cons_of_pos h,List.takeWhile_cons_of_pos h,d]
  · rw[List.takeWhile_cons_of_neg h,List.takeWhile_cons_of_neg h]
theorem zDY {p:UInt16→Bool} (b:p x=false) (hk:k≤l.length):zBN k p (l++x::v)=zBN k p l:=by
 unfold zBN
 by_cases h:k < l.length
 · rw[List.getElem?_append_left h]
 · obtain rfl:k=l.length:=by omega
   rw[List.getElem?_append_right (yAC _),Nat.sub_self,List.getElem?_eq_none (yAC _)];simp[b]
theorem zHz (c:UInt8) (y:UInt16) (s:List UInt16):zp [c] (y::s)=(c.toUInt16==y):=by simp[zp,List.isPrefixOf]
theorem zEu {c:UInt8} (b:x≠c.toUInt16) (l:List UInt16):zp [c] (l++x::v)=zp [c] l:=by
 cases l with
 | nil=>rw[List.nil_append,zCC b];rfl
 | cons y r=>rw[List.cons_append,zHz,zHz]
theorem zPr (b:x=10∨x=32) (l:List UInt16):zCp (l++x::v)=zCp l:=by
 have h1:zA2 x=false:=by rcases b with rfl | rfl<;>decide
 have c:x≠(92:UInt8).toUInt16:=by rcases b with rfl | rfl<;>decide
 unfold zCp;rw[zFK h1,List.drop_append_of_le_length (zBb _ _),zEu c]
theorem zS1 (c:x=10∨x=32) (d r:List UInt16):zB1 d (r++x::v)=zB1 d r:=by
 have h1:x≠(110:UInt8).toUInt16:=by rcases c with rfl | rfl<;>decide
 have f:∀z,zAA z x=false:=by intro z;rcases c with rfl | rfl<;>cases z<;>decide
 have e:zA6 x=false:=by rcases c with rfl | rfl<;>decide
 have g:zM x=false:=by rcases c with rfl | rfl<;>decide
 unfold zB1;rw[zEu h1,zDY (f _) (yAE _),zDY e (yAE _)];cases r with
 | nil=>rfl
 | cons y s=>
  have hb:∀a b,zI1 a b ((y::s++x::v).drop 1)=zI1 a b ((y::s).drop 1):=by
   intro a b;unfold zI1;simp only[List.cons_append,List.drop_succ_cons,List.drop_zero];rw[zDY e (yAE _),zDY g (yAE _)]
  rw[hb]
theorem zJr (b:x=10∨x=32) (l:List UInt16):zBn (l++x::v)=zBn l:=by
 have h1:zM x=false:=by rcases b with rfl | rfl<;>decide
 unfold zBn;rw[zFK h1,List.drop_append_of_le_length (zBb _ _),zS1 b]
theorem zJs (h:(zCX n l).1=0) (y:List UInt16):zCX n (l++y)=zCX n l:=by
 have b:=zLt h;unfold zCX;rw[List.take_append_of_le_length b.2,decide_eq_true b.2,decide_eq_true (by rw[List.length_append];omega)]
theorem zS2 (d:x=10∨x=32) (h:(zEW l).1=0):zEW (l++x::v)=zEW l:=by
 have h1:zM x=false:=by rcases d with rfl | rfl<;>decide
 have g:x≠(123:UInt8).toUInt16:=by rcases d with rfl | rfl<;>decide
 cases l with
 | nil=>cases h
 | cons c r=>
  rw[List.cons_append,zFE,zFE];rw[zFE]at h
  by_cases hs:(zB3 c).isSome=true
  · rw[if_pos hs,if_pos hs]
  · rw[if_neg hs]at h⊢;rw[if_neg hs];unfold zRg at h⊢;rw[zDY h1 (yAE _),zEu g]
    by_cases c1:(c.toNat==48&& !zBN 0 zM r)=true
    · rw[if_pos c1,if_pos c1]
    rw[if_neg c1]at h⊢;rw[if_neg c1]
    by_cases c2:zM c=true
    · rw[if_pos c2,if_pos c2]
    rw[if_neg c2]at h⊢;rw[if_neg c2]
    by_cases c3:(zAI c || zIC c || (c.toNat==117&&zp [123] r))=true
    · rw[if_pos c3,if_pos c3]
    rw[if_neg c3]at h⊢;rw[if_neg c3];have e:∀n,(more 1 (zCX n r)).1=0→(zCX n r).1=0:=by
     intro n b;unfold more at b
     by_cases f:(zCX n r).1=0
     · exact f
     · rw[if_neg f]at b;exact b
    by_cases c4:c.toNat=120
    · rw[if_pos c4]at h⊢;rw[if_pos c4,zJs (e _ h)]
    rw[if_neg c4]at h⊢;rw[if_neg c4]
    by_cases c5:c.toNat=117
    · rw[if_pos c5]at h⊢;rw[if_pos c5,zJs (e _ h)]
    rw[if_neg c5,if_neg c5]
theorem zS3 (m:x=10∨x=32) (q:UInt16):∀(f:Nat) (l b:List UInt16),(zDQ q f l b).1=0→zDQ q f (l++x::v) b=zDQ q f l b:=by
 intro f
 induction f with
 | zero=>intro l b h;cases h
 | succ f j=>
  intro l b;cases l with
  | nil=>intro h;cases h
  | cons c r=>
   rw[List.cons_append,zDQ,zDQ]
   by_cases h1:zAI c=true
   · rw[if_pos h1];intro h;cases h
   rw[if_neg h1,if_neg h1]
   by_cases e:c=q
   · rw[if_pos e,if_pos e];intro _;rfl
   rw[if_neg e,if_neg e]
   by_cases g:c.toNat=92
   · rw[if_pos g,if_pos g]
     by_cases d:(zEW r).1≠0
     · rw[if_pos d];intro h;exact absurd h d
     · have k:=yAK.1 d;rw[if_neg d,zS2 m k,if_neg d];intro h;have h6:=zFi k;rw[List.drop_append_of_le_length h6.2,j _ _ h]
   · rw[if_neg g,if_neg g];intro h;rw[j _ _ h]
theorem zPs (q:UInt16):∀(f g:Nat) (l b:List UInt16),f≤g→(zDQ q f l b).1=0→zDQ q g l b=zDQ q f l b:=by
 intro f
 induction f with
 | zero=>intro g l b _ h;cases h
 | succ f k=>
  intro g l b hg;obtain⟨g,rfl⟩:∃m,g=m+1:=⟨g - 1,by omega⟩;cases l with
  | nil=>intro h;cases h
  | cons c r=>
   rw[zDQ,zDQ]
   by_cases h1:zAI c=true
   · rw[if_pos h1];intro h;cases h
   rw[if_neg h1,if_neg h1]
   by_cases d:c=q
   · rw[if_pos d,if_pos d];intro _;rfl
   rw[if_neg d,if_neg d]
   by_cases e:c.toNat=92
   · rw[if_pos e,if_pos e]
     by_cases j:(zEW r).1≠0
     · rw[if_pos j];intro h;exact absurd h j
     · rw[if_neg j,if_neg j];intro h;rw[k g _ _ jo h]
   · rw[if_neg e,if_neg e];intro h;rw[k g _ _ jo h]
theorem zKs (d:x=10∨x=32) {q:UInt16} (h:(zA3 q l).1=0):zA3 q (l++x::v)=zA3 q l:=by
 have h1:(zKS q l).1=0:=by
  unfold zA3 at h
  by_cases b:(zKS q l).1≠0
  · rw[if_pos b]at h;exact absurd h b
  · exact yAK.1 b
 have e:zKS q (l++x::v)=zKS q l:=by
  unfold zKS at h1⊢;have c:=zS3 (v:=v) d q _ _ _ h1;rw[zPs q (l.length+1) ((l++x::v).length+1) _ _ (by rw[List.length_append];omega) (by rw[c];exact h1),c]
 unfold zA3;rw[e]
theorem zKt:∀b∈zv++zCr,(10:UInt8)∉b∧(32:UInt8)∉b:=by decide+kernel
theorem zNF {b:List UInt8} (h:(10:UInt8)∈b∨(32:UInt8)∈b):zCE b=0:=by
 unfold zCE;have c:∀s,b∈s→s=zv∨s=zCr→False:=by
  intro s hb hs;have d:b∈zv++zCr:=by rcases hs with rfl | rfl;exact List.mem_append_left _ hb;exact List.mem_append_right _ hb
  obtain⟨e,f⟩:=zKt b d;rcases h with h | h
  · exact e h
  · exact f h
 rw[if_neg (fun hb=>c _ hb (.inl rfl)),if_neg (fun hb=>c _ hb (.inr rfl))]
theorem zH0 (e:x=10∨x=32) (l:List UInt16) (n:Nat):zA7 (l++x::v) n=zA7 l n:=by
 have h1:zM x=false:=by rcases e with rfl | rfl<;>decide
 by_cases c:n≤l.length
 · unfold zA7;rw[List.take_append_of_le_length c,decide_eq_true c,decide_eq_true (by rw[List.length_append];omega)]
   by_cases f:asc (l.take n)=[63,46]
   · have g:n=2:=by
      have:=congrArg List.length f;simp only[asc,List.length_map,List.length_take,List.length_cons,List.length_nil]at this;omega
     rw[zDY h1 jo]
   · rw[yAI f];simp
 · have g:zA7 l n=0:=by
    unfold zA7;rw[yAI c];simp
   rw[g];unfold zA7;split
   · refine zNF ?_;have d:x∈(l++x::v).take n:=by
      rw[List.take_append];refine List.mem_append_right _ ?_;obtain⟨m,d⟩:∃m,n - l.length=m+1:=⟨n - l.length - 1,by omega⟩;rw[d,List.take_succ_cons];simp
     have b:x.toUInt8∈asc ((l++x::v).take n):=List.mem_map_of_mem d;rcases e with rfl | rfl
     · exact .inl b
     · exact .inr b
   · rfl
theorem zPt (b:x=10∨x=32) (l:List UInt16):∀m,zBj (l++x::v) m=zBj l m:=by
 intro m
 induction m with
 | zero=>rfl
 | succ m c=>rw[zBj,zBj,zH0 b,c]
theorem zPu (b:x=10∨x=32) (h:(zCL z l).1=0):zCL z (l++x::v)=zCL z l:=by
 unfold zCL at h⊢;rw[zPt b];cases hs:zBj l 4 with
 | none=>
  rw[hs]at h;simp only at h;split at h<;>cases h
 | some n=>
  have c:=zFj hs;have h6:=zFk c.2.2;simp only;rw[zH0 b,List.take_append_of_le_length h6]
theorem zNG (b:x=10∨x=32) (h:(zAY z l).1=0):zAY z (l++x::v)=zAY z l:=by
 have h1:zM x=false:=by rcases b with rfl | rfl<;>decide
 cases l with
 | nil=>cases h
 | cons c r=>
  rw[zBC]at h;rw[List.cons_append,zBC,zBC,←List.cons_append]
  by_cases c1:zA6 c=true
  · rw[if_pos c1,if_pos c1,zPr b]
  rw[if_neg c1]at h⊢;rw[if_neg c1]
  by_cases c2:zM c=true
  · rw[if_pos c2,if_pos c2,zJr b]
  rw[if_neg c2]at h⊢;rw[if_neg c2]
  by_cases c3:(c.toNat==39 || c.toNat==34)=true
  · rw[if_pos c3]at h⊢;rw[if_pos c3,zKs b h]
  rw[if_neg c3]at h⊢;rw[if_neg c3,zDY h1 (yAE _)]
  by_cases c4:(c.toNat==46&&zBN 0 zM r)=true
  · rw[if_pos c4,if_pos c4]
  rw[if_neg c4]at h⊢;rw[if_neg c4,zPu b h]
end
theorem zJt:∀b∈zAF++zEG,zFv b=true:=by decide+kernel
theorem zS4 {b:List UInt8} (h:0 < zCW b):zFv b=true:=by
 unfold zCW at h
 by_cases h1:b∈zAF
 · exact zJt b (List.mem_append_left _ h1)
 · rw[if_neg h1]at h
   by_cases c:b∈zEG
   · exact zJt b (List.mem_append_right _ c)
   · rw[if_neg c]at h;omega
theorem zPv {x:UInt16} (h:zA6 x=true):(zHM x || zAI x)=false∧x≠47:=by
 simp only[zA6,Bool.or_eq_true,Bool.and_eq_true,decide_eq_true_eq,beq_iff_eq]at h;refine⟨?_,?_⟩
 · rw[Bool.or_eq_false_iff];simp only[zHM,zAI,Bool.or_eq_false_iff,yA];omega
 · rintro rfl;revert h;decide
theorem zPw:∀b∈zv,zC3 (zU b)=([{zq with kind:=5,text:=b},setAt zq b.length false],0,0)∧zBi b=false∧zCW b=0:=by decide+kernel
theorem zS5 {b:List UInt8} (h:zCE b=1):zC3 (zU b)=([{zq with kind:=5,text:=b},setAt zq b.length false],0,0)∧zBi b=false∧zCW b=0:=by
 refine zPw b ?_;unfold zCE at h
 by_cases h1:b∈zv
 · exact h1
 · rw[if_neg h1]at h;split at h<;>cases h
structure PcOk (s:List UInt8):Prop where
 cons:∃x r,zU s=x::r∧(zHM x || zAI x)=false∧x.toNat≠35∧(x=47→r=[]∨∃q,r=61::q)
 tok:zAY false (zU s)=(0,zCq s,(zU s).length)
theorem zWL:∀s∈zv,(zAY false (zU s)).1=0∧(zAY false (zU s)).2.2=(zU s).length∧zU s≠[]∧(zHM ((zU s).headD 0) || zAI ((zU s).headD 0))=false∧((zU s).headD 0).toNat≠35∧((zU s).headD 0=47→(zU s).tail=[]∨(zU s).tail.headD 0=61∧(zU s).tail≠[]):=by decide+kernel
theorem zJu (h:zAY false (zU s)=(0,t,n)) (b:n=(zU s).length):zAY false (zU s)=(0,zCq s,(zU s).length):=by
 unfold zCq;rw[h,b]
theorem zG0 {x:UInt16} (h:zM x=true):(zHM x || zAI x)=false∧x.toNat≠35∧x≠47:=by
 have h:=zBB.1 h;refine⟨?_,by omega,fun e=>by rw[e]at h;revert h;decide⟩;unfold zHM zAI;have e1:¬x.toNat=9:=by omega
 have e2:¬x.toNat=11:=by omega
 have e3:¬x.toNat=12:=by omega
 have e4:¬x.toNat=32:=by omega
 have e5:¬x.toNat=10:=by omega
 have e6:¬x.toNat=13:=by omega
 simp[e1,e2,e3,e4,e5,e6]
theorem zXy (h:zDF s):PcOk s:=by
 rcases h with h | h | ⟨n,h,rfl⟩ | ⟨m,h,k,rfl⟩ | ⟨u,h,rfl⟩
 · obtain⟨h1,c,d,f,g,h6⟩:=zWL s h;refine⟨?_,?_⟩
   · cases hq:zU s with
     | nil=>exact absurd hq d
     | cons x r=>
      rw[hq]at f g h6;refine⟨x,r,rfl,f,g,fun e=>(h6 e).imp id fun⟨a,b⟩=>?_⟩;cases r with
      | nil=>exact absurd rfl b
      | cons y q=>exact⟨q,by rw[show y=61 from a]⟩
   · exact zJu (s:=s) (t:=(zAY false (zU s)).2.1) (n:=(zAY false (zU s)).2.2) (by rw[←h1]) c
 · obtain⟨x,r,h1,c,d⟩:=zLb h;have f:=zPv c;refine⟨⟨x,r,h1,f.1,fun e=>?_,fun e=>absurd e f.2⟩,?_⟩
   · have:x=35:=UInt16.toNat_inj.1 e;rw[this]at c;revert c;decide
   · have g:zAY false (zU s)=zCp (zU s):=by
      rw[h1];show(if zA6 x=true then zCp (x::r)else _)=_;rw[if_pos c]
     refine zJu (t:={zq with kind:=if 0 < zCW (asc (zU s))then 6 else 1,text:=asc (zU s)}) (g.trans ?_) rfl;unfold zCp;rw[h1,zVF d,List.drop_length,if_neg (by simp[zp])]
 · obtain⟨x,r,h1,c⟩:=zFA n;obtain⟨g1,g2,j⟩:=zG0 c;refine⟨⟨x,r,h1,g1,g2,fun e=>absurd e j⟩,?_⟩;have d:=zEL n [] (fun x q h=>by cases h);rw[List.append_nil]at d;refine zJu (t:={zq with kind:=2,nn:=(n:Int)}) (d.trans ?_) rfl;unfold zB1;rw[zEM,ji,if_neg (by rw[show zp [110] []=false from rfl];decide),if_neg (by unfold zBN;simp),if_neg (by unfold zBN;simp),zGF,jn]
 · obtain⟨h1,c⟩:=zJN h k;obtain⟨x,r,d,f⟩:=zFA (zEk m);obtain⟨g1,g2,j⟩:=zG0 f;have e:zU (zBZ (zEk m)++[110])=zU (zBZ (zEk m))++[110]:=zCk _ _;refine⟨⟨x,r++[110],by rw[e,d];rfl,g1,g2,fun e=>absurd e j⟩,?_⟩;have g:=zEL (zEk m) [110] (fun x q h=>by injection h with h _;rw[←h];decide);refine zJu (t:={zq with kind:=3,mag:=limbs (zEk m)}) (n:=(zU (zBZ (zEk m))).length+1) (((congrArg (zAY false) e).trans g).trans ?_) (by rw[e,List.length_append];rfl);unfold zB1;rw[zEM,ji,if_pos jd,zGF];unfold zI1;rw[jn,if_neg (by unfold zBN;simp)]
 · have e:zU (zFw u)=34::zU (u.flatMap zGZ++[34]):=rfl;refine⟨⟨34,_,e,by decide,by decide,fun e=>absurd e jd⟩,?_⟩;have h1:zAY false (34::zU (u.flatMap zGZ++[34]))=zA3 34 (zU (u.flatMap zGZ++[34])):=rfl;refine zJu (t:={zq with kind:=4,str:=[]++u}) (n:=1+(zU (u.flatMap zGZ++[34])).length) ?_ (by rw[e,List.length_cons];omega);rw[e,h1];unfold zA3 zKS;rw[zOu u [] _ (yAF _),if_neg js]
def zCQ:Tks→List UInt16
 | []=>[]
 | s::r=>32::(zU s++zCQ r)
def zF0:Nat→Tks→List Tok
 | k,[]=>[setAt zq k false]
 | k,s::r=>setAt (zCq s) (k+1) false::zF0 (k+1+(zU s).length) r
theorem zJv (r:Tks):zCQ r=[]∨∃v,zCQ r=32::v:=by
 cases r with
 | nil=>exact .inl rfl
 | cons s r=>exact .inr ⟨_,rfl⟩
theorem zId (h:PcOk s) (r:Tks):zAJ (zU s++zCQ r)=(0,false,0)∧zAY false (zU s++zCQ r)=(0,zCq s,(zU s).length)∧(∀x q,zU s++zCQ r=x::q→x.toNat≠35)∧zU s++zCQ r≠[]:=by
 obtain⟨x,q,e,h1,d,f⟩:=h.cons;refine⟨?_,?_,?_,by rw[e];simp⟩
 · rw[e,List.cons_append]
   by_cases c:x=47
   · have hs:(zp [47,47] (x::(q++zCQ r)) || zp [47,42] (x::(q++zCQ r)))=false:=by
      subst c;rcases f rfl with rfl | ⟨q,rfl⟩
      · rcases zJv r with e2 | ⟨v,e2⟩
        · rw[e2];rfl
        · rw[e2];simp[zp,List.isPrefixOf]
      · simp[zp,List.isPrefixOf]
     show zDI (x::(q++zCQ r)) false=_;rw[zFh h1 hs]
   · exact zPn h1 c
 · rcases zJv r with e2 | ⟨v,e2⟩
   · rw[e2,List.append_nil];exact h.tok
   · rw[e2,zNG (.inr rfl) (by rw[h.tok])];exact h.tok
 · intro y p b;rw[e,List.cons_append]at b;injection b with b _;rw[←b];exact d
theorem zL5:∀(ts:Tks) (k:Nat),(∀s∈ts,PcOk s)→zGo k (zCQ ts)=(zF0 k ts,0,0):=by
 intro ts
 induction ts with
 | nil=>
  intro k _;show zGo k []=_;rw[zIZ (by rw[zIc]) (by rw[zIc];rfl),zIc];rfl
 | cons s r d=>
  intro k hs;obtain⟨a1,a2,a3,a4⟩:=zId (hs s js) r;have b:zAJ (32::(zU s++zCQ r))=(1,false,0):=by
   show zDI (32::(zU s++zCQ r)) false=_;rw[zGn jd];have:zDI (zU s++zCQ r) (false || zAI 32)=(0,false,0):=a1;rw[this];rfl
  have c:zA4 k (32::(zU s++zCQ r))=(0,zCq s,(zU s).length):=by
   unfold zA4;rw[b];show zAY (k+1==0) (zU s++zCQ r)=_;rw[show(k+1==0)=false from yA.2 jo,a2]
  show zGo k (32::(zU s++zCQ r))=_;rw[zFG (by rw[b]) (by rw[b];exact a4) (by rw[c]),b,c];have e:(32::(zU s++zCQ r)).drop (1+(zU s).length)=zCQ r:=by
   rw[Nat.add_comm,List.drop_succ_cons,List.drop_left]
  dsimp only;rw[e,d _ fun t c=>hs t (by simp[c])];rfl
theorem zPx:∀(ts:Tks) (u:List UInt16),u≠[]→zCu u ts=u++zCQ ts:=by
 intro ts
 induction ts with
 | nil=>intro u _;rw[zRp];exact(List.append_nil _).symm
 | cons s r c=>
  intro u b;rw[zGa,c _ (by unfold zOH;rw[if_neg b];simp)];unfold zOH;rw[if_neg b];show u++[32]++zU s++zCQ r=u++(32::(zU s++zCQ r));simp
def zL6:Tks→List Tok
 | []=>[setAt zq 0 false]
 | s::r=>setAt (zCq s) 0 false::zF0 (zU s).length r
theorem zPy {ts:Tks} (hs:∀s∈ts,PcOk s) (d:(zCu [] ts).length≤4096):zC3 (zCu [] ts)=(zL6 ts,0,0):=by
 rw[zB9 jo];cases ts with
 | nil=>exact zL5 [] 0 (fun s h=>by cases h)
 | cons s r=>
  obtain⟨a1,a2,a3,a4⟩:=zId (hs s js) r;obtain⟨x,q,e,_⟩:=(hs s js).cons;have c:zCu [] (s::r)=zU s++zCQ r:=by
   rw[zGa,show zOH [] s=zU s from by unfold zOH;rfl,zPx _ _ (by rw[e];simp)]
  rw[c];have b:zA4 0 (zU s++zCQ r)=(0,zCq s,(zU s).length):=by
   unfold zA4;rw[a1];show zAY true (zU s++zCQ r)=_;rw[zSy a3,a2]
  rw[zFG (by rw[a1]) (by rw[a1];exact a4) (by rw[b]),a1,b];dsimp only;simp only[Nat.zero_add,List.drop_left];rw[zL5 r _ fun t b=>hs t (by simp[b])];rfl
theorem zNH:∀(ts:Tks) (k:Nat),(zF0 k ts).length=ts.length+1:=by
 intro ts
 induction ts with
 | nil=>intro k;rfl
 | cons s r b=>intro k;show(zF0 _ r).length+1=_;rw[b];rfl
theorem zXz {L:List Tok}:∀(ts:Tks) (k:Nat) (I:List Tok),L=I++zF0 k ts→Std L I.length ts:=by
 intro ts
 induction ts with
 | nil=>
  intro k I e;show I.length≤L.length - 1;rw[e,List.length_append,zNH];simp
 | cons s r c=>
  intro k I e;have b:zG L I.length=setAt (zCq s) (k+1) false:=by
   rw[e];unfold zG;rw[yAG,List.getElem?_append_right (yAC _),Nat.sub_self];rfl
  refine⟨⟨by rw[b];exact⟨rfl,rfl,rfl,rfl,rfl,rfl⟩,by rw[b];rfl⟩,?_⟩;have:=c (k+1+(zU s).length) (I++[setAt (zCq s) (k+1) false]) (by rw[e,List.append_assoc];rfl);rwa [List.length_append]at this
theorem zWM:∀(ts:Tks) (k:Nat) (I:List Tok),(zG (I++zF0 k ts) (I.length+ts.length)).kind=0:=by
 intro ts
 induction ts with
 | nil=>
  intro k I;unfold zG;rw[yAG,List.getElem?_append_right js];simp[zF0,setAt,zq]
 | cons s r b=>
  intro k I;have:=b (k+1+(zU s).length) (I++[setAt (zCq s) (k+1) false]);rw[List.append_assoc,List.length_append]at this;have e:I.length+[setAt (zCq s) (k+1) false].length+r.length=I.length+(s::r).length:=by simp;omega
  rwa[e]at this
theorem zX0 (ts:Tks):Std (zL6 ts) 0 ts∧(zG (zL6 ts) ts.length).kind=0:=by
 cases ts with
 | nil=>exact⟨by show 0≤_;omega,rfl⟩
 | cons s r=>
  refine⟨⟨⟨⟨rfl,rfl,rfl,rfl,rfl,rfl⟩,rfl⟩,?_⟩,?_⟩
  · exact zXz r (zU s).length [setAt (zCq s) 0 false] rfl
  · have:=zWM r (zU s).length [setAt (zCq s) 0 false];have e:[setAt (zCq s) 0 false].length+r.length=(s::r).length:=by simp;omega
    rwa[e]at this
def zX1 (t:Tok):Prop:=t.kind=1∨t.kind=5∨t.kind=6
structure TokOk (l:List UInt16) (t:Tok) (n:Nat):Prop where
 kind:t.kind≠0
 txt:zX1 t→t.text.length=n∧l.take n=zU t.text∧(t.kind=1↔zBi t.text=true)∧(t.kind=5↔zCE t.text=1)∧(t.kind=6↔0 < zCW t.text)
theorem zVJ {x:UInt16} (h:zA2 x=true):x.toNat < 128:=by
 unfold zA2 zA6 zM at h;simp only[Bool.or_eq_true,Bool.and_eq_true,decide_eq_true_eq,beq_iff_eq]at h;omega
theorem zL7 (h:∀x∈d,x.toNat < 256):zU (asc d)=d:=by
 unfold zU asc;rw[List.map_map]
 conv=>rhs;rw[←List.map_id d]
 refine List.map_congr_left fun x b=>?_;have h1:=h x b;refine UInt16.toNat_inj.1 ?_;show x.toNat % 256=x.toNat
 omega
theorem zH1:∀b∈zv++zCr,∀c∈b.head?,zA6 c.toUInt16=false:=by decide+kernel
theorem zPz {c:UInt8} {r:List UInt8} (h:zA6 c.toUInt16=true):zCE (c::r)=0:=by
 unfold zCE;rw[if_neg,if_neg]
 · intro b;have:=zH1 _ (List.mem_append_right _ b) c rfl;rw[h]at this;cases this
 · intro b;have:=zH1 _ (List.mem_append_left _ b) c rfl;rw[h]at this;cases this
theorem zNI {p:UInt16→Bool} (l:List UInt16):l.take (l.takeWhile p).length=l.takeWhile p:=by
 conv=>lhs;arg 2;rw[←List.takeWhile_append_dropWhile (p:=p) (l:=l)]
 rw[List.take_left]
theorem zS6 {x:UInt16} (s:zA6 x=true) (h:(zCp (x::r)).1=0):TokOk (x::r) (zCp (x::r)).2.1 (zCp (x::r)).2.2:=by
 unfold zCp at h⊢
 by_cases h1:zp [92] ((x::r).drop ((x::r).takeWhile zA2).length)=true
 · rw[if_pos h1]at h;cases h
 · rw[if_neg h1];obtain⟨d,m⟩:=jx ((x::r).takeWhile zA2);have k:=zNI (p:=zA2) (x::r);have f:∀y∈d,zA2 y=true:=by rw[←m];exact List.all_eq_true.1 List.all_takeWhile
   have b:d=x::r.takeWhile zA2:=by rw[←m,List.takeWhile_cons_of_pos (by unfold zA2;rw[s];rfl)]
   rw[m]at k⊢;have g:zU (asc d)=d:=zL7 fun y o=>by have:=zVJ (f y o);omega
   have t:x.toUInt8.toUInt16=x:=by
    have u:(zU (asc d))[0]? =d[0]? :=by rw[g]
    rw[b]at u;simpa [zU,asc]using u
   have j:zA6 x.toUInt8.toUInt16=true:=by rw[t];exact s
   have q:zFv (asc d)=true:=by
    rw[b];show(zA6 x.toUInt8.toUInt16&&((r.takeWhile zA2).map (·.toUInt8)).all fun c=>zA2 c.toUInt16)=true;rw[j,Bool.true_and,List.all_eq_true];intro c z;obtain⟨y,o,rfl⟩:=List.mem_map.1 z;have l:zA2 y=true:=f y (by rw[b];simp[o]);have A:=zVJ l;have:y.toUInt8.toUInt16=y:=by
     refine UInt16.toNat_inj.1 ?_;show y.toNat % 256=y.toNat
     omega
    rw[this];exact l
   have v:zCE (asc d)=0:=by rw[b];exact zPz j
   refine⟨?_,fun _=>⟨by simp[asc],by rw[k,g],?_,?_,?_⟩⟩
   · simp only;split<;>simp
   · unfold zBi;rw[q,Bool.true_and,beq_iff_eq]
     by_cases e:0 < zCW (asc d)
     · simp only[e,if_true];constructor
       · intro h;cases h
       · intro h;omega
     · simp only[e,if_false,true_iff];omega
   · rw[v]
     by_cases e:0 < zCW (asc d)<;>simp[e]
   · by_cases e:0 < zCW (asc d)<;>simp[e]
theorem zS7 (h:(zCL z l).1=0):TokOk l (zCL z l).2.1 (zCL z l).2.2:=by
 unfold zCL at h⊢;cases hs:zBj l 4 with
 | none=>
  rw[hs]at h;simp only at h;split at h<;>cases h
 | some n=>
  have e:=zFj hs;have h6:=zFk e.2.2;rw[hs]at h;simp only at h⊢
  by_cases c:zA7 l n=2
  · rw[if_pos c]at h;cases h
  · rw[if_neg c];have b:=e.2.2;have f:zA7 l n=zCE (asc (l.take n))∧(l.take n).all (fun x=>decide (x.toNat≤127))=true:=by
     unfold zA7 at b⊢;split at b
     · rename_i d
       rw[if_pos d];simp only[Bool.and_eq_true]at d;exact⟨rfl,d.1.2⟩
     · exact absurd rfl b
    have h1:zCE (asc (l.take n))=1:=by
     have:=zPY (asc (l.take n));rw[f.1]at c b;omega
    obtain⟨_,g,j⟩:=zS5 h1;refine⟨by simp,fun _=>⟨by simp[asc];omega,(zL7 fun y k=>by have:=List.all_eq_true.1 f.2 y k;simp at this;omega).symm,?_,?_,?_⟩⟩
    · simp only;rw[g];simp
    · simp only;rw[h1];simp
    · simp only;rw[j];simp
theorem zL8 (h:t.kind=2∨t.kind=3∨t.kind=4):TokOk l t n:=by
 refine⟨by omega,fun b=>?_⟩;unfold zX1 at b;omega
theorem zL9 (h:(zAY z l).1=0):TokOk l (zAY z l).2.1 (zAY z l).2.2:=by
 cases l with
 | nil=>cases h
 | cons x r=>
  rw[zBC]at h⊢
  by_cases c1:zA6 x=true
  · rw[if_pos c1]at h⊢;exact zS6 c1 h
  rw[if_neg c1]at h⊢
  by_cases c2:zM x=true
  · rw[if_pos c2]at h⊢;refine zL8 ?_;unfold zBn zB1 at h⊢;split at h
    · cases h
    · rename_i d1
      rw[if_neg d1];split at h
      · rename_i d2
        rw[if_pos d2];unfold zI1 at h⊢;split at h
        · cases h
        · rename_i d3
          rw[if_neg d3];split at h
          · cases h
          · rename_i d4;rw[if_neg d4];simp
      · rename_i d2
        rw[if_neg d2];split at h
        · cases h
        · rename_i d3
          rw[if_neg d3];split at h
          · cases h
          · rename_i d4
            rw[if_neg d4];split at h
            · cases h
            · rename_i d5;rw[if_neg d5];simp
  rw[if_neg c2]at h⊢
  by_cases c3:(x.toNat==39 || x.toNat==34)=true
  · rw[if_pos c3]at h⊢;refine zL8 ?_;unfold zA3 at h⊢;split at h
    · rename_i d1;exact absurd h d1
    · rename_i d1;rw[if_neg d1];simp
  rw[if_neg c3]at h⊢
  by_cases c4:(x.toNat==46&&zBN 0 zM r)=true
  · rw[if_pos c4]at h;cases h
  rw[if_neg c4]at h⊢;exact zS7 h
def zS8 (u:List UInt16):Nat→List Tok→Prop
 | _,[]=>False
 | e,t::r=>e≤t.pos∧((r=[]∧t.kind=0∧t.pos=u.length)∨(r≠[]∧∃n,1≤n∧t.pos+n≤u.length∧TokOk (u.drop t.pos) t n∧zS8 u (t.pos+n) r))
theorem zNJ (u:List UInt16):∀(m k:Nat),u.length - k < m→k≤u.length→(zGo k (u.drop k)).2.2=0→zS8 u k (zGo k (u.drop k)).1:=by
 intro m
 induction m with
 | zero=>intro k h;omega
 | succ m s=>
  intro k t hk h;have b:(zAJ (u.drop k)).2.2=0:=by
   by_cases h1:(zAJ (u.drop k)).2.2≠0
   · rw[zJW h1]at h;exact absurd h h1
   · exact yAK.1 h1
  have r:=zIY (u.drop k);rw[List.length_drop]at r
  by_cases g:(u.drop k).drop (zAJ (u.drop k)).1=[]
  · have j:(zAJ (u.drop k)).1=u.length - k:=by
     have:=congrArg List.length g;rw[List.length_drop,List.length_drop]at this;simp only[List.length_nil]at this;omega
    rw[zIZ b g];refine⟨by simp[setAt],.inl ⟨rfl,rfl,?_⟩⟩;simp only[setAt];omega
  · have c:(zA4 k (u.drop k)).1=0:=by
     by_cases j:(zA4 k (u.drop k)).1≠0
     · rw[zLu b g j]at h;exact absurd h j
     · exact yAK.1 j
    have d:=zD4 c;rw[List.length_drop]at d;have l:=zFG b g c;have f:TokOk ((u.drop k).drop (zAJ (u.drop k)).1) (zA4 k (u.drop k)).2.1 (zA4 k (u.drop k)).2.2:=zL9 c;rw[List.drop_drop]at l;rw[l]at h⊢;have o:(zGo (k+(zAJ (u.drop k)).1+(zA4 k (u.drop k)).2.2) (u.drop (k+((zAJ (u.drop k)).1+(zA4 k (u.drop k)).2.2)))).2.2=0:=by
     unfold zFW at h
     by_cases p:(zGo (k+(zAJ (u.drop k)).1+(zA4 k (u.drop k)).2.2) (u.drop (k+((zAJ (u.drop k)).1+(zA4 k (u.drop k)).2.2)))).2.2≠0
     · rw[if_pos p]at h;exact absurd h p
     · exact yAK.1 p
    rw[show k+((zAJ (u.drop k)).1+(zA4 k (u.drop k)).2.2)=k+(zAJ (u.drop k)).1+(zA4 k (u.drop k)).2.2 by omega]at o⊢;have q:=s (k+(zAJ (u.drop k)).1+(zA4 k (u.drop k)).2.2) jo jo o;unfold zFW;rw[if_neg (by rw[o];simp)];refine⟨by simp[setAt],.inr ⟨fun e=>by rw[e]at q;exact q,(zA4 k (u.drop k)).2.2,d.1,by simp only[setAt];omega,?_,q⟩⟩;rw[List.drop_drop]at f;exact⟨f.kind,f.txt⟩
theorem zP0 (c:u.length≤4096) (b:zC3 u=(ts,0,0)):zS8 u 0 ts:=by
 rw[zB9 jo]at b;have:=zNJ u (u.length+1) 0 jo (yAE _) (by rw[List.drop_zero,b]);rwa [List.drop_zero,b]at this
theorem zS9 {Q:Tok→Prop} (c:∀z l,(zAY z l).1=0→∀k nl,Q (setAt (zAY z l).2.1 k nl)):∀(f k:Nat) (l:List UInt16),∀t∈(zEX f k l).1,t.kind=0∨Q t:=by
 intro f
 induction f with
 | zero=>intro k l t b;cases b
 | succ f d=>
  intro k l t b;rw[zEX]at b;split at b
  · cases b
  · split at b
    · simp only[List.mem_singleton]at b;subst b;exact .inl rfl
    · split at b
      · cases b
      · rename_i e
        unfold zFW at b;split at b
        · cases b
        · rcases List.mem_cons.1 b with rfl | g
          · exact .inr (c _ _ (yAK.1 e) _ _)
          · exact d _ _ t g
theorem zP1:∀{ts:List Tok} {e:Nat},zS8 u e ts→Lst ts:=by
 intro ts
 induction ts with
 | nil=>intro e h;exact h.elim
 | cons t r d=>
  intro e h;rcases h.2 with⟨h1,b,_⟩ | ⟨h1,n,_,_,c,b⟩
  · subst h1;exact⟨by simp,b,fun i hi=>by simp at hi⟩
  · have L:=d b;have f:=L.pos;have hs:∀i,zG (t::r) (i+1)=zG r i:=fun i=>by unfold zG;simp
    refine⟨by simp,?_,fun i hi=>?_⟩
    · have:=L.last;rw[←hs]at this;rwa [show(t::r).length - 1=r.length - 1+1 by simp;omega]
    · cases i with
      | zero=>exact c.kind
      | succ i=>
       rw[hs];exact L.mid i (by simp at hi;omega)
theorem zGL {a:Nat} (h:zC3 u=(ts,a,0)):Lst ts:=by
 by_cases c:4096 < u.length
 · unfold zC3 at h;rw[if_pos c]at h;simp only[Prod.mk.injEq]at h;omega
 · have b:=zPp (u:=u) jo (by rw[h]);rw[h]at b;simp only at b;subst b;exact zP1 (zP0 jo h)
mutual
theorem size_bare (t:Tr):(bareT t).size=t.size:=by
 cases t with
 | mk x l=>rw[zCY,zi,zi,sizes_bare l]
theorem sizes_bare (l:List Tr):sizes (bareL l)=sizes l:=by
 cases l with
 | nil=>rw[zd]
 | cons t r=>rw[zP,zH,zH,size_bare t,sizes_bare r]
end
mutual
theorem dep_bare (t:Tr):depT (bareT t)=depT t:=by
 cases t with
 | mk x l=>rw[zCY,zKU,zKU,depL_bare l]
theorem depL_bare (l:List Tr):depL (bareL l)=depL l:=by
 cases l with
 | nil=>rw[zd]
 | cons t r=>rw[zP,zGW,zGW,dep_bare t,depL_bare r]
end
theorem zKu:∀(l:List Tr) (n:Nat),zz n (bareL l)=zz n l:=by
 intro l
 induction l with
 | nil=>intro n;rw[zd]
 | cons t r b=>
  intro n;rw[zP];show(n:Int)::zz (n+(bareT t).size) (bareL r)=(n:Int)::zz (n+t.size) r;rw[b,size_bare]
mutual
theorem flat_bare (n:Nat) (t:Tr):flatT n (bareT t)=flatT n t:=by
 cases t with
 | mk x l=>rw[zCY,zA8,zA8,flatL_bare (n+1) l,zKu]
theorem flatL_bare (n:Nat) (l:List Tr):flatL n (bareL l)=flatL n l:=by
 cases l with
 | nil=>rw[zd]
 | cons t r=>rw[zP,zAS,zAS,flat_bare n t,size_bare,flatL_bare (n+t.size) r]
end
theorem zTA {t:Tr} (hg:Good t) (c:ShortT t) (e:(zEc t).length≤4096):zBF (zEc t)=(flatT 0 t,0,0):=by
 have f:=zPC _ t (yAC _) hg.good c;have b:zC3 (zEc t)=(zL6 (prT t),0,0):=zPy (fun s hs=>zXy (f s hs)) e;have g:=zGL b;obtain⟨h1,j⟩:=zX0 (prT t);have d:=zO7 g hg.good c hg.kind (by rw[List.append_nil];exact h1) j;unfold Rn at d;unfold zBF;rw[b];dsimp only;rw[if_neg js,show(⟨0,0,0⟩:Ps)=pl 0 from rfl,d];dsimp only;have hs:=hg.size;have k:=hg.nest;rw[if_neg js,if_neg (by rw[size_bare];omega),if_neg (by rw[dep_bare];omega),flat_bare]
def zFL (l:List Nat):List Value:=l.map fun n:Nat=>Value.int .i64 (n:Int)
theorem zMA (l:List Nat):(zFL l).length=l.length:=by simp[zFL]
def zCI (w:World) (q:List Nat×Nat) (e:Ending) (w':World):Prop:=
 ∃A c,e=.returned (.tuple #[.slice A q.1.length c,q.2])∧q.1.length≤c∧Reads w' w'.heap.size 1 A q.1.length (zFL q.1)∧Below w.heap.size w w'
theorem zFM (w:World) (r:Nat) (b:q=([],r)):zCI w q (.returned (.tuple #[(),r])) w:=by
 subst b;exact⟨none,0,rfl,yAC _,Reads.none_,Below.refl _ _⟩
theorem zJw (w:World) (cs:List Value) (T:TypeId):Reads (w.alloc (.cells cs.toArray T)) (w.heap.size+1) 1 (some ⟨w.heap.size,0,none⟩) cs.length cs:=by
 refine⟨by simp,fun _=>⟨_,rfl,by show w.heap.size < _;omega,fun j u b=>?_⟩⟩;rw[Addr.add_lit,World.cell?_alloc_at _ _ _ _ rfl];simpa using b
theorem zAc (w:World) (l:List Nat) (r m:Nat) {T:TypeId} (c:q=(l.take m,r)) (d:m≤l.length):zCI w q (.returned (.tuple #[.slice (some ⟨w.heap.size,0,none⟩) m l.length,r])) (w.alloc (.cells (zFL l).toArray T)):=by
 subst c;have b:(l.take m).length=m:=by rw[List.length_take];omega
 refine⟨some ⟨w.heap.size,0,none⟩,l.length,by show _=Ending.returned (.tuple #[.slice _ (l.take m).length _,_]);rw[b],by show(l.take m).length≤_;omega,?_,ja⟩;have h:=(zJw w (zFL l) T);rw[zMA]at h;have f:=h.take (k:=m) d;show Reads _ _ 1 _ (l.take m).length (zFL (l.take m));rw[b];have e:zFL (l.take m)=(zFL l).take (m*1):=by rw[Nat.mul_one];simp[zFL]
 rw[e];exact f.more js
def zaR (w:World) (l:List Nat) (e:Ending) (w':World):Prop:=
 ∃A c,e=.returned (.slice A l.length c)∧l.length≤c∧Reads w' w'.heap.size 1 A l.length (zFL l)∧Below w.heap.size w w'
structure PrS (w wr:World) (v:Value) (l:List Nat):Prop where
 own:wr.ownsRow w.heap.size 3 1 v l.length (zFL l)
 below:Below w.heap.size w wr
theorem zFq (n last:Nat) (z:n≤1000000) (w:World):Calls prog 78 #[n,last] w (zaR w (zA5 n last)):=by
 obtain⟨q,hi,b,d,f⟩:=info_parts Tryz.info_int;have s:=zA (And.intro hi (And.intro b (And.intro d f)));clear hi b d f;go_enter func78,ntmps78;go_wp2_with fail
 go_loopw [5,8] (fun v i wr=>∃k:Nat,k≤n - 1∧i=.int .i64 k∧Hid (PrS w wr v (List.replicate k 6))) (fun _ i _=>n - (intOf i).toNat)
 case atStart=>exact⟨0,yAE _,rfl,⟨yAJ _ _ _ _,Below.refl _ _⟩⟩
 case round=>
  obtain⟨k,hk,rfl,g⟩:=hrel;obtain⟨hi,b,d,f⟩:=s.out
  by_cases r:k < n - 1
  · have e0:(k:Int) < (n:Int) - 1:=by omega
    go_wp2_with (at_builtin;refine zDR rfl _ _ 41 rfl w.heap.size 3 q (.int .i64 0) 1 8 underlying41 hi b d f rfl jd u5 _ _ rfl (by exact g.out.own) g.out.below.size [(6:Int)] 1 1 rfl rfl rfl (by rw[List.length_replicate];omega) jd ?_;intro v' w' j l);have p:=zA j;have t:=zA l;clear j l hi b d f;go_wp2_with fail
    go_roundw
    case rel=>
     refine⟨k+1,by omega,by go_num,⟨?_,g.out.below.trans (t.out.below (zLO g.out.own) g.out.below.size)⟩⟩;have:=p.out;rw[show zFL (List.replicate k 6)++[Value.int .i64 6]=zFL (List.replicate (k+1) 6) by rw[List.replicate_succ'];simp[zFL]]at this;simpa using this
    case measure=>simp[intOf];omega
  · have e0:¬(k:Int) < (n:Int) - 1:=by omega
    obtain rfl:k=n - 1:=by omega
    obtain⟨K,o⟩:=jx (n - 1);rw[o]at g e0;rw[o];have m:=zA o;clear o hk r;go_wp2_with (at_builtin;refine zDR rfl _ _ 41 rfl w.heap.size 3 q (.int .i64 0) 1 8 underlying41 hi b d f rfl jd u5 _ _ rfl (by exact g.out.own) g.out.below.size [last] 1 1 rfl rfl rfl (by rw[List.length_replicate];have:=m.out;omega) jd ?_;intro v' w' j l);have e:zFL (List.replicate K 6)++[Value.int .i64 (last:Int)]=zFL (zA5 n last):=by unfold zA5;rw[m.out];simp[zFL]
    have e2:(List.replicate K 6).length+1=(zA5 n last).length:=by unfold zA5;rw[m.out];simp
    rw[e,e2]at j;have u:=zA (g.out.below.trans (l.below (zLO g.out.own) g.out.below.size));obtain⟨A,c,rfl,y,_⟩:=zS j;have p:=zA (Reads.of_own j);clear j l e e2 hi b d f;go_wp2_with fail;go_ret;exact⟨A,c,rfl,y,p,u⟩
theorem zNK (k:Int) (h:k∈([1,3,4,5,6,9,10,15,16,17,18,38,39,40,43,44,45,46,47,48,49,50,51,52,53]:List Int)) (n:Nat) (w:World):Calls prog 39 #[k,n] w (zCI w (zl k n)):=by
 simp only[List.mem_cons,List.mem_nil_iff,or_false]at h;rcases h with rfl | rfl | rfl | rfl | rfl | rfl | rfl | rfl | rfl | rfl | rfl | rfl | rfl | rfl | rfl | rfl | rfl | rfl | rfl | rfl | rfl | rfl | rfl | rfl | rfl
 all_goals
  go_enter func39,ntmps39;go_wp2_with fail
  go_ret2
  first
  | exact zAc w [3] 0 1 rfl jd
  | exact zAc w [3,2] 0 2 rfl jd
  | exact zAc w [10,9,9,2] 0 4 rfl jd
  | exact zAc w [8,11,12] 0 3 rfl jd
  | exact zAc w [8] 0 1 rfl jd
  | exact zAc w [2] 0 1 rfl jd
  | exact zAc w [4] 0 1 rfl jd
  | exact zAc w [3,3] 0 2 rfl jd
  | exact zAc w [3,3,3] 0 3 rfl jd
  | exact zAc w [4,3] 0 2 rfl jd
  | exact zAc w [5] 5 1 rfl jd
  | exact zAc w [3] 3 1 rfl jd
  | exact zFM w 1 rfl
  | exact zFM w 3 rfl
  | exact zFM w 7 rfl
theorem zNL (n:Nat) (h:n≤1) (w:World):Calls prog 39 #[(7:Int),n] w (zCI w (zl 7 n)):=by
 have e:(n:Int)≤1:=by omega
 have m1:min (n:Int) 1=n:=by omega
 go_enter func39,ntmps39;go_wp2_with fail
 go_ret2
 exact zAc w [3] 0 n (q:=zl 7 n) (by show([3].take (min n 1),0)=_;rw[show min n 1=n by omega]) (by show n≤1;omega)
theorem zNM (n:Nat) (h:2≤n) (w:World):Calls prog 39 #[(7:Int),n] w (zCI w (zl 7 n)):=by
 have e:¬(n:Int)≤1:=by omega
 have m1:min (n:Int) 1=1:=by omega
 go_enter func39,ntmps39;go_wp2_with fail
 go_ret2
 exact zAc w [3] 0 1 (q:=zl 7 n) (by show([3].take (min n 1),0)=_;rw[show min n 1=1 by omega]) jd
theorem zKv (n:Nat) (h:n≤1) (w:World):Calls prog 39 #[(14:Int),n] w (zCI w (zl 14 n)):=by
 have e:(n:Int)≤1:=by omega
 have m1:min (n:Int) 1=n:=by omega
 go_enter func39,ntmps39;go_wp2_with fail
 go_ret2
 exact zAc w [3] 0 n (q:=zl 14 n) (by show([3].take (min n 1),0)=_;rw[show min n 1=n by omega]) (by show n≤1;omega)
theorem zKw (n:Nat) (h:2≤n) (w:World):Calls prog 39 #[(14:Int),n] w (zCI w (zl 14 n)):=by
 have e:¬(n:Int)≤1:=by omega
 have m1:min (n:Int) 1=1:=by omega
 go_enter func39,ntmps39;go_wp2_with fail
 go_ret2
 exact zAc w [3] 0 1 (q:=zl 14 n) (by show([3].take (min n 1),0)=_;rw[show min n 1=1 by omega]) jd
theorem zKx (n:Nat) (h:n≤1) (w:World):Calls prog 39 #[(8:Int),n] w (zCI w (zl 8 n)):=by
 have m1:max (n:Int) 2=2:=by omega
 have m2:min (2:Int) 3=2:=by omega
 have e:(n:Int)≤2:=by omega
 have e2:¬2≤(n:Int):=by omega
 go_enter func39,ntmps39;go_wp2_with fail
 go_ret2
 exact zAc w [3,2,2] 0 2 (q:=zl 8 n) (by show([3,2,2].take (min (max n 2) 3),0)=_;rw[show min (max n 2) 3=2 by omega]) jd
theorem zKy (n:Nat) (h:n=2) (w:World):Calls prog 39 #[(8:Int),n] w (zCI w (zl 8 n)):=by
 have m1:max (n:Int) 2=n:=by omega
 have m2:min (n:Int) 3=n:=by omega
 have e:(n:Int)≤2:=by omega
 have e2:2≤(n:Int):=by omega
 have e3:(n:Int)≤3:=by omega
 have H:=zA h;clear h;go_enter func39,ntmps39;go_wp2_with fail
 go_ret2
 exact zAc w [3,2,2] 0 n (q:=zl 8 n) (by show([3,2,2].take (min (max n 2) 3),0)=_;rw[show min (max n 2) 3=n by have:=H.out;omega]) (by have:=H.out;show n≤3;omega)
theorem zIe (n:Nat) (h:n=3) (w:World):Calls prog 39 #[(8:Int),n] w (zCI w (zl 8 n)):=by
 have m1:max (n:Int) 2=n:=by omega
 have m2:min (n:Int) 3=n:=by omega
 have e:¬(n:Int)≤2:=by omega
 have e2:(n:Int)≤3:=by omega
 have H:=zA h;clear h;go_enter func39,ntmps39;go_wp2_with fail
 go_ret2
 exact zAc w [3,2,2] 0 n (q:=zl 8 n) (by show([3,2,2].take (min (max n 2) 3),0)=_;rw[show min (max n 2) 3=n by omega]) (by show n≤3;omega)
theorem zJx (n:Nat) (h:4≤n) (w:World):Calls prog 39 #[(8:Int),n] w (zCI w (zl 8 n)):=by
 have m1:max (n:Int) 2=n:=by omega
 have m2:min (n:Int) 3=3:=by omega
 have e:¬(n:Int)≤2:=by omega
 have e2:¬(n:Int)≤3:=by omega
 go_enter func39,ntmps39;go_wp2_with fail
 go_ret2
 exact zAc w [3,2,2] 0 3 (q:=zl 8 n) (by show([3,2,2].take (min (max n 2) 3),0)=_;rw[show min (max n 2) 3=3 by omega]) jd
theorem zTB (n:Nat) (h:n≤1000000) (w:World):Calls prog 39 #[(19:Int),n] w (zCI w (zl 19 n)):=by
 go_enter func39,ntmps39;go_wp2_with (go_at_call 78;refine(zFq n 8 h w).mono ?_;rintro e w' ⟨A,c,rfl,b,d,hb⟩)
 go_ret2
 exact⟨A,c,rfl,b,d,hb⟩
theorem zTC (n:Nat) (h:n≤1000000) (w:World):Calls prog 39 #[(41:Int),n] w (zCI w (zl 41 n)):=by
 go_enter func39,ntmps39;go_wp2_with (go_at_call 78;refine(zFq n 8 h w).mono ?_;rintro e w' ⟨A,c,rfl,b,d,hb⟩)
 go_ret2
 exact⟨A,c,rfl,b,d,hb⟩
theorem zTD (n:Nat) (h:n≤1000000) (w:World):Calls prog 39 #[(42:Int),n] w (zCI w (zl 42 n)):=by
 go_enter func39,ntmps39;go_wp2_with (go_at_call 78;refine(zFq n 13 h w).mono ?_;rintro e w' ⟨A,c,rfl,b,d,hb⟩)
 go_ret2
 exact⟨A,c,rfl,b,d,hb⟩
theorem zNN (k:Int) (n:Nat) (h:∀j∈([1,3,4,5,6,7,8,9,10,14,15,16,17,18,19,38,39,40,41,42,43,44,45,46,47,48,49,50,51,52,53]:List Int),k≠j) (w:World):Calls prog 39 #[k,n] w (zCI w (zl k n)):=by
 have e1:(k==1)=false:=yA.2 (h 1 jd);have e3:(k==3)=false:=yA.2 (h 3 jd);have e4:(k==4)=false:=yA.2 (h 4 jd);have e5:(k==5)=false:=yA.2 (h 5 jd);have e6:(k==6)=false:=yA.2 (h 6 jd);have e7:(k==7)=false:=yA.2 (h 7 jd);have e8:(k==8)=false:=yA.2 (h 8 jd);have L:(k==9)=false:=yA.2 (h 9 jd);have e:(k==10)=false:=yA.2 (h 10 jd);have f:(k==14)=false:=yA.2 (h 14 jd);have l:(k==15)=false:=yA.2 (h 15 jd);have m:(k==16)=false:=yA.2 (h 16 jd);have o:(k==17)=false:=yA.2 (h 17 jd);have q:(k==18)=false:=yA.2 (h 18 jd);have r:(k==19)=false:=yA.2 (h 19 jd);have s:(k==38)=false:=yA.2 (h 38 jd);have t:(k==39)=false:=yA.2 (h 39 jd);have u:(k==40)=false:=yA.2 (h 40 jd);have v:(k==41)=false:=yA.2 (h 41 jd);have y:(k==42)=false:=yA.2 (h 42 jd);have z:(k==43)=false:=yA.2 (h 43 jd);have A:(k==44)=false:=yA.2 (h 44 jd);have B:(k==45)=false:=yA.2 (h 45 jd);have C:(k==46)=false:=yA.2 (h 46 jd);have D:(k==47)=false:=yA.2 (h 47 jd);have E:(k==48)=false:=yA.2 (h 48 jd);have F:(k==49)=false:=yA.2 (h 49 jd);have G:(k==50)=false:=yA.2 (h 50 jd);have H:(k==51)=false:=yA.2 (h 51 jd);have I:(k==52)=false:=yA.2 (h 52 jd);have J:(k==53)=false:=yA.2 (h 53 jd);have d:Hid (zl k n=([],0)):=by
  have c:∀{p:Prop} [Decidable p] {a b:List Nat×Nat},¬p→b=([],0)→(if p then a else b)=([],0):=fun h1 c=>by rw[if_neg h1,c]
  have g:k≠1∧k≠3∧k≠4∧k≠5∧k≠6∧k≠7∧k≠8∧k≠9∧k≠10∧k≠14∧k≠15∧k≠16∧k≠17∧k≠18∧k≠19∧k≠38∧k≠39∧k≠40∧k≠41∧k≠42∧k≠43∧k≠44∧k≠45∧k≠46∧k≠47∧k≠48∧k≠49∧k≠50∧k≠51∧k≠52∧k≠53:=by refine⟨h 1 jd,h 3 jd,h 4 jd,h 5 jd,h 6 jd,h 7 jd,h 8 jd,h 9 jd,h 10 jd,h 14 jd,h 15 jd,h 16 jd,h 17 jd,h 18 jd,h 19 jd,h 38 jd,h 39 jd,h 40 jd,h 41 jd,h 42 jd,h 43 jd,h 44 jd,h 45 jd,h 46 jd,h 47 jd,h 48 jd,h 49 jd,h 50 jd,h 51 jd,h 52 jd,h 53 jd⟩
  clear h;unfold zl
  repeat' refine c jo ?_
  rfl
 clear h;go_enter func39,ntmps39;go_wp2_with fail
 go_ret2
 exact zFM w 0 d
theorem zP2 (k:Int) (n:Nat) (b:n≤1000000) (w:World):Calls prog 39 #[k,n] w (zCI w (zl k n)):=by
 by_cases c:k∈([1,3,4,5,6,9,10,15,16,17,18,38,39,40,43,44,45,46,47,48,49,50,51,52,53]:List Int)
 · exact zNK k c n w
 simp only[List.mem_cons,List.mem_nil_iff,or_false,not_or]at c
 by_cases l:k=7
 · subst l
   by_cases h:n≤1
   · exact zNL n h w
   · exact zNM n jo w
 by_cases m:k=8
 · subst m
   by_cases o:n≤1
   · exact zKx n o w
   by_cases h:n=2
   · exact zKy n h w
   · by_cases p:n=3
     · exact zIe n p w
     · exact zJx n jo w
 by_cases d:k=14
 · subst d
   by_cases h:n≤1
   · exact zKv n h w
   · exact zKw n jo w
 by_cases e:k=19
 · subst e;exact zTB n b w
 by_cases f:k=41
 · subst f;exact zTC n b w
 by_cases g:k=42
 · subst g;exact zTD n b w
 exact zNN k n (fun j q=>by simp only[List.mem_cons,List.mem_nil_iff,or_false]at q;omega) w
end Go.Proofs.YtlnbbaehihgigaaGreatDoor
