/- Joined for the claim EarlyRoot: the parser, the lexer and the trees as they are walked, made short by a program of mine. -/
import Derived.Deep.CutBlock
import Derived.Deep.DeepCutAuto
import Derived.Test.YtlohaclgbfhijaaGreatDoorE09
import Derived.Deep.LoopGhost
import Derived.Test.YtlohaclgbfhijaaGreatDoorE01
set_option maxHeartbeats 16000000
set_option maxRecDepth 1000000
namespace Go.Proofs.YtlohaclgbfhijaaGreatDoor
open Go.Proofs.Tryz
open Go.RowKit
theorem zLL (p:Nat×UInt16×Nat):(more 1 p).1=p.1∧(more 1 p).2.1=p.2.1∧(p.1=0→(more 1 p).2.2=1+p.2.2):=by
 unfold more;split
 · rename_i h;exact⟨h.symm,rfl,fun _=>rfl⟩
 · rename_i h;exact⟨rfl,rfl,fun h2=>absurd h2 h⟩
theorem zEU {a b c:Nat} {x y:UInt16} {d:Nat} (h:(a,x,b)=(c,y,d)):a=c∧x=y∧b=d:=by
 simp only[Prod.mk.injEq]at h;exact h
theorem zIK {w wc w3:World} {g n c k e e1 m m1:Nat} {A:Option Addr} {y y1:UInt16} (h:more 1 (e1,y1,m1)=(e,y,m)) (hM:e1=0→Mv wc w3 g A n c (k+1+m1)) (hG:wc.grownBy w3 (some g)) (hw:w.grownBy wc (some g)):
 Ending.returned (.tuple #[.int .u16 (y1.toNat:Int),.int .i64 (e1:Int)])=.returned (.tuple #[.int .u16 (y.toNat:Int),.int .i64 (e:Int)])∧(e=0→Mv w w3 g A n c (k+m))∧w.grownBy w3 (some g):=by
 obtain⟨q1,q2,q3⟩:=zLL (e1,y1,m1);rw[h]at q1 q2 q3;simp only at q1 q2 q3;subst q1 q2;refine⟨rfl,fun he=>?_,zC hw hG⟩;have:=q3 he;have hm:=hM he;rw[show k+m=k+1+m1 by omega];exact⟨hm.rd,zC hw hm.grown⟩
theorem zEV {A:Option Addr} {c g B k n:Nat} {u:List UInt16} {w:World} (hr:Rd w g A n c k) (hn:u.length=n) (ha:Reads w B 1 A n (zAD u)) (hB:B≤g) (hk:k≤n) (hl:n≤4096) {m e:Nat} {y:UInt16} (hq:zDM (u.drop k)=(e,y,m)):
 Calls prog 107 #[.pointer (some ⟨g,0,none⟩)] w fun ev w'=>ev=.returned (.tuple #[.int .u16 (y.toNat:Int),.int .i64 (e:Int)])∧(e=0→Mv w w' g A n c (k+m))∧w.grownBy w' (some g):=by
 subst hn;have hg:=hr.lt;have hc0:=hr.c0;have hc1:=hr.c1;have hf1:=hr.f1
 by_cases hlt:k < u.length
 · rw[zP1 hlt]at hq;have hM0:=zA (Mv.refl hr);have HA:=zA ha;obtain⟨blk,off,rfl,_,hcell⟩:=ha.spotL (by omega);have hca:=hcell k hlt;have hx:=u[k].toNat_lt;obtain⟨x,hxx⟩:∃x,u[k]=x:=⟨_,rfl⟩;rw[hxx]at hca hq hx;have hlt2:(k:Int) < (u.length:Int):=by omega
   have hne:((k:Int)==(u.length:Int))=false:=yA.2 (by omega);have HQ:=zA hq;clear hcell hxx hq ha hr;cases hs:zBr x with
   | some z=>
    have hq:=HQ.out;rw[hs]at hq;simp only[Option.isSome_some,if_true,Option.getD_some,Prod.mk.injEq]at hq;obtain⟨q1,q2,q3⟩:=hq;have HE:=zA q1;have HY:=zA q2;have HM:=zA q3;clear q1 q2 q3 HQ;rcases zGS hs with⟨rfl,rfl⟩ | ⟨rfl,rfl⟩ | ⟨rfl,rfl⟩ | ⟨rfl,rfl⟩ | ⟨rfl,rfl⟩ | ⟨rfl,rfl⟩
    all_goals clear hs
    all_goals
     go_enter func107,ntmps107;go_wp2_with fail
     go_quiet (fail)
     go_wp2_with fail
     go_quiet (fail)
     go_wp2_with (go_at_call 159;refine(zCj _ _ _ (by rfl)).mono ?_;rintro e1 w1 ⟨rfl,rfl⟩)
     go_ret2
     obtain rfl:=HY.out;obtain rfl:=HE.out;exact⟨rfl,fun _=>by rw[←HM.out];exact(Mv.step (hM0.out.drewN _) (by omega)).below ((Below.refl _ _).alloc (yAC _) _),((Mv.step (hM0.out.drewN _) (k':=k+1) (by omega)).below ((Below.refl _ _).alloc (yAC _) _)).grown⟩
   | none=>
    have HR:=zA (show zQl x (u.drop (k+1))=(e,y,m) by have h:=HQ.out;rw[hs]at h;simpa using h);obtain⟨i,hi⟩:∃i,Lib.indexByte (⟨#[110,116,114,98,118,102]⟩:ByteArray).data.toList (IntKind.u8.wrap (x.toNat:Int)).toNat.toUInt8=i:=⟨_,rfl⟩;have HI:=zA hi;have hi1:x.toNat < 128→i= -1:=fun h=>by rw[←hi];exact zLK h hs
    have HI1:=zA hi1;clear hi hi1 hs HQ;go_enter func107,ntmps107;go_wp2_with fail
    go_quiet (fail)
    go_wp2_with fail
    go_quiet (fail)
    go_upto_region 6 with(go_at_call 159;refine(zCj _ _ _ HI.out).mono ?_;rintro e1 w1 ⟨rfl,rfl⟩)
    go_cut [41] (fun v wx=>v=.bool false∧Hid (Mv w wx g (some ⟨blk,off,none⟩) u.length c (k+1)))
    case first=>
     by_cases hx8:x.toNat < 128
     · obtain rfl:=HI1.out hx8;go_wp2_with fail;go_meet;exact⟨rfl,Mv.step (hM0.out.drewN _) (by omega)⟩
     · have hx9:¬(x.toNat:Int) < 128:=by omega
       go_wp2_with fail;go_meet;exact⟨rfl,Mv.step (hM0.out.drewN _) (by omega)⟩
    case rest=>
     obtain⟨hv,hM⟩:=hcut;subst hv;clear hc0 hc1 hf1 hca hne HI HI1 hM0;have har:=zA (HA.out.grown hM.out.grown hB (Nat.le_of_lt hg));have hk1:k+1≤u.length:=hlt;have hR:=HR.out;unfold zQl at hR;obtain⟨d,hd⟩:∃d,zAy 0 zO (u.drop (k+1))=d:=⟨_,rfl⟩;obtain⟨b,hb⟩:∃d,zq [123] (u.drop (k+1))=d:=⟨_,rfl⟩;rw[hd,hb]at hR;have HD:=zA hd;have HB:=zA hb;clear hd hb HR
     by_cases h48:x.toNat=48
     · have e48:((x.toNat:Int)==48)=true:=by rw[h48];rfl
       have hdg:zO x=true:=zA4.2 (by omega);rw[h48]at hR;cases d with
       | false=>
        have HZ:=zA (show(0,(0:UInt16),1)=(e,y,m) by simpa using hR);clear hR h48;go_wp2_with (first | (go_at_call 71;refine(zAO (j:=0) hM.out.rd rfl har.out hk1 hl (by omega) HD.out).mono ?_;rintro e2 w2 ⟨rfl,m2,hw2⟩;subst hw2) | (go_at_call 68;refine(zo _ _).mono ?_;rintro e2 w2 ⟨rfl,rfl⟩) | (go_at_call 63;refine(zw _ _).mono ?_;rintro e2 w2 ⟨rfl,rfl⟩) | (go_at_call 100;refine(zAc _ _).mono ?_;rintro e2 w2 ⟨rfl,rfl⟩))
        go_ret2
        obtain⟨z1,z2,z3⟩:=zEU HZ.out;subst z1 z2 z3;exact⟨rfl,fun _=>hM.out.drewN _,(hM.out.drewN _).grown⟩
       | true=>
        have HZ:=zA (show(5,(0:UInt16),0)=(e,y,m) by rw[hdg]at hR;simpa using hR);clear hR h48;go_wp2_with (first | (go_at_call 71;refine(zAO (j:=0) hM.out.rd rfl har.out hk1 hl (by omega) HD.out).mono ?_;rintro e2 w2 ⟨rfl,m2,hw2⟩;subst hw2) | (go_at_call 68;refine(zo _ _).mono ?_;rintro e2 w2 ⟨rfl,rfl⟩) | (go_at_call 63;refine(zw _ _).mono ?_;rintro e2 w2 ⟨rfl,rfl⟩) | (go_at_call 100;refine(zAc _ _).mono ?_;rintro e2 w2 ⟨rfl,rfl⟩))
        go_ret2
        obtain⟨z1,z2,z3⟩:=zEU HZ.out;subst z1 z2 z3;exact⟨rfl,fun h=>absurd h (by decide),(hM.out.drewN _).grown⟩
     have e48:((x.toNat:Int)==48)=false:=yA.2 (by omega);rw[show(x.toNat==48)=false from yA.2 h48]at hR;simp only[Bool.false_and,Bool.false_eq_true,if_false]at hR;clear h48;cases hdg:zO x with
     | true=>
      rw[hdg,if_pos rfl]at hR;have HZ:=zA hR;clear hR;go_wp2_with (first | (go_at_call 71;refine(zAO (j:=0) hM.out.rd rfl har.out hk1 hl (by omega) HD.out).mono ?_;rintro e2 w2 ⟨rfl,m2,hw2⟩;subst hw2) | (go_at_call 68;refine(zo _ _).mono ?_;rintro e2 w2 ⟨rfl,rfl⟩) | (go_at_call 63;refine(zw _ _).mono ?_;rintro e2 w2 ⟨rfl,rfl⟩) | (go_at_call 100;refine(zAc _ _).mono ?_;rintro e2 w2 ⟨rfl,rfl⟩))
      go_ret2
      obtain⟨z1,z2,z3⟩:=zEU HZ.out;subst z1 z2 z3;exact⟨rfl,fun h=>absurd h (by decide),hM.out.grown⟩
     | false=>
      rw[hdg]at hR;simp only[Bool.false_eq_true,if_false]at hR;cases hln:zAJ x with
      | true=>
       rw[hln]at hR;have HZ:=zA (show(6,(0:UInt16),0)=(e,y,m) by simpa using hR);clear hR;go_wp2_with (first | (go_at_call 71;refine(zAO (j:=0) hM.out.rd rfl har.out hk1 hl (by omega) HD.out).mono ?_;rintro e2 w2 ⟨rfl,m2,hw2⟩;subst hw2) | (go_at_call 68;refine(zo _ _).mono ?_;rintro e2 w2 ⟨rfl,rfl⟩) | (go_at_call 63;refine(zw _ _).mono ?_;rintro e2 w2 ⟨rfl,rfl⟩) | (go_at_call 100;refine(zAc _ _).mono ?_;rintro e2 w2 ⟨rfl,rfl⟩))
       go_ret2
       obtain⟨z1,z2,z3⟩:=zEU HZ.out;subst z1 z2 z3;exact⟨rfl,fun h=>absurd h (by decide),hM.out.grown⟩
      | false=>
       rw[hln]at hR;cases hfr:zFz x with
       | true=>
        rw[hfr]at hR;have HZ:=zA (show(6,(0:UInt16),0)=(e,y,m) by simpa using hR);clear hR;go_wp2_with (first | (go_at_call 71;refine(zAO (j:=0) hM.out.rd rfl har.out hk1 hl (by omega) HD.out).mono ?_;rintro e2 w2 ⟨rfl,m2,hw2⟩;subst hw2) | (go_at_call 68;refine(zo _ _).mono ?_;rintro e2 w2 ⟨rfl,rfl⟩) | (go_at_call 63;refine(zw _ _).mono ?_;rintro e2 w2 ⟨rfl,rfl⟩) | (go_at_call 100;refine(zAc _ _).mono ?_;rintro e2 w2 ⟨rfl,rfl⟩))
        go_ret2
        obtain⟨z1,z2,z3⟩:=zEU HZ.out;subst z1 z2 z3;exact⟨rfl,fun h=>absurd h (by decide),hM.out.grown⟩
       | false=>
        rw[hfr]at hR
        by_cases h117:x.toNat=117
        · have e117:((x.toNat:Int)==117)=true:=by rw[h117];rfl
          have e120:((x.toNat:Int)==120)=false:=by rw[h117];rfl
          rw[h117]at hR;clear h117;cases b with
          | true=>
           have HZ:=zA (show(6,(0:UInt16),0)=(e,y,m) by simpa using hR);clear hR;go_wp2_with (first | (go_at_call 71;refine(zAO (j:=0) hM.out.rd rfl har.out hk1 hl (by omega) HD.out).mono ?_;rintro e2 w2 ⟨rfl,m2,hw2⟩;subst hw2) | (go_at_call 68;refine(zo _ _).mono ?_;rintro e2 w2 ⟨rfl,rfl⟩) | (go_at_call 63;refine(zw _ _).mono ?_;rintro e2 w2 ⟨rfl,rfl⟩) | (go_at_call 100;refine(zAc _ _).mono ?_;rintro e2 w2 ⟨rfl,rfl⟩) | (go_at_call 64;refine(zAP ⟨#[123]⟩ hM.out.rd rfl har.out hk1 hl (by decide) HB.out).mono ?_;rintro e2 w2 ⟨rfl,m2,hw2⟩;subst hw2))
           go_ret2
           obtain⟨z1,z2,z3⟩:=zEU HZ.out;subst z1 z2 z3;exact⟨rfl,fun h=>absurd h (by decide),(hM.out.drewN _).grown⟩
          | false=>
           have hR2:more 1 (zCd 4 (u.drop (k+1)))=(e,y,m):=by simpa using hR
           obtain⟨⟨e1,y1,m1⟩,hcq⟩:∃z,zCd 4 (u.drop (k+1))=z:=⟨_,rfl⟩;rw[hcq]at hR2;have HZ:=zA hR2;have HCQ:=zA hcq;clear hR hR2 hcq;go_wp2_with (first | (go_at_call 71;refine(zAO (j:=0) hM.out.rd rfl har.out hk1 hl (by omega) HD.out).mono ?_;rintro e2 w2 ⟨rfl,m2,hw2⟩;subst hw2) | (go_at_call 68;refine(zo _ _).mono ?_;rintro e2 w2 ⟨rfl,rfl⟩) | (go_at_call 63;refine(zw _ _).mono ?_;rintro e2 w2 ⟨rfl,rfl⟩) | (go_at_call 100;refine(zAc _ _).mono ?_;rintro e2 w2 ⟨rfl,rfl⟩) | (go_at_call 64;refine(zAP ⟨#[123]⟩ hM.out.rd rfl har.out hk1 hl (by decide) HB.out).mono ?_;rintro e2 w2 ⟨rfl,m2,hw2⟩;subst hw2) | (go_at_call 160;refine(zGR (cnt:=4) (hM.out.rd.drewN _) rfl (har.out.drewN _) hB hk1 hl (by omega) HCQ.out).mono ?_;rintro e3 w3 ⟨rfl,hM3,hG3⟩))
           go_ret2
           exact zIK HZ.out hM3 hG3 (hM.out.drewN _).grown
        · have e117:((x.toNat:Int)==117)=false:=yA.2 (by omega);rw[show(x.toNat==117)=false from yA.2 h117]at hR;simp only[Bool.or_self,Bool.false_and,Bool.false_eq_true,if_false]at hR
          by_cases h120:x.toNat=120
          · have e120:((x.toNat:Int)==120)=true:=by rw[h120];rfl
            rw[if_pos h120]at hR;obtain⟨⟨e1,y1,m1⟩,hcq⟩:∃z,zCd 2 (u.drop (k+1))=z:=⟨_,rfl⟩;rw[hcq]at hR;have HZ:=zA hR;have HCQ:=zA hcq;clear hR hcq h117 h120;go_wp2_with (first | (go_at_call 71;refine(zAO (j:=0) hM.out.rd rfl har.out hk1 hl (by omega) HD.out).mono ?_;rintro e2 w2 ⟨rfl,m2,hw2⟩;subst hw2) | (go_at_call 68;refine(zo _ _).mono ?_;rintro e2 w2 ⟨rfl,rfl⟩) | (go_at_call 63;refine(zw _ _).mono ?_;rintro e2 w2 ⟨rfl,rfl⟩) | (go_at_call 100;refine(zAc _ _).mono ?_;rintro e2 w2 ⟨rfl,rfl⟩) | (go_at_call 64;refine(zAP ⟨#[123]⟩ hM.out.rd rfl har.out hk1 hl (by decide) HB.out).mono ?_;rintro e2 w2 ⟨rfl,m2,hw2⟩;subst hw2) | (go_at_call 160;refine(zGR (cnt:=2) hM.out.rd rfl har.out hB hk1 hl (by omega) HCQ.out).mono ?_;rintro e3 w3 ⟨rfl,hM3,hG3⟩))
            go_ret2
            exact zIK HZ.out hM3 hG3 hM.out.grown
          · have e120:((x.toNat:Int)==120)=false:=yA.2 (by omega);rw[if_neg h120,if_neg h117]at hR;have HZ:=zA hR;clear hR h117 h120;go_wp2_with (first | (go_at_call 71;refine(zAO (j:=0) hM.out.rd rfl har.out hk1 hl (by omega) HD.out).mono ?_;rintro e2 w2 ⟨rfl,m2,hw2⟩;subst hw2) | (go_at_call 68;refine(zo _ _).mono ?_;rintro e2 w2 ⟨rfl,rfl⟩) | (go_at_call 63;refine(zw _ _).mono ?_;rintro e2 w2 ⟨rfl,rfl⟩) | (go_at_call 100;refine(zAc _ _).mono ?_;rintro e2 w2 ⟨rfl,rfl⟩) | (go_at_call 64;refine(zAP ⟨#[123]⟩ hM.out.rd rfl har.out hk1 hl (by decide) HB.out).mono ?_;rintro e2 w2 ⟨rfl,m2,hw2⟩;subst hw2))
            go_ret2
            obtain⟨z1,z2,z3⟩:=zEU HZ.out;subst z1 z2 z3;exact⟨rfl,fun _=>hM.out,hM.out.grown⟩
 · obtain rfl:k=u.length:=by omega
   rw[List.drop_length]at hq;have HQ:=zA hq;have hM0:=zA (Mv.refl hr);clear hq hr ha;go_enter func107,ntmps107;go_wp2_with fail
   go_quiet (fail)
   go_wp2
   go_ret2
   have hq:=HQ.out;simp only[zDM,Prod.mk.injEq]at hq;obtain⟨q1,q2,q3⟩:=hq;subst q1 q2 q3;exact⟨rfl,fun h=>absurd h (by decide),(hM0.out.drewN _).grown⟩
theorem zNX (q:UInt16):∀(f g:Nat) (l:List UInt16) (acc:List UInt16),l.length < f→l.length < g→zDd q f l acc=zDd q g l acc:=by
 intro f
 induction f with
 | zero=>intro g l acc hf _;omega
 | succ f ih=>
  intro g l acc hf hg;obtain⟨g,rfl⟩:∃m,g=m+1:=⟨g - 1,by omega⟩;cases l with
  | nil=>rfl
  | cons x r=>
   simp only[List.length_cons]at hf hg;unfold zDd;rw[ih g r (acc++[x]) (by omega) (by omega)]
   by_cases he:(zDM r).1≠0
   · simp only[he,if_true,ne_eq,not_false_eq_true]
   · have h5:=zEC (Decidable.not_not.1 he);rw[ih g (r.drop (zDM r).2.2) (acc++[(zDM r).2.1]) (by rw[List.length_drop];omega) (by rw[List.length_drop];omega)]
def zDV (q:UInt16) (l acc:List UInt16):Nat×List UInt16×Nat:=zDd q (l.length+1) l acc
def zGT (n:Nat) (p:Nat×List UInt16×Nat):Nat×List UInt16×Nat:=(p.1,p.2.1,n+p.2.2)
theorem zNY (q:UInt16) (acc:List UInt16):zDV q [] acc=(5,[],0):=rfl
theorem zLM {q x:UInt16} {r acc:List UInt16} (h:zAJ x=true):zDV q (x::r) acc=(5,[],0):=by
 unfold zDV;rw[zDd,if_pos h]
theorem zNZ {q:UInt16} {r acc:List UInt16} (h:zAJ q=false):zDV q (q::r) acc=(0,acc,1):=by
 unfold zDV;rw[zDd,if_neg (by rw[h];simp),if_pos rfl]
theorem zJN {q x:UInt16} {r acc:List UInt16} (h:zAJ x=false) (h2:x≠q) (h3:x.toNat≠92):zDV q (x::r) acc=zGT 1 (zDV q r (acc++[x])):=by
 unfold zDV;rw[zDd,if_neg (by rw[h];simp),if_neg h2,if_neg h3];rfl
theorem zNa {q x:UInt16} {r acc:List UInt16} (h:zAJ x=false) (h2:x≠q) (h3:x.toNat=92) (h4:(zDM r).1≠0):zDV q (x::r) acc=((zDM r).1,[],0):=by
 unfold zDV;rw[zDd,if_neg (by rw[h];simp),if_neg h2,if_pos h3,if_pos h4]
theorem zNb {q x y:UInt16} {r acc:List UInt16} {n:Nat} (h:zAJ x=false) (h2:x≠q) (h3:x.toNat=92) (h4:zDM r=(0,y,n)):zDV q (x::r) acc=zGT (1+n) (zDV q (r.drop n) (acc++[y])):=by
 have h5:=zEC (l:=r) (by rw[h4]);rw[h4]at h5;unfold zDV;rw[zDd,if_neg (by rw[h];simp),if_neg h2,if_pos h3,h4,if_neg (by simp)];simp only[List.length_cons];rw[zNX q (r.length+1) ((r.drop n).length+1) _ _ (by rw[List.length_drop];omega) (by omega)];rfl
theorem Blk.grownR {w w':World} {R:Nat} {row:Option Nat} {cs:List Value} (h:Blk w R cs) (hg:w.grownBy w' row) (hne:some R≠row):Blk w' R cs:=
 ⟨yAA h.1 hg.size,fun j hj=>⟨hg.cell (h.2 j hj).1 hne,(World.frozen?_of_block (w:=w) (hg.block R h.1 hne)).trans (h.2 j hj).2⟩⟩
theorem Blk.set {w:World} {R i:Nat} {cs:List Value} (h:Blk w R cs) (hi:i < cs.length) (v:Value):Blk (w.setCell ⟨R,i,none⟩ v) R (cs.set i v):=by
 refine⟨by simp;exact h.1,fun j hj=>?_⟩;rw[List.length_set]at hj;obtain⟨c1,f1⟩:=h.2 j hj;obtain⟨c2,f2⟩:=h.2 i hi
 by_cases e:i=j
 · subst e;refine⟨?_,by go_simp⟩;rw[List.getElem_set_self]
   go_simp
 · refine⟨?_,by go_simp⟩;rw[List.getElem_set_ne e];have:(⟨R,i,none⟩:Addr)≠⟨R,j,none⟩:=fun h=>e (by injection h)
   go_simp
theorem Blk.setOther {w:World} {R S i:Nat} {cs:List Value} (h:Blk w R cs) (hne:S≠R) (v:Value):Blk (w.setCell ⟨S,i,none⟩ v) R cs:=
 h.grownR (zK w S i v) (by intro e;injection e with e;exact hne e.symm)
def zFJ (v:Value):List Value:=[.int .i64 4,.string ⟨#[]⟩,v,.int .i64 0,.int .i64 0,.bool false,.slice none 0 0,.int .i64 0,.bool false]
structure QuoS (w wr:World) (g:Nat) (A:Option Addr) (n c p:Nat) (v:Value) (acc:List UInt16):Prop where
 mv:Mv w wr g A n c p
 zero:Blk wr w.heap.size zAp
 tok:Blk wr (w.heap.size+1) (zFJ v)
 own:wr.ownsRow (w.heap.size+2) 24 1 v acc.length (zAD acc)
theorem QuoS.mov {w wr w':World} {g n c p p':Nat} {A:Option Addr} {v:Value} {acc:List UInt16} (h:QuoS w wr g A n c p v acc) (hg:g < w.heap.size) (hm:Mv wr w' g A n c p'):QuoS w w' g A n c p' v acc:=
 ⟨h.mv.then hm,h.zero.grown hm.grown (by omega),h.tok.grown hm.grown (by omega),zBK h.own hm.grown (by omega)⟩
theorem QuoS.app {w wr w':World} {g n c p:Nat} {A:Option Addr} {v v':Value} {acc acc':List UInt16} (h:QuoS w wr g A n c p v acc) (hg:g < w.heap.size) (hgr:wr.grownBy w' v.ownBlock)
 (ho:w'.ownsRow (w.heap.size+2) 24 1 v' acc'.length (zAD acc')):QuoS w (w'.setCell ⟨w.heap.size+1,2,none⟩ v') g A n c p v' acc':=by
 have hne:∀k,k < w.heap.size+2→some k≠v.ownBlock:=fun k hk e=>by have:=(h.own.lt k e.symm).1;omega
 have hrd:Rd w' g A n c p:=⟨hgr.cell h.mv.rd.c0 (hne g (by omega)),hgr.cell h.mv.rd.c1 (hne g (by omega)),(World.frozen?_of_block (w:=wr) (hgr.block g h.mv.rd.lt (hne g (by omega)))).trans h.mv.rd.f1⟩;have hs:=zK w' (w.heap.size+1) 2 v';refine⟨⟨⟨zAu hs hrd.c0 (show g≠w.heap.size+1 by omega),zAu hs hrd.c1 (show g≠w.heap.size+1 by omega),(zCG (p:=⟨g,1,none⟩) hs hrd.lt (show g≠w.heap.size+1 by omega)).trans hrd.f1⟩,?_⟩,?_,?_,?_⟩
 · refine⟨hs.os.trans (hgr.os.trans h.mv.grown.os),hs.tape.trans (hgr.tape.trans h.mv.grown.tape),hs.output.trans (hgr.output.trans h.mv.grown.output),yAD h.mv.grown.size (yAD hgr.size hs.size),fun k hk hk2=>?_⟩;have hkr:=yAA hk h.mv.grown.size;exact(hs.block k (yAA hkr hgr.size) (by intro e;injection e with e;omega)).trans ((hgr.block k hkr (hne k (by omega))).trans (h.mv.grown.block k hk hk2))
 · exact(h.zero.grownR hgr (hne _ (by omega))).setOther (by omega) _
 · exact(h.tok.grownR hgr (hne _ (by omega))).set (by simp[zFJ]) _
 · exact zBK ho hs (by omega)
section
variable {P:Program} {w:World} {ops:Array Oper} {rest:List Oper} {o:Oper} {a:Act} {Q:Exit→Act→World→Prop}
theorem zEW (hgd:o.guard=none) (s x:Operand) (t:TypeId)
 (ho:o.op=.call {callee:=.builtin .append,args:=#[s,x],argTypes:=#[t,t]})
 (e:TypeId) (i:TypeInfo) (z:Value) (bytes:Nat) (ht:P.underlying t=some (.slice e)) (hi:P.info? e=some i) (hz:i.zero=some z)
 (hsize:i.size=1) (hby:i.bytes=bytes) (hzs:z.cells.size=1) (base:Nat) (hbase:base≤w.heap.size)
 (v:Value) (xs:List Value) (k:Nat) (hk:xs.length=k) (hs:a.eval s=v) (hm:w.ownsRow base e 1 v k xs)
 (cs:List Value) (m c:Nat) (hx:a.eval x=.slice (some ⟨w.heap.size,0,none⟩) m c) (hl:cs.length=m) (h1:(cs.all fun u=>u.oneCell')=true)
 (hsz:xs.length+m≤70368744177664) (hb2:bytes≤2)
 (h:∀v' w',w'.ownsRow base e 1 v' (xs++cs).length (xs++cs)→w.grownBy w' v.ownBlock→wpList P ops Q rest (a.put o.dst v') w'):wpList P ops Q (o::rest) a (w.alloc (.cells cs.toArray e)):=by
 subst hl hk;refine wpList_append_own (w.alloc (.cells cs.toArray e)) hgd s x t ho base e i z 1 bytes ht hi hz hsize hby hzs (by omega) v xs.length xs hs (hm.alloc _) ⟨w.heap.size,0,none⟩ _ c cs hx (by omega) ?_ (fun u hu=>List.all_eq_true.1 h1 u hu) (by unfold maxLen;omega) ?_ (yAD hbase (by simp)) ?_
 · intro j u hu;rw[Addr.add_lit,World.cell?_alloc_at _ _ _ _ rfl];simpa using hu
 · calc (xs.length+cs.length)*bytes≤70368744177664*2:=Nat.mul_le_mul hsz hb2
    _≤140737488355328:=by omega
 · intro v' w' h1 h2 _;exact h v' w' (by rw[List.length_append];exact h1) (zC (zG w _ _) h2)
end
theorem zAC {w0 w:World} {R g:Nat} {v0 v1 v2 v3 v4 v5 v6 v7 v8:Value} (h:w0.grownBy w (some g)) (hR:w0.heap.size≤R):w0.grownBy (((((((((w.setCell ⟨R,0,none⟩ v0).setCell ⟨R,1,none⟩ v1).setCell ⟨R,2,none⟩ v2).setCell ⟨R,3,none⟩ v3).setCell ⟨R,4,none⟩ v4).setCell ⟨R,5,none⟩ v5).setCell ⟨R,6,none⟩ v6).setCell ⟨R,7,none⟩ v7).setCell ⟨R,8,none⟩ v8) (some g):=by
 have hs:=zA6 (w:=w) (R:=R) (v0:=v0) (v1:=v1) (v2:=v2) (v3:=v3) (v4:=v4) (v5:=v5) (v6:=v6) (v7:=v7) (v8:=v8);exact⟨hs.os.trans h.os,hs.tape.trans h.tape,hs.output.trans h.output,yAD h.size hs.size,fun i hi hne=>(hs.block i (yAA hi h.size) (fun e=>by injection e with e;omega)).trans (h.block i hi hne)⟩
def zP2 (q:UInt16) (u:List UInt16) (k p:Nat) (acc:List UInt16):Prop:=∃i,p=k+1+i∧zDV q (u.drop (k+1)) []=zGT i (zDV q (u.drop p) acc)
theorem zHQ {q:UInt16} {r:List UInt16} {e e' m:Nat} {t:Tok} (h:zBD q r=(e,t,m)) (h2:(zDV q r []).1=e') (he:e'≠0):e'=e:=by
 subst h2;have hq:zO1 q r=zDV q r []:=rfl;unfold zBD at h;rw[hq,if_pos he]at h;exact(zBS h).1
theorem zGU {q:UInt16} {r s:List UInt16} {e m i:Nat} {t:Tok} (h:zBD q r=(e,t,m)) (h2:zDV q r []=(0,s,i)):e=0∧t={zj with kind:=4,str:=s}∧m=1+i:=by
 unfold zBD at h;have:zO1 q r=zDV q r []:=rfl;rw[this,h2,if_neg (by simp)]at h;obtain⟨h1,h3,h4⟩:=zES h;exact⟨h1.symm,h3.symm,h4.symm⟩
theorem zGV (l:List UInt16) (x:UInt16):zAD l++[.int .u16 (x.toNat:Int)]=zAD (l++[x]):=by simp[zAD,zQp]
theorem zEX {A:Option Addr} {c g B k n:Nat} {u:List UInt16} {w:World} (hr:Rd w g A n c k) (hn:u.length=n) (ha:Reads w B 1 A n (zAD u)) (hB:B≤g) (hk:k < u.length) (hl:n≤4096) {m e:Nat} {t:Tok} (hq:zBD u[k] (u.drop (k+1))=(e,t,m)):
 Calls prog 70 #[.pointer (some ⟨g,0,none⟩)] w fun ev w'=>∃v,ev=.returned (.tuple #[v,.int .i64 (e:Int)])∧(e≠0→v=noV)∧(e=0→zQo w' w.heap.size t v∧Mv w w' g A n c (k+m))∧w.grownBy w' (some g):=by
 subst hn;obtain⟨i0,hi0,hz0,hz1,hz2⟩:=info_parts Tryz.info_u16;have hg:=hr.lt;have HA:=zA ha;obtain⟨q,hqq⟩:∃q,u[k]=q:=⟨_,rfl⟩;rw[hqq]at hq;have hE:=zA (fun e' h2 he=>zHQ (e':=e') hq h2 he);have hGood:=zA (fun s i h2=>zGU (s:=s) (i:=i) hq h2);have hQ0:QuoS w ((w.alloc (.cells zAp.toArray 44)).alloc (.cells (zFJ (.slice none 0 0)).toArray 44)) g A u.length c k (.slice none 0 0) []:=by
  have hW2:Below w.heap.size w ((w.alloc (.cells zAp.toArray 44)).alloc (.cells (zFJ (.slice none 0 0)).toArray 44)):=((Below.refl _ w).alloc (yAC _) _).alloc (by simp) _;refine⟨⟨(hr.alloc _).alloc _,zi _ hW2⟩,?_,?_,yAJ _ _ _ _⟩
  · exact(Blk.new w zAp 44).below ((Below.refl _ _).alloc (yAC _) _) (by simp)
  · have:=Blk.new (w.alloc (.cells zAp.toArray 44)) (zFJ (.slice none 0 0)) 44;rwa [show(w.alloc (.cells zAp.toArray 44)).heap.size=w.heap.size+1 by simp]at this
 have HQ0:=zA hQ0;have hc0:=hr.c0;have hc1:=hr.c1;obtain⟨blk,off,rfl,hblk,hcell⟩:=ha.spotL (by omega);have hca:=hcell k hk;rw[hqq]at hca;have hbw:blk < w.heap.size:=by omega
 have hlt2:(k:Int) < (u.length:Int):=by omega
 clear hq hQ0 ha hr hcell hqq;go_enter func70,ntmps70;go_upto_region 2 with(fail)
 go_cut [5] (fun x wx=>x=.int .u16 (q.toNat:Int)∧Hid (QuoS w wx g (some ⟨blk,off,none⟩) u.length c k (.slice none 0 0) []))
 case first=>
  go_quiet (fail)
  go_wp2_with fail;go_meet;exact⟨rfl,HQ0.out.mov hg ((Mv.refl HQ0.out.mv.rd).drewN _)⟩
 case rest=>
  obtain⟨hx,hS⟩:=hcut;subst hx;clear hc0 hc1 hca HQ0;have hc1:=hS.out.mv.rd.c1;have hf1:=hS.out.mv.rd.f1;go_wp2;have hS1:=zA (hS.out.mov hg (Mv.step (Mv.refl hS.out.mv.rd) (z:=(k:Int)+1) (k':=k+1) (by omega)));clear hc1 hf1 hS
  go_loopg [6] (u.length - (k+1)) (fun r x wr=>∃p acc v,p+r=u.length∧Hid (QuoS w wr g (some ⟨blk,off,none⟩) u.length c p v acc)∧acc.length≤p∧Hid (zP2 q u k p acc))
  case atStart=>exact⟨k+1,[],.slice none 0 0,by omega,hS1,yAE _,0,by omega,by simp[zGT]⟩
  case round=>
   obtain⟨p,acc,v,hpr,hS,hacc,hat⟩:=hrel;have hc0:=hS.out.mv.rd.c0;have hc1:=hS.out.mv.rd.c1;have hf1:=hS.out.mv.rd.f1;have har:=zA (HA.out.grown hS.out.mv.grown hB (Nat.le_of_lt hg))
   by_cases hlt:p < u.length
   · have hlt2:(p:Int) < (u.length:Int):=by omega
     obtain⟨blk2,off2,hA2,_,hcell⟩:=har.out.spotL (by omega);injection hA2 with hA2;injection hA2 with e1 e2;subst e1 e2;have hca:=hcell p hlt;have hdr:=zA (yAH hlt);obtain⟨x,hx⟩:∃x,u[p]=x:=⟨_,rfl⟩;rw[hx]at hca hdr;clear hcell hx;cases hln:zAJ x with
     | true=>
      have hz:=zA (show(zDV q (u.drop (k+1)) []).1=5 by
       obtain⟨i,hi,he⟩:=hat.out;rw[he,hdr.out,zLM hln];rfl)
      have hzr:=zA hS.out.zero;obtain⟨c0,f0⟩:=hzr.out.2 0 (by decide);obtain⟨c1,f1⟩:=hzr.out.2 1 (by decide);obtain⟨c2,f2⟩:=hzr.out.2 2 (by decide);obtain⟨c3,f3⟩:=hzr.out.2 3 (by decide);obtain⟨c4,f4⟩:=hzr.out.2 4 (by decide);obtain⟨c5,f5⟩:=hzr.out.2 5 (by decide);obtain⟨c6,f6⟩:=hzr.out.2 6 (by decide);obtain⟨c7,f7⟩:=hzr.out.2 7 (by decide);obtain⟨c8,f8⟩:=hzr.out.2 8 (by decide);go_wp2_with fail
      go_quiet (first | (go_at_call 63;refine Calls.quiet_of_same ((zw _ _).mono fun _ _ h=>zCL h)))
      go_wp2;obtain⟨q0,q1,q2,q3,q4,q5,q6,q7,q8⟩:=zS (v0:=.int .i64 0) (v1:=.string ⟨#[]⟩) (v2:=.slice none 0 0) (v3:=.int .i64 0) (v4:=.int .i64 0) (v5:=.bool false) (v6:=.slice none 0 0) (v7:=.int .i64 0) (v8:=.bool false) (hzr.out.grown (zp wr (some g) nq) (by omega)) rfl;refine bodyPost_ret (v:=.tuple #[.agg #[.int .i64 0,.string ⟨#[]⟩,.slice none 0 0,.int .i64 0,.int .i64 0,.bool false,.slice none 0 0,.int .i64 0,.bool false],.int .i64 5]) (by simp[results,results70,go_sem,q0,q1,q2,q3,q4,q5,q6,q7,q8]) rfl ?_;obtain rfl:=hE.out _ hz.out (by decide);exact⟨_,rfl,fun _=>rfl,fun h=>absurd h (by first | decide | assumption),(zn (hS.out.mv.drewN _) (yAC _) hg).grown⟩
     | false=>
      have HLN:=zA hln;go_wp2_with fail
      go_quiet (first | (go_at_call 63;refine Calls.quiet_of_same ((zw _ _).mono fun _ _ h=>zCL h)))
      go_upto_region 5 with(fail)
      go_cut [6] (fun xx wx=>xx=.int .u16 (x.toNat:Int)∧Hid (QuoS w wx g (some ⟨blk,off,none⟩) u.length c p v acc))
      case first=>
       go_quiet (fail)
       go_wp2_with fail;go_meet;exact⟨rfl,hS.out.mov hg (((Mv.refl hS.out.mv.rd).drewN _).drewN _)⟩
      case rest=>
       obtain⟨hxx,hS5⟩:=hcut;subst hxx;clear hc0 hc1 hf1 hca hS har;have hc1:=hS5.out.mv.rd.c1;have hf1:=hS5.out.mv.rd.f1;go_upto_region 6 with(fail)
       go_cut [5] (fun qq wx=>qq=.int .u16 (q.toNat:Int)∧Hid (QuoS w wx g (some ⟨blk,off,none⟩) u.length c (p+1) v acc))
       case first=>
        go_wp2_with fail;go_meet;exact⟨rfl,hS5.out.mov hg (Mv.step (Mv.refl hS5.out.mv.rd) (by omega))⟩
       case rest=>
        obtain⟨hqx,hS⟩:=hcut;subst hqx;clear hc1 hf1 hS5;have hbase:w.heap.size+2≤wc.heap.size:=hS.out.tok.1;have hneT:some (w.heap.size+1)≠v.ownBlock:=fun e=>by have:=(hS.out.own.lt _ e.symm).1;omega
        by_cases hxq:x=q
        · have e1:((x.toNat:Int)==(q.toNat:Int))=true:=by rw[hxq];simp
          have hz:=zA (show∃i,p=k+1+i∧zDV q (u.drop (k+1)) []=(0,acc,i+1) by
           obtain⟨i,hi,he⟩:=hat.out;refine⟨i,hi,?_⟩;rw[he,hdr.out,hxq,zNZ (by rw[←hxq];exact HLN.out)];rfl)
          obtain⟨Av,cv,rfl,_,_⟩:=zR hS.out.own;have htb:=zA hS.out.tok;have hzr:=zA hS.out.zero;have a0:wc.cell? ⟨w.heap.size+1,0,none⟩=some (.int .i64 4):=(htb.out.2 0 (by simp[zFJ])).1;have a1:wc.cell? ⟨w.heap.size+1,1,none⟩=some (.string ⟨#[]⟩):=(htb.out.2 1 (by simp[zFJ])).1;have a2:wc.cell? ⟨w.heap.size+1,2,none⟩=some (.slice Av acc.length cv):=(htb.out.2 2 (by simp[zFJ])).1;have a3:wc.cell? ⟨w.heap.size+1,3,none⟩=some (.int .i64 0):=(htb.out.2 3 (by simp[zFJ])).1;have a4:wc.cell? ⟨w.heap.size+1,4,none⟩=some (.int .i64 0):=(htb.out.2 4 (by simp[zFJ])).1;have a5:wc.cell? ⟨w.heap.size+1,5,none⟩=some (.bool false):=(htb.out.2 5 (by simp[zFJ])).1;have a6:wc.cell? ⟨w.heap.size+1,6,none⟩=some (.slice none 0 0):=(htb.out.2 6 (by simp[zFJ])).1;have a7:wc.cell? ⟨w.heap.size+1,7,none⟩=some (.int .i64 0):=(htb.out.2 7 (by simp[zFJ])).1;have a8:wc.cell? ⟨w.heap.size+1,8,none⟩=some (.bool false):=(htb.out.2 8 (by simp[zFJ])).1;obtain⟨b0,fb0⟩:=hzr.out.2 0 (by decide);obtain⟨b1,fb1⟩:=hzr.out.2 1 (by decide);obtain⟨b2,fb2⟩:=hzr.out.2 2 (by decide);obtain⟨b3,fb3⟩:=hzr.out.2 3 (by decide);obtain⟨b4,fb4⟩:=hzr.out.2 4 (by decide);obtain⟨b5,fb5⟩:=hzr.out.2 5 (by decide);obtain⟨b6,fb6⟩:=hzr.out.2 6 (by decide);obtain⟨b7,fb7⟩:=hzr.out.2 7 (by decide);obtain⟨b8,fb8⟩:=hzr.out.2 8 (by decide);clear hxq;go_wp2;obtain⟨q0,q1,q2,q3,q4,q5,q6,q7,q8⟩:=zS (v0:=.int .i64 4) (v1:=.string ⟨#[]⟩) (v2:=.slice Av acc.length cv) (v3:=.int .i64 0) (v4:=.int .i64 0) (v5:=.bool false) (v6:=.slice none 0 0) (v7:=.int .i64 0) (v8:=.bool false) hzr.out rfl;refine bodyPost_ret (v:=.tuple #[.agg #[.int .i64 4,.string ⟨#[]⟩,.slice Av acc.length cv,.int .i64 0,.int .i64 0,.bool false,.slice none 0 0,.int .i64 0,.bool false],.int .i64 0]) (by simp[results,results70,go_sem,q0,q1,q2,q3,q4,q5,q6,q7,q8]) rfl ?_;obtain⟨i,hi,hz2⟩:=hz.out;obtain⟨z1,z2,z3⟩:=hGood.out _ _ hz2;subst z1 z2 z3;refine⟨_,rfl,fun h=>absurd rfl h,fun _=>⟨⟨.slice Av acc.length cv,_,rfl,zAG (zAZ hS.out.own (by omega)) (by omega),yAJ _ _ _ _⟩,?_⟩,(zn hS.out.mv (yAC _) hg).grown⟩;rw[show k+(1+(i+1))=p+1 by omega];exact zn hS.out.mv (yAC _) hg
        · have e1:((x.toNat:Int)==(q.toNat:Int))=false:=by
           rw[yA];intro h;exact hxq (UInt16.toNat_inj.1 (by omega))
          have hx16:=x.toNat_lt
          by_cases h92:x.toNat=92
          · have e2:((x.toNat:Int)==92)=true:=by rw[h92];rfl
            have H92:=zA h92;clear h92;obtain⟨⟨ee,y,ne⟩,hesc⟩:∃z,zDM (u.drop (p+1))=z:=⟨_,rfl⟩;have HESC:=zA hesc;have har:=zA (HA.out.grown hS.out.mv.grown hB (Nat.le_of_lt hg))
            by_cases hee:ee=0
            · subst hee;have hlen:=zEC (l:=u.drop (p+1)) (by rw[hesc]);rw[hesc,List.length_drop]at hlen;have hz:=zA (fun i (hi:p=k+1+i) (he:zDV q (u.drop (k+1)) []=zGT i (zDV q (u.drop p) acc))=>(by
               refine⟨i+(1+ne),by omega,?_⟩;rw[he,hdr.out,zNb HLN.out hxq H92.out hesc,List.drop_drop];simp only[zGT];congr 2;omega:zP2 q u k (p+1+ne) (acc++[y])))
              clear hesc hxq;go_wp2_with fail;refine(zEV hS.out.mv.rd rfl har.out hB hlt hl HESC.out).mono ?_;rintro e5 w5 ⟨rfl,hM5,hG5⟩;have hS6:=zA (hS.out.mov hg (hM5 rfl));have hbase6:w.heap.size+2≤w5.heap.size:=hS6.out.tok.1;have a2:w5.cell? ⟨w.heap.size+1,2,none⟩=some v:=(hS6.out.tok.2 2 (by simp[zFJ])).1;clear hM5 hG5;go_wp2_with (at_builtin;refine zEW rfl _ _ 22 rfl 24 i0 _ 2 underlying22 hi0 hz0 hz1 hz2 rfl (w.heap.size+2) hbase6 v (zAD acc) acc.length (zBk _) rfl hS6.out.own [.int .u16 (y.toNat:Int)] 1 1 rfl rfl rfl (by rw[zBk];omega) (by omega) ?_;intro v' w' ho hgr;obtain⟨Av,cv,rfl,_,_⟩:=zR ho;have d2:w'.cell? ⟨w.heap.size+1,2,none⟩=some v:=((hS6.out.tok.grownR hgr hneT).2 2 (by simp[zFJ])).1;have fd2:=((hS6.out.tok.grownR hgr hneT).2 2 (by simp[zFJ])).2)
              go_roundg (u.length - (p+1+ne))
              case measure=>omega
              case rel=>
               refine⟨p+1+ne,acc++[y],_,by omega,hS6.out.app hg hgr (by rw[zGV,zBk]at ho;rw[show(zAD acc).length+1=(acc++[y]).length by simp[zAD]];exact ho),by simp;omega,?_⟩;obtain⟨i,hi,he⟩:=hat.out;exact hz.out i hi he
            · have hz:=zA (show(zDV q (u.drop (k+1)) []).1=ee by
               obtain⟨i,hi,he⟩:=hat.out;rw[he,hdr.out,zNa HLN.out hxq H92.out (by rw[hesc];exact hee),hesc];rfl)
              have he1:((ee:Int) !=0)=true:=by rw[bne_iff_ne];omega
              clear hesc hxq;go_wp2_with fail;refine(zEV hS.out.mv.rd rfl har.out hB hlt hl HESC.out).mono ?_;rintro e5 w5 ⟨rfl,_,hG5⟩;have hzr:=zA (hS.out.zero.grown hG5 (by omega));have hG6:=zA (zC hS.out.mv.grown hG5);clear hG5;obtain⟨b0,fb0⟩:=hzr.out.2 0 (by decide);obtain⟨b1,fb1⟩:=hzr.out.2 1 (by decide);obtain⟨b2,fb2⟩:=hzr.out.2 2 (by decide);obtain⟨b3,fb3⟩:=hzr.out.2 3 (by decide);obtain⟨b4,fb4⟩:=hzr.out.2 4 (by decide);obtain⟨b5,fb5⟩:=hzr.out.2 5 (by decide);obtain⟨b6,fb6⟩:=hzr.out.2 6 (by decide);obtain⟨b7,fb7⟩:=hzr.out.2 7 (by decide);obtain⟨b8,fb8⟩:=hzr.out.2 8 (by decide);go_wp2;obtain⟨q0,q1,q2,q3,q4,q5,q6,q7,q8⟩:=zS (v0:=.int .i64 0) (v1:=.string ⟨#[]⟩) (v2:=.slice none 0 0) (v3:=.int .i64 0) (v4:=.int .i64 0) (v5:=.bool false) (v6:=.slice none 0 0) (v7:=.int .i64 0) (v8:=.bool false) hzr.out rfl;refine bodyPost_ret (v:=.tuple #[.agg #[.int .i64 0,.string ⟨#[]⟩,.slice none 0 0,.int .i64 0,.int .i64 0,.bool false,.slice none 0 0,.int .i64 0,.bool false],.int .i64 (ee:Int)]) (by simp[results,results70,go_sem,q0,q1,q2,q3,q4,q5,q6,q7,q8]) rfl ?_;obtain rfl:=hE.out _ hz.out hee;exact⟨_,rfl,fun _=>rfl,fun h=>absurd h hee,zAC hG6.out (yAC _)⟩
          · have e2:((x.toNat:Int)==92)=false:=yA.2 (by omega);have hz:=zA (fun i (hi:p=k+1+i) (he:zDV q (u.drop (k+1)) []=zGT i (zDV q (u.drop p) acc))=>(by
             refine⟨i+1,by omega,?_⟩;rw[he,hdr.out,zJN HLN.out hxq h92];simp only[zGT];congr 2;omega:zP2 q u k (p+1) (acc++[x])))
            clear h92 hxq;have a2:wc.cell? ⟨w.heap.size+1,2,none⟩=some v:=(hS.out.tok.2 2 (by simp[zFJ])).1;go_wp2_with (at_builtin;refine zEW rfl _ _ 22 rfl 24 i0 _ 2 underlying22 hi0 hz0 hz1 hz2 rfl (w.heap.size+2) hbase v (zAD acc) acc.length (zBk _) rfl hS.out.own [.int .u16 (x.toNat:Int)] 1 1 rfl rfl rfl (by rw[zBk];omega) (by omega) ?_;intro v' w' ho hgr;obtain⟨Av,cv,rfl,_,_⟩:=zR ho;have d2:w'.cell? ⟨w.heap.size+1,2,none⟩=some v:=((hS.out.tok.grownR hgr hneT).2 2 (by simp[zFJ])).1;have fd2:=((hS.out.tok.grownR hgr hneT).2 2 (by simp[zFJ])).2)
            go_roundg (gk - 1)
            case measure=>omega
            case rel=>
             refine⟨p+1,acc++[x],_,by omega,hS.out.app hg hgr (by rw[zGV,zBk]at ho;rw[show(zAD acc).length+1=(acc++[x]).length by simp[zAD]];exact ho),by simp;omega,?_⟩;obtain⟨i,hi,he⟩:=hat.out;exact hz.out i hi he
   · obtain rfl:p=u.length:=by omega
     have hz:=zA (show(zDV q (u.drop (k+1)) []).1=5 by
      obtain⟨i,hi,he⟩:=hat.out;rw[he,List.drop_length,zNY];rfl)
     have hzr:=zA hS.out.zero;obtain⟨c0,f0⟩:=hzr.out.2 0 (by decide);obtain⟨c1,f1⟩:=hzr.out.2 1 (by decide);obtain⟨c2,f2⟩:=hzr.out.2 2 (by decide);obtain⟨c3,f3⟩:=hzr.out.2 3 (by decide);obtain⟨c4,f4⟩:=hzr.out.2 4 (by decide);obtain⟨c5,f5⟩:=hzr.out.2 5 (by decide);obtain⟨c6,f6⟩:=hzr.out.2 6 (by decide);obtain⟨c7,f7⟩:=hzr.out.2 7 (by decide);obtain⟨c8,f8⟩:=hzr.out.2 8 (by decide);go_wp2_with fail
     go_quiet (fail)
     go_wp2;obtain⟨q0,q1,q2,q3,q4,q5,q6,q7,q8⟩:=zS (v0:=.int .i64 0) (v1:=.string ⟨#[]⟩) (v2:=.slice none 0 0) (v3:=.int .i64 0) (v4:=.int .i64 0) (v5:=.bool false) (v6:=.slice none 0 0) (v7:=.int .i64 0) (v8:=.bool false) (hzr.out.grown (zp wr (some g) nq) (by omega)) rfl;refine bodyPost_ret (v:=.tuple #[.agg #[.int .i64 0,.string ⟨#[]⟩,.slice none 0 0,.int .i64 0,.int .i64 0,.bool false,.slice none 0 0,.int .i64 0,.bool false],.int .i64 5]) (by simp[results,results70,go_sem,q0,q1,q2,q3,q4,q5,q6,q7,q8]) rfl ?_;obtain rfl:=hE.out _ hz.out (by decide);exact⟨_,rfl,fun _=>rfl,fun h=>absurd h (by decide),(zn (hS.out.mv.drewN nq) (yAC _) hg).grown⟩
theorem Tryz.info_u32:(prog.info? 87).map (fun i=>(i.zero,i.size,i.bytes))=some (some (.int .u32 0),1,4):=by kernel_rfl
def zLN (v:Nat) (w:World) (e:Ending) (w':World):Prop:=
 ∃(X:Option Addr) (mx cx er:Nat),e=.returned (.tuple #[.agg #[.bool false,.slice X mx cx],.int .i64 (er:Int)])∧Below w.heap.size w w'∧
  (er=0∧v < zEn∧w'.ownsRow w.heap.size 87 1 (.slice X mx cx) (zAz v).length (zBm (zAz v))∨er=3∧zEn≤v)
def AtMul (ms:List Nat) (d k c:Nat) (outs:List Nat):Prop:=outs.length=k∧zBe ms d=(outs++(zBe (ms.drop k) c).1,(zBe (ms.drop k) c).2)
theorem AtMul.start (ms:List Nat) (d:Nat):AtMul ms d 0 d []:=⟨rfl,rfl⟩
theorem AtMul.step {ms:List Nat} {d k c:Nat} {outs:List Nat} (h:AtMul ms d k c outs) (hk:k < ms.length):AtMul ms d (k+1) ((c+10*ms[k]) / 4294967296) (outs++[(c+10*ms[k]) % 4294967296]):=by
 obtain⟨h1,h2⟩:=h;refine⟨by simp[h1],?_⟩;rw[h2,yAH hk,zBe];simp
theorem AtMul.done {ms:List Nat} {d c:Nat} {outs:List Nat} (h:AtMul ms d ms.length c outs):zBe ms d=(outs,c):=by
 obtain⟨h1,h2⟩:=h;rw[h2,List.drop_length];simp[zBe]
def zBo (ms outs:List Nat):List Nat:=outs++ms.drop outs.length
theorem zGW {ms outs:List Nat} (h:outs.length < ms.length):(zBo ms outs)[outs.length]? =some ms[outs.length]:=by
 unfold zBo;rw[List.getElem?_append_right (yAC _),Nat.sub_self,List.getElem?_drop];simp[yAB h]
theorem zGX {ms outs:List Nat} (h:outs.length < ms.length) (x:Nat):(zBo ms outs).set outs.length x=zBo ms (outs++[x]):=by
 unfold zBo;rw[List.set_append_right _ _ (yAC _),Nat.sub_self,yAH h,List.set_cons_zero];simp
theorem zNc (l:List Nat) (k x:Nat):(zBm l).set k (.int .u32 (x:Int))=zBm (l.set k x):=by
 simp[zBm,List.map_set]
section
variable {P:Program} {w:World} {ops:Array Oper} {rest:List Oper} {o:Oper} {a:Act} {Q:Exit→Act→World→Prop}
theorem zCo (hgd:o.guard=none) (s x:Operand) (t:TypeId)
 (ho:o.op=.call {callee:=.builtin .append,args:=#[s,x],argTypes:=#[t,t]})
 (e:TypeId) (i:TypeInfo) (z:Value) (size bytes:Nat) (ht:P.underlying t=some (.slice e)) (hi:P.info? e=some i) (hz:i.zero=some z)
 (hsize:i.size=size) (hby:i.bytes=bytes) (hzs:z.cells.size=size) (hsz0:0 < size) (base:Nat) (hbase:base≤w.heap.size)
 (v:Value) (xs:List Value) (k:Nat) (hs:a.eval s=v) (hm:w.ownsRow base e size v k xs)
 (cs:List Value) (m c:Nat) (hx:a.eval x=.slice (some ⟨w.heap.size,0,none⟩) m c) (hl:cs.length=m*size) (h1:(cs.all fun u=>u.oneCell')=true)
 (hsz:k+m≤70368744177664) (hb2:(k+m)*bytes≤140737488355328)
 (h:∀v' w',w'.ownsRow base e size v' (k+m) (xs++cs)→w.grownBy w' v.ownBlock→wpList P ops Q rest (a.put o.dst v') w'):wpList P ops Q (o::rest) a (w.alloc (.cells cs.toArray e)):=by
 refine wpList_append_own (w.alloc (.cells cs.toArray e)) hgd s x t ho base e i z size bytes ht hi hz hsize hby hzs hsz0 v k xs hs (hm.alloc _) ⟨w.heap.size,0,none⟩ _ c cs hx hl ?_ (fun u hu=>List.all_eq_true.1 h1 u hu) (by unfold maxLen;omega) hb2 (yAD hbase (by simp)) ?_
 · intro j u hu;rw[Addr.add_lit,World.cell?_alloc_at _ _ _ _ rfl];simpa using hu
 · intro v' w' h1 h2 _;exact h v' w' h1 (zC (zG w _ _) h2)
end
theorem zDW {w:World} {R:Nat} {cs:List Value} {v0 v1:Value} (h:Blk w R cs) (hl:cs.length=2):((w.setCell ⟨R,0,none⟩ v0).setCell ⟨R,1,none⟩ v1).cell? ⟨R,0,none⟩=some v0∧((w.setCell ⟨R,0,none⟩ v0).setCell ⟨R,1,none⟩ v1).cell? ⟨R,1,none⟩=some v1:=by
 obtain⟨c0,f0⟩:=h.2 0 (by omega);obtain⟨c1,f1⟩:=h.2 1 (by omega);refine⟨?_,?_⟩
 all_goals go_simp
theorem zDX {w0 w:World} {R:Nat} {v0 v1:Value} (h:Below w0.heap.size w0 w) (hR:w0.heap.size≤R):Below w0.heap.size w0 ((w.setCell ⟨R,0,none⟩ v0).setCell ⟨R,1,none⟩ v1):=(h.setCell hR _).setCell hR _
theorem zNd {w:World} {R base e n:Nat} {v v0 v1:Value} {xs:List Value} (h:w.ownsRow base e 1 v n xs) (hb:R < base):((w.setCell ⟨R,0,none⟩ v0).setCell ⟨R,1,none⟩ v1).ownsRow base e 1 v n xs:=
 zBK (zBK h (zK w R 0 v0) hb) (zK _ R 1 v1) hb
theorem zLO {A:Option Addr} {c B n:Nat} {xs:List Nat} {w:World} (hn:xs.length=n) (ha:Reads w B 1 A n (zBm xs)) (hB:B≤w.heap.size) (hl:n≤4096) (hc:n≤c) (hc2:c≤maxLen) (hm:zAo xs=xs) (h0:n=0):
 Calls prog 184 #[.slice A n c,.bool false] w fun e w'=>e=.returned (.agg #[.bool false,.slice none 0 0])∧Below w.heap.size w w':=by
 have:=zII (c:=c) hn ha hB hl hc hc2 (m:=n) (by rw[hm,hn]);unfold zLF at this;rw[if_pos h0]at this;exact this
theorem zLP {A:Option Addr} {c B n:Nat} {xs:List Nat} {w:World} (hn:xs.length=n) (ha:Reads w B 1 A n (zBm xs)) (hB:B≤w.heap.size) (hl:n≤4096) (hc:n≤c) (hc2:c≤maxLen) (hm:zAo xs=xs) (h0:n≠0):
 Calls prog 184 #[.slice A n c,.bool false] w fun e w'=>e=.returned (.agg #[.bool false,.slice A n c])∧Below w.heap.size w w':=by
 have:=zII (c:=c) hn ha hB hl hc hc2 (m:=n) (by rw[hm,hn]);unfold zLF at this;rw[if_neg h0]at this;exact this
structure PaS (w wr:World) (v:Value) (n:Nat) (ms:List Nat):Prop where
 own:wr.ownsRow (w.heap.size+1) 87 1 v n (zBm ms)
 res:Blk wr w.heap.size [.bool false,.slice none 0 0]
 below:Below w.heap.size w wr
theorem PaS.grown {w wr w':World} {v v':Value} {n n':Nat} {ms ms':List Nat} (h:PaS w wr v n ms) (hg:wr.grownBy w' v.ownBlock) (ho:w'.ownsRow (w.heap.size+1) 87 1 v' n' (zBm ms')):PaS w w' v' n' ms':=
 ⟨ho,h.res.grownR hg (fun e=>by have:=(h.own.lt _ e.symm).1;omega),h.below.grown hg h.below.size (fun k hk=>by have:=(h.own.lt k hk).1;omega)⟩
def AtPar (l:List UInt16) (i:Nat) (ms:List Nat):Prop:=i≤l.length∧zg (l.take i) < zEn∧ms=zAz (zg (l.take i))
theorem PaS.below' {w wr w':World} {v:Value} {n:Nat} {ms:List Nat} (h:PaS w wr v n ms) (hb:Below wr.heap.size wr w'):PaS w w' v n ms:=
 ⟨zCH h.own hb,h.res.below hb h.res.1,h.below.trans (hb.mono h.below.size)⟩
theorem PaS.trimmed {w wr w':World} {A Av:Option Addr} {n cp cv m:Nat} {outs zs:List Nat} {c:Nat} (h:PaS w wr (.slice A n cp) n outs) (hg:wr.grownBy w' (Value.ownBlock (.slice A n cp))) (ho:w'.ownsRow (w.heap.size+1) 87 1 (.slice Av (n+1) cv) (n+1) (zBm (outs++[c])))
 (hz:zAo (outs++[c])=zs) (hm:zs.length=m) (hn:m≤n+1):PaS w w' (.slice Av m cv) m zs:=by
 refine h.grown hg ?_;have h1:=zNM (j:=m) ho hn;rw[zK1,←hm,←hz,←zFD,hz,hm]at h1;exact h1
theorem AtPar.start (l:List UInt16):AtPar l 0 []:=⟨yAE _,by rw[List.take_zero];exact Nat.pow_pos (by omega),rfl⟩
theorem AtPar.step {l:List UInt16} {k d c:Nat} {ms outs:List Nat} (h:AtPar l k ms) (hk:k < l.length) (hd:l[k].toNat=d+48) (hd9:d≤9) (hm:zBe ms d=(outs,c)):zAo (outs++[c])=zAz (zg (l.take (k+1))):=by
 obtain⟨_,h2,h3⟩:=h;subst h3;have:=zJC h2 hd9;rw[hm]at this;rw[this,zB8 l k hk,hd];congr 1
theorem AtPar.go {l:List UInt16} {k:Nat} {ms:List Nat} (hk:k < l.length) (hm:ms=zAz (zg (l.take (k+1)))) (h8:ms.length≤8):AtPar l (k+1) ms:=by
 refine⟨hk,?_,hm⟩;rcases Nat.lt_or_ge (zg (l.take (k+1))) zEn with h | h
 · exact h
 · have:=zNK h;rw[←hm]at this;omega
theorem AtPar.over {l:List UInt16} {k:Nat} {ms:List Nat} (hm:ms=zAz (zg (l.take (k+1)))) (h8:¬ms.length≤8):zEn≤zg l:=by
 rcases Nat.lt_or_ge (zg (l.take (k+1))) zEn with h | h
 · have:=zDB h;rw[←hm]at this;omega
 · exact yAD h (zCf l (k+1))
theorem AtPar.done {l:List UInt16} {ms:List Nat} (h:AtPar l l.length ms):zg l < zEn∧ms=zAz (zg l):=by
 obtain⟨_,h2,h3⟩:=h;rw[List.take_length]at h2 h3;exact⟨h2,h3⟩
theorem PaS.drewN {w wr:World} {v:Value} {n:Nat} {ms:List Nat} (h:PaS w wr v n ms) (m:Nat):PaS w (wr.drewN m) v n ms:=
 ⟨h.own.kept (row:=none) ⟨rfl,rfl,rfl,yAC _,fun _ _ _=>rfl⟩ (by cases hv:v.ownBlock<;>simp),h.res.grown (g:=w.heap.size+1) (zp wr _ m) (by omega),zk h.below m⟩
theorem zJO {s:ByteArray} {l:List UInt16} (h:s.data.toList=asc l) (hd:∀x∈l,zO x=true) (h0:0 < l.length) (hz:l[0]≠48∨l=[48]) (hl:l.length≤4096) (w:World):
 Calls prog 149 #[.string s] w (zLN (zg l) w):=by
 obtain⟨i0,hi0,hz0,hz1,hz2⟩:=info_parts Tryz.info_u32;obtain⟨hs,hget⟩:=zLG h hd;have HG:=zA hget;have hs0:0 < s.size:=by omega
 have hs1:s.size≤4096:=by omega
 have HD:=zA (fun w=>zJH h hd h0 hz hl w);have hb0:=(hget 0 hs0 h0).2;have e45:((s[0].toNat:Int)==45)=false:=yA.2 (by omega);have e450:(s.toList==[45,48])=false:=by
  rw[yA,ByteArray.toList_eq];intro h3;have h4:s.data.toList[0]? =some 45:=by rw[h3];rfl
  have h5:s.data.toList[0]? =some s[0]:=by rw[yAB (by simpa using hs0)];rfl
  rw[h5]at h4;have h6:s[0].toNat=45:=by rw[Option.some.inj h4];rfl
  omega
 have HS0:=zA (show PaS w (w.alloc (.cells #[.bool false,.slice none 0 0] 42)) (.slice none 0 0) ([]:List Nat).length []from⟨yAJ _ _ _ _,Blk.new w [.bool false,.slice none 0 0] _,(Below.refl _ _).alloc (yAC _) _⟩);have HL:=zA hs;clear hget h hd hz hs;go_enter func149,ntmps149;go_wp2_with fail
 go_quiet (fail)
 go_wp2_with (go_at_call 183;refine(HD.out _).mono ?_;rintro e1 w1 ⟨rfl,rfl⟩)
 go_loopg [6,33] l.length (fun r m i wr=>∃(k:Nat) (ms:List Nat) (n:Nat),k+r=l.length∧i=.int .i64 k∧Hid (ms.length=n)∧Hid (PaS w wr m n ms)∧Hid (AtPar l k ms))
 case atStart=>exact⟨0,[],0,by omega,rfl,rfl,HS0.out.drewN _,AtPar.start l⟩
 case round=>
  obtain⟨k,ms,n,hkr,rfl,hn,hS,hat⟩:=hrel;obtain⟨G,rfl⟩:∃G,G=gk:=⟨_,rfl⟩;obtain⟨wo,rfl⟩:∃wo,wo=wr:=⟨_,rfl⟩;obtain⟨A,cp,rfl,hnc,hcp⟩:=zR hS.out.own;have hsl:=HL.out;have hlt8:n≤8:=by have:=zDB hat.out.2.1;rw[←hat.out.2.2,hn.out]at this;exact this
  by_cases hlt:k < l.length
  · have hks:k < s.size:=by omega
    have hgk:=(HG.out k hks hlt).2;obtain⟨d,hdd⟩:∃d,s[k].toNat=d+48:=⟨s[k].toNat - 48,by omega⟩;have HDD:=zA hdd;have HDD':l[k].toNat=d+48:=by rw[←(HG.out k hks hlt).1,hdd]
    have HDD':=zA HDD';have hcl:(s[k].toNat:Int)=(d:Int)+48:=by omega
    have hd9:d≤9:=by omega
    clear hdd hsl;go_wp2_with fail
    go_loopg [8,43] n (fun r c8 i43 wi=>∃(j c:Nat) (outs:List Nat),j+r=n∧c8=.int .u64 c∧i43=.int .i64 j∧c≤9∧Hid (PaS w wi (.slice A n cp) n (zBo ms outs))∧Hid (AtMul ms d j c outs))
    case atStart=>exact⟨0,d,[],by omega,rfl,rfl,hd9,hS,AtMul.start ms d⟩
    case round=>
     obtain⟨j,c,outs,hjr,rfl,rfl,hc9,hSi,hatm⟩:=hrel
     by_cases hjn:j < n
     · have hn0:0 < n:=by omega
       obtain⟨g,cap,hv,hgb,hgl⟩:=hSi.out.own.form hn0;injection hv with hA _ hcap;subst hA hcap;have hol:outs.length=j:=hatm.out.1;have hml:ms.length=n:=hn.out;have hjm:j < ms.length:=by omega
       have hxl:=zDu (zg (l.take k)) ms[j] (by rw[←hat.out.2.2];exact List.getElem_mem hjm);have hce:wr.cell? ⟨g,j,none⟩=some (.int .u32 (ms[j]:Int)):=by
        rw[hSi.out.own.cellAt j (by omega)];subst hol;have h1:=zGW hjm;simp only[zBm,List.getElem?_map,h1];rfl
       have hfr:=hSi.out.own.frozenAt j;have hset:=zA (fun x:Nat=>zGX (ms:=ms) (outs:=outs) (by omega) x);have hstep:=zA (hatm.out.step hjm);obtain⟨x,hx⟩:∃x,ms[j]=x:=⟨_,rfl⟩;rw[hx]at hce hstep hxl;have hxi:(x:Int)≤4294967295:=by omega
       have HOL:=zA hol;clear hx hol hml hxl;go_wp2_with fail
       go_roundg (gk - 1)
       case measure=>omega
       case rel=>
        refine⟨j+1,(c+10*x) / 4294967296,outs++[(c+10*x) % 4294967296],by omega,congrArg (Value.int .u64) (by omega),by go_num,by omega,?_,hstep.out⟩;have hst:=hSi.out.own.stored j (.int .u32 (((c+10*x) % 4294967296:Nat):Int));have h1:=hst.1;rw[zNc,show j=outs.length from HOL.out.symm,hset.out]at h1;have h2:=hSi.out.grown (by rw[show j=outs.length from HOL.out.symm]at hst;exact hst.2) h1;have e:(((c+10*x) % 4294967296:Nat):Int)=((c:Int)+10*(x:Int)) % 4294967296:=by omega
        rw[e,HOL.out]at h2;exact h2
     · obtain rfl:j=n:=by omega
       have hlen:outs.length=ms.length:=by rw[hatm.out.1,hn.out]
       have hmo:zBo ms outs=outs:=by unfold zBo;rw[hlen,List.drop_length,List.append_nil]
       have hdone:=(show AtMul ms d ms.length c outs by have:=hatm.out;rwa [←hn.out]at this).done;have hSo:=zA (show PaS w wr (.slice A j cp) j outs by have:=hSi.out;rwa [hmo]at this);have hst:=hat.out.step hlt HDD'.out hd9 hdone;obtain⟨zs,hzs⟩:∃z,zAo (outs++[c])=z:=⟨_,rfl⟩;obtain⟨m,hm⟩:∃m,zs.length=m:=⟨_,rfl⟩;have hmj:m≤j+1:=by
        have:=zKw (outs++[c]);rw[hzs,hm,List.length_append,hatm.out.1]at this;exact this
       rw[hzs]at hst;have HZS:=zA hzs;have HM:=zA hm;have HST:=zA hst;have HOL:=zA (show outs.length=j from hatm.out.1);have hbase:w.heap.size+1≤wr.heap.size:=hSo.out.res.1;have hlz:∀v:World,v.heap.size=v.heap.size:=fun _=>rfl;clear hlz hzs hm hst hlen hmo hdone hSi hS hatm
       by_cases h8:m≤8
       · go_wp2_with (at_builtin;refine zCo rfl _ _ 40 rfl 87 i0 _ 1 4 underlying40 hi0 hz0 hz1 hz2 rfl (by decide) (w.heap.size+1) hbase (.slice A j cp) (zBm outs) j rfl hSo.out.own [.int .u32 (c:Int)] 1 1 rfl rfl rfl (by omega) (by omega) ?_;intro v' w' ho hgr;obtain⟨Av,cv,rfl,hcv1,hcv2⟩:=zR ho);have hrd:=zA (Reads.of_own (by rw[zDv outs [c] |>.symm];exact ho):Reads w' w'.heap.size 1 Av (j+1) (zBm (outs++[c])));have HP:=zA (hSo.out.trimmed (m:=m) (zs:=zs) hgr (by rw[zDv outs [c] |>.symm];exact ho) HZS.out HM.out hmj);clear ho hgr;refine(zDw (xs:=outs++[c]) (m:=m) (by rw[List.length_append,HOL.out];rfl) hrd.out (by omega) hcv1 hcv2 (by rw[HZS.out,HM.out])).mono ?_;rintro e3 w3 ⟨rfl,rfl⟩;go_wp2_with fail
         go_roundg (G - 1)
         case measure=>omega
         case rel=>exact⟨k+1,zs,m,by omega,by go_num,HM.out,HP.out,AtPar.go hlt HST.out (by rw[HM.out];exact h8)⟩
       · have hov:=zA (AtPar.over HST.out (by rw[HM.out];exact h8));go_wp2_with (at_builtin;refine zCo rfl _ _ 40 rfl 87 i0 _ 1 4 underlying40 hi0 hz0 hz1 hz2 rfl (by decide) (w.heap.size+1) hbase (.slice A j cp) (zBm outs) j rfl hSo.out.own [.int .u32 (c:Int)] 1 1 rfl rfl rfl (by omega) (by omega) ?_;intro v' w' ho hgr;obtain⟨Av,cv,rfl,hcv1,hcv2⟩:=zR ho);have hrd:=zA (Reads.of_own (by rw[zDv outs [c] |>.symm];exact ho):Reads w' w'.heap.size 1 Av (j+1) (zBm (outs++[c])));have HP:=zA (hSo.out.trimmed (m:=m) (zs:=zs) hgr (by rw[zDv outs [c] |>.symm];exact ho) HZS.out HM.out hmj);clear ho hgr;refine(zDw (xs:=outs++[c]) (m:=m) (by rw[List.length_append,HOL.out];rfl) hrd.out (by omega) hcv1 hcv2 (by rw[HZS.out,HM.out])).mono ?_;rintro e3 w3 ⟨rfl,rfl⟩;have hR:=zA HP.out.res;obtain⟨b0,fb0⟩:=hR.out.2 0 (by decide);obtain⟨b1,fb1⟩:=hR.out.2 1 (by decide);go_wp2_with fail;obtain⟨q0,q1⟩:=zDW (v0:=.bool false) (v1:=.slice none 0 0) hR.out rfl;refine bodyPost_ret (v:=.tuple #[.agg #[.bool false,.slice none 0 0],.int .i64 3]) (by simp[results,results149,go_sem,q0,q1]) rfl ?_;exact⟨none,0,0,3,rfl,zDX HP.out.below (yAC _),.inr ⟨rfl,hov.out⟩⟩
  · have hke:k=l.length:=by omega
    obtain⟨hv8,hms⟩:=(show AtPar l l.length ms by have:=hat.out;rwa [hke]at this).done;clear hke;have hmt:zAo ms=ms:=by rw[hms];exact zJD hv8
    have HMT:=zA hmt;have HV8:=zA hv8;have HMS:=zA hms;have hrd:=zA (Reads.of_own hS.out.own);have hks2:¬k < s.size:=by omega
    clear hmt hv8 hms hat hsl
    by_cases hn0':n=0
    · have hn0:=zA hn0';clear hn0';go_wp2_with fail;refine(zLO hn.out hrd.out (yAC _) (by omega) hnc hcp HMT.out hn0.out).mono ?_;rintro e3 w3 ⟨rfl,hb3⟩;have hP3:=zA (hS.out.below' hb3);clear hb3;obtain⟨b0,fb0⟩:=hP3.out.res.2 0 (by decide);obtain⟨b1,fb1⟩:=hP3.out.res.2 1 (by decide);go_wp2_with fail;obtain⟨q0,q1⟩:=zDW (v0:=.bool false) (v1:=.slice none 0 0) hP3.out.res rfl;refine bodyPost_ret (v:=.tuple #[.agg #[.bool false,.slice none 0 0],.int .i64 0]) (by simp[results,results149,go_sem,q0,q1]) rfl ?_;have hnil:zAz (zg l)=[]:=by rw[←HMS.out];exact List.eq_nil_of_length_eq_zero (by rw[hn.out,hn0.out])
      exact⟨none,0,0,0,rfl,zDX hP3.out.below (yAC _),.inl ⟨rfl,HV8.out,by rw[hnil];exact yAJ _ _ _ _⟩⟩
    · have hn0:=zA hn0';clear hn0';go_wp2_with fail;refine(zLP hn.out hrd.out (yAC _) (by omega) hnc hcp HMT.out hn0.out).mono ?_;rintro e3 w3 ⟨rfl,hb3⟩;have hP3:=zA (hS.out.below' hb3);clear hb3;obtain⟨b0,fb0⟩:=hP3.out.res.2 0 (by decide);obtain⟨b1,fb1⟩:=hP3.out.res.2 1 (by decide);go_wp2_with fail;obtain⟨q0,q1⟩:=zDW (v0:=.bool false) (v1:=.slice A n cp) hP3.out.res rfl;refine bodyPost_ret (v:=.tuple #[.agg #[.bool false,.slice A n cp],.int .i64 0]) (by simp[results,results149,go_sem,q0,q1]) rfl ?_;exact⟨A,n,cp,0,rfl,zDX hP3.out.below (yAC _),.inl ⟨rfl,HV8.out,by rw[←HMS.out,hn.out];exact zAG (zNd hP3.out.own (by omega)) (by omega)⟩⟩
structure BgS (w wr:World) (g:Nat) (A:Option Addr) (n c k R:Nat) (X:Option Addr) (mx cx:Nat):Prop where
 mv:Mv w wr g A n c k
 zero:Blk wr w.heap.size zAp
 box:Blk wr R [.bool false,.slice X mx cx]
theorem BgS.drewN {w wr:World} {g n c k R mx cx:Nat} {A X:Option Addr} (h:BgS w wr g A n c k R X mx cx) (hg:g < w.heap.size) (hR:w.heap.size≤R) (m:Nat):BgS w (wr.drewN m) g A n c k R X mx cx:=
 ⟨h.mv.drewN m,h.zero.grown (zp wr (some g) m) (by omega),h.box.grown (zp wr (some g) m) (by omega)⟩
theorem zGY {w:World} {base e n:Nat} {v:Value} {xs:List Value} (h:w.ownsRow base e 1 v n xs) (m:Nat):(w.drewN m).ownsRow base e 1 v n xs:=
 h.kept (row:=none) ⟨rfl,rfl,rfl,yAC _,fun _ _ _=>rfl⟩ (by cases hv:v.ownBlock<;>simp)
theorem zLQ {v n e m:Nat} {r:List UInt16} {t:Tok} (h:zEn≤v) (hq:zIi v n r=(e,t,m)):6=e∧zj=t∧0=m:=by
 unfold zIi at hq;rw[if_pos h]at hq;exact zBS hq
theorem zIL {v n e m:Nat} {r:List UInt16} {t:Tok} (h:v < zEn) (h2:(zAy 0 zAs r || zAy 0 zO r)=true) (hq:zIi v n r=(e,t,m)):5=e∧zj=t∧0=m:=by
 unfold zIi at hq;rw[if_neg (Nat.not_le.2 h),if_pos h2]at hq;exact zBS hq
theorem zLR {v n e m:Nat} {r:List UInt16} {t:Tok} (h:v < zEn) (h2:(zAy 0 zAs r || zAy 0 zO r)=false) (hq:zIi v n r=(e,t,m)):0=e∧{zj with kind:=3,mag:=zAz v}=t∧n+1=m:=by
 unfold zIi at hq;rw[if_neg (Nat.not_le.2 h),if_neg (by rw[h2];simp)]at hq;exact zES hq
theorem zHR {A:Option Addr} {c g B k n:Nat} {u:List UInt16} {w:World} {s:ByteArray} {d:List UInt16} (hsd:s.data.toList=asc d) (hd:∀x∈d,zO x=true) (h0:0 < d.length) (hz:d[0]≠48∨d=[48]) (hdl:d.length≤4096)
 (hr:Rd w g A n c k) (hn:u.length=n) (ha:Reads w B 1 A n (zAD u)) (hB:B≤g) (hk:k≤n) (hl:n≤4096) {m e:Nat} {t:Tok} (hq:zIi (zg d) d.length (u.drop k)=(e,t,m)):
 Calls prog 104 #[.pointer (some ⟨g,0,none⟩),.string s] w fun ev w'=>∃v,ev=.returned (.tuple #[v,.int .i64 (e:Int)])∧(e≠0→v=noV)∧(e=0→zQo w' w.heap.size t v∧Mv w w' g A n c k∧m=d.length+1)∧w.grownBy w' (some g):=by
 have hg:=hr.lt;have HP:=zA (zJO hsd hd h0 hz hdl (w.alloc (.cells zAp.toArray 44)));have HQ:=zA hq;have HA:=zA ha;have HR:=zA hr;obtain⟨b1,hb1⟩:∃b,zAy 0 zAs (u.drop k)=b:=⟨_,rfl⟩;obtain⟨b2,hb2⟩:∃b,zAy 0 zO (u.drop k)=b:=⟨_,rfl⟩;have HB1:=zA hb1;have HB2:=zA hb2;have HN:=zA hn;clear hq ha hr hsd hd h0 hz hdl hb1 hb2 hn;go_enter func104,ntmps104;go_wp2_with fail;refine HP.out.mono ?_;rintro e1 w1 ⟨X,mx,cx,er,rfl,hbl,hcase⟩;have hsz:w.heap.size+1≤w1.heap.size:=by have:=hbl.size;simpa using this
 have hS:=zA (show BgS w (w1.alloc (.cells #[.bool false,.slice X mx cx] 42)) g A n c k w1.heap.size X mx cx from by
  have hb2:Below w.heap.size w w1:=((Below.refl _ w).alloc (yAC _) _).trans (hbl.mono (by simp));refine⟨⟨(HR.out.below hb2 hg).alloc _,zC (zi _ hb2) (zG _ _ _)⟩,?_,Blk.new w1 [.bool false,.slice X mx cx] _⟩;exact((Blk.new w zAp 44).below hbl (by simp)).grownR (zG w1 _ none) (by simp))
 have hC:=zA hcase;clear hbl hcase
 by_cases her:er=0
 · have hv8:zg d < zEn:=by
    rcases hC.out with⟨_,h,_⟩ | ⟨h,_⟩
    · exact h
    · omega
   have hown:=zA (show w1.ownsRow (w.alloc (.cells zAp.toArray 44)).heap.size 87 1 (.slice X mx cx) (zAz (zg d)).length (zBm (zAz (zg d))) by
    rcases hC.out with⟨_,_,h⟩ | ⟨h,_⟩
    · exact h
    · omega)
   have e1:((er:Int) !=0)=false:=by rw[her];rfl
   have HV8:=zA hv8;clear her hC hv8;go_wp2_with fail;refine(zFH (j:=0) hS.out.mv.rd HN.out (HA.out.grown hS.out.mv.grown hB (Nat.le_of_lt hg)) hk hl (by omega) HB1.out).mono ?_;rintro e3 w3 ⟨rfl,m3,hw3⟩;have hS3:=zA (show BgS w w3 g A n c k w1.heap.size X mx cx by rw[hw3];exact hS.out.drewN hg (by omega) m3);have hO3:=zA (show w3.ownsRow (w.heap.size+1) 87 1 (.slice X mx cx) (zAz (zg d)).length (zBm (zAz (zg d))) by
    rw[hw3];exact zGY (zAG (hown.out.alloc _) (by simp)) m3)
   clear hw3 m3 hS hown;cases b1 with
   | true=>
    obtain⟨b0,fb0⟩:=hS3.out.zero.2 0 (by decide);obtain⟨b1,fb1⟩:=hS3.out.zero.2 1 (by decide);obtain⟨b2,fb2⟩:=hS3.out.zero.2 2 (by decide);obtain⟨b3,fb3⟩:=hS3.out.zero.2 3 (by decide);obtain⟨b4,fb4⟩:=hS3.out.zero.2 4 (by decide);obtain⟨b5,fb5⟩:=hS3.out.zero.2 5 (by decide);obtain⟨b6,fb6⟩:=hS3.out.zero.2 6 (by decide);obtain⟨b7,fb7⟩:=hS3.out.zero.2 7 (by decide);obtain⟨b8,fb8⟩:=hS3.out.zero.2 8 (by decide);go_wp2_with fail;obtain⟨q0,q1,q2,q3,q4,q5,q6,q7,q8⟩:=zS (v0:=.int .i64 0) (v1:=.string ⟨#[]⟩) (v2:=.slice none 0 0) (v3:=.int .i64 0) (v4:=.int .i64 0) (v5:=.bool false) (v6:=.slice none 0 0) (v7:=.int .i64 0) (v8:=.bool false) hS3.out.zero rfl;refine bodyPost_ret (v:=.tuple #[.agg #[.int .i64 0,.string ⟨#[]⟩,.slice none 0 0,.int .i64 0,.int .i64 0,.bool false,.slice none 0 0,.int .i64 0,.bool false],.int .i64 5]) (by simp[results,results104,go_sem,q0,q1,q2,q3,q4,q5,q6,q7,q8]) rfl ?_;obtain⟨z1,z2,z3⟩:=zIL HV8.out (by rw[HB1.out];rfl) HQ.out;subst z1;exact⟨_,rfl,fun _=>rfl,fun h=>absurd h (by decide),(zn hS3.out.mv (yAC _) hg).grown⟩
   | false=>
    go_wp2_with fail;refine(zAO (j:=0) hS3.out.mv.rd HN.out (HA.out.grown hS3.out.mv.grown hB (Nat.le_of_lt hg)) hk hl (by omega) HB2.out).mono ?_;rintro e4 w4 ⟨rfl,m4,hw4⟩;have hS4:=zA (show BgS w w4 g A n c k w1.heap.size X mx cx by rw[hw4];exact hS3.out.drewN hg (by omega) m4);have hO4:=zA (show w4.ownsRow (w.heap.size+1) 87 1 (.slice X mx cx) (zAz (zg d)).length (zBm (zAz (zg d))) by
     rw[hw4];exact zGY hO3.out m4)
    clear hw4 m4 hS3 hO3;obtain⟨b0,fb0⟩:=hS4.out.zero.2 0 (by decide);obtain⟨b1,fb1⟩:=hS4.out.zero.2 1 (by decide);obtain⟨b2',fb2⟩:=hS4.out.zero.2 2 (by decide);obtain⟨b3,fb3⟩:=hS4.out.zero.2 3 (by decide);obtain⟨b4,fb4⟩:=hS4.out.zero.2 4 (by decide);obtain⟨b5,fb5⟩:=hS4.out.zero.2 5 (by decide);obtain⟨b6,fb6⟩:=hS4.out.zero.2 6 (by decide);obtain⟨b7,fb7⟩:=hS4.out.zero.2 7 (by decide);obtain⟨b8,fb8⟩:=hS4.out.zero.2 8 (by decide);obtain⟨x0,fx0⟩:=hS4.out.box.2 0 (by simp);obtain⟨x1,fx1⟩:=hS4.out.box.2 1 (by simp);cases b2 with
    | true=>
     go_wp2_with fail;obtain⟨q0,q1,q2,q3,q4,q5,q6,q7,q8⟩:=zS (v0:=.int .i64 0) (v1:=.string ⟨#[]⟩) (v2:=.slice none 0 0) (v3:=.int .i64 0) (v4:=.int .i64 0) (v5:=.bool false) (v6:=.slice none 0 0) (v7:=.int .i64 0) (v8:=.bool false) hS4.out.zero rfl;refine bodyPost_ret (v:=.tuple #[.agg #[.int .i64 0,.string ⟨#[]⟩,.slice none 0 0,.int .i64 0,.int .i64 0,.bool false,.slice none 0 0,.int .i64 0,.bool false],.int .i64 5]) (by simp[results,results104,go_sem,q0,q1,q2,q3,q4,q5,q6,q7,q8]) rfl ?_;obtain⟨z1,z2,z3⟩:=zIL HV8.out (by rw[HB1.out,HB2.out];rfl) HQ.out;subst z1;exact⟨_,rfl,fun _=>rfl,fun h=>absurd h (by decide),(zn hS4.out.mv (yAC _) hg).grown⟩
    | false=>
     go_wp2_with fail;obtain⟨q0,q1,q2,q3,q4,q5,q6,q7,q8⟩:=zS (v0:=.int .i64 3) (v1:=.string ⟨#[]⟩) (v2:=.slice none 0 0) (v3:=.int .i64 0) (v4:=.int .i64 0) (v5:=.bool false) (v6:=.slice X mx cx) (v7:=.int .i64 0) (v8:=.bool false) hS4.out.zero rfl;refine bodyPost_ret (v:=.tuple #[.agg #[.int .i64 3,.string ⟨#[]⟩,.slice none 0 0,.int .i64 0,.int .i64 0,.bool false,.slice X mx cx,.int .i64 0,.bool false],.int .i64 0]) (by simp[results,results104,go_sem,q0,q1,q2,q3,q4,q5,q6,q7,q8]) rfl ?_;obtain⟨z1,z2,z3⟩:=zLR HV8.out (by rw[HB1.out,HB2.out];rfl) HQ.out;subst z1 z2 z3;exact⟨_,rfl,fun h=>absurd rfl h,fun _=>⟨⟨_,_,rfl,yAJ _ _ _ _,zAG (zAZ hO4.out (by omega)) (by omega)⟩,zn hS4.out.mv (yAC _) hg,rfl⟩,(zn hS4.out.mv (yAC _) hg).grown⟩
 · have hv8:zEn≤zg d:=by
    rcases hC.out with⟨h,_,_⟩ | ⟨_,h⟩
    · omega
    · exact h
   have e1:((er:Int) !=0)=true:=by rw[bne_iff_ne];omega
   have HV8:=zA hv8;clear her hC hv8;obtain⟨b0,fb0⟩:=hS.out.zero.2 0 (by decide);obtain⟨b1',fb1⟩:=hS.out.zero.2 1 (by decide);obtain⟨b2',fb2⟩:=hS.out.zero.2 2 (by decide);obtain⟨b3,fb3⟩:=hS.out.zero.2 3 (by decide);obtain⟨b4,fb4⟩:=hS.out.zero.2 4 (by decide);obtain⟨b5,fb5⟩:=hS.out.zero.2 5 (by decide);obtain⟨b6,fb6⟩:=hS.out.zero.2 6 (by decide);obtain⟨b7,fb7⟩:=hS.out.zero.2 7 (by decide);obtain⟨b8,fb8⟩:=hS.out.zero.2 8 (by decide);go_wp2_with fail;obtain⟨q0,q1,q2,q3,q4,q5,q6,q7,q8⟩:=zS (v0:=.int .i64 0) (v1:=.string ⟨#[]⟩) (v2:=.slice none 0 0) (v3:=.int .i64 0) (v4:=.int .i64 0) (v5:=.bool false) (v6:=.slice none 0 0) (v7:=.int .i64 0) (v8:=.bool false) hS.out.zero rfl;refine bodyPost_ret (v:=.tuple #[.agg #[.int .i64 0,.string ⟨#[]⟩,.slice none 0 0,.int .i64 0,.int .i64 0,.bool false,.slice none 0 0,.int .i64 0,.bool false],.int .i64 6]) (by simp[results,results104,go_sem,q0,q1,q2,q3,q4,q5,q6,q7,q8]) rfl ?_;obtain⟨z1,z2,z3⟩:=zLQ HV8.out HQ.out;subst z1;exact⟨_,rfl,fun _=>rfl,fun h=>absurd h (by decide),(zn hS.out.mv (yAC _) hg).grown⟩
end Go.Proofs.YtlohaclgbfhijaaGreatDoor
