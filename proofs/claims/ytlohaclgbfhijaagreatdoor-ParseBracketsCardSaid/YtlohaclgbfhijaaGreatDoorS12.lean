/- Joined for the claim ParseBlocks: the parser, the lexer and the trees as they are walked, made short by a program of mine. -/
import Derived.Deep.RegionLaw
import Derived.Test.YtlohaclgbfhijaaGreatDoorS11
import Derived.Test.YtlohaclgbfhijaaGreatDoorS05
import Derived.Test.YtlohaclgbfhijaaGreatDoorS01
import Derived.Test.YtlohaclgbfhijaaGreatDoorS10
set_option maxHeartbeats 16000000
set_option maxRecDepth 1000000
namespace Go.Proofs.YtlohaclgbfhijaaGreatDoor
open Go.Proofs.Tryz
open Go.RowKit
theorem zPo {C:Pc} {s:Ps} {w:World} (hp:Pre C.L (.cond) s) (K:KP C (zf C.L (.cond) s)) (h:Pa C s w):zk C s w (.cond):=by
 refine zA0 hp h fun HL hlen hsk r W X HR hW hX F0=>?_;have HK:=zD K;clear K h hp;go_enter func175,ntmps175;go_upto_region 1 with(fail);clear hW hX;have hx:=zD (zS HL.out (p:=.either) (s:=s) ⟨hsk,trivial⟩).adv.le;go_wp2_with fail;refine F0.kD (HK.out.rank (q:=.either) ⟨F0.P.hi,trivial⟩ F0.P (yAD _) (by simp[zn])) fun w1 d1_0 d1_1 d1_2 d1_3 d1_4 d1_5 d1_6 d1_7 d1_8 F1=>?_;obtain⟨_,_,_,_,_,_,_,_,_⟩:=F1.sto 1;have F2:=F1.bt 1 72 rfl
 by_cases hon:onP C.L [63] ((zG C.L (.either) (s)).2)=true
 · have HO:=zD hon;clear hon;go_wp2_with fail;refine F2.kM (zBK F2.P [63] HO.out) fun w3 F3=>?_;have hlt:=zD (HL.out.on (s:=(zG C.L (.either) (s)).2) (by have:=hsk;exact(zS HL.out (p:=.either) (s:=s) ⟨hsk,trivial⟩).adv.hi) HO.out);have hl2:=zD (show s.k < (zB ((zG C.L (.either) (s)).2)).k from by have:=hx.out;show s.k < ((zG C.L (.either) (s)).2).k+1;omega);have ha:=zD (zS HL.out (p:=.assign) (s:=zB ((zG C.L (.either) (s)).2)) ⟨hlt.out,trivial⟩).adv;go_wp2_with fail;refine F3.kD (HK.out.more (q:=.assign) ⟨F3.P.hi,trivial⟩ F3.P hl2.out) fun w4 d4_0 d4_1 d4_2 d4_3 d4_4 d4_5 d4_6 d4_7 d4_8 F4=>?_;obtain⟨_,_,_,_,_,_,_,_,_⟩:=F4.sto 3;have F5:=F4.bt 3 72 rfl;go_wp2_with fail;refine F5.kN (zAE F5.P [58]) fun w6 F6=>?_;have hn:=zD (zN (w:=[58]) HL.out ha.out.hi).adv;have CL7:=zD (fun Q=>F6.dr.kD (Q:=Q) (HK.out.more (q:=.assign) ⟨F6.dr.P.hi,trivial⟩ F6.dr.P (yAA hl2.out (yAE ha.out.le hn.out.le))));obtain⟨_,_,_,_,_,_,_,_,_⟩:=F6.c 2;obtain⟨_,_,_,_,_,_,_,_,_⟩:=F6.c 4;go_wp2_with fail;go_region_law (first | (go_simp;go_at_call 140;(with_reducible refine CL7.out _ fun w7 d7_0 d7_1 d7_2 d7_3 d7_4 d7_5 d7_6 d7_7 d7_8 F7=>?_);obtain⟨_,_,_,_,_,_,_,_,_⟩:=F7.c 2;obtain⟨_,_,_,_,_,_,_,_,_⟩:=F7.c 4;obtain⟨_,_,_,_,_,_,_,_,_⟩:=F7.c 0;have LT7:=zD (fun Q=>F7.litK 48 (n:=3) (Q:=Q) (F7.ts3 1 3 5) rfl (by simp) rfl)) | (go_simp;go_at_call 58;(with_reducible refine LT7.out _ fun w8 F8=>?_);obtain⟨_,_,_,_,_,_,_,_,_⟩:=F8.c 0;obtain⟨_,_,_,_,_,_,_,_,_⟩:=F8.f 0))
   all_goals
    obtain⟨_,_,_,_,_,_,_,_,_⟩:=F8.c 0;obtain⟨_,_,_,_,_,_,_,_,_⟩:=F8.f 0;go_wp2_with fail;refine zQ (F8.put 0 6) fun V9 F9=>?_;have q:=F9.c 0;exact F9.ret 6 rfl (by simp[results,results175,go_sem,q]) rfl (HR.out.symm.trans (by
     unfold zF;dsimp only;rw[if_pos HO.out])) (fun _ h=>h)
 · have HO:=zD (show onP C.L [63] ((zG C.L (.either) (s)).2)=false by simpa using hon);clear hon;go_wp2_with fail;refine F2.kM (zBN F2.P [63] HO.out) fun w10 F10=>?_;obtain⟨_,_,_,_,_,_,_,_,_⟩:=F10.c 2;obtain⟨_,_,_,_,_,_,_,_,_⟩:=F10.c 0;obtain⟨_,_,_,_,_,_,_,_,_⟩:=F10.f 0;go_wp2_with fail;refine zQ (F10.put 0 1) fun V11 F11=>?_;have q:=F11.c 0;exact F11.ret 1 rfl (by simp[results,results175,go_sem,q]) rfl (HR.out.symm.trans (by
    unfold zF;dsimp only;rw[if_neg (by rw[HO.out];decide)])) (fun _ h=>h)
theorem zEA {c:UInt8} {q:Bool} (h:zA4 c.toUInt16=q) (w:World):Calls prog 66 #[.int .u16 (c.toNat:Int)] w fun e w'=>e=.returned (.bool q)∧w=w':=by
 subst h;have:=zAr c.toUInt16 w;rwa [UInt8.toNat_toUInt16]at this
theorem zEw {c:UInt8} {q:Bool} (h:zP c.toUInt16=q) (w:World):Calls prog 68 #[.int .u16 (c.toNat:Int)] w fun e w'=>e=.returned (.bool q)∧w=w':=by
 subst h;have:=zAA c.toUInt16 w;rwa [UInt8.toNat_toUInt16]at this
def zIW (l:List UInt8) (k:Nat):Prop:=∀j (h:j < l.length),j < k→(if j=0 then zA4 l[j].toUInt16 else zAw l[j].toUInt16)=true
theorem zKg (l:List UInt8):zIW l 0:=fun _ _ h=>absurd h (by omega)
theorem zKh {l:List UInt8} {k:Nat} (h:zIW l k) (hk:k < l.length) (h2:(if k=0 then zA4 l[k].toUInt16 else zAw l[k].toUInt16)=true):zIW l (k+1):=by
 intro j hj hjk
 by_cases e:j=k
 · subst e;exact h2
 · exact h j hj (by omega)
theorem zM1 {l:List UInt8} (h:zIW l l.length) (h0:l≠[]):zGt l=true:=by
 cases l with
 | nil=>exact absurd rfl h0
 | cons b r=>
  have h1:=h 0 (by simp) (by simp);simp only[if_true,List.getElem_cons_zero]at h1;unfold zGt;simp only[h1,Bool.true_and];rw[List.all_eq_true];intro x hx;obtain⟨j,hj,rfl⟩:=List.getElem_of_mem hx;have:=h (j+1) (by simpa using hj) (by simpa using hj);simpa using this
theorem zPp {l:List UInt8} {k:Nat} (hk:k < l.length) (h2:(if k=0 then zA4 l[k].toUInt16 else zAw l[k].toUInt16)=false):zGt l=false:=by
 cases l with
 | nil=>rfl
 | cons b r=>
  unfold zGt
  by_cases h0:k=0
  · subst h0;simp only[if_true,List.getElem_cons_zero]at h2;simp[h2]
  · obtain⟨j,rfl⟩:∃j,k=j+1:=⟨k - 1,by omega⟩;simp only[h0,if_false,List.getElem_cons_succ]at h2;rw[Bool.and_eq_false_iff];right;rw[←Bool.not_eq_true,List.all_eq_true];intro h;have:=h _ (List.getElem_mem (by simpa using hk:j < r.length));rw[h2]at this;cases this
theorem zM2 (s:ByteArray) (k:Nat) (_h:k < s.size) (h2:k < s.data.toList.length):s.data.toList[k]=s[k]:=rfl
theorem zFQ (s:ByteArray) (w:World) (hs:s.size≤8192) {q:Bool} (hq:zGt s.data.toList=q):
 Calls prog 118 #[.string s] w fun e w'=>e=.returned (.bool q)∧w=w':=by
 have HQ:=zD hq;have hsz:s.data.toList.length=s.size:=by simp
 have HSZ:=zD hsz;clear hq hsz;go_enter func118,ntmps118;go_wp2_with fail
 go_loop [7] (fun i=>∃k:Nat,k≤s.size∧i=.int .i64 k∧Hid (zIW s.data.toList k)) (fun i=>s.size - (intOf i).toNat)
 case atStart=>exact⟨0,yAF _,rfl,zKg _⟩
 case round=>
  obtain⟨k,hk,rfl,hok⟩:=hrel
  by_cases hlt:k < s.size
  · have hb:=s[k].toNat_lt;obtain⟨c,hc⟩:∃c,s[k]=c:=⟨_,rfl⟩;have HC:=zD hc;have hcn:(s[k].toNat:Int)=(c.toNat:Int):=by rw[hc]
    have HStep:=zD (show(if k=0 then zA4 c.toUInt16 else zAw c.toUInt16)=true→zIW s.data.toList (k+1)from fun h=>zKh hok.out (by rw[HSZ.out];exact hlt) (by rw[zM2 s k hlt,HC.out];exact h));have HBad:=zD (show(if k=0 then zA4 c.toUInt16 else zAw c.toUInt16)=false→false=q from fun h=>by rw[←HQ.out,zPp (l:=s.data.toList) (k:=k) (by rw[HSZ.out];exact hlt) (by rw[zM2 s k hlt,HC.out];exact h)]);clear hc;obtain⟨ql,hql⟩:∃q,zA4 c.toUInt16=q:=⟨_,rfl⟩;obtain⟨qd,hqd⟩:∃q,zP c.toUInt16=q:=⟨_,rfl⟩;have HL:=zD hql;have HD:=zD hqd;have HR:=zD (show zAw c.toUInt16=(ql || qd) by unfold zAw;rw[hql,hqd]);clear hql hqd;cases ql with
    | true=>
     have HN:=zD (HStep.out (by split;exact HL.out;rw[HR.out];rfl));go_wp2_with (first | (go_at_call 66;refine(zEA HL.out w).mono ?_;rintro e w' ⟨rfl,rfl⟩) | (go_at_call 68;refine(zEw HD.out w).mono ?_;rintro e w' ⟨rfl,rfl⟩));go_round
     case rel=>exact⟨k+1,by omega,by go_num,HN.out⟩
     case measure=>simp[intOf];omega
    | false=>
     by_cases h0:k=0
     · have e0:((k:Int)==0)=true:=by rw[h0];rfl
       have HN:=zD (HBad.out (by rw[if_pos h0];exact HL.out));clear h0;go_wp2_with (first | (go_at_call 66;refine(zEA HL.out w).mono ?_;rintro e w' ⟨rfl,rfl⟩) | (go_at_call 68;refine(zEw HD.out w).mono ?_;rintro e w' ⟨rfl,rfl⟩))
       (try rw[Exit.noGoto_ret])
       go_ret;exact⟨zJ HN.out,rfl⟩
     · have e0:((k:Int)==0)=false:=yA.2 (by omega);cases qd with
       | true=>
        have HN:=zD (HStep.out (by rw[if_neg h0,HR.out];rfl));clear h0;go_wp2_with (first | (go_at_call 66;refine(zEA HL.out w).mono ?_;rintro e w' ⟨rfl,rfl⟩) | (go_at_call 68;refine(zEw HD.out w).mono ?_;rintro e w' ⟨rfl,rfl⟩));go_round
        case rel=>exact⟨k+1,by omega,by go_num,HN.out⟩
        case measure=>simp[intOf];omega
       | false=>
        have HN:=zD (HBad.out (by rw[if_neg h0,HR.out];rfl));clear h0;go_wp2_with (first | (go_at_call 66;refine(zEA HL.out w).mono ?_;rintro e w' ⟨rfl,rfl⟩) | (go_at_call 68;refine(zEw HD.out w).mono ?_;rintro e w' ⟨rfl,rfl⟩))
        (try rw[Exit.noGoto_ret])
        go_ret;exact⟨zJ HN.out,rfl⟩
  · have hok2:=zD (show zIW s.data.toList s.data.toList.length by rw[HSZ.out,show s.size=k by omega];exact hok.out)
    by_cases hem:s.data.toList=[]
    · have e1:s.toList=[]:=by rw[ByteArray.toList_eq];exact hem
      have HN:=zD (show false=q by rw[←HQ.out,hem];rfl);have e2:(s.toList==[])=true:=by rw[e1];rfl
      have e3:s.toList.isEmpty=true:=by rw[e1];rfl
      clear hem e1;go_wp2_with fail;go_ret;exact⟨zJ HN.out,rfl⟩
    · have e1:s.toList≠[]:=by rw[ByteArray.toList_eq];exact hem
      have HN:=zD (show true=q by rw[←HQ.out,zM1 hok2.out hem]);have e2:(s.toList==[])=false:=yA.2 e1;have e3:s.toList.isEmpty=false:=by rw[List.isEmpty_eq_false_iff];exact e1
      clear hem e1;go_wp2_with fail;go_ret;exact⟨zJ HN.out,rfl⟩
theorem zHb (s:ByteArray) (w:World) (hs:s.size≤8192) {q:Bool} (hq:zCx s.data.toList=q):
 Calls prog 117 #[.string s] w fun e w'=>e=.returned (.bool q)∧w=w':=by
 cases hr:zGt s.data.toList with
 | false=>
  obtain rfl:q=false:=by rw[←hq];unfold zCx;rw[hr];rfl
  have HR:=zD hr;clear hr hq;go_enter func117,ntmps117;go_wp2_with (go_at_call 118;refine(zFQ s w hs HR.out).mono ?_;rintro e w' ⟨rfl,rfl⟩);go_ret;exact⟨rfl,rfl⟩
 | true=>
  obtain⟨n,hn⟩:∃n,zCG s.data.toList=n:=⟨_,rfl⟩;have HQ:=zD (show(n==0)=q by rw[←hq,←hn];unfold zCx;rw[hr];rfl);have HR:=zD hr;have HW:=zD (show∀w:World,Calls prog 103 #[.string s] w fun e w'=>e=.returned (.int .i64 (n:Int))∧w=w' from fun w=>by have:=zDF s w;rwa [hn]at this);clear hr hq hn;go_enter func117,ntmps117;go_wp2_with (first | (go_at_call 118;refine(zFQ s w hs HR.out).mono ?_;rintro e w' ⟨rfl,rfl⟩) | (go_at_call 103;refine(HW.out w).mono ?_;rintro e w' ⟨rfl,rfl⟩));go_ret;refine⟨zJ ?_,rfl⟩;rw[←HQ.out,Bool.eq_iff_iff,beq_iff_eq,beq_iff_eq];omega
def zEB (l:List Nat):List Value:=l.map fun n:Nat=>Value.int .i64 (n:Int)
theorem zJX (l:List Nat):(zEB l).length=l.length:=by simp[zEB]
def zBt (w:World) (q:List Nat×Nat) (e:Ending) (w':World):Prop:=
 ∃A c,e=.returned (.tuple #[.slice A q.1.length c,.int .i64 (q.2:Int)])∧q.1.length≤c∧Reads w' w'.heap.size 1 A q.1.length (zEB q.1)∧Below w.heap.size w w'
theorem zEC (w:World) (r:Nat) {q:List Nat×Nat} (hq:q=([],r)):zBt w q (.returned (.tuple #[.slice none 0 0,.int .i64 (r:Int)])) w:=by
 subst hq;exact⟨none,0,rfl,yAD _,Reads.none_,Below.refl _ _⟩
theorem zHc (w:World) (cs:List Value) (T:TypeId):Reads (w.alloc (.cells cs.toArray T)) (w.heap.size+1) 1 (some ⟨w.heap.size,0,none⟩) cs.length cs:=by
 refine⟨by simp,fun _=>⟨_,rfl,by show w.heap.size < _;omega,fun j u hu=>?_⟩⟩;rw[Addr.add_lit,World.cell?_alloc_at _ _ _ _ rfl];simpa using hu
theorem zAQ (w:World) (l:List Nat) (r m:Nat) {T:TypeId} {q:List Nat×Nat} (hq:q=(l.take m,r)) (hm:m≤l.length):zBt w q (.returned (.tuple #[.slice (some ⟨w.heap.size,0,none⟩) m l.length,.int .i64 (r:Int)])) (w.alloc (.cells (zEB l).toArray T)):=by
 subst hq;have hl:(l.take m).length=m:=by rw[List.length_take];omega
 refine⟨some ⟨w.heap.size,0,none⟩,l.length,by show _=Ending.returned (.tuple #[.slice _ (l.take m).length _,_]);rw[hl],by show(l.take m).length≤_;omega,?_,(Below.refl _ _).alloc (yAD _) _⟩;have h:=(zHc w (zEB l) T);rw[zJX]at h;have h2:=h.take (k:=m) hm;show Reads _ _ 1 _ (l.take m).length (zEB (l.take m));rw[hl];have e:zEB (l.take m)=(zEB l).take (m*1):=by rw[Nat.mul_one];simp[zEB]
 rw[e];exact h2.more (by simp)
def zU6 (w:World) (l:List Nat) (e:Ending) (w':World):Prop:=
 ∃A c,e=.returned (.slice A l.length c)∧l.length≤c∧Reads w' w'.heap.size 1 A l.length (zEB l)∧Below w.heap.size w w'
structure PrS (w wr:World) (v:Value) (l:List Nat):Prop where
 own:wr.ownsRow w.heap.size 3 1 v l.length (zEB l)
 below:Below w.heap.size w wr
theorem zEX (n last:Nat) (hn:n≤1000000) (w:World):Calls prog 120 #[.int .i64 (n:Int),.int .i64 (last:Int)] w (zU6 w (zBx n last)):=by
 obtain⟨i0,hi,hz0,hz1,hz2⟩:=info_parts Tryz.info_int;have HI:=zD (And.intro hi (And.intro hz0 (And.intro hz1 hz2)));clear hi hz0 hz1 hz2;go_enter func120,ntmps120;go_wp2_with fail
 go_loopw [5,8] (fun v i wr=>∃k:Nat,k≤n - 1∧i=.int .i64 k∧Hid (PrS w wr v (List.replicate k 6))) (fun _ i _=>n - (intOf i).toNat)
 case atStart=>exact⟨0,yAF _,rfl,⟨yAK _ _ _ _,Below.refl _ _⟩⟩
 case round=>
  obtain⟨k,hk,rfl,hS⟩:=hrel;obtain⟨hi,hz0,hz1,hz2⟩:=HI.out
  by_cases hlt:k < n - 1
  · have e0:(k:Int) < (n:Int) - 1:=by omega
    go_wp2_with (at_builtin;refine zDi rfl _ _ 32 rfl w.heap.size 3 i0 (.int .i64 0) 1 8 underlying32 hi hz0 hz1 hz2 rfl (by decide) u5 _ _ rfl (by exact hS.out.own) hS.out.below.size [.int .i64 6] 1 1 rfl rfl rfl (by rw[List.length_replicate];omega) (by decide) ?_;intro v' w' ho' hk');have HO:=zD ho';have HK:=zD hk';clear ho' hk' hi hz0 hz1 hz2;go_wp2_with fail
    go_roundw
    case rel=>
     refine⟨k+1,by omega,by go_num,⟨?_,hS.out.below.trans (HK.out.below (zLs hS.out.own) hS.out.below.size)⟩⟩;have:=HO.out;rw[show zEB (List.replicate k 6)++[Value.int .i64 6]=zEB (List.replicate (k+1) 6) by rw[List.replicate_succ'];simp[zEB]]at this;simpa using this
    case measure=>simp[intOf];omega
  · have e0:¬(k:Int) < (n:Int) - 1:=by omega
    obtain rfl:k=n - 1:=by omega
    obtain⟨K,hK⟩:∃K,n - 1=K:=⟨_,rfl⟩;rw[hK]at hS e0;rw[hK];have HKK:=zD hK;clear hK hk hlt;go_wp2_with (at_builtin;refine zDi rfl _ _ 32 rfl w.heap.size 3 i0 (.int .i64 0) 1 8 underlying32 hi hz0 hz1 hz2 rfl (by decide) u5 _ _ rfl (by exact hS.out.own) hS.out.below.size [.int .i64 (last:Int)] 1 1 rfl rfl rfl (by rw[List.length_replicate];have:=HKK.out;omega) (by decide) ?_;intro v' w' ho' hk');have e:zEB (List.replicate K 6)++[Value.int .i64 (last:Int)]=zEB (zBx n last):=by unfold zBx;rw[HKK.out];simp[zEB]
    have e2:(List.replicate K 6).length+1=(zBx n last).length:=by unfold zBx;rw[HKK.out];simp
    rw[e,e2]at ho';have HB:=zD (hS.out.below.trans (hk'.below (zLs hS.out.own) hS.out.below.size));obtain⟨A,c,rfl,hc,_⟩:=zZ ho';have HO:=zD (Reads.of_own ho');clear ho' hk' e e2 hi hz0 hz1 hz2;go_wp2_with fail;go_ret;exact⟨A,c,rfl,hc,HO.out,HB.out⟩
theorem zKi (k:Int) (h:k∈([1,3,4,5,6,9,10,15,16,17,18,38,39,40,43,44,45,46,47,48,49,50,51,52,53]:List Int)) (n:Nat) (w:World):Calls prog 83 #[.int .i64 k,.int .i64 (n:Int)] w (zBt w (zo k n)):=by
 simp only[List.mem_cons,List.mem_nil_iff,or_false]at h;rcases h with rfl | rfl | rfl | rfl | rfl | rfl | rfl | rfl | rfl | rfl | rfl | rfl | rfl | rfl | rfl | rfl | rfl | rfl | rfl | rfl | rfl | rfl | rfl | rfl | rfl
 all_goals
  go_enter func83,ntmps83;go_wp2_with fail
  go_ret2
  first
  | exact zAQ w [3] 0 1 rfl (by decide)
  | exact zAQ w [3,2] 0 2 rfl (by decide)
  | exact zAQ w [10,9,9,2] 0 4 rfl (by decide)
  | exact zAQ w [8,11,12] 0 3 rfl (by decide)
  | exact zAQ w [8] 0 1 rfl (by decide)
  | exact zAQ w [2] 0 1 rfl (by decide)
  | exact zAQ w [4] 0 1 rfl (by decide)
  | exact zAQ w [3,3] 0 2 rfl (by decide)
  | exact zAQ w [3,3,3] 0 3 rfl (by decide)
  | exact zAQ w [4,3] 0 2 rfl (by decide)
  | exact zAQ w [5] 5 1 rfl (by decide)
  | exact zAQ w [3] 3 1 rfl (by decide)
  | exact zEC w 1 rfl
  | exact zEC w 3 rfl
  | exact zEC w 7 rfl
theorem zKj (n:Nat) (h:n≤1) (w:World):Calls prog 83 #[.int .i64 7,.int .i64 (n:Int)] w (zBt w (zo 7 n)):=by
 have e:(n:Int)≤1:=by omega
 have m1:min (n:Int) 1=n:=by omega
 go_enter func83,ntmps83;go_wp2_with fail
 go_ret2
 exact zAQ w [3] 0 n (q:=zo 7 n) (by show([3].take (min n 1),0)=_;rw[show min n 1=n by omega]) (by show n≤1;omega)
theorem zKk (n:Nat) (h:2≤n) (w:World):Calls prog 83 #[.int .i64 7,.int .i64 (n:Int)] w (zBt w (zo 7 n)):=by
 have e:¬(n:Int)≤1:=by omega
 have m1:min (n:Int) 1=1:=by omega
 go_enter func83,ntmps83;go_wp2_with fail
 go_ret2
 exact zAQ w [3] 0 1 (q:=zo 7 n) (by show([3].take (min n 1),0)=_;rw[show min n 1=1 by omega]) (by decide)
theorem zIX (n:Nat) (h:n≤1) (w:World):Calls prog 83 #[.int .i64 14,.int .i64 (n:Int)] w (zBt w (zo 14 n)):=by
 have e:(n:Int)≤1:=by omega
 have m1:min (n:Int) 1=n:=by omega
 go_enter func83,ntmps83;go_wp2_with fail
 go_ret2
 exact zAQ w [3] 0 n (q:=zo 14 n) (by show([3].take (min n 1),0)=_;rw[show min n 1=n by omega]) (by show n≤1;omega)
theorem zIY (n:Nat) (h:2≤n) (w:World):Calls prog 83 #[.int .i64 14,.int .i64 (n:Int)] w (zBt w (zo 14 n)):=by
 have e:¬(n:Int)≤1:=by omega
 have m1:min (n:Int) 1=1:=by omega
 go_enter func83,ntmps83;go_wp2_with fail
 go_ret2
 exact zAQ w [3] 0 1 (q:=zo 14 n) (by show([3].take (min n 1),0)=_;rw[show min n 1=1 by omega]) (by decide)
theorem zIZ (n:Nat) (h:n≤1) (w:World):Calls prog 83 #[.int .i64 8,.int .i64 (n:Int)] w (zBt w (zo 8 n)):=by
 have m1:max (n:Int) 2=2:=by omega
 have m2:min (2:Int) 3=2:=by omega
 have e:(n:Int)≤2:=by omega
 have e2:¬2≤(n:Int):=by omega
 go_enter func83,ntmps83;go_wp2_with fail
 go_ret2
 exact zAQ w [3,2,2] 0 2 (q:=zo 8 n) (by show([3,2,2].take (min (max n 2) 3),0)=_;rw[show min (max n 2) 3=2 by omega]) (by decide)
theorem zIa (n:Nat) (h:n=2) (w:World):Calls prog 83 #[.int .i64 8,.int .i64 (n:Int)] w (zBt w (zo 8 n)):=by
 have m1:max (n:Int) 2=n:=by omega
 have m2:min (n:Int) 3=n:=by omega
 have e:(n:Int)≤2:=by omega
 have e2:2≤(n:Int):=by omega
 have e3:(n:Int)≤3:=by omega
 have H:=zD h;clear h;go_enter func83,ntmps83;go_wp2_with fail
 go_ret2
 exact zAQ w [3,2,2] 0 n (q:=zo 8 n) (by show([3,2,2].take (min (max n 2) 3),0)=_;rw[show min (max n 2) 3=n by have:=H.out;omega]) (by have:=H.out;show n≤3;omega)
theorem zGc (n:Nat) (h:n=3) (w:World):Calls prog 83 #[.int .i64 8,.int .i64 (n:Int)] w (zBt w (zo 8 n)):=by
 have m1:max (n:Int) 2=n:=by omega
 have m2:min (n:Int) 3=n:=by omega
 have e:¬(n:Int)≤2:=by omega
 have e2:(n:Int)≤3:=by omega
 have H:=zD h;clear h;go_enter func83,ntmps83;go_wp2_with fail
 go_ret2
 exact zAQ w [3,2,2] 0 n (q:=zo 8 n) (by show([3,2,2].take (min (max n 2) 3),0)=_;rw[show min (max n 2) 3=n by omega]) (by show n≤3;omega)
theorem zHd (n:Nat) (h:4≤n) (w:World):Calls prog 83 #[.int .i64 8,.int .i64 (n:Int)] w (zBt w (zo 8 n)):=by
 have m1:max (n:Int) 2=n:=by omega
 have m2:min (n:Int) 3=3:=by omega
 have e:¬(n:Int)≤2:=by omega
 have e2:¬(n:Int)≤3:=by omega
 go_enter func83,ntmps83;go_wp2_with fail
 go_ret2
 exact zAQ w [3,2,2] 0 3 (q:=zo 8 n) (by show([3,2,2].take (min (max n 2) 3),0)=_;rw[show min (max n 2) 3=3 by omega]) (by decide)
theorem zPq (n:Nat) (h:n≤1000000) (w:World):Calls prog 83 #[.int .i64 19,.int .i64 (n:Int)] w (zBt w (zo 19 n)):=by
 go_enter func83,ntmps83;go_wp2_with (go_at_call 120;refine(zEX n 8 h w).mono ?_;rintro e w' ⟨A,c,rfl,hc,hr,hb⟩)
 go_ret2
 exact⟨A,c,rfl,hc,hr,hb⟩
theorem zPr (n:Nat) (h:n≤1000000) (w:World):Calls prog 83 #[.int .i64 41,.int .i64 (n:Int)] w (zBt w (zo 41 n)):=by
 go_enter func83,ntmps83;go_wp2_with (go_at_call 120;refine(zEX n 8 h w).mono ?_;rintro e w' ⟨A,c,rfl,hc,hr,hb⟩)
 go_ret2
 exact⟨A,c,rfl,hc,hr,hb⟩
theorem zPs (n:Nat) (h:n≤1000000) (w:World):Calls prog 83 #[.int .i64 42,.int .i64 (n:Int)] w (zBt w (zo 42 n)):=by
 go_enter func83,ntmps83;go_wp2_with (go_at_call 120;refine(zEX n 13 h w).mono ?_;rintro e w' ⟨A,c,rfl,hc,hr,hb⟩)
 go_ret2
 exact⟨A,c,rfl,hc,hr,hb⟩
theorem zKl (k:Int) (n:Nat) (h:∀j∈([1,3,4,5,6,7,8,9,10,14,15,16,17,18,19,38,39,40,41,42,43,44,45,46,47,48,49,50,51,52,53]:List Int),k≠j) (w:World):Calls prog 83 #[.int .i64 k,.int .i64 (n:Int)] w (zBt w (zo k n)):=by
 have e1:(k==1)=false:=yA.2 (h 1 (by decide));have e3:(k==3)=false:=yA.2 (h 3 (by decide));have e4:(k==4)=false:=yA.2 (h 4 (by decide));have e5:(k==5)=false:=yA.2 (h 5 (by decide));have e6:(k==6)=false:=yA.2 (h 6 (by decide));have e7:(k==7)=false:=yA.2 (h 7 (by decide));have e8:(k==8)=false:=yA.2 (h 8 (by decide));have e9:(k==9)=false:=yA.2 (h 9 (by decide));have e10:(k==10)=false:=yA.2 (h 10 (by decide));have e14:(k==14)=false:=yA.2 (h 14 (by decide));have e15:(k==15)=false:=yA.2 (h 15 (by decide));have e16:(k==16)=false:=yA.2 (h 16 (by decide));have e17:(k==17)=false:=yA.2 (h 17 (by decide));have e18:(k==18)=false:=yA.2 (h 18 (by decide));have e19:(k==19)=false:=yA.2 (h 19 (by decide));have e38:(k==38)=false:=yA.2 (h 38 (by decide));have e39:(k==39)=false:=yA.2 (h 39 (by decide));have e40:(k==40)=false:=yA.2 (h 40 (by decide));have e41:(k==41)=false:=yA.2 (h 41 (by decide));have e42:(k==42)=false:=yA.2 (h 42 (by decide));have e43:(k==43)=false:=yA.2 (h 43 (by decide));have e44:(k==44)=false:=yA.2 (h 44 (by decide));have e45:(k==45)=false:=yA.2 (h 45 (by decide));have e46:(k==46)=false:=yA.2 (h 46 (by decide));have e47:(k==47)=false:=yA.2 (h 47 (by decide));have e48:(k==48)=false:=yA.2 (h 48 (by decide));have e49:(k==49)=false:=yA.2 (h 49 (by decide));have e50:(k==50)=false:=yA.2 (h 50 (by decide));have e51:(k==51)=false:=yA.2 (h 51 (by decide));have e52:(k==52)=false:=yA.2 (h 52 (by decide));have e53:(k==53)=false:=yA.2 (h 53 (by decide));have HQ:Hid (zo k n=([],0)):=by
  have h2:∀{p:Prop} [Decidable p] {a b:List Nat×Nat},¬p→b=([],0)→(if p then a else b)=([],0):=fun h1 h2=>by rw[if_neg h1,h2]
  have g:k≠1∧k≠3∧k≠4∧k≠5∧k≠6∧k≠7∧k≠8∧k≠9∧k≠10∧k≠14∧k≠15∧k≠16∧k≠17∧k≠18∧k≠19∧k≠38∧k≠39∧k≠40∧k≠41∧k≠42∧k≠43∧k≠44∧k≠45∧k≠46∧k≠47∧k≠48∧k≠49∧k≠50∧k≠51∧k≠52∧k≠53:=by refine⟨h 1 (by decide),h 3 (by decide),h 4 (by decide),h 5 (by decide),h 6 (by decide),h 7 (by decide),h 8 (by decide),h 9 (by decide),h 10 (by decide),h 14 (by decide),h 15 (by decide),h 16 (by decide),h 17 (by decide),h 18 (by decide),h 19 (by decide),h 38 (by decide),h 39 (by decide),h 40 (by decide),h 41 (by decide),h 42 (by decide),h 43 (by decide),h 44 (by decide),h 45 (by decide),h 46 (by decide),h 47 (by decide),h 48 (by decide),h 49 (by decide),h 50 (by decide),h 51 (by decide),h 52 (by decide),h 53 (by decide)⟩
  clear h;unfold zo
  repeat' refine h2 (by omega) ?_
  rfl
 clear h;go_enter func83,ntmps83;go_wp2_with fail
 go_ret2
 exact zEC w 0 HQ.out
theorem zM3 (k:Int) (n:Nat) (hn:n≤1000000) (w:World):Calls prog 83 #[.int .i64 k,.int .i64 (n:Int)] w (zBt w (zo k n)):=by
 by_cases hL:k∈([1,3,4,5,6,9,10,15,16,17,18,38,39,40,43,44,45,46,47,48,49,50,51,52,53]:List Int)
 · exact zKi k hL n w
 simp only[List.mem_cons,List.mem_nil_iff,or_false,not_or]at hL
 by_cases h7:k=7
 · subst h7
   by_cases h:n≤1
   · exact zKj n h w
   · exact zKk n (by omega) w
 by_cases h8:k=8
 · subst h8
   by_cases h0:n≤1
   · exact zIZ n h0 w
   by_cases h:n=2
   · exact zIa n h w
   · by_cases h2:n=3
     · exact zGc n h2 w
     · exact zHd n (by omega) w
 by_cases h14:k=14
 · subst h14
   by_cases h:n≤1
   · exact zIX n h w
   · exact zIY n (by omega) w
 by_cases h19:k=19
 · subst h19;exact zPq n hn w
 by_cases h41:k=41
 · subst h41;exact zPr n hn w
 by_cases h42:k=42
 · subst h42;exact zPs n hn w
 exact zKl k n (fun j hj=>by simp only[List.mem_cons,List.mem_nil_iff,or_false]at hj;omega) w
def zPt (l:List (List UInt8)):List Value:=l.map fun s=>Value.string ⟨s.toArray⟩
theorem zPu (l:List (List UInt8)):(zPt l).length=l.length:=by simp[zPt]
def zU7 (s:List UInt8) (xs:List (List UInt8)) (w:World) (e:Ending) (w':World):Prop:=∃r:Int,e=.returned (.int .i64 r)∧w=w'∧decide (0≤r)=decide (s∈xs)∧ -1≤r∧r≤4096
theorem zM4 {A:Option Addr} {B n c:Nat} {xs:List (List UInt8)} (s:ByteArray) {w:World} (hn:xs.length=n) (ha:Reads w B 1 A n (zPt xs)) (hl:n≤4096):
 Calls prog 161 #[.slice A n c,.string s] w (zU7 s.data.toList xs w):=by
 have HN:=zD hn;have HA:=zD ha;clear hn ha;go_enter func161,ntmps161;go_wp2_with fail
 go_loop [8] (fun i=>∃k:Nat,k≤n∧i=.int .i64 k∧Hid (s.data.toList∉xs.take k)) (fun i=>n - (intOf i).toNat)
 case atStart=>exact⟨0,yAF _,rfl,by simp[Hid]⟩
 case round=>
  obtain⟨k,hk,rfl,hno⟩:=hrel
  by_cases hlt:k < n
  · have hx:k < xs.length:=by rw[HN.out];exact hlt
    obtain⟨b,off,rfl,_,hcell⟩:=HA.out.spotR (by omega);have hca:=hcell k (.string ⟨xs[k].toArray⟩) (by simp[zPt,yAC hx]);have HM:=zD (show xs[k]∈xs from List.getElem_mem hx);have HT:=zD (show xs.take (k+1)=xs.take k++[xs[k]]from yAM hx);obtain⟨x,hxx⟩:∃x,xs[k]=x:=⟨_,rfl⟩;rw[hxx]at hca HM HT;clear hcell hxx hx
    by_cases hxs:x=s.data.toList
    · have es:(⟨x.toArray⟩:ByteArray)=s:=by rw[hxs]
      have HR:=zD (show decide (s.data.toList∈xs)=true from decide_eq_true (by rw[←hxs];exact HM.out));rw[es]at hca;clear hxs es;go_wp2_with fail
      (try rw[Exit.noGoto_ret])
      go_ret;exact⟨_,rfl,rfl,by rw[HR.out];exact decide_eq_true (by omega),by omega,by omega⟩
    · have e1:((⟨x.toArray⟩:ByteArray).toList==s.toList)=false:=by
       rw[yA,ByteArray.toList_eq,ByteArray.toList_eq];exact hxs
      have e2:(s.toList==(⟨x.toArray⟩:ByteArray).toList)=false:=by
       rw[yA,ByteArray.toList_eq,ByteArray.toList_eq];exact fun h=>hxs h.symm
      have hn2:=zD (show s.data.toList∉xs.take (k+1) by
       rw[HT.out,List.mem_append,List.mem_singleton];rintro(h | h)
       · exact hno.out h
       · exact hxs h.symm)
      obtain⟨y,hy⟩:∃y:ByteArray,⟨x.toArray⟩=y:=⟨_,rfl⟩;rw[hy]at hca e1 e2;clear hxs hy;go_wp2_with fail;go_round
      case rel=>exact⟨k+1,by omega,by go_num,hn2.out⟩
      case measure=>simp[intOf];omega
  · have HR:=zD (show decide (s.data.toList∈xs)=false from yAJ (by
     have:=hno.out;rwa [List.take_of_length_le (by rw[HN.out];omega)]at this))
    go_wp2_with fail;go_ret;exact⟨_,rfl,rfl,by rw[HR.out];rfl,by omega,by omega⟩
theorem zEf {A:Option Addr} {B n c:Nat} {xs:List (List UInt8)} (s:ByteArray) {w:World} (hn:xs.length=n) (ha:Reads w B 1 A n (zPt xs)) (hl:n≤4096) {q:Bool} (hq:decide (s.data.toList∈xs)=q):
 Calls prog 111 #[.slice A n c,.string s] w fun e w'=>e=.returned (.bool q)∧w=w':=by
 have H:=zD (fun w (ha:Reads w B 1 A n (zPt xs))=>zM4 (c:=c) s hn ha hl);have HA:=zD ha;have HQ:=zD hq;clear hn ha hq;go_enter func111,ntmps111;go_wp2_with (go_at_call 161;refine(H.out w HA.out).mono ?_;rintro e w' ⟨r,rfl,rfl,hr,hr1,hr2⟩);go_ret;exact⟨zJ (by rw[←HQ.out,←hr]),rfl⟩
def zU1 (w:World) (l:List (List UInt8)) (e:Ending) (w':World):Prop:=∃ad c,e=.returned (.slice (some ad) l.length c)∧Reads w' w'.heap.size 1 (some ad) l.length (zPt l)∧Below w.heap.size w w'
theorem zFR (w:World) (l:List (List UInt8)) (T:TypeId) (n m:Nat) (h1:l.length=n):zU1 w l (.returned (.slice (some ⟨w.heap.size,0,none⟩) n m)) (w.alloc (.cells (zPt l).toArray T)):=by
 subst h1;have h:=zHc w (zPt l) T;rw[zPu]at h;exact⟨_,_,rfl,h.more (by simp),(Below.refl _ _).alloc (yAD _) _⟩
theorem zM5 (k:Int) (h:k=43∨k=44∨k=45∨k=46∨k=47∨k=49) (w:World):Calls prog 119 #[.int .i64 k] w (zU1 w (zIC k)):=by
 rcases h with rfl | rfl | rfl | rfl | rfl | rfl
 all_goals
  go_enter func119,ntmps119;go_wp2_with fail;go_ret
  first | exact zFR w zH7 _ _ _ rfl | exact zFR w zDv _ _ _ rfl | exact zFR w zUU _ _ _ rfl | exact zFR w zUy _ _ _ rfl | exact zFR w zIB _ _ _ rfl
theorem zJY (k:Int) (h:∀j∈([43,44,45,46,47,49]:List Int),k≠j) (w:World):Calls prog 119 #[.int .i64 k] w fun e w'=>e=.returned (.slice none 0 0)∧w=w':=by
 have e43:(k==43)=false:=yA.2 (h 43 (by decide));have e44:(k==44)=false:=yA.2 (h 44 (by decide));have e45:(k==45)=false:=yA.2 (h 45 (by decide));have e46:(k==46)=false:=yA.2 (h 46 (by decide));have e47:(k==47)=false:=yA.2 (h 47 (by decide));have e49:(k==49)=false:=yA.2 (h 49 (by decide));clear h;go_enter func119,ntmps119;go_wp2_with fail;go_ret;exact⟨rfl,rfl⟩
theorem zGd {nb:ByteArray} (h:nb.data.toList=[]):nb=⟨#[]⟩:=by
 cases nb with
 | mk d=>congr 1;exact Array.toList_eq_nil_iff.1 h
theorem zKm {nb:ByteArray} (h:nb.data.toList≠[]):nb.toList≠[]∧(nb.toList==[])=false∧nb.toList.isEmpty=false:=by
 have h1:nb.toList≠[]:=by rw[ByteArray.toList_eq];exact h
 exact⟨h1,yA.2 h1,by rw[List.isEmpty_eq_false_iff];exact h1⟩
theorem zED {w w':World} {o:Obj} (h:Below (w.alloc o).heap.size (w.alloc o) w'):Below w.heap.size w w':=((Below.refl _ _).alloc (yAD _) _).trans (h.mono (by simp))
def NmP (q:Bool) (w:World) (e:Ending) (w':World):Prop:=e=.returned (.bool q)∧Below w.heap.size w w'
theorem zSo (k:Int) (h:k=7∨k=18∨k=19∨k=20∨k=33) (nb:ByteArray) (vs vm vk:Value) (nk nn:Int) (ng:Bool) (w:World) {q:Bool} (hl:nb.size≤8192) (hq:zCx nb.data.toList=q):Calls prog 82 #[.agg #[.int .i64 k,.string nb,vs,.int .i64 nk,.int .i64 nn,.bool ng,vm,vk]] w (NmP q w):=by
 have HQ:=zD hq;clear hq;rcases h with rfl | rfl | rfl | rfl | rfl
 all_goals
  go_enter func82,ntmps82;go_wp2_with (go_at_call 117;refine(zHb nb _ hl HQ.out).mono ?_;rintro e w' ⟨rfl,rfl⟩);go_ret;exact⟨rfl,by go_grown⟩
theorem zSp (k:Int) (h:k=12∨k=13∨k=17∨k=41) (nb:ByteArray) (vs vm vk:Value) (nk nn:Int) (ng:Bool) (w:World) {q:Bool} (hl:nb.size≤8192) (hq:nb.data.toList=[]) (hq2:q=true):Calls prog 82 #[.agg #[.int .i64 k,.string nb,vs,.int .i64 nk,.int .i64 nn,.bool ng,vm,vk]] w (NmP q w):=by
 obtain rfl:=zGd hq;subst hq2;clear hq;rcases h with rfl | rfl | rfl | rfl
 all_goals
  go_enter func82,ntmps82;go_wp2_with fail;go_ret;exact⟨rfl,by go_grown⟩
theorem zSq (k:Int) (h:k=12∨k=13∨k=17∨k=41) (nb:ByteArray) (vs vm vk:Value) (nk nn:Int) (ng:Bool) (w:World) {q:Bool} (hl:nb.size≤8192) (hne:nb.data.toList≠[]) (hq:zCx nb.data.toList=q):Calls prog 82 #[.agg #[.int .i64 k,.string nb,vs,.int .i64 nk,.int .i64 nn,.bool ng,vm,vk]] w (NmP q w):=by
 have HQ:=zD hq;obtain⟨f1,f2,f3⟩:=zKm hne;clear hq hne f1;rcases h with rfl | rfl | rfl | rfl
 all_goals
  go_enter func82,ntmps82;go_wp2_with (go_at_call 117;refine(zHb nb _ hl HQ.out).mono ?_;rintro e w' ⟨rfl,rfl⟩);go_ret;exact⟨rfl,by go_grown⟩
theorem zPv (nb:ByteArray) (vs vm vk:Value) (nk nn:Int) (ng:Bool) (w:World) {q:Bool} (hl:nb.size≤8192) (hq:zGt nb.data.toList=q):Calls prog 82 #[.agg #[.int .i64 52,.string nb,vs,.int .i64 nk,.int .i64 nn,.bool ng,vm,vk]] w (NmP q w):=by
 have HQ:=zD hq;clear hq;go_enter func82,ntmps82;go_wp2_with (go_at_call 118;refine(zFQ nb _ hl HQ.out).mono ?_;rintro e w' ⟨rfl,rfl⟩);go_ret;exact⟨rfl,by go_grown⟩
theorem zSr (k:Int) (h:k=43∨k=44∨k=45∨k=46∨k=47∨k=49) (nb:ByteArray) (vs vm vk:Value) (nk nn:Int) (ng:Bool) (w:World) {q:Bool} (_hl:nb.size≤8192) (hq:decide (nb.data.toList∈zIC k)=q):Calls prog 82 #[.agg #[.int .i64 k,.string nb,vs,.int .i64 nk,.int .i64 nn,.bool ng,vm,vk]] w (NmP q w):=by
 have HQ:=zD hq;clear hq;have hnn:=fun(w:World) (ad:Addr) (n c:Nat)=>run_neq_slice_nil_any (P:=prog) w 58 9 (some ad) n c 0 0 underlying58;rcases h with rfl | rfl | rfl | rfl | rfl | rfl
 all_goals
  go_enter func82,ntmps82;go_wp2_with (first | (go_at_call 119;refine(zM5 _ (by omega) _).mono ?_;rintro e1 w1 ⟨ad,c1,rfl,hr1,hb1⟩;have hc1:=hb1.cell (p:=⟨w.heap.size,1,none⟩) (by simp)) | (go_at_call 111;refine(zEf nb (n:=(zIC _).length) rfl hr1 (by decide) HQ.out).mono ?_;rintro e2 w2 ⟨rfl,rfl⟩));go_ret;exact⟨rfl,zED hb1⟩
theorem zKn (k:Int) (h:∀j∈([7,12,13,17,18,19,20,33,41,43,44,45,46,47,49,52]:List Int),k≠j) (nb:ByteArray) (vs vm vk:Value) (nk nn:Int) (ng:Bool) (w:World) {q:Bool} (_hl:nb.size≤8192) (hq:nb.data.toList=[]) (hq2:q=true):Calls prog 82 #[.agg #[.int .i64 k,.string nb,vs,.int .i64 nk,.int .i64 nn,.bool ng,vm,vk]] w (NmP q w):=by
 obtain rfl:=zGd hq;subst hq2;clear hq;have e7:(k==7)=false:=yA.2 (h 7 (by decide));have e12:(k==12)=false:=yA.2 (h 12 (by decide));have e13:(k==13)=false:=yA.2 (h 13 (by decide));have e17:(k==17)=false:=yA.2 (h 17 (by decide));have e18:(k==18)=false:=yA.2 (h 18 (by decide));have e19:(k==19)=false:=yA.2 (h 19 (by decide));have e20:(k==20)=false:=yA.2 (h 20 (by decide));have e33:(k==33)=false:=yA.2 (h 33 (by decide));have e41:(k==41)=false:=yA.2 (h 41 (by decide));have e43:(k==43)=false:=yA.2 (h 43 (by decide));have e44:(k==44)=false:=yA.2 (h 44 (by decide));have e45:(k==45)=false:=yA.2 (h 45 (by decide));have e46:(k==46)=false:=yA.2 (h 46 (by decide));have e47:(k==47)=false:=yA.2 (h 47 (by decide));have e49:(k==49)=false:=yA.2 (h 49 (by decide));have e52:(k==52)=false:=yA.2 (h 52 (by decide));have HC:=zD (fun w=>zJY k (fun j hj=>h j (by simp only[List.mem_cons,List.mem_nil_iff,or_false]at hj⊢;omega)) w);have hnn:=fun(w:World)=>run_neq_slice_nil_any (P:=prog) w 58 9 none 0 0 0 0 underlying58;clear h;go_enter func82,ntmps82;go_wp2_with (go_at_call 119;refine(HC.out _).mono ?_;rintro e1 w1 ⟨rfl,rfl⟩);go_ret;exact⟨rfl,by go_grown⟩
theorem zKo (k:Int) (h:∀j∈([7,12,13,17,18,19,20,33,41,43,44,45,46,47,49,52]:List Int),k≠j) (nb:ByteArray) (vs vm vk:Value) (nk nn:Int) (ng:Bool) (w:World) {q:Bool} (_hl:nb.size≤8192) (hq:nb.data.toList≠[]) (hq2:q=false):Calls prog 82 #[.agg #[.int .i64 k,.string nb,vs,.int .i64 nk,.int .i64 nn,.bool ng,vm,vk]] w (NmP q w):=by
 obtain⟨f1,f2,f3⟩:=zKm hq;subst hq2;clear hq f1;have e7:(k==7)=false:=yA.2 (h 7 (by decide));have e12:(k==12)=false:=yA.2 (h 12 (by decide));have e13:(k==13)=false:=yA.2 (h 13 (by decide));have e17:(k==17)=false:=yA.2 (h 17 (by decide));have e18:(k==18)=false:=yA.2 (h 18 (by decide));have e19:(k==19)=false:=yA.2 (h 19 (by decide));have e20:(k==20)=false:=yA.2 (h 20 (by decide));have e33:(k==33)=false:=yA.2 (h 33 (by decide));have e41:(k==41)=false:=yA.2 (h 41 (by decide));have e43:(k==43)=false:=yA.2 (h 43 (by decide));have e44:(k==44)=false:=yA.2 (h 44 (by decide));have e45:(k==45)=false:=yA.2 (h 45 (by decide));have e46:(k==46)=false:=yA.2 (h 46 (by decide));have e47:(k==47)=false:=yA.2 (h 47 (by decide));have e49:(k==49)=false:=yA.2 (h 49 (by decide));have e52:(k==52)=false:=yA.2 (h 52 (by decide));have HC:=zD (fun w=>zJY k (fun j hj=>h j (by simp only[List.mem_cons,List.mem_nil_iff,or_false]at hj⊢;omega)) w);have hnn:=fun(w:World)=>run_neq_slice_nil_any (P:=prog) w 58 9 none 0 0 0 0 underlying58;clear h;go_enter func82,ntmps82;go_wp2_with (go_at_call 119;refine(HC.out _).mono ?_;rintro e1 w1 ⟨rfl,rfl⟩);go_ret;exact⟨rfl,by go_grown⟩
theorem zM6 (k:Int) (nb:ByteArray) (vs vm vk:Value) (nk nn:Int) (ng:Bool) (w:World) {q:Bool} (hl:nb.size≤8192) (hq:zAf k nb.data.toList=q):Calls prog 82 #[.agg #[.int .i64 k,.string nb,vs,.int .i64 nk,.int .i64 nn,.bool ng,vm,vk]] w (NmP q w):=by
 by_cases hn:k=7∨k=18∨k=19∨k=20∨k=33
 · exact zSo k hn nb vs vm vk nk nn ng w hl (by rw[←hq];rcases hn with rfl | rfl | rfl | rfl | rfl<;>rfl)
 by_cases hm:k=12∨k=13∨k=17∨k=41
 · by_cases he:nb.data.toList=[]
   · exact zSp k hm nb vs vm vk nk nn ng w hl he (by rw[←hq,he];rcases hm with rfl | rfl | rfl | rfl<;>rfl)
   · exact zSq k hm nb vs vm vk nk nn ng w hl he (by rw[←hq];have e:=yAJ he;rcases hm with rfl | rfl | rfl | rfl<;>(show _=(decide (nb.data.toList=[]) || zCx nb.data.toList);rw[e];rfl))
 by_cases ho:k=43∨k=44∨k=45∨k=46∨k=47∨k=49
 · exact zSr k ho nb vs vm vk nk nn ng w hl (by rw[←hq];rcases ho with rfl | rfl | rfl | rfl | rfl | rfl<;>rfl)
 by_cases hr:k=52
 · subst hr;exact zPv nb vs vm vk nk nn ng w hl hq
 have hh:∀j∈([7,12,13,17,18,19,20,33,41,43,44,45,46,47,49,52]:List Int),k≠j:=fun j hj=>by simp only[List.mem_cons,List.mem_nil_iff,or_false]at hj;omega
 have hf:zAf k nb.data.toList=decide (nb.data.toList=[]):=by
  have ho:zIC k=[]:=by unfold zIC;rw[if_neg (by omega),if_neg (by omega),if_neg (by omega),if_neg (by omega),if_neg (by omega)]
  unfold zAf;rw[if_neg (by omega),if_neg (by omega),if_neg (by omega),ho,if_neg (by simp)]
 rw[hf]at hq
 by_cases he:nb.data.toList=[]
 · exact zKn k hh nb vs vm vk nk nn ng w hl he (by rw[←hq,decide_eq_true he])
 · exact zKo k hh nb vs vm vk nk nn ng w hl he (by rw[←hq,yAJ he])
theorem zGe (k:Int) (h:k=43∨k=44∨k=45∨k=49) {w:World} (v:List UInt8) {q:Bool} (hq:decide (v∈zIC k)=q):Calls prog 176 #[.int .i64 k,.string ⟨v.toArray⟩] w fun e w'=>e=.returned (.bool q)∧w.grownBy w' none:=by
 have HQ:=zD (show decide ((⟨v.toArray⟩:ByteArray).data.toList∈zIC k)=q from hq);clear hq;rcases h with rfl | rfl | rfl | rfl
 all_goals
  go_enter func176,ntmps176;go_wp2_with fail;refine(zM5 _ (by omega) _).mono ?_;rintro e1 w1 ⟨ad,c1,rfl,hr1,hb1⟩;have HR:=zD hr1;have HB:=zD hb1;clear hr1 hb1;go_wp2_with fail;refine(zEf ⟨v.toArray⟩ (n:=(zIC _).length) rfl HR.out (by decide) HQ.out).mono ?_;rintro e2 w2 ⟨rfl,rfl⟩;go_wp2_with fail;go_ret;exact⟨rfl,zAT none HB.out⟩
def Top (k:Int) (l:List (List UInt8)):Prop:=∀{w:World} (v:List UInt8) {q:Bool},decide (v∈l)=q→Calls prog 176 #[.int .i64 k,.string ⟨v.toArray⟩] w fun e w'=>e=.returned (.bool q)∧w.grownBy w' none
theorem zM7:Top 43 zH7:=zGe 43 (by omega)
theorem zRx:Top 44 zDv:=zGe 44 (by omega)
theorem zJZ:Top 45 zDv:=zGe 45 (by omega)
theorem zM8:Top 49 zIB:=zGe 49 (by omega)
theorem TrC.kind {w:World} {F:Nat→Prop} {t:Tr} {d0 d1 d2 d3 d4 d5 d6 d7 d8:Value} (h:TrC w F t [d0,d1,d2,d3,d4,d5,d6,d7,d8]):d0=.int .i64 t.nd.kind:=by
 cases t with
 | mk x l=>
  rw[zD1]at h;obtain⟨vs,vm,vo,ks,h1,_⟩:=h;unfold zSV at h1;injection h1
theorem zPw {C:Pc} {s:Ps} {w:World} (hp:Pre C.L (.unary) s) (K:KP C (zf C.L (.unary) s)) (h:Pa C s w) (hk:((zH C.L s.k).kind=5∨(zH C.L s.k).kind=6)) (hw:(zH C.L s.k).text∈zH7):zk C s w (.unary):=by
 refine zA0 hp h fun HL hlen hsk r W X HR hW hX F0=>?_;have HK:=zD K;clear K h hp;go_enter func207,ntmps207;go_upto_region 1 with(fail);clear hW hX;have HKD:=zD hk;have HW:=zD hw;clear hk hw;obtain⟨⟨kd,tx,st,nk,nn,mg,ps,nl⟩,HT⟩:=zU C.L (s).k;have HKD2:=zD (show kd=5∨kd=6 from by have:=HKD.out;rw[HT.out]at this;exact this);obtain⟨e5,e6⟩ | ⟨e5,e6⟩:((kd:Int)==5)=true∧((kd:Int)==6)=false∨((kd:Int)==5)=false∧((kd:Int)==6)=true:=by have:=HKD2.out;simp only[beq_iff_eq,yA];omega
 all_goals
  go_wp2_with fail;refine F0.kT (zp F0.P HT.out) fun w1 As Am c1 c2 F1=>?_;have F2:=F1.bt 1 44 rfl;obtain⟨zt_0,zt_1,zt_2,zt_3,zt_4,zt_5,zt_6,zt_7,zt_8⟩:=(F2.b 2).nine;go_wp2_with fail;refine F2.kQ (zM7 tx (show decide (tx∈zH7)=true from by have:=HW.out;rw[HT.out]at this;simpa using this)) fun w3 F3=>?_;have hlt:=zD (HL.out.lt hsk (by rw[HT.out];have:=HKD2.out;show kd≠0;omega));obtain⟨xk4,fk4,bk4⟩:=F3.k1;have F4:=F3.step hlt.out;have CL5:=zD (fun Q=>F4.dr.kD (Q:=Q) (HK.out.more (q:=.unary) ⟨F4.dr.P.hi,trivial⟩ F4.dr.P (yAG s.k)));obtain⟨_,_,_,_,_,_,_,_,_⟩:=F4.c 2;go_wp2_with fail;go_region_law (first | (go_simp;go_at_call 207;(with_reducible refine CL5.out _ fun w5 d5_0 d5_1 d5_2 d5_3 d5_4 d5_5 d5_6 d5_7 d5_8 F5=>?_);obtain⟨_,_,_,_,_,_,_,_,_⟩:=F5.c 2;obtain⟨_,_,_,_,_,_,_,_,_⟩:=F5.c 0;obtain⟨_,_,_,_,_,_,_,_,_⟩:=(F5.al (.cells #[d5_0,d5_1,d5_2,d5_3,d5_4,d5_5,d5_6,d5_7,d5_8] 72)).c 2;have LT5:=zD (fun Q=>F5.litN 43 tx (n:=1) (Q:=Q) (F5.ts1 3) rfl (by simp) rfl)) | (go_simp;go_at_call 139;(with_reducible refine LT5.out _ fun w6 F6=>?_);obtain⟨_,_,_,_,_,_,_,_,_⟩:=F6.c 0;obtain⟨_,_,_,_,_,_,_,_,_⟩:=F6.f 0))
  all_goals
   obtain⟨_,_,_,_,_,_,_,_,_⟩:=F6.c 0;obtain⟨_,_,_,_,_,_,_,_,_⟩:=F6.f 0;go_wp2_with fail;refine zQ (F6.put 0 4) fun V7 F7=>?_;have q:=F7.c 0;exact F7.ret 4 rfl (by simp[results,results207,go_sem,q]) rfl (HR.out.symm.trans (by
    unfold zF;dsimp only;rw[HT.out,if_pos ⟨by have:=HKD2.out;show kd=5∨kd=6;omega,by have:=HW.out;rw[HT.out]at this;exact this⟩])) (fun _ h=>h)
theorem zPx {C:Pc} {s:Ps} {w:World} (hp:Pre C.L (.unary) s) (K:KP C (zf C.L (.unary) s)) (h:Pa C s w) (hk:((zH C.L s.k).kind=5∨(zH C.L s.k).kind=6)) (hw:¬(zH C.L s.k).text∈zH7) (hw2:(zH C.L s.k).text∈zDv):zk C s w (.unary):=by
 refine zA0 hp h fun HL hlen hsk r W X HR hW hX F0=>?_;have HK:=zD K;clear K h hp;go_enter func207,ntmps207;go_upto_region 1 with(fail);clear hW hX;have HKD:=zD hk;have HW:=zD hw;have HW2:=zD hw2;clear hk hw hw2;obtain⟨⟨kd,tx,st,nk,nn,mg,ps,nl⟩,HT⟩:=zU C.L (s).k;have HKD2:=zD (show kd=5∨kd=6 from by have:=HKD.out;rw[HT.out]at this;exact this);obtain⟨e5,e6⟩ | ⟨e5,e6⟩:((kd:Int)==5)=true∧((kd:Int)==6)=false∨((kd:Int)==5)=false∧((kd:Int)==6)=true:=by have:=HKD2.out;simp only[beq_iff_eq,yA];omega
 all_goals
  go_wp2_with fail;refine F0.kT (zp F0.P HT.out) fun w1 As Am c1 c2 F1=>?_;have F2:=F1.bt 1 44 rfl;obtain⟨zt_0,zt_1,zt_2,zt_3,zt_4,zt_5,zt_6,zt_7,zt_8⟩:=(F2.b 2).nine;go_wp2_with fail;refine F2.kQ (zM7 tx (show decide (tx∈zH7)=false from by have:=HW.out;rw[HT.out]at this;simpa using this)) fun w3 F3=>?_;obtain⟨zt_0,zt_1,zt_2,zt_3,zt_4,zt_5,zt_6,zt_7,zt_8⟩:=(F3.b 2).nine;go_wp2_with fail;refine F3.kQ (zRx tx (show decide (tx∈zDv)=true from by have:=HW2.out;rw[HT.out]at this;simpa using this)) fun w4 F4=>?_;have hlt:=zD (HL.out.lt hsk (by rw[HT.out];have:=HKD2.out;show kd≠0;omega));obtain⟨xk5,fk5,bk5⟩:=F4.k1;have F5:=F4.step hlt.out;obtain⟨_,_,_,_,_,_,_,_,_⟩:=F5.c 2;go_wp2_with fail;clear xk5 fk5 bk5;refine F5.kD (HK.out.more (q:=.unary) ⟨F5.P.hi,trivial⟩ F5.P (yAG s.k)) fun w6 d6_0 d6_1 d6_2 d6_3 d6_4 d6_5 d6_6 d6_7 d6_8 F6=>?_;obtain⟨_,_,_,_,_,_,_,_,_⟩:=F6.sto 3;obtain rfl:=(F6.t 3).kind;have F7:=F6.box [.int .i64 ((zG C.L (.unary) (zB (s))).1).nd.kind,d6_1,d6_2,d6_3,d6_4,d6_5,d6_6,d6_7,d6_8] 72 rfl (by decide) (by decide)
  by_cases hb:((zG C.L (.unary) (zB (s))).2).bad=0
  · have HBD:=zD (show(((zG C.L (.unary) (zB (s))).2).bad==0)=true by rw[hb];rfl);have HBZ:=zD hb;clear hb;go_wp2_with fail;refine F7.kB (zBO F7.P HBD.out) fun w8 F8=>?_;obtain⟨_,_,_,_,_,_,_,_,_⟩:=F8.c 4;go_wp2_with fail;refine(zBf _ _).mono ?_;rintro ev9 wx9 ⟨rfl,rfl⟩;obtain⟨bt,hbt⟩:∃bt,zAH ((zG C.L (.unary) (zB (s))).1).nd.kind=bt:=⟨_,rfl⟩;rw[hbt];have HBT:=zD hbt;clear hbt;cases bt with
    | true=>
     obtain⟨_,_,_,_,_,_,_,_,_⟩:=F8.c 2;obtain⟨_,_,_,_,_,_,_,_,_⟩:=F8.c 4;go_wp2_with fail;refine F8.litN _ _ (n:=1) (F8.ts1 3) rfl (by simp) rfl fun w10 F10=>?_;obtain⟨_,_,_,_,_,_,_,_,_⟩:=F10.c 0;obtain⟨_,_,_,_,_,_,_,_,_⟩:=F10.f 0;go_wp2_with fail;refine zQ (F10.put 0 5) fun V11 F11=>?_;have q:=F11.c 0;exact F11.ret 5 rfl (by simp[results,results207,go_sem,q]) rfl (HR.out.symm.trans (by
      unfold zF;dsimp only;rw[HT.out,if_neg (fun h=>by have:=HW.out;rw[HT.out]at this;exact this h.2),if_pos ⟨by have:=HKD2.out;show kd=5∨kd=6;omega,by have:=HW2.out;rw[HT.out]at this;exact this⟩]
      try dsimp only
      rw[HBT.out,if_neg (by simp)])) (fun _ h=>h)
    | false=>
     go_wp2_with fail;refine F8.kN (zAG F8.P) fun w12 F12=>?_;obtain⟨_,_,_,_,_,_,_,_,_⟩:=F12.c 2;obtain⟨_,_,_,_,_,_,_,_,_⟩:=F12.c 4;go_wp2_with fail;refine F12.litN _ _ (n:=1) (F12.ts1 3) rfl (by simp) rfl fun w13 F13=>?_;obtain⟨_,_,_,_,_,_,_,_,_⟩:=F13.c 0;obtain⟨_,_,_,_,_,_,_,_,_⟩:=F13.f 0;go_wp2_with fail;refine zQ (F13.put 0 5) fun V14 F14=>?_;have q:=F14.c 0;exact F14.ret 5 rfl (by simp[results,results207,go_sem,q]) rfl (HR.out.symm.trans (by
      unfold zF;dsimp only;rw[HT.out,if_neg (fun h=>by have:=HW.out;rw[HT.out]at this;exact this h.2),if_pos ⟨by have:=HKD2.out;show kd=5∨kd=6;omega,by have:=HW2.out;rw[HT.out]at this;exact this⟩]
      try dsimp only
      rw[HBT.out,if_pos ⟨HBZ.out,rfl⟩])) (fun _ h=>h)
  · have HBD:=zD (show(((zG C.L (.unary) (zB (s))).2).bad==0)=false by rw[yA];exact hb);have HBZ:=zD hb;clear hb;go_wp2_with fail;refine F7.kB (zBO F7.P HBD.out) fun w15 F15=>?_;obtain⟨_,_,_,_,_,_,_,_,_⟩:=F15.c 2;obtain⟨_,_,_,_,_,_,_,_,_⟩:=F15.c 4;go_wp2_with fail;refine F15.litN _ _ (n:=1) (F15.ts1 3) rfl (by simp) rfl fun w16 F16=>?_;obtain⟨_,_,_,_,_,_,_,_,_⟩:=F16.c 0;obtain⟨_,_,_,_,_,_,_,_,_⟩:=F16.f 0;go_wp2_with fail;refine zQ (F16.put 0 5) fun V17 F17=>?_;have q:=F17.c 0;exact F17.ret 5 rfl (by simp[results,results207,go_sem,q]) rfl (HR.out.symm.trans (by
     unfold zF;dsimp only;rw[HT.out,if_neg (fun h=>by have:=HW.out;rw[HT.out]at this;exact this h.2),if_pos ⟨by have:=HKD2.out;show kd=5∨kd=6;omega,by have:=HW2.out;rw[HT.out]at this;exact this⟩]
     try dsimp only
     rw[if_neg (fun h=>HBZ.out h.1)])) (fun _ h=>h)
theorem zPy {C:Pc} {s:Ps} {w:World} (hp:Pre C.L (.unary) s) (K:KP C (zf C.L (.unary) s)) (h:Pa C s w) (hk:((zH C.L s.k).kind=5∨(zH C.L s.k).kind=6)) (hw:¬(zH C.L s.k).text∈zH7) (hw2:¬(zH C.L s.k).text∈zDv):zk C s w (.unary):=by
 refine zA0 hp h fun HL hlen hsk r W X HR hW hX F0=>?_;have HK:=zD K;clear K h hp;go_enter func207,ntmps207;go_upto_region 1 with(fail);clear hW hX;have HKD:=zD hk;have HW:=zD hw;have HW2:=zD hw2;clear hk hw hw2;obtain⟨⟨kd,tx,st,nk,nn,mg,ps,nl⟩,HT⟩:=zU C.L (s).k;have HKD2:=zD (show kd=5∨kd=6 from by have:=HKD.out;rw[HT.out]at this;exact this);obtain⟨e5,e6⟩ | ⟨e5,e6⟩:((kd:Int)==5)=true∧((kd:Int)==6)=false∨((kd:Int)==5)=false∧((kd:Int)==6)=true:=by have:=HKD2.out;simp only[beq_iff_eq,yA];omega
 all_goals
  go_wp2_with fail;refine F0.kT (zp F0.P HT.out) fun w1 As Am c1 c2 F1=>?_;have F2:=F1.bt 1 44 rfl;obtain⟨zt_0,zt_1,zt_2,zt_3,zt_4,zt_5,zt_6,zt_7,zt_8⟩:=(F2.b 2).nine;go_wp2_with fail;refine F2.kQ (zM7 tx (show decide (tx∈zH7)=false from by have:=HW.out;rw[HT.out]at this;simpa using this)) fun w3 F3=>?_;obtain⟨zt_0,zt_1,zt_2,zt_3,zt_4,zt_5,zt_6,zt_7,zt_8⟩:=(F3.b 2).nine;go_wp2_with fail;refine F3.kQ (zRx tx (show decide (tx∈zDv)=false from by have:=HW2.out;rw[HT.out]at this;simpa using this)) fun w4 F4=>?_;go_wp2_with fail;refine F4.kD (HK.out.rank (q:=.calls) ⟨F4.P.hi,trivial⟩ F4.P (yAD _) (by simp[zn])) fun w5 d5_0 d5_1 d5_2 d5_3 d5_4 d5_5 d5_6 d5_7 d5_8 F5=>?_;obtain⟨_,_,_,_,_,_,_,_,_⟩:=F5.sto 3;obtain rfl:=(F5.t 3).kind;have hlo1:=(F5.b 2).lt;have F6:=F5.box [.int .i64 ((zG C.L (.calls) (s)).1).nd.kind,d5_1,d5_2,d5_3,d5_4,d5_5,d5_6,d5_7,d5_8] 72 rfl (by decide) (by decide);obtain⟨⟨kdo,txo,sto,nko,nno,mgo,pso,nlo⟩,HTo⟩:=zU C.L ((zG C.L (.calls) (s)).2).k;go_wp2_with fail;refine F6.kT (zp F6.P HTo.out) fun w7 Aso Amo c1o c2o F7=>?_;obtain⟨_,_,_,_,_,_,_,_,_⟩:=F7.c 2;obtain⟨_,_,_,_,_,_,_,_,_⟩:=F7.f 2;go_upto_region 14 with(fail);refine zDo (F7.put 2 5) fun w8 F8=>?_;obtain⟨_,_,_,_,_,_,_,_,_⟩:=F8.c 2
  by_cases hk5:kdo=5
  · have HK5:=zD hk5;have eo5:((kdo:Int)==5)=true:=by rw[beq_iff_eq];omega
    clear hk5
    by_cases hop:txo∈zDv
    · have HOP:=zD hop;clear hop;go_wp2_with fail;refine F8.kQ (zJZ txo (show decide (txo∈zDv)=true from by simpa using HOP.out)) fun w9 F9=>?_;obtain⟨_,_,_,_,_,_,_,_,_⟩:=F9.c 2;obtain⟨_,_,_,_,_,_,_,_,_⟩:=F9.c 4;cases nlo with
      | true=>
       obtain⟨_,_,_,_,_,_,_,_,_⟩:=F9.c 0;obtain⟨_,_,_,_,_,_,_,_,_⟩:=F9.f 0;go_wp2_with fail;refine zQ (F9.put 0 3) fun V10 F10=>?_;have q:=F10.c 0;exact F10.ret 3 rfl (by simp[results,results207,go_sem,q]) rfl (HR.out.symm.trans (by
        unfold zF;dsimp only;rw[HT.out,if_neg (fun h=>by have:=HW.out;rw[HT.out]at this;exact this h.2),if_neg (fun h=>by have:=HW2.out;rw[HT.out]at this;exact this h.2)]
        try dsimp only
        rw[HTo.out]
        try dsimp only
        rw[if_neg (by simp)])) (fun _ h=>h)
      | false=>
       go_wp2_with fail;refine(zBf _ _).mono ?_;rintro ev11 wx11 ⟨rfl,rfl⟩;obtain⟨bt,hbt⟩:∃bt,zAH ((zG C.L (.calls) (s)).1).nd.kind=bt:=⟨_,rfl⟩;rw[hbt];have HBT:=zD hbt;clear hbt;cases bt with
       | true=>
        have hlo:=zD (HL.out.lt (s:=(zG C.L (.calls) (s)).2) F9.P.hi (by rw[HTo.out];have:=HK5.out;show kdo≠0;omega));obtain⟨xk12,fk12,bk12⟩:=F9.k1;have F12:=F9.step hlo.out;obtain⟨_,_,_,_,_,_,_,_,_⟩:=F12.c 2;obtain⟨_,_,_,_,_,_,_,_,_⟩:=F12.c 4;go_wp2_with fail;clear xk12 fk12 bk12;refine F12.litN _ _ (n:=1) (F12.ts1 3) rfl (by simp) (show _=w9.heap.size by simp) fun w13 F13=>?_;obtain⟨_,_,_,_,_,_,_,_,_⟩:=F13.c 0;obtain⟨_,_,_,_,_,_,_,_,_⟩:=F13.f 0;go_wp2_with fail;refine zQ (F13.put 0 6) fun V14 F14=>?_;have q:=F14.c 0;exact F14.ret 6 rfl (by simp[results,results207,go_sem,q]) rfl (HR.out.symm.trans (by
         unfold zF;dsimp only;rw[HT.out,if_neg (fun h=>by have:=HW.out;rw[HT.out]at this;exact this h.2),if_neg (fun h=>by have:=HW2.out;rw[HT.out]at this;exact this h.2)]
         try dsimp only
         rw[HTo.out]
         try dsimp only
         rw[if_pos ⟨HK5.out,HOP.out,rfl⟩,HBT.out,if_neg (by simp)])) (fun _ h=>h)
       | false=>
        go_wp2_with fail;refine F9.kN (zAG F9.P) fun w15 F15=>?_;obtain⟨_,_,_,_,_,_,_,_,_⟩:=F15.c 4;obtain⟨_,_,_,_,_,_,_,_,_⟩:=F15.c 0;obtain⟨_,_,_,_,_,_,_,_,_⟩:=F15.f 0;go_wp2_with fail;refine zQ (F15.put 0 3) fun V16 F16=>?_;have q:=F16.c 0;exact F16.ret 3 rfl (by simp[results,results207,go_sem,q]) rfl (HR.out.symm.trans (by
         unfold zF;dsimp only;rw[HT.out,if_neg (fun h=>by have:=HW.out;rw[HT.out]at this;exact this h.2),if_neg (fun h=>by have:=HW2.out;rw[HT.out]at this;exact this h.2)]
         try dsimp only
         rw[HTo.out]
         try dsimp only
         rw[if_pos ⟨HK5.out,HOP.out,rfl⟩,HBT.out,if_pos rfl])) (fun _ h=>h)
    · have HOP:=zD hop;clear hop;go_wp2_with fail;refine F8.kQ (zJZ txo (show decide (txo∈zDv)=false from by simpa using HOP.out)) fun w17 F17=>?_;obtain⟨_,_,_,_,_,_,_,_,_⟩:=F17.c 2;obtain⟨_,_,_,_,_,_,_,_,_⟩:=F17.c 4;obtain⟨_,_,_,_,_,_,_,_,_⟩:=F17.c 0;obtain⟨_,_,_,_,_,_,_,_,_⟩:=F17.f 0;go_wp2_with fail;refine zQ (F17.put 0 3) fun V18 F18=>?_;have q:=F18.c 0;exact F18.ret 3 rfl (by simp[results,results207,go_sem,q]) rfl (HR.out.symm.trans (by
       unfold zF;dsimp only;rw[HT.out,if_neg (fun h=>by have:=HW.out;rw[HT.out]at this;exact this h.2),if_neg (fun h=>by have:=HW2.out;rw[HT.out]at this;exact this h.2)]
       try dsimp only
       rw[HTo.out]
       try dsimp only
       rw[if_neg (fun h=>HOP.out h.2.1)])) (fun _ h=>h)
  · have HK5:=zD hk5;have eo5:((kdo:Int)==5)=false:=by rw[yA];omega
    clear hk5;obtain⟨_,_,_,_,_,_,_,_,_⟩:=F8.c 4;obtain⟨_,_,_,_,_,_,_,_,_⟩:=F8.c 0;obtain⟨_,_,_,_,_,_,_,_,_⟩:=F8.f 0;go_wp2_with fail;refine zQ (F8.put 0 3) fun V19 F19=>?_;have q:=F19.c 0;exact F19.ret 3 rfl (by simp[results,results207,go_sem,q]) rfl (HR.out.symm.trans (by
     unfold zF;dsimp only;rw[HT.out,if_neg (fun h=>by have:=HW.out;rw[HT.out]at this;exact this h.2),if_neg (fun h=>by have:=HW2.out;rw[HT.out]at this;exact this h.2)]
     try dsimp only
     rw[HTo.out]
     try dsimp only
     rw[if_neg (fun h=>HK5.out h.1)])) (fun _ h=>h)
theorem zPz {C:Pc} {s:Ps} {w:World} (hp:Pre C.L (.unary) s) (K:KP C (zf C.L (.unary) s)) (h:Pa C s w) (hk:((zH C.L s.k).kind≠5∧(zH C.L s.k).kind≠6)) (hw:True):zk C s w (.unary):=by
 refine zA0 hp h fun HL hlen hsk r W X HR hW hX F0=>?_;have HK:=zD K;clear K h hp;go_enter func207,ntmps207;go_upto_region 1 with(fail);clear hW hX;have HKD:=zD hk;have HW:=zD hw;clear hk hw;obtain⟨⟨kd,tx,st,nk,nn,mg,ps,nl⟩,HT⟩:=zU C.L (s).k;have HKD2:=zD (show kd≠5∧kd≠6 from by have:=HKD.out;rw[HT.out]at this;exact this);have e5:((kd:Int)==5)=false:=by have:=HKD2.out.1;rw[yA];omega
 have e6:((kd:Int)==6)=false:=by have:=HKD2.out.2;rw[yA];omega
 go_wp2_with fail;refine F0.kT (zp F0.P HT.out) fun w1 As Am c1 c2 F1=>?_;have F2:=F1.bt 1 44 rfl;obtain⟨zt_0,zt_1,zt_2,zt_3,zt_4,zt_5,zt_6,zt_7,zt_8⟩:=(F2.b 2).nine;go_wp2_with fail;refine F2.kD (HK.out.rank (q:=.calls) ⟨F2.P.hi,trivial⟩ F2.P (yAD _) (by simp[zn])) fun w3 d3_0 d3_1 d3_2 d3_3 d3_4 d3_5 d3_6 d3_7 d3_8 F3=>?_;obtain⟨_,_,_,_,_,_,_,_,_⟩:=F3.sto 3;obtain rfl:=(F3.t 3).kind;have hlo1:=(F3.b 2).lt;have F4:=F3.box [.int .i64 ((zG C.L (.calls) (s)).1).nd.kind,d3_1,d3_2,d3_3,d3_4,d3_5,d3_6,d3_7,d3_8] 72 rfl (by decide) (by decide);obtain⟨⟨kdo,txo,sto,nko,nno,mgo,pso,nlo⟩,HTo⟩:=zU C.L ((zG C.L (.calls) (s)).2).k;go_wp2_with fail;refine F4.kT (zp F4.P HTo.out) fun w5 Aso Amo c1o c2o F5=>?_;obtain⟨_,_,_,_,_,_,_,_,_⟩:=F5.c 2;obtain⟨_,_,_,_,_,_,_,_,_⟩:=F5.f 2;go_upto_region 14 with(fail);refine zDo (F5.put 2 5) fun w6 F6=>?_;obtain⟨_,_,_,_,_,_,_,_,_⟩:=F6.c 2
 by_cases hk5:kdo=5
 · have HK5:=zD hk5;have eo5:((kdo:Int)==5)=true:=by rw[beq_iff_eq];omega
   clear hk5
   by_cases hop:txo∈zDv
   · have HOP:=zD hop;clear hop;go_wp2_with fail;refine F6.kQ (zJZ txo (show decide (txo∈zDv)=true from by simpa using HOP.out)) fun w7 F7=>?_;obtain⟨_,_,_,_,_,_,_,_,_⟩:=F7.c 2;obtain⟨_,_,_,_,_,_,_,_,_⟩:=F7.c 4;cases nlo with
     | true=>
      obtain⟨_,_,_,_,_,_,_,_,_⟩:=F7.c 0;obtain⟨_,_,_,_,_,_,_,_,_⟩:=F7.f 0;go_wp2_with fail;refine zQ (F7.put 0 3) fun V8 F8=>?_;have q:=F8.c 0;exact F8.ret 3 rfl (by simp[results,results207,go_sem,q]) rfl (HR.out.symm.trans (by
       unfold zF;dsimp only;rw[HT.out,if_neg (fun h=>h.1.elim (fun e=>HKD2.out.1 e) (fun e=>HKD2.out.2 e)),if_neg (fun h=>h.1.elim (fun e=>HKD2.out.1 e) (fun e=>HKD2.out.2 e))]
       try dsimp only
       rw[HTo.out]
       try dsimp only
       rw[if_neg (by simp)])) (fun _ h=>h)
     | false=>
      go_wp2_with fail;refine(zBf _ _).mono ?_;rintro ev9 wx9 ⟨rfl,rfl⟩;obtain⟨bt,hbt⟩:∃bt,zAH ((zG C.L (.calls) (s)).1).nd.kind=bt:=⟨_,rfl⟩;rw[hbt];have HBT:=zD hbt;clear hbt;cases bt with
      | true=>
       have hlo:=zD (HL.out.lt (s:=(zG C.L (.calls) (s)).2) F7.P.hi (by rw[HTo.out];have:=HK5.out;show kdo≠0;omega));obtain⟨xk10,fk10,bk10⟩:=F7.k1;have F10:=F7.step hlo.out;obtain⟨_,_,_,_,_,_,_,_,_⟩:=F10.c 2;obtain⟨_,_,_,_,_,_,_,_,_⟩:=F10.c 4;go_wp2_with fail;clear xk10 fk10 bk10;refine F10.litN _ _ (n:=1) (F10.ts1 3) rfl (by simp) (show _=w7.heap.size by simp) fun w11 F11=>?_;obtain⟨_,_,_,_,_,_,_,_,_⟩:=F11.c 0;obtain⟨_,_,_,_,_,_,_,_,_⟩:=F11.f 0;go_wp2_with fail;refine zQ (F11.put 0 6) fun V12 F12=>?_;have q:=F12.c 0;exact F12.ret 6 rfl (by simp[results,results207,go_sem,q]) rfl (HR.out.symm.trans (by
        unfold zF;dsimp only;rw[HT.out,if_neg (fun h=>h.1.elim (fun e=>HKD2.out.1 e) (fun e=>HKD2.out.2 e)),if_neg (fun h=>h.1.elim (fun e=>HKD2.out.1 e) (fun e=>HKD2.out.2 e))]
        try dsimp only
        rw[HTo.out]
        try dsimp only
        rw[if_pos ⟨HK5.out,HOP.out,rfl⟩,HBT.out,if_neg (by simp)])) (fun _ h=>h)
      | false=>
       go_wp2_with fail;refine F7.kN (zAG F7.P) fun w13 F13=>?_;obtain⟨_,_,_,_,_,_,_,_,_⟩:=F13.c 4;obtain⟨_,_,_,_,_,_,_,_,_⟩:=F13.c 0;obtain⟨_,_,_,_,_,_,_,_,_⟩:=F13.f 0;go_wp2_with fail;refine zQ (F13.put 0 3) fun V14 F14=>?_;have q:=F14.c 0;exact F14.ret 3 rfl (by simp[results,results207,go_sem,q]) rfl (HR.out.symm.trans (by
        unfold zF;dsimp only;rw[HT.out,if_neg (fun h=>h.1.elim (fun e=>HKD2.out.1 e) (fun e=>HKD2.out.2 e)),if_neg (fun h=>h.1.elim (fun e=>HKD2.out.1 e) (fun e=>HKD2.out.2 e))]
        try dsimp only
        rw[HTo.out]
        try dsimp only
        rw[if_pos ⟨HK5.out,HOP.out,rfl⟩,HBT.out,if_pos rfl])) (fun _ h=>h)
   · have HOP:=zD hop;clear hop;go_wp2_with fail;refine F6.kQ (zJZ txo (show decide (txo∈zDv)=false from by simpa using HOP.out)) fun w15 F15=>?_;obtain⟨_,_,_,_,_,_,_,_,_⟩:=F15.c 2;obtain⟨_,_,_,_,_,_,_,_,_⟩:=F15.c 4;obtain⟨_,_,_,_,_,_,_,_,_⟩:=F15.c 0;obtain⟨_,_,_,_,_,_,_,_,_⟩:=F15.f 0;go_wp2_with fail;refine zQ (F15.put 0 3) fun V16 F16=>?_;have q:=F16.c 0;exact F16.ret 3 rfl (by simp[results,results207,go_sem,q]) rfl (HR.out.symm.trans (by
      unfold zF;dsimp only;rw[HT.out,if_neg (fun h=>h.1.elim (fun e=>HKD2.out.1 e) (fun e=>HKD2.out.2 e)),if_neg (fun h=>h.1.elim (fun e=>HKD2.out.1 e) (fun e=>HKD2.out.2 e))]
      try dsimp only
      rw[HTo.out]
      try dsimp only
      rw[if_neg (fun h=>HOP.out h.2.1)])) (fun _ h=>h)
 · have HK5:=zD hk5;have eo5:((kdo:Int)==5)=false:=by rw[yA];omega
   clear hk5;obtain⟨_,_,_,_,_,_,_,_,_⟩:=F6.c 4;obtain⟨_,_,_,_,_,_,_,_,_⟩:=F6.c 0;obtain⟨_,_,_,_,_,_,_,_,_⟩:=F6.f 0;go_wp2_with fail;refine zQ (F6.put 0 3) fun V17 F17=>?_;have q:=F17.c 0;exact F17.ret 3 rfl (by simp[results,results207,go_sem,q]) rfl (HR.out.symm.trans (by
    unfold zF;dsimp only;rw[HT.out,if_neg (fun h=>h.1.elim (fun e=>HKD2.out.1 e) (fun e=>HKD2.out.2 e)),if_neg (fun h=>h.1.elim (fun e=>HKD2.out.1 e) (fun e=>HKD2.out.2 e))]
    try dsimp only
    rw[HTo.out]
    try dsimp only
    rw[if_neg (fun h=>HK5.out h.1)])) (fun _ h=>h)
theorem zM9 {C:Pc} {s:Ps} {w:World} (hp:Pre C.L .unary s) (K:KP C (zf C.L .unary s)) (h:Pa C s w):zk C s w .unary:=by
 by_cases k5:(zH C.L s.k).kind=5∨(zH C.L s.k).kind=6
 · by_cases u:(zH C.L s.k).text∈zH7
   · exact zPw hp K h k5 u
   · by_cases p:(zH C.L s.k).text∈zDv
     · exact zPx hp K h k5 u p
     · exact zPy hp K h k5 u p
 · exact zPz hp K h (not_or.1 k5) trivial
end Go.Proofs.YtlohaclgbfhijaaGreatDoor
