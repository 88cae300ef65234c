/- Joined for the claim ParseBlocks: the parser, the lexer and the trees as they are walked, made short by a program of mine. -/
import Derived.Test.YtlohaclgbfhijaaGreatDoorS26
import Derived.Test.YtlohaclgbfhijaaGreatDoorS02
import Derived.Lib.SliceRun
import Derived.Deep.CutBlock
import Derived.Deep.DeepCutAuto
import Derived.Test.YtlohaclgbfhijaaGreatDoorS01
import Derived.Test.YtlohaclgbfhijaaGreatDoorS04
import Derived.Test.YtlohaclgbfhijaaGreatDoorS25
import Derived.Test.YtlohaclgbfhijaaGreatDoorS23
import Derived.Test.YtlohaclgbfhijaaGreatDoorS22
set_option maxHeartbeats 16000000
set_option maxRecDepth 1000000
namespace Go.Proofs.YtlohaclgbfhijaaGreatDoor
open Go.Proofs.Tryz
open Go.RowKit
theorem zOe {A:Option Addr} {c B n:Nat} {ts:List Nd} {w:World} (hN:NdsR w B A n ts) (hB:B≤w.heap.size) (hc:n≤c) (hl:n≤4096) (h0:0 < n) (ht:(zAl ts).length≤1000000) {q:Bool} (hq:zB0 ts=q):
 Calls prog 50 #[.agg #[.slice A n c]] w fun e w'=>e=.returned (.bool q)∧Below w.heap.size w w':=by
 obtain⟨W,hW⟩:∃W,w.alloc (.cells #[.slice A n c] 27)=W:=⟨_,rfl⟩;have hbW:Below w.heap.size w W:=by rw[←hW];exact(Below.refl _ _).alloc (yAD _) _
 have hsW:W.heap.size=w.heap.size+1:=by rw[←hW];simp
 have hNW:=zD ((hN.below (hbW.mono hB)));have hcW:W.cell? ⟨w.heap.size,0,none⟩=some (.slice A n c):=by rw[←hW,World.cell?_alloc_at _ _ _ _ rfl];rfl
 have HQ:=zD hq;have HBW:=zD hbW;have HT:=zD ht;have HTS:=zD hN.1;have HTL:=zD (zR1 ts);obtain⟨i0,hi,hz0,hz1,hz2⟩:=info_parts Tryz.info_int;have HI:=zD (And.intro hi (And.intro hz0 (And.intro hz1 hz2)));have HB:=zD hB;clear hq hbW ht hN hi hz0 hz1 hz2;go_enter func50,ntmps50;go_upto_region 1 with(fail);have HW:=zD hW;clear hW;go_wp2_with fail
 go_loopw [3,10] (fun v i wr=>∃(k:Nat) (st:List Int),k≤n∧i=.int .i64 k∧Hid (OrdAt ts n k st)∧Hid (st.length≤(zAl (ts.take k)).length)∧Hid (OrS W wr v st)) (fun _ i _=>n - (intOf i).toNat)
 case atStart=>exact⟨0,[],yAF _,rfl,⟨by unfold zB0;rw[HTS.out,if_pos rfl,List.drop_zero],fun _=>rfl⟩,yAF _,⟨yAK _ _ _ _,Below.refl _ _⟩⟩
 case round=>
  obtain⟨k,st,hk,rfl,hst,htot,hS⟩:=hrel
  by_cases hlt:k < n
  · have hbr:=hS.out.below;obtain⟨b,o,x,s,rfl,hbB,hx,hC,hR⟩:=(hNW.out.below (hbr.mono (by omega))).get hlt;obtain⟨kc0,kc1,kc2,kc3,kc4,kc5,kc6,kc7⟩:=hC;have hsr:=hbr.size;have HBR:=zD hbr;have hbx:wr.cell? ⟨w.heap.size,0,none⟩=some (.slice (some ⟨b,o,none⟩) n c):=(hbr.cell (p:=⟨w.heap.size,0,none⟩) (show w.heap.size < W.heap.size by omega)).trans hcW;have HX':=zD hx;have HR:=zD hR;have htot2:=htot.out;have hkl:x.kids.length≤1000000∧(x.kids++st).length≤(zAl (ts.take (k+1))).length:=by
     have h1:=HTL.out (k+1);have h2:=HT.out;rw[zR0 HX'.out,List.length_append]at h1⊢;rw[List.length_append];omega
    have hkl1:=hkl.1;have HKL:=zD hkl.2;have hst6:st.length≤1000000:=by have:=HTL.out k;have:=HT.out;omega
    clear hbr hx hR hkl htot2;go_upto_region 5 with(fail);obtain⟨W1,hW1⟩:∃W1,wr.alloc (.cells #[.int .i64 x.kind,.string ⟨x.name.toArray⟩,.slice s.As x.str.length s.cs,.int .i64 x.nk,.int .i64 x.nn,.bool x.neg,.slice s.Am x.mag.length s.cm,.slice s.Ak x.kids.length s.ck] 48)=W1:=⟨_,rfl⟩;rw[hW1];have hbW1:Below wr.heap.size wr W1:=by rw[←hW1];exact(Below.refl _ _).alloc (yAD _) _
    have hs1:W1.heap.size=wr.heap.size+1:=by rw[←hW1];simp
    have p7:W1.cell? ⟨wr.heap.size,7,none⟩=some (.slice s.Ak x.kids.length s.ck):=by rw[←hW1,World.cell?_alloc_at _ _ _ _ rfl];rfl
    have hbx1:W1.cell? ⟨w.heap.size,0,none⟩=some (.slice (some ⟨b,o,none⟩) n c):=(hbW1.cell (p:=⟨w.heap.size,0,none⟩) (show w.heap.size < wr.heap.size by omega)).trans hbx;have HS1:=zD (show OrS W W1 u3 st from⟨by rw[←hW1];exact hS.out.own.alloc _,HBR.out.trans (hbW1.mono hsr)⟩);have hne1:u3.ownBlock≠some wr.heap.size:=fun e=>by have:=(hS.out.own.lt _ e).2;omega
    have HRW:=zD (HR.out.back (HBR.out.mono (by omega)));have HNE:=zD hne1;clear hW1 hbW1 hne1 kc0 kc1 kc2 kc3 kc4 kc5 kc6 kc7 hbx HR hS
    go_upto_if 16 with(fail)
    go_cut [3] (fun v' wx=>wx=W1∧∃st',Hid (OrdIn ts n k x st')∧Hid (OrS W W1 v' st')∧v'.ownBlock≠some wr.heap.size∧Hid ((x.kids++st').length≤(zAl (ts.take (k+1))).length))
    case first=>
     by_cases hk0:k=0
     · have e0:decide ((0:Int) < (k:Int))=false:=yAJ (by omega);have e1:decide (0 < k)=false:=yAJ (by omega);have e2:¬0 < k:=by omega
       have HK0:=zD hk0;clear hk0;go_wp2_with fail;go_meet;refine⟨rfl,[],?_,?_,HNE.out,?_⟩
       · have:=hst.out;rw[HK0.out]at this⊢;exact(this.zero (by rw[←HK0.out];exact HX'.out)).2
       · have:=hst.out;rw[HK0.out]at this;obtain rfl:=(this.zero (by rw[←HK0.out];exact HX'.out)).1;exact HS1.out
       · have:=HKL.out;show(x.kids++[]).length≤_;rw[List.length_append]at this⊢;simp only[List.length_nil];omega
     · have e0:decide ((0:Int) < (k:Int))=true:=decide_eq_true (by omega);have e1:decide (0 < k)=true:=decide_eq_true (by omega);have e2:0 < k:=by omega
       have HK0:=zD hk0;clear hk0;cases st with
       | nil=>
        obtain⟨Av,cv,rfl,_,_⟩:=zZ HS1.out.own;have HF:=zD (show false=q from by rw[←HQ.out];exact(hst.out.none_ e2 HX'.out).symm);go_wp2_with fail;go_ret;exact⟨zJ HF.out,HBW.out.trans (HS1.out.below.mono (by omega))⟩
       | cons s0 st=>
        obtain⟨g,cv,hv,hg1,hg2⟩:=HS1.out.own.form (by simp);subst hv;have hce:W1.cell? ⟨g,st.length,none⟩=some (.int .i64 s0):=by
         rw[HS1.out.own.cellAt _ (by simp)];simp[zDY]
        have hcv:st.length≤cv:=by
         obtain⟨_,_,e,h,_⟩:=zZ HS1.out.own;injection e with _ _ e;subst e;simp at h;omega
        have hln:(s0::st).length=st.length+1:=rfl;rw[hln];have hst7:st.length≤1000000:=by simp at hst6;omega
        clear hln
        by_cases hs0:s0=(k:Int)
        · subst hs0;go_wp2_with fail;go_meet;refine⟨rfl,st,hst.out.pop rfl HX'.out,⟨?_,HS1.out.below⟩,HNE.out,?_⟩
          · have:=zR3 HS1.out.own (j:=st.length) (by simp);have e:(zDY ((↑k:Int)::st).reverse).take st.length=zDY st.reverse:=by simp[zDY]
            rw[e]at this;exact this
          · have h9:(x.kids++((k:Int)::st)).length≤(zAl (ts.take (k+1))).length:=HKL.out;rw[List.length_append,List.length_cons]at h9;show(x.kids++st).length≤_;rw[List.length_append];omega
        · have e3:(s0==(k:Int))=false:=yA.2 hs0;have e4:(s0 !=(k:Int))=true:=bne_iff_ne.2 hs0;have HF:=zD (show false=q from by rw[←HQ.out];exact(hst.out.bad hs0 HX'.out).symm);clear hs0;go_wp2_with fail;go_ret;exact⟨zJ HF.out,HBW.out.trans (HS1.out.below.mono (by omega))⟩
    case rest=>
     obtain⟨rfl,st',hin,hS,hne,htot3⟩:=hcut;have hkl2:(x.kids++st').length≤1000000:=by have:=htot3.out;have:=HTL.out (k+1);have:=HT.out;omega
     have HKL2:=zD hkl2;obtain⟨X,hX⟩:∃X,wr.heap.size=X:=⟨_,rfl⟩;rw[hX]at hne p7 hs1;rw[hX];have HX:=zD hX;have HNE2:=zD hne;have HP7:=zD p7;have HBX:=zD hbx1;have hsWX:W.heap.size≤X:=by omega
     have HIN:=zD hin.out;have htot4:=zD htot3.out;clear hX hkl2 hne HKL HNE hin htot3;go_wp2_with fail;clear p7 hbx1
     go_loopw [3,6] (fun v i wr=>∃(j:Nat) (z:Int),j≤x.kids.length∧i=.int .i64 z∧z=(j:Int) - 1∧Hid (OrS W wr v (x.kids.drop j++st'))∧Hid (v.ownBlock≠some X)∧Hid (zCI n k (x.kids.drop j)=true)∧wr.cell? ⟨X,7,none⟩=some (.slice s.Ak x.kids.length s.ck)∧X < wr.heap.size) (fun _ i _=>(intOf i+1).toNat)
     case atStart=>exact⟨x.kids.length,_,yAD _,rfl,rfl,by rw[List.drop_length];exact hS.out,HNE2.out,by rw[List.drop_length];rfl,HP7.out,by omega⟩
     case round=>
      obtain⟨j,z,hj,rfl,hz,hSi,hni,hki,hp7,hXl⟩:=hrel;have hbi:=hSi.out.below;have hbxi:wr.cell? ⟨w.heap.size,0,none⟩=some (.slice (some ⟨b,o,none⟩) n c):=(hbi.cell (p:=⟨w.heap.size,0,none⟩) (show w.heap.size < W.heap.size by omega)).trans hcW;have HBI:=zD hbi
      by_cases hj0:j=0
      · obtain rfl:z= -1:=by omega
        have hkk:=zD (show zCI n k x.kids=true by have:=hki.out;rw[hj0]at this;exact this);have hSk:=zD (show OrS W wr u3 (x.kids++st') by have:=hSi.out;rw[hj0]at this;exact this);clear hj0 hbi hSi hki hz;go_wp2_with fail
        go_roundw
        case rel=>exact⟨k+1,x.kids++st',by omega,by go_num,HIN.out.done hkk.out,htot4.out,hSk.out⟩
        case measure=>simp[intOf];omega
      · obtain⟨m,rfl⟩:∃m,j=m+1:=⟨j - 1,by omega⟩;obtain rfl:z=(m:Int):=by omega
        obtain⟨bk,ok,hak,hbk,hck⟩:=(HRW.out.below (hbi.mono (by omega))).kids.spotK (by omega);have hcm:=hck m (by omega);have hck2:=HRW.out.ck.1;have HDR:=zD (yAI (show m < x.kids.length by omega));have hmk:m < x.kids.length:=by omega
        have HBAD:Hid (¬((k:Int) < x.kids[m]∧x.kids[m] < (n:Int))→zB0 ts=false):=fun hb=>HIN.out.bad hmk hb;have HGD:Hid ((k:Int) < x.kids[m]∧x.kids[m] < (n:Int)→zCI n k (x.kids.drop m)=true):=fun hb=>zI5 hki.out hmk hb;rw[hak]at hp7;have HAK:=zD hak;clear hak;obtain⟨y,hy⟩:∃y,x.kids[m]=y:=⟨_,rfl⟩;rw[hy]at hcm HDR HBAD HGD;clear hck hy hki hbi hj0 hz
        by_cases hb1:y≤(k:Int)
        · have HF:=zD (show false=q from by rw[←HQ.out];exact(HBAD.out (by omega)).symm);go_wp2_with fail
          go_quiet (fail)
          go_wp2_with fail;go_ret;exact⟨zJ HF.out,HBW.out.trans ((zAa HBI.out _).mono (by omega))⟩
        · have e5:decide (y≤(k:Int))=false:=yAJ hb1
          by_cases hb2:(n:Int)≤y
          · have HF:=zD (show false=q from by rw[←HQ.out];exact(HBAD.out (by omega)).symm);have e6:decide ((n:Int)≤y)=true:=decide_eq_true hb2;go_wp2_with fail
            go_quiet (fail)
            go_wp2_with fail;go_ret;exact⟨zJ HF.out,HBW.out.trans ((zAa HBI.out _).mono (by omega))⟩
          · have e6:decide ((n:Int)≤y)=false:=yAJ hb2;have HGD2:=zD (HGD.out ⟨by omega,by omega⟩);go_wp2_with fail
            go_quiet (fail)
            obtain⟨w1,hw1⟩:∃w1,wr.drewN nq=w1:=⟨_,rfl⟩;rw[hw1];have hp71:w1.cell? ⟨X,7,none⟩=some (.slice (some ⟨bk,ok,none⟩) x.kids.length s.ck):=by rw[←hw1];exact hp7
            have hcm1:w1.cell? ⟨bk,ok+m,none⟩=some (.int .i64 y):=by rw[←hw1];exact hcm
            have hX1:X < w1.heap.size:=by rw[←hw1];exact hXl
            have HS1:=zD (show OrS W w1 u3 (x.kids.drop (m+1)++st') by rw[←hw1];exact⟨zJ2 hSi.out.own _,zAa hSi.out.below _⟩);have HX1:=zD hX1;have hln:(x.kids.drop (m+1)++st').length+1≤1000000:=by
             have:=HKL2.out;rw[List.length_append]at this⊢;rw[List.length_drop];omega
            have HLN:=zD hln;obtain⟨hi,hz0,hz1,hz2⟩:=HI.out;clear hw1 hcm hSi HBI hXl hln;go_wp2_with (at_builtin;refine zDi rfl _ _ 32 rfl W.heap.size 3 i0 (.int .i64 0) 1 8 underlying32 hi hz0 hz1 hz2 rfl (by decide) u3 _ _ rfl (by exact HS1.out.own) HS1.out.below.size [.int .i64 y] 1 1 rfl rfl rfl (by have:=HLN.out;omega) (by decide) ?_;intro v' w' ho' hk');have hkp:=zD hk';have hp8:=(hk'.cell (p:=⟨X,7,none⟩) hX1 hni.out).trans hp71;have hX2:X < w'.heap.size:=yAA hX1 hk'.size;have HO:=zD ho';clear hk' ho' hp71 hcm1 hX1 hi hz0 hz1 hz2;go_wp2_with fail
            go_roundw
            case rel=>
             refine⟨m,_,by omega,rfl,rfl,⟨?_,?_⟩,hkp.out.apart HX1.out hni.out,HGD2.out,by rw[HAK.out];exact hp8,hX2⟩
             · have e:zDY (x.kids.drop (m+1)++st').reverse++[.int .i64 y]=zDY (x.kids.drop m++st').reverse:=by rw[HDR.out];simp[zDY]
               have e2:(x.kids.drop (m+1)++st').length+1=(x.kids.drop m++st').length:=by rw[HDR.out];simp
               have:=HO.out;rw[e,e2]at this;exact this
             · exact HS1.out.below.trans ((hkp.out.below (zLs HS1.out.own) HS1.out.below.size))
            case measure=>simp[intOf]
  · obtain rfl:k=n:=by omega
    have HF:=zD (show st.isEmpty=q from by rw[←HQ.out];exact(hst.out.end_ HTS.out h0).symm);obtain⟨Av,cv,rfl,_,_⟩:=zZ hS.out.own;go_wp2_with fail;go_ret;refine⟨zJ ?_,HBW.out.trans (hS.out.below.mono (by omega))⟩;rw[←HF.out];cases st<;>simp<;>omega
theorem zOf {ts:List Nd} (h:(zAl ts).length≤1000000):∀x∈ts,x.kids.length≤1000000:=by
 intro x hx;obtain⟨k,hk,rfl⟩:=List.getElem_of_mem hx;have h1:=zR0 (yAC hk);have h2:=zR1 ts (k+1);rw[h1,List.length_append]at h2;omega
theorem zRi {ts:List Nd} (h:ts.length=0):zJ1 ts=false:=by
 have:=List.length_eq_zero_iff.1 h;subst this;rfl
theorem zOg {ts:List Nd} {x:Nd} (h:ts[0]? =some x):zJ1 ts=(decide (ts.length≤4096)&&x.kind==1&&zB0 ts&&zCU ts 0 ts&&decide (zC5 ts≤48)):=by
 cases ts with
 | nil=>cases h
 | cons y r=>obtain rfl:y=x:=Option.some.inj h;rfl
theorem zOh {ts:List Nd} {k:Nat} {x:Nd} (hx:ts[k]? =some x):zCU ts k (ts.drop k)=(!(decide (0 < k)&&x.kind==1)&&zh x&&zDh ts x&&zCU ts (k+1) (ts.drop (k+1))):=by
 obtain⟨hl,rfl⟩:=List.getElem?_eq_some_iff.1 hx;rw[yAI hl];rfl
theorem zTj {A:Option Addr} {c B n:Nat} {ts:List Nd} {w:World} (hN:NdsR w B A n ts) (hB:B≤w.heap.size) (hc:n≤c) (ht:(zAl ts).length≤1000000) {q:Bool} (hq:zJ1 ts=q):
 Calls prog 25 #[.agg #[.slice A n c]] w (BmP q w):=by
 have hln:=hN.1
 by_cases h0:n=0
 · subst h0;rw[zRi hln]at hq;subst hq;clear hN hln ht;go_enter func25,ntmps25;go_wp2_with fail;go_ret;exact⟨rfl,by go_grown⟩
 by_cases h4:4096 < n
 · have HF:=zD (show false=q by
    obtain⟨x,hx⟩:∃x,ts[0]? =some x:=⟨_,yAC (by omega)⟩;rw[←hq,zOg hx,hln,yAJ (by omega)];rfl)
   have e1:((n:Int)==0)=false:=yA.2 (by omega);have e2:(4096:Int) < (n:Int):=by omega
   have e3:decide ((4096:Int) < (n:Int))=true:=decide_eq_true e2;clear hN hln ht hq;go_enter func25,ntmps25;go_wp2_with fail;go_ret;exact⟨zJ HF.out,by go_grown⟩
 have hl:n≤4096:=by omega
 obtain⟨b,o,x0,s0,rfl,hbB,hx0,hC0,hR0⟩:=hN.get (i:=0) (by omega);have hkind:w.cell? ⟨b,o,none⟩=some (.int .i64 x0.kind):=by have:=hC0.k0;rw[Nat.zero_mul,Nat.add_zero]at this;exact this
 have e1:((n:Int)==0)=false:=yA.2 (by omega);have e2:¬(4096:Int) < (n:Int):=by omega
 have e3:decide ((4096:Int) < (n:Int))=false:=yAJ e2;rw[zOg hx0,hln,decide_eq_true hl,Bool.true_and]at hq;obtain⟨W,hW⟩:∃W,w.alloc (.cells #[.slice (some ⟨b,o,none⟩) n c] 27)=W:=⟨_,rfl⟩;have hbW:Below w.heap.size w W:=by rw[←hW];exact(Below.refl _ _).alloc (yAD _) _
 have hwX:w.heap.size < W.heap.size:=by rw[←hW];simp
 have hcW:W.cell? ⟨w.heap.size,0,none⟩=some (.slice (some ⟨b,o,none⟩) n c):=by rw[←hW,World.cell?_alloc_at _ _ _ _ rfl];rfl
 have hk0:W.cell? ⟨b,o,none⟩=some (.int .i64 x0.kind):=(hbW.cell (p:=⟨b,o,none⟩) (show b < w.heap.size by omega)).trans hkind;have HBW:=zD hbW;have HN:=zD hN;have HNW:=zD (hN.below (hbW.mono hB));have HB:=zD hB;have HT:=zD ht;have HLN:=zD hln;have HX0:=zD hx0;have HQ:=zD hq;clear hx0 hC0 hR0 hkind hbW hN hB ht hln hq;go_enter func25,ntmps25;go_upto_region 1 with(fail);have HW:=zD hW;clear hW;obtain⟨K,hK⟩:∃K,x0.kind=K:=⟨_,rfl⟩;rw[hK]at hk0;have HK:=zD hK;clear hK
 by_cases hk1:K=1
 · subst hk1;have hk2:((1:Int) !=1)=false:=rfl;obtain⟨oq,hoq⟩:∃oq,zB0 ts=oq:=⟨_,rfl⟩;have CO:=zD (zOe HNW.out (by have:=HB.out;omega) hc hl (by omega) HT.out hoq);have HOQ:=zD hoq;clear hoq;cases oq with
   | false=>
    have HF:=zD (show false=q by rw[←HQ.out,HOQ.out];simp);go_wp2_with (go_at_call 50;refine CO.out.mono ?_;rintro e2 w2 ⟨rfl,hb2⟩);go_ret;exact⟨zJ HF.out,HBW.out.trans (hb2.mono (by omega))⟩
   | true=>
    have HFW:=zD (zHt HOQ.out);have HQ2:=zD (show(zCU ts 0 ts&&decide (zC5 ts≤48))=q by rw[←HQ.out,HK.out,HOQ.out];rfl);have HKL:=zD (zOf HT.out);go_upto_region 4 with(go_at_call 50;refine CO.out.mono ?_;rintro e2 w2 ⟨rfl,hb2⟩;have hcb:=(hb2.cell (p:=⟨w.heap.size,0,none⟩) hwX).trans hcW);have HB2:=zD hb2;obtain⟨eq,heq⟩:∃eq,zCU ts 0 ts=eq:=⟨_,rfl⟩;obtain⟨nd,hnd⟩:∃nd,zC5 ts=nd:=⟨_,rfl⟩;have HEQ:=zD heq;have HND:=zD hnd;have HQ3:=zD (show(eq&&decide (nd≤48))=q by rw[←HQ2.out,heq,hnd]);clear hb2 hcb hk0 heq hnd
    go_loopw [30] (fun i wr=>∃k:Nat,k≤n∧i=.int .i64 k∧Hid (zCU ts k (ts.drop k)=eq)∧Hid (Below W.heap.size W wr)) (fun i _=>n - (intOf i).toNat)
    case atStart=>exact⟨0,yAF _,rfl,by rw[List.drop_zero];exact HEQ.out,HB2.out⟩
    case round=>
     obtain⟨k,hk,rfl,hea,hbr⟩:=hrel;have hcb:=(hbr.out.cell (p:=⟨w.heap.size,0,none⟩) hwX).trans hcW;have hsz:=hbr.out.size
     by_cases hlt:k < n
     · obtain⟨b',o',x,s,hA,_,hx,hC,hR⟩:=(HNW.out.below (hbr.out.mono (by have:=HB.out;omega))).get hlt;injection hA with hA;injection hA with hA1 hA2;subst hA1 hA2;obtain⟨kc0,kc1,kc2,kc3,kc4,kc5,kc6,kc7⟩:=hC;have hstep:=hea.out;rw[zOh hx]at hstep;obtain⟨fv,hfv⟩:∃fv,zh x=fv:=⟨_,rfl⟩;obtain⟨kv,hkv⟩:∃kv,zDh ts x=kv:=⟨_,rfl⟩;have CF:=zD (zLk hR (by have:=HB.out;omega) hfv);have CK:=zD (fun(w3:World) (hb3:Below wr.heap.size wr w3)=>zRh (c:=c) ((HNW.out.below (hbr.out.mono (by have:=HB.out;omega))).below (hb3.mono (by have:=HB.out;omega))) (yAE (show B≤wr.heap.size by have:=HB.out;omega) hb3.size) HFW.out HKL.out hx hkv);rw[hfv,hkv]at hstep;obtain⟨K2,hK2⟩:∃K2,x.kind=K2:=⟨_,rfl⟩;rw[hK2]at kc0 hstep;have HK2:=zD hK2;have HSTEP:=zD hstep;have HX:=zD hx;have hwr:w.heap.size < wr.heap.size:=by omega
       rw[hK2]at CF;clear hx hR hfv hkv hstep hK2 hea
       by_cases hbad:0 < k∧K2=1
       · have hg0:(0:Int) < (k:Int):=by omega
         have hg1:decide ((0:Int) < (k:Int))=true:=decide_eq_true hg0;have hg2:decide (0 < k)=true:=decide_eq_true hbad.1;have hg3:=hbad.1;have hg4:(K2==1)=true:=by rw[hbad.2];rfl
         have HF:=zD (show false=q by
          rw[←HQ3.out,←HSTEP.out,decide_eq_true hbad.1,hg4];rfl)
         clear hbad;go_wp2_with fail;go_ret;exact⟨zJ HF.out,HBW.out.trans (hbr.out.mono (by omega))⟩
       · have hgood:(decide (0 < k)&&K2==1)=false:=by
          cases h1:decide (0 < k)with
          | false=>rfl
          | true=>exact yA.2 (fun e=>hbad ⟨of_decide_eq_true h1,e⟩)
         have HG:=zD hgood;cases fv with
         | false=>
          have HF:=zD (show false=q by rw[←HQ3.out,←HSTEP.out];simp)
          by_cases hk0:0 < k
          · have hg0:(0:Int) < (k:Int):=by omega
            have hg1:decide ((0:Int) < (k:Int))=true:=decide_eq_true hg0;have hg2:decide (0 < k)=true:=decide_eq_true hk0;have hg4:(K2==1)=false:=yA.2 (fun e=>hbad ⟨hk0,e⟩);clear hbad hgood;go_wp2_with (go_at_call 51;refine CF.out.mono ?_;rintro e3 w3 ⟨rfl,hb3⟩);go_ret;exact⟨zJ HF.out,HBW.out.trans ((hbr.out.trans (hb3.mono hsz)).mono (by omega))⟩
          · have hg0:¬(0:Int) < (k:Int):=by omega
            have hg1:decide ((0:Int) < (k:Int))=false:=yAJ hg0;have hg2:decide (0 < k)=false:=yAJ hk0;clear hbad hgood;go_wp2_with (go_at_call 51;refine CF.out.mono ?_;rintro e3 w3 ⟨rfl,hb3⟩);go_ret;exact⟨zJ HF.out,HBW.out.trans ((hbr.out.trans (hb3.mono hsz)).mono (by omega))⟩
         | true=>
          have HS2:=zD (show(kv&&zCU ts (k+1) (ts.drop (k+1)))=eq by rw[←HSTEP.out,HG.out];rfl);cases kv with
          | false=>
           have HF:=zD (show false=q by rw[←HQ3.out,←HS2.out];rfl)
           by_cases hk0:0 < k
           · have hg0:(0:Int) < (k:Int):=by omega
             have hg1:decide ((0:Int) < (k:Int))=true:=decide_eq_true hg0;have hg2:decide (0 < k)=true:=decide_eq_true hk0;have hg4:(K2==1)=false:=yA.2 (fun e=>hbad ⟨hk0,e⟩);clear hbad hgood;go_wp2_with (first | (go_at_call 51;refine CF.out.mono ?_;rintro e3 w3 ⟨rfl,hb3⟩;have hc3:=(hb3.cell (p:=⟨w.heap.size,0,none⟩) hwr).trans hcb) | (go_at_call 52;refine(CK.out w3 hb3).mono ?_;rintro e4 w4 ⟨rfl,hb4⟩));go_ret;exact⟨zJ HF.out,HBW.out.trans ((hbr.out.trans ((hb3.trans (hb4.mono hb3.size)).mono hsz)).mono (by omega))⟩
           · have hg0:¬(0:Int) < (k:Int):=by omega
             have hg1:decide ((0:Int) < (k:Int))=false:=yAJ hg0;have hg2:decide (0 < k)=false:=yAJ hk0;clear hbad hgood;go_wp2_with (first | (go_at_call 51;refine CF.out.mono ?_;rintro e3 w3 ⟨rfl,hb3⟩;have hc3:=(hb3.cell (p:=⟨w.heap.size,0,none⟩) hwr).trans hcb) | (go_at_call 52;refine(CK.out w3 hb3).mono ?_;rintro e4 w4 ⟨rfl,hb4⟩));go_ret;exact⟨zJ HF.out,HBW.out.trans ((hbr.out.trans ((hb3.trans (hb4.mono hb3.size)).mono hsz)).mono (by omega))⟩
          | true=>
           have HS3:=zD (show zCU ts (k+1) (ts.drop (k+1))=eq from HS2.out)
           by_cases hk0:0 < k
           · have hg0:(0:Int) < (k:Int):=by omega
             have hg1:decide ((0:Int) < (k:Int))=true:=decide_eq_true hg0;have hg2:decide (0 < k)=true:=decide_eq_true hk0;have hg4:(K2==1)=false:=yA.2 (fun e=>hbad ⟨hk0,e⟩);clear hbad hgood;go_wp2_with (first | (go_at_call 51;refine CF.out.mono ?_;rintro e3 w3 ⟨rfl,hb3⟩;have hc3:=(hb3.cell (p:=⟨w.heap.size,0,none⟩) hwr).trans hcb) | (go_at_call 52;refine(CK.out w3 hb3).mono ?_;rintro e4 w4 ⟨rfl,hb4⟩))
             go_roundw
             case rel=>exact⟨k+1,by omega,by go_num,HS3.out,hbr.out.trans ((hb3.trans (hb4.mono hb3.size)).mono hsz)⟩
             case measure=>simp[intOf];omega
           · have hg0:¬(0:Int) < (k:Int):=by omega
             have hg1:decide ((0:Int) < (k:Int))=false:=yAJ hg0;have hg2:decide (0 < k)=false:=yAJ hk0;clear hbad hgood;go_wp2_with (first | (go_at_call 51;refine CF.out.mono ?_;rintro e3 w3 ⟨rfl,hb3⟩;have hc3:=(hb3.cell (p:=⟨w.heap.size,0,none⟩) hwr).trans hcb) | (go_at_call 52;refine(CK.out w3 hb3).mono ?_;rintro e4 w4 ⟨rfl,hb4⟩))
             go_roundw
             case rel=>exact⟨k+1,by omega,by go_num,HS3.out,hbr.out.trans ((hb3.trans (hb4.mono hb3.size)).mono hsz)⟩
             case measure=>simp[intOf];omega
     · obtain rfl:n=k:=by omega
       have hea2:=zD (show true=eq by
        rw[←hea.out,List.drop_of_length_le (by rw[HLN.out];omega)];rfl)
       obtain⟨dl,hdl⟩:∃dl,zGx ts=dl:=⟨_,rfl⟩;have CD:=zD (zGs (c:=c) (HNW.out.below (hbr.out.mono (by have:=HB.out;omega))) (by have:=HB.out;omega) (by omega) hl HFW.out HKL.out hdl);have hmx:=zD (show zEn dl=nd by rw[←hdl];exact HND.out);have HR2:=zD (show decide (nd≤48)=q by rw[←HQ3.out,←hea2.out];rfl);clear hdl hea;go_wp2_with (first | (go_at_call 37;refine CD.out.mono ?_;rintro e3 w3 ⟨A3,c3,rfl,hq3,hc3,hr3,hb3⟩) | (go_at_call 36;refine(zIr hq3 (by omega) (by omega) hr3 hmx.out).mono ?_;rintro e4 w4 ⟨rfl,rfl⟩));go_ret;refine⟨zJ ?_,HBW.out.trans ((hbr.out.trans (hb3.mono hsz)).mono (by omega))⟩;rw[←HR2.out,Bool.eq_iff_iff];simp
       try omega
 · have hk2:(K !=1)=true:=bne_iff_ne.2 hk1;have HF:=zD (show false=q by rw[←HQ.out,HK.out,yA.2 hk1];rfl);clear hk1;go_wp2_with fail;go_ret;exact⟨zJ HF.out,HBW.out⟩
theorem zRj {w:World} {base base' n size:Nat} {e:TypeId} {v:Value} {xs:List Value} (h:w.ownsRow base e size v n xs) (hb:base'≤base):w.ownsRow base' e size v n xs:=by
 refine⟨h.1,?_⟩;rcases h.2 with h1 | ⟨g,cap,cur,h1,h2,h3⟩
 · exact .inl h1
 · exact .inr ⟨g,cap,cur,h1,yAE hb h2,h3⟩
theorem zLm {A:Option Addr} {B n c:Nat} {xs:List Int} {w:World} (hn:xs.length=n) (ha:Reads w B 1 A n (zDY xs)) (hl:n≤1000000):
 Calls prog 38 #[.slice A n c] w fun e w'=>∃v,e=.returned v∧Made w w' 3 v (zDY xs):=by
 rcases Nat.eq_zero_or_pos n with h0 | h0
 · subst h0;have hx:xs=[]:=List.eq_nil_of_length_eq_zero hn;subst hx;cases A with
   | none=>
    refine(Tryz.slices_Clone_int_nil 0 c w).mono ?_;rintro e w' ⟨rfl,rfl⟩;exact⟨_,rfl,Made.nil _ _⟩
   | some a=>
    refine(Tryz.slices_Clone_int_zero a c w).mono ?_;rintro e w' ⟨v',rfl,ho,_,hb⟩;exact⟨v',rfl,ho,hb⟩
 · obtain⟨b,o,rfl,_,hc⟩:=ha.spotR h0;refine(Tryz.slices_Clone_int b o n c xs w (by omega) (by omega) (fun j hj=>?_)).mono ?_
   · have:=hc j (.int .i64 xs[j]) (by simp[zDY,yAC hj]);rw[this];simp[List.getD,hj]
   · rintro e w' ⟨v',rfl,ho,_,hb⟩;refine⟨v',rfl,?_,hb⟩;rw[List.take_of_length_le (by omega)]at ho;rw[zI8,hn];exact ho
theorem zRk {A:Option Addr} {c B n k:Nat} {ts:List Nd} {x:Nd} {w:World} (hN:NdsR w B A n ts) (hB:B≤w.heap.size) (hk:k < n) (hx:ts[k]? =some x) (hl:x.kids.length≤1000000):
 Calls prog 18 #[.agg #[.slice A n c],.int .i64 (k:Int)] w fun e w'=>∃v,e=.returned v∧Made w w' 3 v (zDY x.kids):=by
 obtain⟨b,o,x',s,rfl,hbB,hx',hC,hR⟩:=hN.get hk;obtain rfl:x=x':=Option.some.inj (hx.symm.trans hx');have k7:=hC.k7;have hbw:b < w.heap.size:=by omega
 have CC:=zD (fun(W:World) (hb:Below w.heap.size w W)=>zLm (c:=s.ck) rfl (hR.kids.below (hb.mono hB)) hl);have h1:¬(n:Int)≤(k:Int):=by omega
 have h2:¬(k:Int) < 0:=by omega
 have h3:(k:Int) < (n:Int):=by omega
 obtain⟨L,hL⟩:∃L,x.kids.length=L:=⟨_,rfl⟩;rw[hL]at k7;have CC2:=zD (show∀(W:World),Below w.heap.size w W→Calls prog 38 #[.slice s.Ak L s.ck] W fun e w'=>∃v,e=.returned v∧Made W w' 3 v (zDY x.kids)from by rw[←hL];exact CC.out);clear hN hx hx' hC hR CC hl hL;go_enter func18,ntmps18;go_wp2_with fail;refine(CC2.out _ ((Below.refl _ _).alloc (yAD _) _)).mono ?_;rintro e1 w1 ⟨v,rfl,hm⟩;have HM:=zD (show Made w w1 3 v (zDY x.kids)from⟨zRj hm.own (by simp),((Below.refl w.heap.size w).alloc (yAD _) _).trans (hm.below.mono (by simp))⟩);clear hm;go_wp2_with fail;go_ret;exact⟨v,rfl,HM.out⟩
theorem zOi (k:Nat):zBh k []=([setAt zm k false],0,0):=by
 rw[zD6 (by rw[zJm]) (by simp),zJm];rfl
theorem zJv (t:Tok) (j:Nat):zS5 t (zCw j t)∧t.nl=(zCw j t).nl:=⟨⟨rfl,rfl,rfl,rfl,rfl,rfl⟩,rfl⟩
theorem zOj {u:List UInt16} {A:List Tok} (h:∀x r,u=x::r→x.toNat≠35) (hl:u.length+3≤4096) (hu:zCk u=(A,0,0)):
 ∃C,zCk (123::(u++[10,125]))=(C,0,0)∧C.length=A.length+2∧isT (zH C 0) [123]=true∧(zH C 0).kind=5∧
  (∀i,i < A.length - 1→zS5 (zH A i) (zH C (i+1))∧(0 < i→(zH A i).nl=(zH C (i+1)).nl))∧isT (zH C A.length) [125]=true∧(zH C A.length).kind=5:=by
 rw[zBU (by omega)]at hu;have hu1:zBh 1 u=(A.map (zCw 1),0,0):=by rw[zIt 1 h,hu,zTS]
 obtain⟨init,b,h1,h2⟩:=zQ6 (x:=10) (v:=[125]) (u.length+1) u 1 (by omega) (.inl rfl) (by rw[hu1]);rw[hu1]at h1;simp only at h1;have h3:∃E,zBh (1+u.length) (10::[125])=({zm with kind:=5,text:=[125],pos:=1+u.length+1,nl:=true}::[E],0,0):=by
  refine⟨setAt zm (1+u.length+1+1) false,?_⟩;rw[zLV (by decide),if_pos (by decide)];have:=zJr (c:=125) (by decide) (1+u.length+1) [];rw[zOi,zJs]at this;rw[show zBh (1+u.length+1) [125]=_ from this,zRz];rfl
 obtain⟨E,h3⟩:=h3;rw[h3,zRz]at h2;have h4:zBh 1 (u++[10,125])=(init++{zm with kind:=5,text:=[125],pos:=1+u.length+1,nl:=true}::[E],0,0):=by
  rw[h2];cases b
  · rw[if_neg (by decide),zOL]
  · rw[if_pos rfl,zOL];rfl
 have h5:zBh 0 (123::(u++[10,125]))=({zm with kind:=5,text:=[123],pos:=0}::(init++{zm with kind:=5,text:=[125],pos:=1+u.length+1,nl:=true}::[E]),0,0):=by
  have:=zJr (c:=123) (by decide) 0 (u++[10,125]);rw[Nat.zero_add,h4,zJs]at this;exact this
 have hA:A.length=init.length+1:=by
  have:=congrArg List.length h1;simpa using this
 have hcons:∀(t:Tok) (R:List Tok) (i:Nat),zH (t::R) (i+1)=zH R i:=fun t R i=>by unfold zH;simp
 refine⟨_,by rw[zBU (by simp;omega)];exact h5,by simp;omega,rfl,rfl,?_,?_,?_⟩
 · intro i hi;rw[hcons,zH1 (by omega)];have e:zH init i=zCw 1 (zH A i):=by
    rw[←zQ9 A 1 i (by omega),h1,zH1 (by omega)]
   rw[e];exact⟨(zJv _ 1).1,fun _=>(zJv _ 1).2⟩
 · rw[hA,hcons,show init.length=0+init.length by omega,zGJ];rfl
 · rw[hA,hcons,show init.length=0+init.length by omega,zGJ];rfl
def knN (x:Nd):Int×List UInt8:=(x.kind,x.name)
mutual
theorem knT (n m:Nat) (t:Tr):(flatT n t).map knN=(flatT m t).map knN:=by
 cases t with
 | mk x l=>
  rw[zAZ,zAZ,List.map_cons,List.map_cons,knL (n+1) (m+1) l];rfl
theorem knL (n m:Nat) (l:List Tr):(flatL n l).map knN=(flatL m l).map knN:=by
 cases l with
 | nil=>rw[zAX,zAX]
 | cons t r=>
  rw[zAI,zAI,List.map_append,List.map_append,knT n m t,knL (n+t.size) (m+t.size) r]
end
def zH4 (ts:List Nd) (i:Nat):Nat:=(atN ts i).kids.length
theorem zGM {u:List UInt16} {ts:List Nd} {a:Nat} (h:zAg u=(ts,a,0)):zJ1 ts=true:=by
 obtain⟨L,g1,g2,g3,g4,g5,g6,_⟩:=zJt h;have hg:=zHr g2 (zOH g1) g3;exact zJE.2 ⟨_,g6,g4,hg.2,hg.1,g5⟩
theorem zLn {u:List UInt16} {ta:List Nd} {a1:Nat} (h:∀x r,u=x::r→x.toNat≠35) (hl:u.length≤4000) (hu:zAg u=(ta,a1,0)) (hn:ta.length < 4096) (hd:zC5 ta < 48):
 ∃tb,zAg (123::(u++[10,125]))=(tb,0,0)∧tb.length=ta.length+1∧(atN tb 1).kind=4∧zH4 tb 1=zH4 ta 0∧(∀i,1≤i→i < ta.length→knN (atN tb ((i:Int)+1))=knN (atN ta (i:Int)))∧zC5 tb=max (zC5 ta+1) 2∧0 < ta.length:=by
 obtain⟨A,g1,g2,g3,g4,g5,g6,_⟩:=zJt hu;obtain⟨C,c1,c2,c3,c4,c5,c6,c7⟩:=zOj h (by omega) g1;have hC:=zEz c1;obtain⟨IA,m1,m2,m3⟩:=zN2 g2 hC c2 c3 c4 c5 c6 c7 g3;rw[m1]at g4 g5 g6;have la:ta.length=1+sizes IA:=by rw[g6,flatT_len];unfold trK;rw[zd]
 have na:zC5 ta=1+depL IA:=by rw[g6,zC6];unfold trK;rw[zGV]
 have sb:(zG C (.program []) s0).1.size=1+(1+sizes IA):=by
  rw[m2];unfold trK;rw[zd,zL,zd,zO];rfl
 have db:depT (zG C (.program []) s0).1=1+(1+depL IA):=by
  rw[m2];unfold trK;rw[zGV,zG1,zGV,zGW];omega
 have eb:flatT 0 (zG C (.program []) s0).1={zBS with kind:=1,kids:=[1]}::{zBS with kind:=4,kids:=zv 2 IA}::flatL 2 IA:=by
  rw[m2];unfold trK;rw[zAZ,zAI,zAX,zAZ,List.append_nil];rfl
 have ea:ta={zBS with kind:=1,kids:=zv 1 IA}::flatL 1 IA:=by rw[g6];unfold trK;rw[zAZ]
 refine⟨_,zRA c1 m3 (by omega) (by omega),by rw[flatT_len,sb];omega,?_,?_,?_,by rw[zC6,db];omega,by omega⟩
 · rw[eb];rfl
 · rw[eb,ea];unfold zH4 atN;simp[zBg]
 · intro i h1 h2;obtain⟨j,rfl⟩:∃j,i=j+1:=⟨i - 1,by omega⟩;have hk:=knL 2 1 IA;have hj:j < (flatL 1 IA).length:=by
    rw[ea]at h2;simpa using h2
   have hj2:j < (flatL 2 IA).length:=by
    have:=congrArg List.length hk;rw[List.length_map,List.length_map]at this;omega
   rw[eb,ea];have hz:∀(a b:Nd) (R:List Nd),atN (a::b::R) ((j:Int)+1+1)=R.getD j zBS:=by
    intro a b R;unfold atN;rw[show((j:Int)+1+1).toNat=j+1+1 by omega];simp
   have hz2:∀(a:Nd) (R:List Nd),atN (a::R) ((j:Int)+1)=R.getD j zBS:=by
    intro a R;unfold atN;rw[show((j:Int)+1).toNat=j+1 by omega];simp
   have e1:atN ({zBS with kind:=1,kids:=[1]}::{zBS with kind:=4,kids:=zv 2 IA}::flatL 2 IA) ((j:Int)+1+1)=(flatL 2 IA)[j]:=by
    rw[hz,yAH,yAC hj2];rfl
   have e2:atN ({zBS with kind:=1,kids:=zv 1 IA}::flatL 1 IA) ((j:Int)+1)=(flatL 1 IA)[j]:=by
    rw[hz2,yAH,yAC hj];rfl
   rw[show(((j+1:Nat):Int)+1)=(j:Int)+1+1 by omega,show((j+1:Nat):Int)=(j:Int)+1 by omega,e1,e2];have h3:=congrArg (fun l=>l[j]?) hk;simp only[List.getElem?_map,yAC hj,yAC hj2,Option.map_some]at h3;exact Option.some.inj h3
theorem zRl {A:Option Addr} {c B n:Nat} {ts:List Nd} {w:World} (hN:NdsR w B A n ts) (hB:B≤w.heap.size) (hc:n≤c) (ht:(zAl ts).length≤1000000) (hq:zJ1 ts=true) (h0:0 < n) (hl:n≤4096) (hf:Fwd ts) {nd:Nat} (hd:zC5 ts=nd):
 Calls prog 21 #[.agg #[.slice A n c]] w fun e w'=>e=.returned (.int .i64 (nd:Int))∧Below w.heap.size w w':=by
 obtain⟨W,hW⟩:∃W,w.alloc (.cells #[.slice A n c] 27)=W:=⟨_,rfl⟩;have hb0:Below w.heap.size w W:=by rw[←hW];exact(Below.refl _ _).alloc (yAD _) _
 have hX1:w.heap.size < W.heap.size:=by rw[←hW];simp
 have x0:W.cell? ⟨w.heap.size,0,none⟩=some (.slice A n c):=by rw[←hW,World.cell?_alloc_at _ _ _ _ rfl];rfl
 have CM:=zD (zTj (c:=c) (hN.below (hb0.mono hB)) (yAE hB hb0.size) hc ht hq);have HN:=zD hN;have HB0:=zD hb0;obtain⟨dl,hdl⟩:∃dl,zGx ts=dl:=⟨_,rfl⟩;have hmx:=zD (show zEn dl=nd by rw[←hdl];exact hd);have CD:=zD (fun(w1:World) (hb:Below w.heap.size w w1)=>zGs (c:=c) (hN.below (hb.mono hB)) (yAE hB hb.size) h0 hl hf (zOf ht) hdl);obtain⟨X,hX⟩:∃X,w.heap.size=X:=⟨_,rfl⟩;go_enter func21,ntmps21;go_upto_region 1 with(fail);clear hN ht hb0 hq hd hdl hW hf;rw[hX]at x0 hX1;clear hX;go_wp2_with fail;refine CM.out.mono ?_;rintro e1 w1 ⟨rfl,hb1⟩;have y0:=(hb1.cell (p:=⟨X,0,none⟩) hX1).trans x0;have HB1:=zD (HB0.out.trans (hb1.mono HB0.out.size));clear hb1;have CD1:=zD (CD.out w1 HB1.out);go_wp2_with fail;refine CD1.out.mono ?_;rintro e2 w2 ⟨A3,c3,rfl,hq3,hc3,hr3,hb3⟩;have HB2:=zD (HB1.out.trans (hb3.mono HB1.out.size));have CX:=zD (zIr (c:=c3) hq3 h0 (by omega) hr3 hmx.out);clear hq3 hr3 hb3;go_wp2_with fail;refine CX.out.mono ?_;rintro e3 w3 ⟨rfl,rfl⟩;go_wp2_with fail;go_ret;exact⟨rfl,HB2.out⟩
mutual
theorem kidsT_len (n:Nat) (t:Tr):(zAl (flatT n t)).length+1=t.size:=by
 cases t with
 | mk x l=>
  rw[zAZ,zEj,List.length_append,zBg,zd];have:=kidsL_len (n+1) l;omega
theorem kidsL_len (n:Nat) (l:List Tr):l.length+(zAl (flatL n l)).length=sizes l:=by
 cases l with
 | nil=>rw[zAX,zO];rfl
 | cons t r=>
  rw[zAI,zCr,List.length_append,zL,List.length_cons];have:=kidsT_len n t;have:=kidsL_len (n+t.size) r;omega
end
theorem zI6 {A:Option Addr} {c B n nd:Nat} {ts:List Nd} {w:World} (hN:NdsR w B A n ts) (hB:B≤w.heap.size) (hc:n≤c) (hq:zJ1 ts=true) (hd:zC5 ts=nd):
 Calls prog 21 #[.agg #[.slice A n c]] w fun e w'=>e=.returned (.int .i64 (nd:Int))∧Below w.heap.size w w':=by
 obtain⟨t,rfl,hg⟩:=zJE.1 hq;have hl:t.size=n:=by rw[←flatT_len 0];exact hN.1
 have hk:=kidsT_len 0 t;have h9:=hg.size;exact zRl hN hB hc (by omega) hq (by omega) (by omega) (zEy t) hd
theorem zH5 {A:Option Addr} {c B n k i:Nat} {ts:List Nd} {w:World} (hN:NdsR w B A n ts) (hB:B≤w.heap.size) (hi:i < n) (hk:zH4 ts i=k) (hl:k≤1000000):
 Calls prog 18 #[.agg #[.slice A n c],.int .i64 (i:Int)] w fun e w'=>∃A' c',e=.returned (.slice A' k c')∧Below w.heap.size w w':=by
 obtain⟨x,hx⟩:∃x,ts[i]? =some x:=⟨_,yAC (by rw[hN.1];exact hi)⟩;have hkx:x.kids.length=k:=by
  rw[←hk];unfold zH4 atN;rw[yAH,Int.toNat_natCast,hx];rfl
 refine(zRk (k:=i) hN hB hi hx (by omega)).mono ?_;rintro e w' ⟨v,rfl,hm⟩;obtain⟨A',c',rfl,_,_⟩:=zZ hm.own;rw[zI8,hkx];exact⟨A',c',rfl,hm.below⟩
theorem zAn {a b c:World} (h:Below a.heap.size a b) (k:Below b.heap.size b c):Below a.heap.size a c:=h.trans (k.mono h.size)
theorem zGN (u:List UInt16):(zAg u).1.length≤4096:=by
 unfold zAg;simp only;split
 · simp
 · split
   · simp
   · split
     · simp
     · split
       · simp
       · rw[flatT_len];omega
theorem zJw:(l:List Tr)→l.length≤sizes l
 | []=>by simp
 | x::l=>by
  rw[zL,List.length_cons];have:=zJw l;obtain⟨y,m⟩:=x;rw[zd];omega
theorem zI7 (u:List UInt16):zJu (zAg u).1≤4096:=by
 unfold zAg;simp only;have h0:zJu []=0:=rfl;split
 · rw[h0];omega
 · split
   · rw[h0];omega
   · split
     · rw[h0];omega
     · split
       · rw[h0];omega
       · rename_i h1 _
         generalize zG (zCk u).1 (Ph.program []) ⟨0,0,0⟩=r at h1⊢;obtain⟨⟨x,l⟩,q⟩:=r;simp only at h1⊢;rw[zLh];rw[zd]at h1;have:=zJw l;omega
theorem zFg (A:Option Addr) (c:Nat) (u:List UInt16) (hc:u.length≤c) (hm:c≤maxLen) (w:World) (hr:Reads w w.heap.size 1 A u.length (zAM u)) (hT:Tab w):
 Calls prog 7 #[.slice A u.length c] w fun e w'=>e=.returned (.bool true)∧Below w.heap.size w w':=by
 have HT:=zD hT;have CF:=zD (fun(x:World) (hb:Below w.heap.size w x)=>zLj (HT.out.below HT.out.lt hb));clear hT
 by_cases hlong:4000 < u.length
 · have h2:(4000:Int) < (u.length:Int):=by omega
   go_enter func7,ntmps7;go_wp2_with fail;refine(CF.out w (Below.refl _ _)).mono ?_;rintro e w1 ⟨rfl,hb1⟩;have HB1:=zD hb1;clear hb1;go_wp2_with fail;refine(CF.out w1 HB1.out).mono ?_;rintro e w2 ⟨rfl,hb2⟩;have HB2:=zD hb2;clear hb2;go_wp2_with fail;go_ret;exact⟨rfl,zAn HB1.out HB2.out⟩
 have hl:u.length≤4000:=by omega
 have h3u:decide ((4000:Int) < (u.length:Int))=false:=yAJ (by omega)
 by_cases hash:∃x r,u=x::r∧x.toNat=35
 · obtain⟨x,r,rfl,hx⟩:=hash;have h0l:0 < (x::r).length:=by simp
   obtain⟨blk,off,rfl,hblk,hcell⟩:=hr.spotL h0l;have hca:=hcell 0 h0l;simp only[List.getElem_cons_zero,Nat.add_zero]at hca;have e35:((x.toNat:Int)==35)=true:=by rw[hx];rfl
   have hlen:0 < (x::r).length:=by simp
   obtain⟨n,hn⟩:∃n,(x::r).length=n:=⟨_,rfl⟩;rw[hn]at hl hlen h3u⊢;clear hr hcell hx hlong hc hn;go_enter func7,ntmps7;go_wp2_with fail;refine(CF.out w (Below.refl _ _)).mono ?_;rintro e w1 ⟨rfl,hb1⟩;have hcb:w1.cell? ⟨blk,off,none⟩=some (.int .u16 (x.toNat:Int)):=(hb1.cell (p:=⟨blk,off,none⟩) hblk).trans hca;have HB1:=zD hb1;clear hb1;go_wp2_with fail;refine(CF.out w1 HB1.out).mono ?_;rintro e w2 ⟨rfl,hb2⟩;have HB2:=zD hb2;clear hb2;go_wp2_with fail;go_ret;exact⟨rfl,zAn HB1.out HB2.out⟩
 obtain⟨i0,hi0,hz0,hz1,hz2⟩:=info_parts Tryz.info_u16;have hno:∀x r,u=x::r→x.toNat≠35:=fun x r h h2=>hash ⟨x,r,h,h2⟩;obtain⟨⟨ta,p1,e1⟩,hq⟩:∃q,zAg u=q:=⟨_,rfl⟩;obtain⟨J,hJ⟩:∃J,123::(u++[10,125])=J:=⟨_,rfl⟩;obtain⟨⟨tb,p3,e3⟩,hq3⟩:∃q,zAg J=q:=⟨_,rfl⟩;have hln:=zGN u;have hln3:=zGN J;rw[hq]at hln;rw[hq3]at hln3;have hal:J.length=u.length+3:=by rw[←hJ];simp
 have hE:e1=0→ta.length < 4096→zC5 ta < 48→e3=0∧tb.length=ta.length+1∧(atN tb 1).kind=4∧zH4 tb 1=zH4 ta 0∧(∀i:Nat,1≤i→i < ta.length→knN (atN tb ((i:Int)+1))=knN (atN ta (i:Int)))∧zC5 tb=max (zC5 ta+1) 2∧0 < ta.length∧zJ1 tb=true:=by
  intro h1 h2 h3;obtain⟨tb',g1,g2,g3,g4,g5,g6,g7⟩:=zLn hno hl (by rw[hq,h1]) h2 h3;have hg:=zGM g1;rw[hJ,hq3]at g1;simp only[Prod.mk.injEq]at g1;obtain⟨g1,_,g1'⟩:=g1;subst g1;exact⟨g1',g2,g3,g4,g5,g6,g7,hg⟩
 have hG:e1=0→zJ1 ta=true:=fun h=>zGM (by rw[hq,h]);obtain⟨na,hna⟩:∃N,ta.length=N:=⟨_,rfl⟩;obtain⟨nc,hnc⟩:∃N,tb.length=N:=⟨_,rfl⟩;obtain⟨nd,hnd⟩:∃N,zC5 ta=N:=⟨_,rfl⟩;obtain⟨ne,hne⟩:∃N,zC5 tb=N:=⟨_,rfl⟩;simp only at hln hln3;rw[hna]at hln;rw[hnc]at hln3;rw[hna,hnd,hnc,hne]at hE;have HE:=zD hE;have HG:=zD hG;have HQ:=zD hq;have HQ3:=zD hq3;have HNA:=zD hna;have HNC:=zD hnc;have HND:=zD hnd;have HNE:=zD hne;have HJ:=zD hJ;have HAL:=zD hal;have HR:=zD hr;have hx0:∀(h:0 < u.length),((u[0].toNat:Int)==35)=false:=fun h=>yA.2 (by
  have:=hno u[0] (u.drop 1) (by rw[←yAI h];rfl);omega)
 have HX0:=zD hx0;clear hlong hash hno hq hq3 hE hG hna hnc hnd hne hJ hal hr hx0;go_enter func7,ntmps7;go_wp2_with fail;refine(CF.out w (Below.refl _ _)).mono ?_;rintro e w1 ⟨rfl,hb1⟩;have HB1:=zD hb1;have HR1:=zD (HR.out.below hb1);have hs1:w.heap.size≤w1.heap.size:=hb1.size;clear hb1 HR;go_upto_region 3 with(fail)
 go_cut [25] (fun v wx=>v=.bool false∧w1=wx)
 case first=>
  by_cases h0:0 < u.length
  · obtain⟨blk,off,rfl,_,hcell⟩:=HR1.out.spotL h0;have hca:=hcell 0 h0;simp only[Nat.add_zero]at hca;have e35:=HX0.out h0;obtain⟨x,hx⟩:∃x,u[0]=x:=⟨_,rfl⟩;rw[hx]at hca e35;clear hcell hx;go_wp2_with fail;go_meet;exact⟨by first | rfl | (simp only[h3u];rfl),rfl⟩
  · have hz:u.length=0:=by omega
    have HZ:=zD hz;clear hz;go_wp2_with fail;go_meet;exact⟨by first | rfl | (simp only[h3u];rfl),rfl⟩
 case rest=>
  obtain⟨hv,hwx⟩:=hcut;subst hv hwx;go_wp2_with fail;refine(zE0 (w:=w1) (B:=w.heap.size) hs1 rfl HR1.out hc hm (HT.out.below HT.out.lt HB1.out) HQ.out HNA.out).mono ?_;rintro e w2 ⟨A2,c2,rfl,hN2,hc2,hm2,hb2⟩;have HB2:=zD (zAn HB1.out hb2);have HR2:=zD (HR1.out.below (hb2.mono hs1));obtain⟨W2,hW2⟩:∃W2,w2.alloc (.cells #[.slice A2 na c2] 27)=W2:=⟨_,rfl⟩;have hg2:Below w2.heap.size w2 W2:=by rw[←hW2];exact(Below.refl _ _).alloc (yAD _) _
  obtain⟨T,hTt⟩:∃T,w2.heap.size=T:=⟨_,rfl⟩;have HBT:=zD (show Bx W2 T 27 [.slice A2 na c2] by rw[←hW2,←hTt];exact Bx.new w2 _ _);have HBW2:=zD (zAn HB2.out hg2);have HRW2:=zD (HR2.out.below (hg2.mono HB2.out.size));have HN2:=zD ((hN2.below hg2).more hg2.size);have hsW2:w.heap.size≤W2.heap.size:=HBW2.out.size;have HTlt:=zD (show T < W2.heap.size from HBT.out.lt);have hml:=zD (show Made W2 (W2.alloc (.cells #[.int .u16 123] 24)) 24 (.slice (some ⟨W2.heap.size,0,none⟩) 1 1) (zAM [123])from Made.lit W2 24 [.int .u16 123] (by decide));have hra:=zD (HRW2.out.alloc hsW2 (.cells #[.int .u16 123] 24));clear hb2 hN2 HR1 hg2 HB2 HR2;go_upto_region 6 with(fail);clear hW2 hTt;go_wp2_with (first | (at_builtin;refine zKJ rfl _ _ 22 rfl 24 i0 _ 2 underlying22 hi0 hz0 hz1 hz2 rfl (.slice (some ⟨W2.heap.size,0,none⟩) 1 1) (zAM [123]) rfl hml.out w.heap.size A u.length c (zAM u) rfl hra.out (zOk _) (by simp[zAM];omega) (by omega) ?_;intro v5 w5 hm5;have H5:=zD hm5;clear hm5) | (at_builtin;refine zEH rfl _ _ 22 rfl 24 i0 _ 2 underlying22 hi0 hz0 hz1 hz2 rfl v5 (zAM [123]++zAM u) rfl H5.out [.int .u16 10,.int .u16 125] 2 2 rfl rfl rfl (by simp[zAM];omega) (by omega) ?_;intro v6 w6 hm6;have H6:=zD (show Made W2 w6 24 v6 (zAM J)from hm6.cells (by rw[←HJ.out];simp[zAM,zTl]));clear hm6));obtain⟨A6,c6,rfl,hl6,hx6,hr6⟩:=H6.out.u16;refine(zE0 (w:=w6) (yAD _) rfl hr6 hl6 hx6 (HT.out.below HT.out.lt (zAn HBW2.out H6.out.below)) HQ3.out HNC.out).mono ?_;rintro e w7 ⟨A7,c7,rfl,hN7,hc7,hm7,hb7⟩;obtain⟨W7,hW7⟩:∃W7,w7.alloc (.cells #[.slice A7 nc c7] 27)=W7:=⟨_,rfl⟩;have hg7:Below w7.heap.size w7 W7:=by rw[←hW7];exact(Below.refl _ _).alloc (yAD _) _
  obtain⟨T7,hTt7⟩:∃T,w7.heap.size=T:=⟨_,rfl⟩;have HBT7:=zD (show Bx W7 T7 27 [.slice A7 nc c7] by rw[←hW7,←hTt7];exact Bx.new w7 _ _);have hb27:Below W2.heap.size W2 W7:=zAn H6.out.below (zAn hb7 hg7);have HBW7:=zD (zAn HBW2.out hb27);have HNA7:=zD ((HN2.out.below hb27).more hb27.size);have HNC7:=zD ((hN7.below hg7).more hg7.size);have zA:W7.cell? ⟨T,0,none⟩=some (.slice A2 na c2):=(hb27.cell (p:=⟨T,0,none⟩) HTlt.out).trans (HBT.out.cell 0);have zC:W7.cell? ⟨T7,0,none⟩=some (.slice A7 nc c7):=HBT7.out.cell 0;have hd1:T < W7.heap.size:=yAA HTlt.out hb27.size;have hd3:T7 < W7.heap.size:=HBT7.out.lt;have HZA:=zD zA;have HZC:=zD zC;have HC2:=zD hc2;have HC7:=zD hc7;clear zA zC hN7 hb7 hg7 hb27 hl6 hx6 hr6 HBT HBT7 HN2 H5 H6 HBW2 HTlt HB1 HRW2 hml hra hc2 hc7 hm2 hm7;go_upto_region 7 with(fail);clear hW7 hTt7;have zA:=HZA.out;have zC:=HZC.out
  by_cases h1:e1=0
  rotate_left
  · have eE1:((e1:Int) !=0)=true:=by rw[bne_iff_ne];omega
    go_wp2_with fail;refine(CF.out W7 HBW7.out).mono ?_;rintro e w8 ⟨rfl,hb8⟩;have HB8:=zD hb8;clear hb8;go_wp2_with fail;go_ret;exact⟨rfl,zAn HBW7.out HB8.out⟩
  have eE1:((e1:Int) !=0)=false:=by rw[h1];rfl
  by_cases h3:na < 4096
  rotate_left
  · have hge:(4096:Int)≤(na:Int):=by omega
    go_wp2_with fail;refine(CF.out W7 HBW7.out).mono ?_;rintro e w8 ⟨rfl,hb8⟩;have HB8:=zD hb8;clear hb8;go_wp2_with fail;go_ret;exact⟨rfl,zAn HBW7.out HB8.out⟩
  have hge:decide ((4096:Int)≤(na:Int))=false:=yAJ (by omega);have hge2:¬(4096:Int)≤(na:Int):=by omega
  have CNA:=zD (fun(x:World) (hb:Below W7.heap.size W7 x)=>zI6 (c:=c2) (HNA7.out.below hb) hb.size HC2.out (HG.out h1) HND.out);go_wp2_with fail;refine(CNA.out W7 (Below.refl _ _)).mono ?_;rintro e w8 ⟨rfl,hb8⟩;have HB8:=zD hb8
  by_cases h4:nd < 48
  rotate_left
  · have hge3:(48:Int)≤(nd:Int):=by omega
    clear hb8;go_wp2_with fail;refine(CF.out w8 (zAn HBW7.out HB8.out)).mono ?_;rintro e w9 ⟨rfl,hb9⟩;have HB9:=zD hb9;clear hb9;go_wp2_with fail;go_ret;exact⟨rfl,zAn HBW7.out (zAn HB8.out HB9.out)⟩
  have hge3:decide ((48:Int)≤(nd:Int))=false:=yAJ (by omega);have hge4:¬(48:Int)≤(nd:Int):=by omega
  obtain⟨g1,g2,g3,g4,g5,g6,g7,g8⟩:=HE.out h1 h3 h4;subst h1;subst g1;obtain⟨kk,hkk⟩:∃m,zH4 ta 0=m:=⟨_,rfl⟩;have hkl:kk≤4096:=by
   have:=zI7 u;rw[HQ.out]at this;rw[←hkk];exact this
  rw[hkk]at g4;have e00:(((0:Nat):Int) !=0)=false:=rfl;have hw1:IntKind.i64.wrap ((na:Int)+1)=(nc:Int):=by rw[IntKind.wrap_i64];omega
  have hne1:((nc:Int) !=(nc:Int))=false:=by simp
  have zA8:w8.cell? ⟨T,0,none⟩=some (.slice A2 na c2):=(hb8.cell (p:=⟨T,0,none⟩) hd1).trans zA;have zC8:w8.cell? ⟨T7,0,none⟩=some (.slice A7 nc c7):=(hb8.cell (p:=⟨T7,0,none⟩) hd3).trans zC;have h1n:1 < nc:=by omega
  obtain⟨b7,o7,x1,s1,rfl,hb7l,hx1,hC1,_⟩:=HNC7.out.get (i:=1) h1n;have hk1:=hC1.k0;have hx1k:x1.kind=4:=by
   have:atN tb 1=x1:=by unfold atN;rw[yAH,show(1:Int).toNat=1 from rfl,hx1];rfl
   rw[←this];exact g3
  rw[hx1k]at hk1;have hk8:w8.cell? ⟨b7,o7+1*8,none⟩=some (.int .i64 4):=(hb8.cell (p:=⟨b7,o7+1*8,none⟩) hb7l).trans hk1;have HZA8:=zD zA8;have HZC8:=zD zC8;have HK8:=zD hk8;have hd18:T < w8.heap.size:=yAA hd1 hb8.size;have hd38:T7 < w8.heap.size:=yAA hd3 hb8.size;have hd78:b7 < w8.heap.size:=yAA hb7l hb8.size;have HNA8:=zD ((HNA7.out.below hb8).more hb8.size);have HNC8:=zD ((HNC7.out.below hb8).more hb8.size);have CKA:=zD (fun(x:World) (hb:Below w8.heap.size w8 x)=>(show Calls prog 18 #[.agg #[.slice A2 na c2],.int .i64 0] x _ from zH5 (i:=0) (c:=c2) (HNA8.out.below hb) hb.size (by omega) hkk (by omega)));have CKC:=zD (fun(x:World) (hb:Below w8.heap.size w8 x)=>(show Calls prog 18 #[.agg #[.slice (some ⟨b7,o7,none⟩) nc c7],.int .i64 1] x _ from zH5 (i:=1) (c:=c7) (HNC8.out.below hb) hb.size (by omega) g4 (by omega)));have CNA8:=zD (fun(x:World) (hb:Below w8.heap.size w8 x)=>zI6 (c:=c2) (HNA8.out.below hb) hb.size HC2.out (HG.out rfl) HND.out);have CNC8:=zD (fun(x:World) (hb:Below w8.heap.size w8 x)=>zI6 (c:=c7) (HNC8.out.below hb) hb.size HC7.out g8 HNE.out);have HBW8:=zD (zAn HBW7.out hb8);have HG5:=zD g5;have HG2:=zD g2;have HG6:=zD g6;have h1nc:(1:Int) < (nc:Int):=by omega
  clear hx1 hC1 hk1 hkk hb8 zA zC zA8 zC8 hk8 HNA7 HNC7 CNA g8 g3 hx1k HZA HZC g5 g2 g6;go_upto_region 9 with(fail);have hc7:(nc:Int)≤(nc:Int):=Int.le_refl _;have hkn:((kk:Int) !=(kk:Int))=false:=by simp
  go_cut [85] (fun v wx=>v=.bool false∧Below w8.heap.size w8 wx)
  case first=>
   go_region_held3 (fun w'=>w'.cell? ⟨T,0,none⟩=some (.slice A2 na c2)∧w'.cell? ⟨T7,0,none⟩=some (.slice (some ⟨b7,o7,none⟩) nc c7)∧w'.cell? ⟨b7,o7+1*8,none⟩=some (.int .i64 4))
    (first | (exact⟨HZA8.out,HZC8.out,HK8.out⟩) | (exact⟨(h10.cell (p:=⟨T,0,none⟩) hd18).trans HZA8.out,(h10.cell (p:=⟨T7,0,none⟩) hd38).trans HZC8.out,(h10.cell (p:=⟨b7,o7+1*8,none⟩) hd78).trans HK8.out⟩) | (exact⟨(h9.cell (p:=⟨T,0,none⟩) hd18).trans HZA8.out,(h9.cell (p:=⟨T7,0,none⟩) hd38).trans HZC8.out,(h9.cell (p:=⟨b7,o7+1*8,none⟩) hd78).trans HK8.out⟩) | go_keep)
    (first | (go_at_call 18;go_split_ands;(with_reducible refine(CKA.out w8.drew ((Below.refl _ w8).drew)).mono ?_);rintro ea w9 ⟨A9,c9,rfl,hb9⟩;have h9:=(zAn ((Below.refl w8.heap.size w8).drew) hb9)) | (go_at_call 18;go_split_ands;(with_reducible refine(CKC.out w8.drew ((Below.refl _ w8).drew)).mono ?_);rintro ea w9 ⟨A9,c9,rfl,hb9⟩;have h9:=(zAn ((Below.refl w8.heap.size w8).drew) hb9)) | (go_at_call 18;go_split_ands;(with_reducible refine(CKA.out w9 h9).mono ?_);rintro ea w10 ⟨A10,c10,rfl,hb10⟩;have h10:=zAn h9 hb10) | (go_at_call 18;go_split_ands;(with_reducible refine(CKC.out w9 h9).mono ?_);rintro ea w10 ⟨A10,c10,rfl,hb10⟩;have h10:=zAn h9 hb10))
   all_goals go_wp2_with fail
   all_goals go_meet
   all_goals refine⟨?_,h10⟩
   all_goals first | rfl | simp
  case rest=>
   obtain⟨hv,hbx⟩:=hcut;subst hv;have HBX:=zD hbx;clear hbx;obtain⟨V,rfl⟩:∃x,x=wc:=⟨_,rfl⟩;have HNA9:=zD (HNA8.out.below HBX.out);have HNC9:=zD (HNC8.out.below HBX.out);have zA:=(HBX.out.cell (p:=⟨T,0,none⟩) hd18).trans HZA8.out;have zC:=(HBX.out.cell (p:=⟨T7,0,none⟩) hd38).trans HZC8.out;have HBV:=zD (zAn HBW8.out HBX.out);have hvA:T < V.heap.size:=yAA hd18 HBX.out.size;have hvC:T7 < V.heap.size:=yAA hd38 HBX.out.size;have HZV:=zD zA;have HZW:=zD zC;clear h1nc hkn hc7 hw1 hne1;go_wp2_with fail
   go_loopw [9] (fun i wr=>∃k:Nat,1≤k∧k≤na∧i=.int .i64 (k:Int)∧Hid (Below V.heap.size V wr)) (fun i _=>na - (intOf i).toNat)
   case atStart=>exact⟨1,yAD _,by omega,rfl,Below.refl _ _⟩
   case round=>
    obtain⟨k,hk1,hkn,rfl,hbr⟩:=hrel;have zA:=(hbr.out.cell (p:=⟨T,0,none⟩) hvA).trans HZV.out;have zC:=(hbr.out.cell (p:=⟨T7,0,none⟩) hvC).trans HZW.out
    by_cases hlt:k < na
    · have h1:(k:Int) < (na:Int):=by omega
      have h2:decide ((k:Int) < (na:Int))=true:=decide_eq_true h1;obtain⟨k1,hk2⟩:∃m,k+1=m:=⟨_,rfl⟩;have hw2:IntKind.i64.wrap ((k:Int)+1)=(k1:Int):=by rw[IntKind.wrap_i64];omega
      have hlc:(k1:Int) < (nc:Int):=by have:=HG2.out;omega
      obtain⟨b,o,x,s,rfl,hbB,hx,hC,_⟩:=(HNA9.out.below (hbr.out.mono HBX.out.size)).get hlt;have hkc:k1 < nc:=by have:=HG2.out;omega
      obtain⟨b',o',y,r,hbo,hbB',hy,hC',_⟩:=(HNC9.out.below (hbr.out.mono HBX.out.size)).get (i:=k1) hkc;simp only[Option.some.injEq,Addr.mk.injEq,and_true]at hbo;obtain⟨rfl,rfl⟩:=hbo;have hkn2:=HG5.out k hk1 hlt;have ex:atN ta (k:Int)=x:=by unfold atN;rw[yAH,Int.toNat_natCast,hx];rfl
      have ey:atN tb ((k:Int)+1)=y:=by unfold atN;rw[yAH,show((k:Int)+1).toNat=k1 by omega,hy];rfl
      rw[ex,ey]at hkn2;unfold knN at hkn2;simp only[Prod.mk.injEq]at hkn2;have x0:=hC.k0;have x1:=hC.k1;have y0:=hC'.k0;have y1:=hC'.k1;rw[hkn2.1]at y0;rw[hkn2.2]at y1;obtain⟨kq,hkq⟩:∃v,x.kind=v:=⟨_,rfl⟩;obtain⟨nq,hnq⟩:∃v,(⟨x.name.toArray⟩:ByteArray)=v:=⟨_,rfl⟩;rw[hkq]at x0 y0;rw[hnq]at x1 y1;have eqk:(kq !=kq)=false:=by simp
      have HK2:=zD hk2;clear hx hy hC hC' hkn2 ex ey hkq hnq hk2;go_wp2_with fail;go_region
      all_goals go_wp2_with fail
      all_goals refine⟨⟨k1,by have:=HK2.out;omega,by have:=HK2.out;omega,rfl,hbr.out.drew⟩,by have:=HK2.out;simp[intOf];omega⟩
    · obtain rfl:k=na:=by omega
      have h2:decide ((k:Int) < (k:Int))=false:=yAJ (by omega);go_wp2_with fail;have HBR:=zD (zAn HBX.out hbr.out);have HBU:=zD (zAn HBV.out hbr.out);have HNV:=zD (fun(x:World) (hb:Below wr.heap.size wr x)=>CNA8.out x (zAn HBR.out hb));have HNW:=zD (fun(x:World) (hb:Below wr.heap.size wr x)=>CNC8.out x (zAn HBR.out hb));have CFV:=zD (fun(x:World) (hb:Below wr.heap.size wr x)=>CF.out x (zAn HBU.out hb));have hwd:IntKind.i64.wrap ((nd:Int)+1)=(nd:Int)+1:=by rw[IntKind.wrap_i64];omega
      have hmx:max ((nd:Int)+1) 2=(ne:Int):=by have:=HG6.out;omega
      have hmy:(if(nd:Int)+1 < 2 then(2:Int)else(nd:Int)+1)=(ne:Int):=by have:=HG6.out;split<;>omega
      have hee:((ne:Int)==(ne:Int))=true:=by simp
      have hvA2:T < wr.heap.size:=yAA hvA hbr.out.size;have hvC2:T7 < wr.heap.size:=yAA hvC hbr.out.size;have HZX:=zD zA;have HZY:=zD zC;clear CNA8 CNC8 CKA CKC zA zC;go_region_held3 (fun w'=>w'.cell? ⟨T,0,none⟩=some (.slice A2 k c2)∧w'.cell? ⟨T7,0,none⟩=some (.slice (some ⟨b7,o7,none⟩) nc c7))
       (first | (exact⟨HZX.out,HZY.out⟩) | (exact⟨(h13.cell (p:=⟨T,0,none⟩) hvA2).trans HZX.out,(h13.cell (p:=⟨T7,0,none⟩) hvC2).trans HZY.out⟩) | (exact⟨(h12.cell (p:=⟨T,0,none⟩) hvA2).trans HZX.out,(h12.cell (p:=⟨T7,0,none⟩) hvC2).trans HZY.out⟩) | (exact⟨(h11.cell (p:=⟨T,0,none⟩) hvA2).trans HZX.out,(h11.cell (p:=⟨T7,0,none⟩) hvC2).trans HZY.out⟩) | go_keep)
       (first | (go_at_call 15;go_split_ands;(with_reducible refine(CFV.out wr.drew ((Below.refl _ wr).drew)).mono ?_);rintro ea w11 ⟨rfl,hb11⟩;have h11:=(zAn ((Below.refl wr.heap.size wr).drew) hb11)) | (go_at_call 21;go_split_ands;(with_reducible refine(HNV.out w11 h11).mono ?_);rintro ea w12 ⟨rfl,hb12⟩;have h12:=zAn h11 hb12) | (go_at_call 21;go_split_ands;(with_reducible refine(HNW.out w11 h11).mono ?_);rintro ea w12 ⟨rfl,hb12⟩;have h12:=zAn h11 hb12) | (go_at_call 21;go_split_ands;(with_reducible refine(HNV.out w12 h12).mono ?_);rintro ea w13 ⟨rfl,hb13⟩;have h13:=zAn h12 hb13) | (go_at_call 21;go_split_ands;(with_reducible refine(HNW.out w12 h12).mono ?_);rintro ea w13 ⟨rfl,hb13⟩;have h13:=zAn h12 hb13))
      all_goals go_wp2_with fail
      all_goals go_ret
      all_goals refine⟨?_,zAn HBU.out h13⟩
      all_goals first | rfl | simp
end Go.Proofs.YtlohaclgbfhijaaGreatDoor
