/- Joined for the claim EarlyRoot: the parser, the lexer and the trees as they are walked, made short by a program of mine. -/
import Derived.Deep.RegionHeld3
import Derived.Test.YtlohaclgbfhijaaGreatDoorE04
import Derived.Test.YtlohaclgbfhijaaGreatDoorE05
import Derived.Test.YtlohaclgbfhijaaGreatDoorE02
import Derived.Deep.CutBlock
import Derived.Deep.DeepCutAuto
import Derived.Deep.LoopGhost
import Derived.Test.YtlohaclgbfhijaaGreatDoorE03
import Derived.Test.YtlohaclgbfhijaaGreatDoorE01
set_option maxHeartbeats 16000000
set_option maxRecDepth 1000000
namespace Go.Proofs.YtlohaclgbfhijaaGreatDoor
open Go.Proofs.Tryz
open Go.RowKit
theorem zBl {W w:World} (h:Below W.drew.heap.size W.drew w):Below W.heap.size W w:=⟨h.os,h.tape,h.output,h.size,h.block⟩
theorem zGF {l:List Nat} {n:Nat} (h:l.all (fun s=>decide (s≤n))=true):∀s∈l,s≤n:=fun s hs=>by simpa using List.all_eq_true.1 h s hs
theorem zNE (k:Int) (n:Nat):(∀s∈(zAA k n).1,s≤13)∧(zAA k n).2≤13:=by
 have f:∀{p:Prop} [Decidable p] {a b:List Nat×Nat},((∀s∈a.1,s≤13)∧a.2≤13)→((∀s∈b.1,s≤13)∧b.2≤13)→((∀s∈(if p then a else b).1,s≤13)∧(if p then a else b).2≤13):=fun h1 h2=>by split<;>assumption
 have g:∀(l:List Nat) (r:Nat),l.all (fun s=>decide (s≤13))=true→r≤13→((∀s∈((l,r):List Nat×Nat).1,s≤13)∧((l,r):List Nat×Nat).2≤13):=fun l r h1 h2=>⟨zGF h1,h2⟩;have t:∀(l:List Nat) (m:Nat),l.all (fun s=>decide (s≤13))=true→((∀s∈((l.take m,0):List Nat×Nat).1,s≤13)∧((l.take m,0):List Nat×Nat).2≤13):=fun l m h=>⟨fun s hs=>zGF h s (List.mem_of_mem_take hs),by show 0≤13;omega⟩;have p:∀m last,last≤13→((∀s∈((zA5 m last,0):List Nat×Nat).1,s≤13)∧((zA5 m last,0):List Nat×Nat).2≤13):=fun m last h=>⟨fun s hs=>by
  unfold zA5 at hs;rcases List.mem_append.1 hs with h1 | h1
  · have:=List.eq_of_mem_replicate h1;omega
  · have:=List.mem_singleton.1 h1;omega,by show 0≤13;omega⟩
 unfold zAA
 repeat' refine f ?_ ?_
 all_goals first | exact g _ _ (by decide) (by decide) | exact t _ _ (by decide) | exact p _ _ (by decide)
theorem zEK (ts:List Nd) (ll:List Nat) (r j:Nat) (y:Int) (ks:List Int):zBT ts (ll.drop j) r (y::ks)=(zD6 (ll.getD j r) (atN ts y).kind&&zBT ts (ll.drop (j+1)) r ks):=by
 by_cases h:j < ll.length
 · rw[yAH h,yAG,yAB h];rfl
 · rw[List.drop_of_length_le (by omega),List.drop_of_length_le (by omega),yAG,List.getElem?_eq_none (by omega)];rfl
theorem zI6 {ts:List Nd} {x:Nd} (h:zD5 x.kind=false):zCE ts x=false:=by unfold zCE;rw[h];simp
theorem zKo {ts:List Nd} {x:Nd} (h:¬(zAA x.kind x.kids.length).1.length≤x.kids.length):zCE ts x=false:=by unfold zCE;rw[yAI h];simp
theorem zEL {ts:List Nd} {x:Nd} (h:zBT ts (zAA x.kind x.kids.length).1 (zAA x.kind x.kids.length).2 x.kids=false):zCE ts x=false:=by unfold zCE;rw[h];simp
theorem zEM {ts:List Nd} {x:Nd} (h1:zD5 x.kind=true) (h2:(zAA x.kind x.kids.length).1.length≤x.kids.length) (h3:zBT ts (zAA x.kind x.kids.length).1 (zAA x.kind x.kids.length).2 x.kids=true):
 zCE ts x=(if x.kind=16 then((atN ts (x.kids.getD 1 0)).kind==17 || (atN ts (x.kids.getD 2 0)).kind==4)else if x.kind=8∧x.kids.length=3 then !(zCm ts (x.kids.getD 1 0))else true):=by
 unfold zCE;rw[h1,decide_eq_true h2,h3];rfl
theorem zNF {A:Option Addr} {c B n m:Nat} {ts:List Nd} {x:Nd} {w:World} (hN:NdsR w B A n ts) (hB:B≤w.heap.size) (hf:Fwd ts) (hkl:∀x∈ts,x.kids.length≤1000000) (hx:ts[m]? =some x) {q:Bool} (hq:zCE ts x=q):
 Calls prog 52 #[.agg #[.slice A n c],.int .i64 (m:Int)] w (BmP q w):=by
 have hmn:m < n:=by have:=(List.getElem?_eq_some_iff.1 hx).1;rw[hN.1]at this;exact this
 obtain⟨b,o,x',s,rfl,hbB,hx',hC,hR⟩:=hN.get hmn;obtain rfl:x=x':=Option.some.inj (hx.symm.trans hx');obtain⟨W,hW⟩:∃W,w.alloc (.cells #[.slice (some ⟨b,o,none⟩) n c] 27)=W:=⟨_,rfl⟩;have hbW:Below w.heap.size w W:=by rw[←hW];exact(Below.refl _ _).alloc (yAC _) _
 have hwX:w.heap.size < W.heap.size:=by rw[←hW];simp
 have hcW:W.cell? ⟨w.heap.size,0,none⟩=some (.slice (some ⟨b,o,none⟩) n c):=by rw[←hW,World.cell?_alloc_at _ _ _ _ rfl];rfl
 obtain⟨kc0,kc1,kc2,kc3,kc4,kc5,kc6,kc7⟩:=hC.below hbW (by omega);have hfw:=hf m x hx;rw[hN.1]at hfw;have HFW:=zA hfw;have hxl:=hkl x (List.mem_of_getElem? hx);have HF:=zA hf;have HKL:=zA hkl;have HBW:=zA hbW;have HN:=zA hN;have HR:=zA hR;have HQ:=zA hq;have HB:=zA hB;clear hx hx' hC hR hbW hfw hf hkl hN hq;go_enter func52,ntmps52;go_upto_region 2 with(fail);have HW:=zA hW;obtain⟨W1,hW1⟩:∃W1,W.alloc (.cells #[.int .i64 x.kind,.string ⟨x.name.toArray⟩,.slice s.As x.str.length s.cs,.int .i64 x.nk,.int .i64 x.nn,.bool x.neg,.slice s.Am x.mag.length s.cm,.slice s.Ak x.kids.length s.ck] 48)=W1:=⟨_,rfl⟩;rw[hW1];have hb1:Below W.heap.size W W1:=by rw[←hW1];exact(Below.refl _ _).alloc (yAC _) _
 have hs1:W1.heap.size=W.heap.size+1:=by rw[←hW1];simp
 have p0:W1.cell? ⟨W.heap.size,0,none⟩=some (.int .i64 x.kind):=by rw[←hW1,World.cell?_alloc_at _ _ _ _ rfl];rfl
 have p7:W1.cell? ⟨W.heap.size,7,none⟩=some (.slice s.Ak x.kids.length s.ck):=by rw[←hW1,World.cell?_alloc_at _ _ _ _ rfl];rfl
 have pb:W1.cell? ⟨w.heap.size,0,none⟩=some (.slice (some ⟨b,o,none⟩) n c):=(hb1.cell (p:=⟨w.heap.size,0,none⟩) (show w.heap.size < W.heap.size by omega)).trans hcW;have HB1:=zA (HBW.out.trans (hb1.mono (by omega)));clear hW1 hb1 hW hcW kc0 kc1 kc2 kc3 kc4 kc5 kc6 kc7;obtain⟨X,hX⟩:∃X,W.heap.size=X:=⟨_,rfl⟩;rw[hX]at p0 p7 hs1 hwX;rw[hX];clear hX;obtain⟨K,hK⟩:∃K,x.kind=K:=⟨_,rfl⟩;obtain⟨L,hL⟩:∃L,x.kids.length=L:=⟨_,rfl⟩;rw[hK]at p0;rw[hL]at p7 hxl;obtain⟨⟨ll,rr⟩,hsh⟩:∃q,zAA K L=q:=⟨_,rfl⟩;have HSH:=zA hsh;have hshp:=zNE K L;rw[hsh]at hshp;have HLE:=zA hshp;have HC:=zA (show∀w1,Calls prog 83 #[.int .i64 K,.int .i64 (L:Int)] w1 (zBM w1 (ll,rr))from fun w1=>by have:=zKN K L hxl w1;rw[hsh]at this;exact this);have HK:=zA hK;have HL:=zA hL;clear hsh hshp hK hL;go_upto_region 3 with(go_at_call 83;refine(HC.out _).mono ?_;rintro e2 w2 ⟨Al,cl,rfl,hcl,hrl,hb2⟩);have q0:=(hb2.cell (p:=⟨X,0,none⟩) (show X < W1.heap.size by omega)).trans p0;have q7:=(hb2.cell (p:=⟨X,7,none⟩) (show X < W1.heap.size by omega)).trans p7;have qb:=(hb2.cell (p:=⟨w.heap.size,0,none⟩) (show w.heap.size < W1.heap.size by omega)).trans pb;have HB2:=zA (HB1.out.trans (hb2.mono (by omega)));have HN2:=zA (HN.out.below ((HB2.out).mono HB.out));have hx2:X < w2.heap.size:=by have:=hb2.size;omega
 have hbs:B≤w2.heap.size:=by have:=HB.out;omega
 obtain⟨LL,hLL⟩:∃n,ll.length=n:=⟨_,rfl⟩;have hlc:0 < LL→∃bl ol,Al=some ⟨bl,ol,none⟩∧∀(j s:Nat),ll[j]? =some s→w2.cell? ⟨bl,ol+j,none⟩=some (.int .i64 (s:Int)):=by
  intro h0;have hr:Reads w2 w2.heap.size 1 Al ll.length (zC4 ll):=hrl;obtain⟨bl,ol,hA,_,hc⟩:=hr.spotR (by omega);exact⟨bl,ol,hA,fun j s hs=>hc j _ (by simp[zC4,hs])⟩
 have HLLC:=zA hlc;have hLL':((ll,rr):List Nat×Nat).1.length=LL:=hLL;have HLLN:=zA hLL;clear p0 p7 pb hb2 hrl hlc hcl;have HR2:=zA (HR.out.below ((HB2.out).mono HB.out));have HKIDX:=zA (show∀j,j < L→∃(y:Int) (p:Nat) (kp:Int),x.kids[j]? =some y∧y=(p:Int)∧(m < p∧p < n)∧(atN ts (p:Int)).kind=kp∧w2.cell? ⟨b,o+p*8,none⟩=some (.int .i64 kp)from fun j hj=>by
  have hjk:j < x.kids.length:=by rw[HL.out];exact hj
  have hb:=HFW.out x.kids[j] (List.getElem_mem hjk);obtain⟨p,hp⟩:∃p:Nat,x.kids[j]=(p:Int):=⟨x.kids[j].toNat,by omega⟩;rw[hp]at hb;obtain⟨b',o',xp,sp,hA,_,hxp,hCp,_⟩:=HN2.out.get (i:=p) (by omega);injection hA with hA;injection hA with hA1 hA2;subst hA1 hA2;exact⟨_,p,xp.kind,yAB hjk,hp,⟨by omega,by omega⟩,by rw[zH6 hxp],hCp.k0⟩)
 have HKID:Hid (∀j,j < L→∃(y:Int) (p:Nat) (kp:Int),x.kids[j]? =some y∧y=(p:Int)∧(m < p∧p < n)∧((atN ts (p:Int)).kind=kp∧w2.cell? ⟨b,o+p*8,none⟩=some (.int .i64 kp))):=HKIDX;have hq7:L=0→w2.cell? ⟨X,7,none⟩=some (.slice s.Ak 0 s.ck):=fun e=>by rw[q7,e]
 obtain⟨fq,hfq⟩:∃fq,zBT ts ll rr x.kids=fq:=⟨_,rfl⟩;have HFD:=zA hfq;have hkn:x.kids.length=L:=HL.out;clear hfq HKIDX
 by_cases hkd:zD5 K=true
 · have HKD:=zA hkd;have CK:=zA (show∀w1,Calls prog 84 #[.int .i64 K] w1 fun e w'=>e=.returned (.bool true)∧w1=w' from fun w1=>by have:=zGE K w1;rw[hkd]at this;exact this);clear hkd
   by_cases hlen:ll.length≤L
   · have hlen2:¬(L:Int) < (LL:Int):=by rw[←HLLN.out];omega
     have hlen3:decide ((L:Int) < (LL:Int))=false:=yAI hlen2;have hlen4:¬L < LL:=by omega
     rw[hLL'];clear hLL' hLL hkn
     go_upto_if 36 with(go_at_call 84;refine(CK.out _).mono ?_;rintro e3 w3 ⟨rfl,rfl⟩)
     by_cases hL0:L=0
     · have hz1:¬(0:Int) < (L:Int):=by omega
       have hz2:decide ((0:Int) < (L:Int))=false:=yAI hz1;have hz3:¬0 < L:=by omega
       have h16:K≠16:=by
        intro e;have h1:=HSH.out;rw[e]at h1;have h2:([8,11,12],0)=(ll,rr):=h1;injection h2 with h3 h4;rw[←h3]at hlen;have:([8,11,12]:List Nat).length=3:=rfl;omega
       have hxk:x.kids=[]:=List.length_eq_zero_iff.1 (by rw[HL.out];exact hL0);have hfq:zBT ts ll rr x.kids=true:=by rw[hxk];cases ll<;>rfl
       have HV2:=zA (show true=q by
        rw[←HQ.out,zEM (by rw[HK.out];exact HKD.out) (by rw[HK.out,HL.out,HSH.out];exact hlen) (by rw[HK.out,HL.out,HSH.out];exact hfq),if_neg (by rw[HK.out];exact h16),if_neg (by rw[HL.out];omega)])
       have e16:(K==16)=false:=yA.2 h16;have eL3:((L:Int)==3)=false:=yA.2 (by omega);have HL0:=zA hL0;clear h16 hxk hfq hL0 hq7;go_wp2_with fail
       go_loop [40] (fun i=>i=.int .i64 0) (fun _=>0)
       case atStart=>rfl
       case round=>
        subst hrel
        by_cases h81:K=8
        · subst h81;go_wp2_with fail;go_ret;exact⟨zD HV2.out,HB2.out⟩
        · have e81:(K==8)=false:=yA.2 h81;clear h81;go_wp2_with fail;go_ret;exact⟨zD HV2.out,HB2.out⟩
     · obtain⟨bk,ok,hak,hbk,hck⟩:=HR2.out.kids.spotK (by rw[HL.out];omega);have HCEL:=zA (show∀(j:Nat) (y:Int),x.kids[j]? =some y→w2.cell? ⟨bk,ok+j,none⟩=some (.int .i64 y)from fun j y hy=>by
        obtain⟨hl,rfl⟩:=List.getElem?_eq_some_iff.1 hy;exact hck j hl)
       have hckb:L≤s.ck:=by have:=HR2.out.ck.1;rw[HL.out]at this;exact this
       clear hck hq7;rw[hak]
       by_cases hLL0:0 < LL
       · obtain⟨bl,ol,rfl,hlcc⟩:=HLLC.out hLL0;have HLC:=zA hlcc;clear hlcc;go_wp2_with fail
         go_loop [40] (fun i=>∃j:Nat,j≤L∧i=.int .i64 j∧Hid (zBT ts (ll.drop j) rr (x.kids.drop j)=fq)) (fun i=>L - (intOf i).toNat)
         case atStart=>exact⟨0,yAE _,rfl,HFD.out⟩
         case round=>
          obtain⟨j,hj,rfl,hfit⟩:=hrel
          by_cases hlt:j < L
          · obtain⟨y,p,kp,hg0,hyp,hpl,hkp⟩:=HKID.out j hlt;have hcy:=HCEL.out j y hg0;have hstep:=hfit.out;rw[yAH (show j < x.kids.length by rw[HL.out];exact hlt),(List.getElem?_eq_some_iff.1 hg0).2,zEK,hyp,hkp.1]at hstep;rw[hyp]at hcy;have hck:=hkp.2;clear hg0 hyp hkp hfit
            by_cases hjl:j < ll.length
            · obtain⟨s0,hs0⟩:∃s0,ll[j]? =some s0:=⟨_,yAB hjl⟩;have hcs:=HLC.out j s0 hs0;have hg:ll.getD j rr=s0:=by rw[yAG,hs0];rfl
              rw[hg]at hstep;have h13:=HLE.out.1 s0 (List.mem_of_getElem? hs0);have hj1:(j:Int) < (LL:Int):=by rw[←HLLN.out];omega
              have hj2:decide ((j:Int) < (LL:Int))=true:=decide_eq_true hj1;have hj3:j < LL:=by omega
              obtain⟨fv,hfv⟩:∃fv,zD6 s0 kp=fv:=⟨_,rfl⟩;rw[hfv]at hstep;have CF:=zA (show∀w1,Calls prog 85 #[.int .i64 (s0:Int),.int .i64 kp] w1 fun e w'=>e=.returned (.bool fv)∧w1=w' from fun w1=>by have:=zFc s0 kp h13 w1;rw[hfv]at this;exact this);have HST:=zA hstep;clear hs0 hg hstep hfv hjl;cases fv with
              | false=>
               have HV2:=zA (show false=q by
                rw[←HQ.out];refine(zEL ?_).symm;rw[HK.out,HL.out,HSH.out,HFD.out];have:=HST.out;rw[Bool.false_and]at this;exact this.symm)
               go_wp2_with (go_at_call 85;refine(CF.out _).mono ?_;rintro e3 w3 ⟨rfl,rfl⟩)
               (try rw[Exit.noGoto_ret])
               go_ret;exact⟨zD HV2.out,HB2.out⟩
              | true=>
               go_wp2_with (go_at_call 85;refine(CF.out _).mono ?_;rintro e3 w3 ⟨rfl,rfl⟩);go_round
               case rel=>exact⟨j+1,by omega,by go_num,by have:=HST.out;rw[Bool.true_and]at this;exact this⟩
               case measure=>simp[intOf];omega
            · have hg:ll.getD j rr=rr:=by rw[yAG,List.getElem?_eq_none (by omega)];rfl
              rw[hg]at hstep;have h13:=HLE.out.2;have hj1:¬(j:Int) < (LL:Int):=by rw[←HLLN.out];omega
              have hj2:decide ((j:Int) < (LL:Int))=false:=yAI hj1;have hj3:¬j < LL:=by omega
              obtain⟨fv,hfv⟩:∃fv,zD6 rr kp=fv:=⟨_,rfl⟩;rw[hfv]at hstep;have CF:=zA (show∀w1,Calls prog 85 #[.int .i64 (rr:Int),.int .i64 kp] w1 fun e w'=>e=.returned (.bool fv)∧w1=w' from fun w1=>by have:=zFc rr kp h13 w1;rw[hfv]at this;exact this);have HST:=zA hstep;clear hg hstep hfv hjl;cases fv with
              | false=>
               have HV2:=zA (show false=q by
                rw[←HQ.out];refine(zEL ?_).symm;rw[HK.out,HL.out,HSH.out,HFD.out];have:=HST.out;rw[Bool.false_and]at this;exact this.symm)
               go_wp2_with (go_at_call 85;refine(CF.out _).mono ?_;rintro e3 w3 ⟨rfl,rfl⟩)
               (try rw[Exit.noGoto_ret])
               go_ret;exact⟨zD HV2.out,HB2.out⟩
              | true=>
               go_wp2_with (go_at_call 85;refine(CF.out _).mono ?_;rintro e3 w3 ⟨rfl,rfl⟩);go_round
               case rel=>exact⟨j+1,by omega,by go_num,by have:=HST.out;rw[Bool.true_and]at this;exact this⟩
               case measure=>simp[intOf];omega
          · obtain rfl:L=j:=by omega
            have HFQ:=zA (show fq=true by
             rw[←hfit.out,List.drop_of_length_le (show x.kids.length≤L by rw[HL.out];omega)];cases ll.drop L<;>rfl)
            clear hfit hlt;have hfq:fq=true:=HFQ.out;have HE:=zA (show q=(if K=16 then((atN ts (x.kids.getD 1 0)).kind==17 || (atN ts (x.kids.getD 2 0)).kind==4)else if K=8∧L=3 then !(zCm ts (x.kids.getD 1 0))else true) by
             rw[←HQ.out,←HK.out,←HL.out];refine zEM (by rw[HK.out];exact HKD.out) (by rw[HK.out,HL.out,HSH.out];exact hlen) (by rw[HK.out,HL.out,HSH.out,HFD.out];exact hfq))
            clear hfq
            by_cases h16:K=16
            · have hL3:L=3:=by
               have h1:=HSH.out;rw[h16]at h1;have h2:([8,11,12],0)=(ll,rr):=h1;injection h2 with h3 h4;have h5:zBT ts ll rr x.kids=true:=HFD.out.trans HFQ.out;rw[←h3,←h4]at h5;have h6:=zG8 _ _ h5;rw[HL.out]at h6;rw[←h3]at hlen;have:([8,11,12]:List Nat).length=3:=rfl;omega
              obtain⟨y1,p1,k1,g1,e1,l1,c1⟩:=HKID.out 1 (by omega);obtain⟨y2,p2,k2,g2,e2,l2,c2⟩:=HKID.out 2 (by omega);have hp1:=HCEL.out 1 y1 g1;have hp2:=HCEL.out 2 y2 g2;rw[e1]at hp1;rw[e2]at hp2;have HV:=zA (show q=(k1==17 || k2==4) by
               rw[HE.out,if_pos h16,yAG,g1,yAG,g2,Option.getD_some,Option.getD_some,e1,e2,c1.1,c2.1])
              have hk1:=c1.2;have hk2:=c2.2;have hi1:(1:Int) < (L:Int):=by omega
              have hi2:(2:Int) < (L:Int):=by omega
              clear g1 g2 e1 e2 c1 c2;subst h16;subst hL3
              by_cases hq1:k1=17
              · have e5:(k1==17)=true:=by rw[hq1];rfl
                have HV2:=zA (show true=q by rw[HV.out,hq1];rfl);clear hq1;go_wp2_with fail
                go_quiet (fail)
                go_wp2_with fail;go_ret;exact⟨zD HV2.out,zk HB2.out _⟩
              · have e5:(k1==17)=false:=yA.2 hq1;have HV2:=zA (show(k2==4)=q by rw[HV.out,yA.2 hq1];rfl);clear hq1;go_wp2_with fail
                go_quiet (fail)
                go_wp2_with fail;go_ret;exact⟨zD HV2.out,zk HB2.out _⟩
            by_cases h8:K=8∧L=3
            · obtain⟨h81,h83⟩:=h8;obtain⟨y1,p1,k1,g1,e1,l1,c1⟩:=HKID.out 1 (by omega);have hp1:=HCEL.out 1 y1 g1;rw[e1]at hp1;obtain⟨dq,hdq⟩:∃dq,zCm ts (p1:Int)=dq:=⟨_,rfl⟩;have HV:=zA (show(!dq)=q by
               rw[HE.out,if_neg h16,if_pos ⟨h81,h83⟩,yAG,g1,Option.getD_some,e1,hdq])
              have hi1:(1:Int) < (L:Int):=by omega
              have CD:=zA (fun(wx:World) (hN:NdsR wx B (some ⟨b,o,none⟩) n ts) (hB:B≤wx.heap.size)=>zEH (c:=c) hN hB HF.out HKL.out l1.2 hdq);have HL1:=zA l1;clear g1 e1 c1 hdq l1;subst h81;subst h83;have e16:((8:Int)==16)=false:=rfl;have hND:=zA (HN2.out.below ((Below.refl B w2).drew));have hwx:w.heap.size < w2.heap.size:=by omega
              rw[hak]at q7;have CDx:=zA (CD.out w2.drew hND.out (show B≤w2.drew.heap.size from hbs));go_wp2_with fail;go_region_held3 (fun w'=>w'.cell? ⟨w.heap.size,0,none⟩=some (.slice (some ⟨b,o,none⟩) n c)∧w'.cell? ⟨X,7,none⟩=some (.slice (some ⟨bk,ok,none⟩) 3 s.ck)∧w'.cell? ⟨bk,ok+1,none⟩=some (.int .i64 (p1:Int)))
               (first | (exact⟨qb,q7,hp1⟩) | (exact⟨((zBl hb3).cell (p:=⟨w.heap.size,0,none⟩) hwx).trans qb,((zBl hb3).cell (p:=⟨X,7,none⟩) hx2).trans q7,((zBl hb3).cell (p:=⟨bk,ok+1,none⟩) (show bk < w2.heap.size by omega)).trans hp1⟩) | go_keep)
               (first | (go_at_call 86;go_split_ands;(with_reducible refine CDx.out.mono ?_);rintro e3 w3 ⟨rfl,hb3⟩))
              all_goals go_wp2_with fail
              all_goals go_ret
              all_goals exact⟨zD HV.out,HB2.out.trans ((zBl hb3).mono (by omega))⟩
            · have e16:(K==16)=false:=yA.2 h16;have HV2:=zA (show true=q by rw[HE.out,if_neg h16,if_neg h8])
              by_cases h81:K=8
              · subst h81;have hL3:((L:Int)==3)=false:=yA.2 (fun e=>h8 ⟨rfl,by omega⟩);clear h8 h16;go_wp2_with fail;go_ret;exact⟨zD HV2.out,HB2.out⟩
              · have e81:(K==8)=false:=yA.2 h81;clear h8 h16 h81;go_wp2_with fail;go_ret;exact⟨zD HV2.out,HB2.out⟩
       · have hLLz:LL=0:=by omega
         have HLLZ:=zA hLLz;clear hLLz;go_wp2_with fail
         go_loop [40] (fun i=>∃j:Nat,j≤L∧i=.int .i64 j∧Hid (zBT ts (ll.drop j) rr (x.kids.drop j)=fq)) (fun i=>L - (intOf i).toNat)
         case atStart=>exact⟨0,yAE _,rfl,HFD.out⟩
         case round=>
          obtain⟨j,hj,rfl,hfit⟩:=hrel
          by_cases hlt:j < L
          · obtain⟨y,p,kp,hg0,hyp,hpl,hkp⟩:=HKID.out j hlt;have hcy:=HCEL.out j y hg0;have hstep:=hfit.out;rw[yAH (show j < x.kids.length by rw[HL.out];exact hlt),(List.getElem?_eq_some_iff.1 hg0).2,zEK,hyp,hkp.1]at hstep;rw[hyp]at hcy;have hck:=hkp.2;clear hg0 hyp hkp hfit;have hj1:¬(j:Int) < (LL:Int):=by omega
            have hj2:decide ((j:Int) < (LL:Int))=false:=yAI hj1;have hj3:¬j < LL:=by omega
            have hg:ll.getD j rr=rr:=by rw[yAG,List.getElem?_eq_none (by rw[HLLN.out];omega)];rfl
            rw[hg]at hstep;have h13:=HLE.out.2;obtain⟨fv,hfv⟩:∃fv,zD6 rr kp=fv:=⟨_,rfl⟩;rw[hfv]at hstep;have CF:=zA (show∀w1,Calls prog 85 #[.int .i64 (rr:Int),.int .i64 kp] w1 fun e w'=>e=.returned (.bool fv)∧w1=w' from fun w1=>by have:=zFc rr kp h13 w1;rw[hfv]at this;exact this);have HST:=zA hstep;clear hg hstep hfv;cases fv with
            | false=>
             have HV2:=zA (show false=q by
              rw[←HQ.out];refine(zEL ?_).symm;rw[HK.out,HL.out,HSH.out,HFD.out];have:=HST.out;rw[Bool.false_and]at this;exact this.symm)
             go_wp2_with (go_at_call 85;refine(CF.out _).mono ?_;rintro e3 w3 ⟨rfl,rfl⟩)
             (try rw[Exit.noGoto_ret])
             go_ret;exact⟨zD HV2.out,HB2.out⟩
            | true=>
             go_wp2_with (go_at_call 85;refine(CF.out _).mono ?_;rintro e3 w3 ⟨rfl,rfl⟩);go_round
             case rel=>exact⟨j+1,by omega,by go_num,by have:=HST.out;rw[Bool.true_and]at this;exact this⟩
             case measure=>simp[intOf];omega
          · obtain rfl:L=j:=by omega
            have HFQ:=zA (show fq=true by
             rw[←hfit.out,List.drop_of_length_le (show x.kids.length≤L by rw[HL.out];omega)];cases ll.drop L<;>rfl)
            clear hfit hlt;have hfq:fq=true:=HFQ.out;have HE:=zA (show q=(if K=16 then((atN ts (x.kids.getD 1 0)).kind==17 || (atN ts (x.kids.getD 2 0)).kind==4)else if K=8∧L=3 then !(zCm ts (x.kids.getD 1 0))else true) by
             rw[←HQ.out,←HK.out,←HL.out];refine zEM (by rw[HK.out];exact HKD.out) (by rw[HK.out,HL.out,HSH.out];exact hlen) (by rw[HK.out,HL.out,HSH.out,HFD.out];exact hfq))
            clear hfq
            by_cases h16:K=16
            · have hL3:L=3:=by
               have h1:=HSH.out;rw[h16]at h1;have h2:([8,11,12],0)=(ll,rr):=h1;injection h2 with h3 h4;have h5:zBT ts ll rr x.kids=true:=HFD.out.trans HFQ.out;rw[←h3,←h4]at h5;have h6:=zG8 _ _ h5;rw[HL.out]at h6;rw[←h3]at hlen;have:([8,11,12]:List Nat).length=3:=rfl;omega
              obtain⟨y1,p1,k1,g1,e1,l1,c1⟩:=HKID.out 1 (by omega);obtain⟨y2,p2,k2,g2,e2,l2,c2⟩:=HKID.out 2 (by omega);have hp1:=HCEL.out 1 y1 g1;have hp2:=HCEL.out 2 y2 g2;rw[e1]at hp1;rw[e2]at hp2;have HV:=zA (show q=(k1==17 || k2==4) by
               rw[HE.out,if_pos h16,yAG,g1,yAG,g2,Option.getD_some,Option.getD_some,e1,e2,c1.1,c2.1])
              have hk1:=c1.2;have hk2:=c2.2;have hi1:(1:Int) < (L:Int):=by omega
              have hi2:(2:Int) < (L:Int):=by omega
              clear g1 g2 e1 e2 c1 c2;subst h16;subst hL3
              by_cases hq1:k1=17
              · have e5:(k1==17)=true:=by rw[hq1];rfl
                have HV2:=zA (show true=q by rw[HV.out,hq1];rfl);clear hq1;go_wp2_with fail
                go_quiet (fail)
                go_wp2_with fail;go_ret;exact⟨zD HV2.out,zk HB2.out _⟩
              · have e5:(k1==17)=false:=yA.2 hq1;have HV2:=zA (show(k2==4)=q by rw[HV.out,yA.2 hq1];rfl);clear hq1;go_wp2_with fail
                go_quiet (fail)
                go_wp2_with fail;go_ret;exact⟨zD HV2.out,zk HB2.out _⟩
            by_cases h8:K=8∧L=3
            · obtain⟨h81,h83⟩:=h8;obtain⟨y1,p1,k1,g1,e1,l1,c1⟩:=HKID.out 1 (by omega);have hp1:=HCEL.out 1 y1 g1;rw[e1]at hp1;obtain⟨dq,hdq⟩:∃dq,zCm ts (p1:Int)=dq:=⟨_,rfl⟩;have HV:=zA (show(!dq)=q by
               rw[HE.out,if_neg h16,if_pos ⟨h81,h83⟩,yAG,g1,Option.getD_some,e1,hdq])
              have hi1:(1:Int) < (L:Int):=by omega
              have CD:=zA (fun(wx:World) (hN:NdsR wx B (some ⟨b,o,none⟩) n ts) (hB:B≤wx.heap.size)=>zEH (c:=c) hN hB HF.out HKL.out l1.2 hdq);have HL1:=zA l1;clear g1 e1 c1 hdq l1;subst h81;subst h83;have e16:((8:Int)==16)=false:=rfl;have hND:=zA (HN2.out.below ((Below.refl B w2).drew));have hwx:w.heap.size < w2.heap.size:=by omega
              rw[hak]at q7;have CDx:=zA (CD.out w2.drew hND.out (show B≤w2.drew.heap.size from hbs));go_wp2_with fail;go_region_held3 (fun w'=>w'.cell? ⟨w.heap.size,0,none⟩=some (.slice (some ⟨b,o,none⟩) n c)∧w'.cell? ⟨X,7,none⟩=some (.slice (some ⟨bk,ok,none⟩) 3 s.ck)∧w'.cell? ⟨bk,ok+1,none⟩=some (.int .i64 (p1:Int)))
               (first | (exact⟨qb,q7,hp1⟩) | (exact⟨((zBl hb3).cell (p:=⟨w.heap.size,0,none⟩) hwx).trans qb,((zBl hb3).cell (p:=⟨X,7,none⟩) hx2).trans q7,((zBl hb3).cell (p:=⟨bk,ok+1,none⟩) (show bk < w2.heap.size by omega)).trans hp1⟩) | go_keep)
               (first | (go_at_call 86;go_split_ands;(with_reducible refine CDx.out.mono ?_);rintro e3 w3 ⟨rfl,hb3⟩))
              all_goals go_wp2_with fail
              all_goals go_ret
              all_goals exact⟨zD HV.out,HB2.out.trans ((zBl hb3).mono (by omega))⟩
            · have e16:(K==16)=false:=yA.2 h16;have HV2:=zA (show true=q by rw[HE.out,if_neg h16,if_neg h8])
              by_cases h81:K=8
              · subst h81;have hL3:((L:Int)==3)=false:=yA.2 (fun e=>h8 ⟨rfl,by omega⟩);clear h8 h16;go_wp2_with fail;go_ret;exact⟨zD HV2.out,HB2.out⟩
              · have e81:(K==8)=false:=yA.2 h81;clear h8 h16 h81;go_wp2_with fail;go_ret;exact⟨zD HV2.out,HB2.out⟩
   · have hl1:(L:Int) < (LL:Int):=by rw[←HLLN.out];omega
     have hl2:decide ((L:Int) < (LL:Int))=true:=decide_eq_true hl1;have hl3:L < LL:=by omega
     have HV2:=zA (show false=q by
      rw[←HQ.out,zKo (by rw[HK.out,HL.out,HSH.out];exact hlen)])
     rw[hLL'];clear hLL' hLL hkn hlen hq7;go_wp2_with (go_at_call 84;refine(CK.out _).mono ?_;rintro e3 w3 ⟨rfl,rfl⟩);go_ret;exact⟨zD HV2.out,HB2.out⟩
 · have hkd2:zD5 K=false:=by simpa using hkd
   have CK:=zA (show∀w1,Calls prog 84 #[.int .i64 K] w1 fun e w'=>e=.returned (.bool false)∧w1=w' from fun w1=>by have:=zGE K w1;rw[hkd2]at this;exact this);have HV2:=zA (show false=q by
    rw[←HQ.out,zI6 (by rw[HK.out];exact hkd2)])
   clear hkd hkd2 hLL' hLL hkn hq7;go_wp2_with (go_at_call 84;refine(CK.out _).mono ?_;rintro e3 w3 ⟨rfl,rfl⟩);go_ret;exact⟨zD HV2.out,HB2.out⟩
theorem zO5 {ts:List Nd} {k:Nat} {x:Nd} (h:ts[k]? =some x):zAI (ts.take (k+1))=zAI (ts.take k)++x.kids:=by
 obtain⟨hk,rfl⟩:=List.getElem?_eq_some_iff.1 h;rw[yAK hk,zB3];congr 1;simp[zAI]
theorem zO6 (ts:List Nd) (k:Nat):(zAI (ts.take k)).length≤(zAI ts).length:=by
 conv=>rhs;rw[←List.take_append_drop k ts,zB3,List.length_append]
 omega
def OrdAt (ts:List Nd) (N k:Nat) (st:List Int):Prop:=zBU ts=zAl N k (ts.drop k) (if k=0 then [0]else st)∧(k=0→st=[])
theorem OrdAt.end_ {ts:List Nd} {N:Nat} {st:List Int} (h:OrdAt ts N N st) (hl:ts.length=N) (hN:0 < N):zBU ts=st.isEmpty:=by
 rw[h.1,if_neg (by omega),List.drop_of_length_le (by omega)];rfl
theorem OrdAt.none_ {ts:List Nd} {N k:Nat} (h:OrdAt ts N k []) (hk:0 < k) {x:Nd} (hx:ts[k]? =some x):zBU ts=false:=by
 obtain⟨hl,rfl⟩:=List.getElem?_eq_some_iff.1 hx;rw[h.1,if_neg (by omega),yAH hl];rfl
theorem OrdAt.bad {ts:List Nd} {N k:Nat} {s:Int} {st:List Int} (h:OrdAt ts N k (s::st)) (hs:s≠(k:Int)) {x:Nd} (hx:ts[k]? =some x):zBU ts=false:=by
 have hk:k≠0:=fun e=>by have:=h.2 e;cases this
 obtain⟨hl,rfl⟩:=List.getElem?_eq_some_iff.1 hx;rw[h.1,if_neg hk,yAH hl,zBj,yA.2 hs];rfl
def OrdIn (ts:List Nd) (N k:Nat) (x:Nd) (st:List Int):Prop:=zBU ts=(zBh N k x.kids&&zAl N (k+1) (ts.drop (k+1)) (x.kids++st))
theorem OrdAt.zero {ts:List Nd} {N:Nat} {x:Nd} {st:List Int} (h:OrdAt ts N 0 st) (hx:ts[0]? =some x):st=[]∧OrdIn ts N 0 x []:=by
 obtain⟨hl,rfl⟩:=List.getElem?_eq_some_iff.1 hx;refine⟨h.2 rfl,?_⟩;unfold OrdIn;rw[h.1,if_pos rfl,yAH hl,zBj];simp
theorem OrdAt.pop {ts:List Nd} {N k:Nat} {x:Nd} {s:Int} {st:List Int} (h:OrdAt ts N k (s::st)) (hs:s=(k:Int)) (hx:ts[k]? =some x):OrdIn ts N k x st:=by
 have hk:k≠0:=fun e=>by have:=h.2 e;cases this
 obtain⟨hl,rfl⟩:=List.getElem?_eq_some_iff.1 hx;unfold OrdIn;rw[h.1,if_neg hk,yAH hl,zBj,hs];simp
theorem OrdIn.bad {ts:List Nd} {N k:Nat} {x:Nd} {st:List Int} (h:OrdIn ts N k x st) {j:Nat} (hj:j < x.kids.length) (hb:¬((k:Int) < x.kids[j]∧x.kids[j] < (N:Int))):zBU ts=false:=by
 rw[h];have:zBh N k x.kids=false:=by
  unfold zBh;rw[List.all_eq_false];exact⟨x.kids[j],List.getElem_mem hj,by simpa using hb⟩
 rw[this];rfl
theorem OrdIn.done {ts:List Nd} {N k:Nat} {x:Nd} {st:List Int} (h:OrdIn ts N k x st) (hk:zBh N k x.kids=true):OrdAt ts N (k+1) (x.kids++st):=by
 refine⟨?_,fun e=>by omega⟩;rw[h,hk,if_neg (by omega)];rfl
theorem zHH {N k:Nat} {ks:List Int} {j:Nat} (h:zBh N k (ks.drop (j+1))=true) (hj:j < ks.length) (hb:(k:Int) < ks[j]∧ks[j] < (N:Int)):zBh N k (ks.drop j)=true:=by
 rw[yAH hj];unfold zBh at h⊢;rw[List.all_cons,h,Bool.and_true];simpa using hb
structure OrS (w wr:World) (v:Value) (st:List Int):Prop where
 own:wr.ownsRow w.heap.size 3 1 v st.length (zBC st.reverse)
 below:Below w.heap.size w wr
theorem zKp {A:Option Addr} {c B n:Nat} {ts:List Nd} {w:World} (hN:NdsR w B A n ts) (hB:B≤w.heap.size) (hc:n≤c) (hl:n≤4096) (h0:0 < n) (ht:(zAI ts).length≤1000000) {q:Bool} (hq:zBU ts=q):
 Calls prog 50 #[.agg #[.slice A n c]] w fun e w'=>e=.returned (.bool q)∧Below w.heap.size w w':=by
 obtain⟨W,hW⟩:∃W,w.alloc (.cells #[.slice A n c] 27)=W:=⟨_,rfl⟩;have hbW:Below w.heap.size w W:=by rw[←hW];exact(Below.refl _ _).alloc (yAC _) _
 have hsW:W.heap.size=w.heap.size+1:=by rw[←hW];simp
 have hNW:=zA ((hN.below (hbW.mono hB)));have hcW:W.cell? ⟨w.heap.size,0,none⟩=some (.slice A n c):=by rw[←hW,World.cell?_alloc_at _ _ _ _ rfl];rfl
 have HQ:=zA hq;have HBW:=zA hbW;have HT:=zA ht;have HTS:=zA hN.1;have HTL:=zA (zO6 ts);obtain⟨i0,hi,hz0,hz1,hz2⟩:=info_parts Tryz.info_int;have HI:=zA (And.intro hi (And.intro hz0 (And.intro hz1 hz2)));have HB:=zA hB;clear hq hbW ht hN hi hz0 hz1 hz2;go_enter func50,ntmps50;go_upto_region 1 with(fail);have HW:=zA hW;clear hW;go_wp2_with fail
 go_loopw [3,10] (fun v i wr=>∃(k:Nat) (st:List Int),k≤n∧i=.int .i64 k∧Hid (OrdAt ts n k st)∧Hid (st.length≤(zAI (ts.take k)).length)∧Hid (OrS W wr v st)) (fun _ i _=>n - (intOf i).toNat)
 case atStart=>exact⟨0,[],yAE _,rfl,⟨by unfold zBU;rw[HTS.out,if_pos rfl,List.drop_zero],fun _=>rfl⟩,yAE _,⟨yAJ _ _ _ _,Below.refl _ _⟩⟩
 case round=>
  obtain⟨k,st,hk,rfl,hst,htot,hS⟩:=hrel
  by_cases hlt:k < n
  · have hbr:=hS.out.below;obtain⟨b,o,x,s,rfl,hbB,hx,hC,hR⟩:=(hNW.out.below (hbr.mono (by omega))).get hlt;obtain⟨kc0,kc1,kc2,kc3,kc4,kc5,kc6,kc7⟩:=hC;have hsr:=hbr.size;have HBR:=zA hbr;have hbx:wr.cell? ⟨w.heap.size,0,none⟩=some (.slice (some ⟨b,o,none⟩) n c):=(hbr.cell (p:=⟨w.heap.size,0,none⟩) (show w.heap.size < W.heap.size by omega)).trans hcW;have HX':=zA hx;have HR:=zA hR;have htot2:=htot.out;have hkl:x.kids.length≤1000000∧(x.kids++st).length≤(zAI (ts.take (k+1))).length:=by
     have h1:=HTL.out (k+1);have h2:=HT.out;rw[zO5 HX'.out,List.length_append]at h1⊢;rw[List.length_append];omega
    have hkl1:=hkl.1;have HKL:=zA hkl.2;have hst6:st.length≤1000000:=by have:=HTL.out k;have:=HT.out;omega
    clear hbr hx hR hkl htot2;go_upto_region 5 with(fail);obtain⟨W1,hW1⟩:∃W1,wr.alloc (.cells #[.int .i64 x.kind,.string ⟨x.name.toArray⟩,.slice s.As x.str.length s.cs,.int .i64 x.nk,.int .i64 x.nn,.bool x.neg,.slice s.Am x.mag.length s.cm,.slice s.Ak x.kids.length s.ck] 48)=W1:=⟨_,rfl⟩;rw[hW1];have hbW1:Below wr.heap.size wr W1:=by rw[←hW1];exact(Below.refl _ _).alloc (yAC _) _
    have hs1:W1.heap.size=wr.heap.size+1:=by rw[←hW1];simp
    have p7:W1.cell? ⟨wr.heap.size,7,none⟩=some (.slice s.Ak x.kids.length s.ck):=by rw[←hW1,World.cell?_alloc_at _ _ _ _ rfl];rfl
    have hbx1:W1.cell? ⟨w.heap.size,0,none⟩=some (.slice (some ⟨b,o,none⟩) n c):=(hbW1.cell (p:=⟨w.heap.size,0,none⟩) (show w.heap.size < wr.heap.size by omega)).trans hbx;have HS1:=zA (show OrS W W1 u3 st from⟨by rw[←hW1];exact hS.out.own.alloc _,HBR.out.trans (hbW1.mono hsr)⟩);have hne1:u3.ownBlock≠some wr.heap.size:=fun e=>by have:=(hS.out.own.lt _ e).2;omega
    have HRW:=zA (HR.out.back (HBR.out.mono (by omega)));have HNE:=zA hne1;clear hW1 hbW1 hne1 kc0 kc1 kc2 kc3 kc4 kc5 kc6 kc7 hbx HR hS
    go_upto_if 16 with(fail)
    go_cut [3] (fun v' wx=>wx=W1∧∃st',Hid (OrdIn ts n k x st')∧Hid (OrS W W1 v' st')∧v'.ownBlock≠some wr.heap.size∧Hid ((x.kids++st').length≤(zAI (ts.take (k+1))).length))
    case first=>
     by_cases hk0:k=0
     · have e0:decide ((0:Int) < (k:Int))=false:=yAI (by omega);have e1:decide (0 < k)=false:=yAI (by omega);have e2:¬0 < k:=by omega
       have HK0:=zA hk0;clear hk0;go_wp2_with fail;go_meet;refine⟨rfl,[],?_,?_,HNE.out,?_⟩
       · have:=hst.out;rw[HK0.out]at this⊢;exact(this.zero (by rw[←HK0.out];exact HX'.out)).2
       · have:=hst.out;rw[HK0.out]at this;obtain rfl:=(this.zero (by rw[←HK0.out];exact HX'.out)).1;exact HS1.out
       · have:=HKL.out;show(x.kids++[]).length≤_;rw[List.length_append]at this⊢;simp only[List.length_nil];omega
     · have e0:decide ((0:Int) < (k:Int))=true:=decide_eq_true (by omega);have e1:decide (0 < k)=true:=decide_eq_true (by omega);have e2:0 < k:=by omega
       have HK0:=zA hk0;clear hk0;cases st with
       | nil=>
        obtain⟨Av,cv,rfl,_,_⟩:=zR HS1.out.own;have HF:=zA (show false=q from by rw[←HQ.out];exact(hst.out.none_ e2 HX'.out).symm);go_wp2_with fail;go_ret;exact⟨zD HF.out,HBW.out.trans (HS1.out.below.mono (by omega))⟩
       | cons s0 st=>
        obtain⟨g,cv,hv,hg1,hg2⟩:=HS1.out.own.form (by simp);subst hv;have hce:W1.cell? ⟨g,st.length,none⟩=some (.int .i64 s0):=by
         rw[HS1.out.own.cellAt _ (by simp)];simp[zBC]
        have hcv:st.length≤cv:=by
         obtain⟨_,_,e,h,_⟩:=zR HS1.out.own;injection e with _ _ e;subst e;simp at h;omega
        have hln:(s0::st).length=st.length+1:=rfl;rw[hln];have hst7:st.length≤1000000:=by simp at hst6;omega
        clear hln
        by_cases hs0:s0=(k:Int)
        · subst hs0;go_wp2_with fail;go_meet;refine⟨rfl,st,hst.out.pop rfl HX'.out,⟨?_,HS1.out.below⟩,HNE.out,?_⟩
          · have:=zPM HS1.out.own (j:=st.length) (by simp);have e:(zBC ((↑k:Int)::st).reverse).take st.length=zBC st.reverse:=by simp[zBC]
            rw[e]at this;exact this
          · have h9:(x.kids++((k:Int)::st)).length≤(zAI (ts.take (k+1))).length:=HKL.out;rw[List.length_append,List.length_cons]at h9;show(x.kids++st).length≤_;rw[List.length_append];omega
        · have e3:(s0==(k:Int))=false:=yA.2 hs0;have e4:(s0 !=(k:Int))=true:=bne_iff_ne.2 hs0;have HF:=zA (show false=q from by rw[←HQ.out];exact(hst.out.bad hs0 HX'.out).symm);clear hs0;go_wp2_with fail;go_ret;exact⟨zD HF.out,HBW.out.trans (HS1.out.below.mono (by omega))⟩
    case rest=>
     obtain⟨rfl,st',hin,hS,hne,htot3⟩:=hcut;have hkl2:(x.kids++st').length≤1000000:=by have:=htot3.out;have:=HTL.out (k+1);have:=HT.out;omega
     have HKL2:=zA hkl2;obtain⟨X,hX⟩:∃X,wr.heap.size=X:=⟨_,rfl⟩;rw[hX]at hne p7 hs1;rw[hX];have HX:=zA hX;have HNE2:=zA hne;have HP7:=zA p7;have HBX:=zA hbx1;have hsWX:W.heap.size≤X:=by omega
     have HIN:=zA hin.out;have htot4:=zA htot3.out;clear hX hkl2 hne HKL HNE hin htot3;go_wp2_with fail;clear p7 hbx1
     go_loopw [3,6] (fun v i wr=>∃(j:Nat) (z:Int),j≤x.kids.length∧i=.int .i64 z∧z=(j:Int) - 1∧Hid (OrS W wr v (x.kids.drop j++st'))∧Hid (v.ownBlock≠some X)∧Hid (zBh n k (x.kids.drop j)=true)∧wr.cell? ⟨X,7,none⟩=some (.slice s.Ak x.kids.length s.ck)∧X < wr.heap.size) (fun _ i _=>(intOf i+1).toNat)
     case atStart=>exact⟨x.kids.length,_,yAC _,rfl,rfl,by rw[List.drop_length];exact hS.out,HNE2.out,by rw[List.drop_length];rfl,HP7.out,by omega⟩
     case round=>
      obtain⟨j,z,hj,rfl,hz,hSi,hni,hki,hp7,hXl⟩:=hrel;have hbi:=hSi.out.below;have hbxi:wr.cell? ⟨w.heap.size,0,none⟩=some (.slice (some ⟨b,o,none⟩) n c):=(hbi.cell (p:=⟨w.heap.size,0,none⟩) (show w.heap.size < W.heap.size by omega)).trans hcW;have HBI:=zA hbi
      by_cases hj0:j=0
      · obtain rfl:z= -1:=by omega
        have hkk:=zA (show zBh n k x.kids=true by have:=hki.out;rw[hj0]at this;exact this);have hSk:=zA (show OrS W wr u3 (x.kids++st') by have:=hSi.out;rw[hj0]at this;exact this);clear hj0 hbi hSi hki hz;go_wp2_with fail
        go_roundw
        case rel=>exact⟨k+1,x.kids++st',by omega,by go_num,HIN.out.done hkk.out,htot4.out,hSk.out⟩
        case measure=>simp[intOf];omega
      · obtain⟨m,rfl⟩:∃m,j=m+1:=⟨j - 1,by omega⟩;obtain rfl:z=(m:Int):=by omega
        obtain⟨bk,ok,hak,hbk,hck⟩:=(HRW.out.below (hbi.mono (by omega))).kids.spotK (by omega);have hcm:=hck m (by omega);have hck2:=HRW.out.ck.1;have HDR:=zA (yAH (show m < x.kids.length by omega));have hmk:m < x.kids.length:=by omega
        have HBAD:Hid (¬((k:Int) < x.kids[m]∧x.kids[m] < (n:Int))→zBU ts=false):=fun hb=>HIN.out.bad hmk hb;have HGD:Hid ((k:Int) < x.kids[m]∧x.kids[m] < (n:Int)→zBh n k (x.kids.drop m)=true):=fun hb=>zHH hki.out hmk hb;rw[hak]at hp7;have HAK:=zA hak;clear hak;obtain⟨y,hy⟩:∃y,x.kids[m]=y:=⟨_,rfl⟩;rw[hy]at hcm HDR HBAD HGD;clear hck hy hki hbi hj0 hz
        by_cases hb1:y≤(k:Int)
        · have HF:=zA (show false=q from by rw[←HQ.out];exact(HBAD.out (by omega)).symm);go_wp2_with fail
          go_quiet (fail)
          go_wp2_with fail;go_ret;exact⟨zD HF.out,HBW.out.trans ((zk HBI.out _).mono (by omega))⟩
        · have e5:decide (y≤(k:Int))=false:=yAI hb1
          by_cases hb2:(n:Int)≤y
          · have HF:=zA (show false=q from by rw[←HQ.out];exact(HBAD.out (by omega)).symm);have e6:decide ((n:Int)≤y)=true:=decide_eq_true hb2;go_wp2_with fail
            go_quiet (fail)
            go_wp2_with fail;go_ret;exact⟨zD HF.out,HBW.out.trans ((zk HBI.out _).mono (by omega))⟩
          · have e6:decide ((n:Int)≤y)=false:=yAI hb2;have HGD2:=zA (HGD.out ⟨by omega,by omega⟩);go_wp2_with fail
            go_quiet (fail)
            obtain⟨w1,hw1⟩:∃w1,wr.drewN nq=w1:=⟨_,rfl⟩;rw[hw1];have hp71:w1.cell? ⟨X,7,none⟩=some (.slice (some ⟨bk,ok,none⟩) x.kids.length s.ck):=by rw[←hw1];exact hp7
            have hcm1:w1.cell? ⟨bk,ok+m,none⟩=some (.int .i64 y):=by rw[←hw1];exact hcm
            have hX1:X < w1.heap.size:=by rw[←hw1];exact hXl
            have HS1:=zA (show OrS W w1 u3 (x.kids.drop (m+1)++st') by rw[←hw1];exact⟨zIp hSi.out.own _,zk hSi.out.below _⟩);have HX1:=zA hX1;have hln:(x.kids.drop (m+1)++st').length+1≤1000000:=by
             have:=HKL2.out;rw[List.length_append]at this⊢;rw[List.length_drop];omega
            have HLN:=zA hln;obtain⟨hi,hz0,hz1,hz2⟩:=HI.out;clear hw1 hcm hSi HBI hXl hln;go_wp2_with (at_builtin;refine zCn rfl _ _ 32 rfl W.heap.size 3 i0 (.int .i64 0) 1 8 underlying32 hi hz0 hz1 hz2 rfl (by decide) u3 _ _ rfl (by exact HS1.out.own) HS1.out.below.size [.int .i64 y] 1 1 rfl rfl rfl (by have:=HLN.out;omega) (by decide) ?_;intro v' w' ho' hk');have hkp:=zA hk';have hp8:=(hk'.cell (p:=⟨X,7,none⟩) hX1 hni.out).trans hp71;have hX2:X < w'.heap.size:=yAA hX1 hk'.size;have HO:=zA ho';clear hk' ho' hp71 hcm1 hX1 hi hz0 hz1 hz2;go_wp2_with fail
            go_roundw
            case rel=>
             refine⟨m,_,by omega,rfl,rfl,⟨?_,?_⟩,hkp.out.apart HX1.out hni.out,HGD2.out,by rw[HAK.out];exact hp8,hX2⟩
             · have e:zBC (x.kids.drop (m+1)++st').reverse++[.int .i64 y]=zBC (x.kids.drop m++st').reverse:=by rw[HDR.out];simp[zBC]
               have e2:(x.kids.drop (m+1)++st').length+1=(x.kids.drop m++st').length:=by rw[HDR.out];simp
               have:=HO.out;rw[e,e2]at this;exact this
             · exact HS1.out.below.trans ((hkp.out.below (zKE HS1.out.own) HS1.out.below.size))
            case measure=>simp[intOf]
  · obtain rfl:k=n:=by omega
    have HF:=zA (show st.isEmpty=q from by rw[←HQ.out];exact(hst.out.end_ HTS.out h0).symm);obtain⟨Av,cv,rfl,_,_⟩:=zR hS.out.own;go_wp2_with fail;go_ret;refine⟨zD ?_,HBW.out.trans (hS.out.below.mono (by omega))⟩;rw[←HF.out];cases st<;>simp<;>omega
theorem zPj {ts:List Nd} (h:(zAI ts).length≤1000000):∀x∈ts,x.kids.length≤1000000:=by
 intro x hx;obtain⟨k,hk,rfl⟩:=List.getElem_of_mem hx;have h1:=zO5 (yAB hk);have h2:=zO6 ts (k+1);rw[h1,List.length_append]at h2;omega
theorem zNG {ts:List Nd} (h:ts.length=0):zO3 ts=false:=by
 have:=List.length_eq_zero_iff.1 h;subst this;rfl
theorem zKq {ts:List Nd} {x:Nd} (h:ts[0]? =some x):zO3 ts=(decide (ts.length≤4096)&&x.kind==1&&zBU ts&&zCx ts 0 ts&&decide (zIj ts≤48)):=by
 cases ts with
 | nil=>cases h
 | cons y r=>obtain rfl:y=x:=Option.some.inj h;rfl
theorem zKr {ts:List Nd} {k:Nat} {x:Nd} (hx:ts[k]? =some x):zCx ts k (ts.drop k)=(!(decide (0 < k)&&x.kind==1)&&zh x&&zCE ts x&&zCx ts (k+1) (ts.drop (k+1))):=by
 obtain⟨hl,rfl⟩:=List.getElem?_eq_some_iff.1 hx;rw[yAH hl];rfl
theorem zKs {A:Option Addr} {c B n:Nat} {ts:List Nd} {w:World} (hN:NdsR w B A n ts) (hB:B≤w.heap.size) (hc:n≤c) (ht:(zAI ts).length≤1000000) {q:Bool} (hq:zO3 ts=q):
 Calls prog 25 #[.agg #[.slice A n c]] w (BmP q w):=by
 have hln:=hN.1
 by_cases h0:n=0
 · subst h0;rw[zNG hln]at hq;subst hq;clear hN hln ht;go_enter func25,ntmps25;go_wp2_with fail;go_ret;exact⟨rfl,by go_grown⟩
 by_cases h4:4096 < n
 · have HF:=zA (show false=q by
    obtain⟨x,hx⟩:∃x,ts[0]? =some x:=⟨_,yAB (by omega)⟩;rw[←hq,zKq hx,hln,yAI (by omega)];rfl)
   have e1:((n:Int)==0)=false:=yA.2 (by omega);have e2:(4096:Int) < (n:Int):=by omega
   have e3:decide ((4096:Int) < (n:Int))=true:=decide_eq_true e2;clear hN hln ht hq;go_enter func25,ntmps25;go_wp2_with fail;go_ret;exact⟨zD HF.out,by go_grown⟩
 have hl:n≤4096:=by omega
 obtain⟨b,o,x0,s0,rfl,hbB,hx0,hC0,hR0⟩:=hN.get (i:=0) (by omega);have hkind:w.cell? ⟨b,o,none⟩=some (.int .i64 x0.kind):=by have:=hC0.k0;rw[Nat.zero_mul,Nat.add_zero]at this;exact this
 have e1:((n:Int)==0)=false:=yA.2 (by omega);have e2:¬(4096:Int) < (n:Int):=by omega
 have e3:decide ((4096:Int) < (n:Int))=false:=yAI e2;rw[zKq hx0,hln,decide_eq_true hl,Bool.true_and]at hq;obtain⟨W,hW⟩:∃W,w.alloc (.cells #[.slice (some ⟨b,o,none⟩) n c] 27)=W:=⟨_,rfl⟩;have hbW:Below w.heap.size w W:=by rw[←hW];exact(Below.refl _ _).alloc (yAC _) _
 have hwX:w.heap.size < W.heap.size:=by rw[←hW];simp
 have hcW:W.cell? ⟨w.heap.size,0,none⟩=some (.slice (some ⟨b,o,none⟩) n c):=by rw[←hW,World.cell?_alloc_at _ _ _ _ rfl];rfl
 have hk0:W.cell? ⟨b,o,none⟩=some (.int .i64 x0.kind):=(hbW.cell (p:=⟨b,o,none⟩) (show b < w.heap.size by omega)).trans hkind;have HBW:=zA hbW;have HN:=zA hN;have HNW:=zA (hN.below (hbW.mono hB));have HB:=zA hB;have HT:=zA ht;have HLN:=zA hln;have HX0:=zA hx0;have HQ:=zA hq;clear hx0 hC0 hR0 hkind hbW hN hB ht hln hq;go_enter func25,ntmps25;go_upto_region 1 with(fail);have HW:=zA hW;clear hW;obtain⟨K,hK⟩:∃K,x0.kind=K:=⟨_,rfl⟩;rw[hK]at hk0;have HK:=zA hK;clear hK
 by_cases hk1:K=1
 · subst hk1;have hk2:((1:Int) !=1)=false:=rfl;obtain⟨oq,hoq⟩:∃oq,zBU ts=oq:=⟨_,rfl⟩;have CO:=zA (zKp HNW.out (by have:=HB.out;omega) hc hl (by omega) HT.out hoq);have HOQ:=zA hoq;clear hoq;cases oq with
   | false=>
    have HF:=zA (show false=q by rw[←HQ.out,HOQ.out];simp);go_wp2_with (go_at_call 50;refine CO.out.mono ?_;rintro e2 w2 ⟨rfl,hb2⟩);go_ret;exact⟨zD HF.out,HBW.out.trans (hb2.mono (by omega))⟩
   | true=>
    have HFW:=zA (zEG HOQ.out);have HQ2:=zA (show(zCx ts 0 ts&&decide (zIj ts≤48))=q by rw[←HQ.out,HK.out,HOQ.out];rfl);have HKL:=zA (zPj HT.out);go_upto_region 4 with(go_at_call 50;refine CO.out.mono ?_;rintro e2 w2 ⟨rfl,hb2⟩;have hcb:=(hb2.cell (p:=⟨w.heap.size,0,none⟩) hwX).trans hcW);have HB2:=zA hb2;obtain⟨eq,heq⟩:∃eq,zCx ts 0 ts=eq:=⟨_,rfl⟩;obtain⟨nd,hnd⟩:∃nd,zIj ts=nd:=⟨_,rfl⟩;have HEQ:=zA heq;have HND:=zA hnd;have HQ3:=zA (show(eq&&decide (nd≤48))=q by rw[←HQ2.out,heq,hnd]);clear hb2 hcb hk0 heq hnd
    go_loopw [30] (fun i wr=>∃k:Nat,k≤n∧i=.int .i64 k∧Hid (zCx ts k (ts.drop k)=eq)∧Hid (Below W.heap.size W wr)) (fun i _=>n - (intOf i).toNat)
    case atStart=>exact⟨0,yAE _,rfl,by rw[List.drop_zero];exact HEQ.out,HB2.out⟩
    case round=>
     obtain⟨k,hk,rfl,hea,hbr⟩:=hrel;have hcb:=(hbr.out.cell (p:=⟨w.heap.size,0,none⟩) hwX).trans hcW;have hsz:=hbr.out.size
     by_cases hlt:k < n
     · obtain⟨b',o',x,s,hA,_,hx,hC,hR⟩:=(HNW.out.below (hbr.out.mono (by have:=HB.out;omega))).get hlt;injection hA with hA;injection hA with hA1 hA2;subst hA1 hA2;obtain⟨kc0,kc1,kc2,kc3,kc4,kc5,kc6,kc7⟩:=hC;have hstep:=hea.out;rw[zKr hx]at hstep;obtain⟨fv,hfv⟩:∃fv,zh x=fv:=⟨_,rfl⟩;obtain⟨kv,hkv⟩:∃kv,zCE ts x=kv:=⟨_,rfl⟩;have CF:=zA (zI5 hR (by have:=HB.out;omega) hfv);have CK:=zA (fun(w3:World) (hb3:Below wr.heap.size wr w3)=>zNF (c:=c) ((HNW.out.below (hbr.out.mono (by have:=HB.out;omega))).below (hb3.mono (by have:=HB.out;omega))) (yAD (show B≤wr.heap.size by have:=HB.out;omega) hb3.size) HFW.out HKL.out hx hkv);rw[hfv,hkv]at hstep;obtain⟨K2,hK2⟩:∃K2,x.kind=K2:=⟨_,rfl⟩;rw[hK2]at kc0 hstep;have HK2:=zA hK2;have HSTEP:=zA hstep;have HX:=zA hx;have hwr:w.heap.size < wr.heap.size:=by omega
       rw[hK2]at CF;clear hx hR hfv hkv hstep hK2 hea
       by_cases hbad:0 < k∧K2=1
       · have hg0:(0:Int) < (k:Int):=by omega
         have hg1:decide ((0:Int) < (k:Int))=true:=decide_eq_true hg0;have hg2:decide (0 < k)=true:=decide_eq_true hbad.1;have hg3:=hbad.1;have hg4:(K2==1)=true:=by rw[hbad.2];rfl
         have HF:=zA (show false=q by
          rw[←HQ3.out,←HSTEP.out,decide_eq_true hbad.1,hg4];rfl)
         clear hbad;go_wp2_with fail;go_ret;exact⟨zD HF.out,HBW.out.trans (hbr.out.mono (by omega))⟩
       · have hgood:(decide (0 < k)&&K2==1)=false:=by
          cases h1:decide (0 < k)with
          | false=>rfl
          | true=>exact yA.2 (fun e=>hbad ⟨of_decide_eq_true h1,e⟩)
         have HG:=zA hgood;cases fv with
         | false=>
          have HF:=zA (show false=q by rw[←HQ3.out,←HSTEP.out];simp)
          by_cases hk0:0 < k
          · have hg0:(0:Int) < (k:Int):=by omega
            have hg1:decide ((0:Int) < (k:Int))=true:=decide_eq_true hg0;have hg2:decide (0 < k)=true:=decide_eq_true hk0;have hg4:(K2==1)=false:=yA.2 (fun e=>hbad ⟨hk0,e⟩);clear hbad hgood;go_wp2_with (go_at_call 51;refine CF.out.mono ?_;rintro e3 w3 ⟨rfl,hb3⟩);go_ret;exact⟨zD HF.out,HBW.out.trans ((hbr.out.trans (hb3.mono hsz)).mono (by omega))⟩
          · have hg0:¬(0:Int) < (k:Int):=by omega
            have hg1:decide ((0:Int) < (k:Int))=false:=yAI hg0;have hg2:decide (0 < k)=false:=yAI hk0;clear hbad hgood;go_wp2_with (go_at_call 51;refine CF.out.mono ?_;rintro e3 w3 ⟨rfl,hb3⟩);go_ret;exact⟨zD HF.out,HBW.out.trans ((hbr.out.trans (hb3.mono hsz)).mono (by omega))⟩
         | true=>
          have HS2:=zA (show(kv&&zCx ts (k+1) (ts.drop (k+1)))=eq by rw[←HSTEP.out,HG.out];rfl);cases kv with
          | false=>
           have HF:=zA (show false=q by rw[←HQ3.out,←HS2.out];rfl)
           by_cases hk0:0 < k
           · have hg0:(0:Int) < (k:Int):=by omega
             have hg1:decide ((0:Int) < (k:Int))=true:=decide_eq_true hg0;have hg2:decide (0 < k)=true:=decide_eq_true hk0;have hg4:(K2==1)=false:=yA.2 (fun e=>hbad ⟨hk0,e⟩);clear hbad hgood;go_wp2_with (first | (go_at_call 51;refine CF.out.mono ?_;rintro e3 w3 ⟨rfl,hb3⟩;have hc3:=(hb3.cell (p:=⟨w.heap.size,0,none⟩) hwr).trans hcb) | (go_at_call 52;refine(CK.out w3 hb3).mono ?_;rintro e4 w4 ⟨rfl,hb4⟩));go_ret;exact⟨zD HF.out,HBW.out.trans ((hbr.out.trans ((hb3.trans (hb4.mono hb3.size)).mono hsz)).mono (by omega))⟩
           · have hg0:¬(0:Int) < (k:Int):=by omega
             have hg1:decide ((0:Int) < (k:Int))=false:=yAI hg0;have hg2:decide (0 < k)=false:=yAI hk0;clear hbad hgood;go_wp2_with (first | (go_at_call 51;refine CF.out.mono ?_;rintro e3 w3 ⟨rfl,hb3⟩;have hc3:=(hb3.cell (p:=⟨w.heap.size,0,none⟩) hwr).trans hcb) | (go_at_call 52;refine(CK.out w3 hb3).mono ?_;rintro e4 w4 ⟨rfl,hb4⟩));go_ret;exact⟨zD HF.out,HBW.out.trans ((hbr.out.trans ((hb3.trans (hb4.mono hb3.size)).mono hsz)).mono (by omega))⟩
          | true=>
           have HS3:=zA (show zCx ts (k+1) (ts.drop (k+1))=eq from HS2.out)
           by_cases hk0:0 < k
           · have hg0:(0:Int) < (k:Int):=by omega
             have hg1:decide ((0:Int) < (k:Int))=true:=decide_eq_true hg0;have hg2:decide (0 < k)=true:=decide_eq_true hk0;have hg4:(K2==1)=false:=yA.2 (fun e=>hbad ⟨hk0,e⟩);clear hbad hgood;go_wp2_with (first | (go_at_call 51;refine CF.out.mono ?_;rintro e3 w3 ⟨rfl,hb3⟩;have hc3:=(hb3.cell (p:=⟨w.heap.size,0,none⟩) hwr).trans hcb) | (go_at_call 52;refine(CK.out w3 hb3).mono ?_;rintro e4 w4 ⟨rfl,hb4⟩))
             go_roundw
             case rel=>exact⟨k+1,by omega,by go_num,HS3.out,hbr.out.trans ((hb3.trans (hb4.mono hb3.size)).mono hsz)⟩
             case measure=>simp[intOf];omega
           · have hg0:¬(0:Int) < (k:Int):=by omega
             have hg1:decide ((0:Int) < (k:Int))=false:=yAI hg0;have hg2:decide (0 < k)=false:=yAI hk0;clear hbad hgood;go_wp2_with (first | (go_at_call 51;refine CF.out.mono ?_;rintro e3 w3 ⟨rfl,hb3⟩;have hc3:=(hb3.cell (p:=⟨w.heap.size,0,none⟩) hwr).trans hcb) | (go_at_call 52;refine(CK.out w3 hb3).mono ?_;rintro e4 w4 ⟨rfl,hb4⟩))
             go_roundw
             case rel=>exact⟨k+1,by omega,by go_num,HS3.out,hbr.out.trans ((hb3.trans (hb4.mono hb3.size)).mono hsz)⟩
             case measure=>simp[intOf];omega
     · obtain rfl:n=k:=by omega
       have hea2:=zA (show true=eq by
        rw[←hea.out,List.drop_of_length_le (by rw[HLN.out];omega)];rfl)
       obtain⟨dl,hdl⟩:∃dl,zG4 ts=dl:=⟨_,rfl⟩;have CD:=zA (zIB (c:=c) (HNW.out.below (hbr.out.mono (by have:=HB.out;omega))) (by have:=HB.out;omega) (by omega) hl HFW.out HKL.out hdl);have hmx:=zA (show zD8 dl=nd by rw[←hdl];exact HND.out);have HR2:=zA (show decide (nd≤48)=q by rw[←HQ3.out,←hea2.out];rfl);clear hdl hea;go_wp2_with (first | (go_at_call 37;refine CD.out.mono ?_;rintro e3 w3 ⟨A3,c3,rfl,hq3,hc3,hr3,hb3⟩) | (go_at_call 36;refine(zKZ hq3 (by omega) (by omega) hr3 hmx.out).mono ?_;rintro e4 w4 ⟨rfl,rfl⟩));go_ret;refine⟨zD ?_,HBW.out.trans ((hbr.out.trans (hb3.mono hsz)).mono (by omega))⟩;rw[←HR2.out,Bool.eq_iff_iff];simp
       try omega
 · have hk2:(K !=1)=true:=bne_iff_ne.2 hk1;have HF:=zA (show false=q by rw[←HQ.out,HK.out,yA.2 hk1];rfl);clear hk1;go_wp2_with fail;go_ret;exact⟨zD HF.out,HBW.out⟩
mutual
theorem ekidsT (n:Nat) (t:Tr):(zAI (flatT n t)).length+1=t.size:=by
 cases t with
 | mk x l=>
  rw[zA2,zCJ,List.length_append,zDN,zb];have:=ekidsL (n+1) l;omega
theorem ekidsL (n:Nat) (l:List Tr):l.length+(zAI (flatL n l)).length=sizes l:=by
 cases l with
 | nil=>rw[zAb,zJ];rfl
 | cons t r=>
  rw[zAU,zB3,List.length_append,zI,List.length_cons];have:=ekidsT n t;have:=ekidsL (n+t.size) r;omega
end
theorem zKt:∀(ts:List Nd),∀x∈ts,x.kids.length≤(zAI ts).length:=by
 intro ts
 induction ts with
 | nil=>intro x hx;cases hx
 | cons y r ih=>
  intro x hx;rw[zCJ,List.length_append];rcases List.mem_cons.1 hx with rfl | h
  · omega
  · have:=ih x h;omega
theorem zKu {ts:List Nd} (h:zO3 ts=true):EOk ts∧0 < ts.length∧(zAI ts).length≤4096∧knK ts 0=1:=by
 obtain⟨t,m⟩:=zMc h;have hk:(zAI ts).length+1=ts.length:=by
  have:=ekidsT 0 t;rw[←m.flat]at this;have h2:=flatT_len 0 t;rw[←m.flat]at h2;omega
 have hl:=m.len;refine⟨⟨?_,hl,fun x hx=>?_,fun x hx hkd=>?_⟩,by omega,by omega,?_⟩
 · rw[m.flat];exact zEG (zE6 t)
 · have:=zKt ts x hx;omega
 · have hc:=zMe (zMf m.each hx).2;intro e;rw[e]at hc;rcases hkd with h10 | h18
   · have:=hc.four h10;simp at this
   · have:=hc.one (.inr (.inr (.inr (.inr (.inr (.inr (.inl h18)))))));simp at this
 · have hx:=zE4 0 t;rw[←m.flat]at hx;have h0:ts[0]? =some (t.laid 0):=by
    cases ts with
    | nil=>cases hx
    | cons a r=>simpa using hx
   have:=zAv (j:=0) h0;unfold knK;rw[show((0:Int))=((0:Nat):Int)from rfl,this,zF4];exact m.kind
theorem zRY {ts:List Nd} (h:EOk ts):UpOk (upN ts):=by
 refine zPL (fun m hm k hk=>?_) _ (yAC _);have hx:=yAB hm;rw[zAv hx]at hk;exact(h.fwd m _ hx k hk).1
theorem zKv {A:Option Addr} {c B n:Nat} {ts:List Nd} {w:World} (hN:NdsR w B A n ts) (hB:B≤w.heap.size) (hc:n≤c) (hk:(zAI ts).length≤1000000):
 Calls prog 24 #[.agg #[.slice A n c]] w fun e w'=>e=.returned (.tuple #[.int .i64 ((chN ts).1:Int),.int .i64 ((chN ts).2:Int)])∧Below w.heap.size w w':=by
 obtain⟨W,hW⟩:∃W,w.alloc (.cells #[.slice A n c] 27)=W:=⟨_,rfl⟩;have bW:Below w.heap.size w W:=by rw[←hW];exact(Below.refl _ _).alloc (yAC _) _
 have sW:W.heap.size=w.heap.size+1:=by rw[←hW];simp
 obtain⟨X,hX⟩:∃X,w.heap.size=X:=⟨_,rfl⟩;have a0:W.cell? ⟨X,0,none⟩=some (.slice A n c):=by rw[←hW,←hX,World.cell?_alloc_at _ _ _ _ rfl];rfl
 have hXW:X < W.heap.size:=by omega
 have HA0:=zA a0;have HNW:=zA (hN.below (bW.mono hB));have HNL:=zA hN.1;have hBW:B≤W.heap.size:=by omega
 have HBW:=zA bW;obtain⟨q,hq⟩:∃q,zO3 ts=q:=⟨_,rfl⟩;have CM:=zA (zKs (w:=W) HNW.out hBW hc hk hq);have HQ:=zA hq;clear hN hB bW sW hk hq;go_enter func24,ntmps24;go_upto_region 1 with(fail);clear hW hX;go_wp2_with fail;refine CM.out.mono ?_;rintro e1 w1 ⟨rfl,hb1⟩;have HB1:=zA hb1;have a1:=(hb1.cell (p:=⟨X,0,none⟩) hXW).trans HA0.out;have HA1:=zA a1;have hX1:X < w1.heap.size:=yAA hXW hb1.size;have HN1:=zA (HNW.out.below (hb1.mono hBW));have hB1:B≤w1.heap.size:=yAD hBW hb1.size;clear hb1 a0 HA0 CM;cases q with
 | false=>
  have HF:=zA (show chN ts=(0,2) by unfold chN;rw[if_neg (by rw[HQ.out];decide)]);go_wp2_with fail
  go_ret2
  exact⟨by rw[HF.out];rfl,HBW.out.trans (HB1.out.mono HBW.out.size)⟩
 | true=>
  obtain⟨hE,h0,_,hk0⟩:=zKu HQ.out;rw[HNL.out]at h0;have HE:=zA hE;have HK0:=zA hk0;have hn4:n≤4096:=by rw[←HNL.out];exact hE.len
  have CU:=zA (zPX (c:=c) (w:=w1) HN1.out hB1 h0 hE);have HF:=zA (show chN ts=zQn ts (upN ts) n 0 by unfold chN;rw[if_pos HQ.out,HNL.out]);clear hE hk0;go_wp2_with fail;refine CU.out.mono ?_;rintro e2 w2 ⟨g,rfl,hr2,hb2⟩;have HB2:=zA (zDh HB1.out hb2);have a2:=(hb2.cell (p:=⟨X,0,none⟩) hX1).trans HA1.out;have HA2:=zA a2;have hX2:X < w2.heap.size:=yAA hX1 hb2.size;have HN2:=zA (HN1.out.below (hb2.mono hB1));have hB2:B≤w2.heap.size:=yAD hB1 hb2.size;have CW:=zA (fun(wx:World) (hb:Below w2.heap.size w2 wx) (m:Nat) (hm:m < n)=>zPW (c:=c) (cu:=n) (w:=wx) ((HN2.out.below (hb.mono hB2)).more (yAD hB2 hb.size)) (yAC _) HE.out ((hr2.below hb).more hb.size) (by rw[zPJ,HNL.out]) (zRY HE.out) hm (fun h7=>by
   rcases Nat.eq_zero_or_pos m with h | h
   · subst h;have:=HK0.out;rw[show((0:Nat):Int)=0 from rfl,this]at h7;cases h7
   · exact h))
  have HBE:=zA (Below.refl w2.heap.size w2);clear hb2 hr2 a1 HA1 CU HN1;go_wp2_with fail
  go_loopw [14] (fun i wr=>∃q:Nat,q≤n∧i=.int .i64 (q:Int)∧Hid (chN ts=zQn ts (upN ts) (n - q) q)∧Hid (Below w2.heap.size w2 wr)) (fun i _=>n - (intOf i).toNat)
  case atStart=>exact⟨0,yAE _,rfl,HF.out,HBE.out⟩
  case round=>
   clear a2;obtain⟨q,hq,rfl,hch,hbr⟩:=hrel;have a3:=(hbr.out.cell (p:=⟨X,0,none⟩) hX2).trans HA2.out
   by_cases hlt:q < n
   · have CK:=zA (CW.out wr hbr.out q hlt);have hc2:=hch.out;rw[show n - q=(n - (q+1))+1 by omega,zQn]at hc2;obtain⟨bq,hbq⟩:∃z,wrN ts (upN ts) (q:Int)=z:=⟨_,rfl⟩;rw[hbq]at CK hc2;have HC:=zA hc2;clear hc2 hbq hch;go_wp2_with fail;refine CK.out.mono ?_;rintro e4 w4 ⟨rfl,hb4⟩;have HB4:=zA (zDh hbr.out hb4);clear hb4;cases bq with
     | true=>
      have HR:=zA (HC.out.trans (if_pos rfl));go_wp2_with fail
      go_ret2
      exact⟨by rw[HR.out];rfl,HBW.out.trans ((zDh HB2.out HB4.out).mono HBW.out.size)⟩
     | false=>
      have HR:=zA (HC.out.trans (if_neg (by decide)));go_wp2_with fail
      go_roundw
      case rel=>exact⟨q+1,by omega,by go_num,HR.out,HB4.out⟩
      case measure=>simp[intOf];omega
   · obtain rfl:q=n:=by omega
     have HR:=zA (show chN ts=(0,0) by rw[hch.out,Nat.sub_self];rfl);go_wp2_with fail
     go_ret2
     exact⟨by rw[HR.out];rfl,HBW.out.trans ((zDh HB2.out hbr.out).mono HBW.out.size)⟩
end Go.Proofs.YtlohaclgbfhijaaGreatDoor
