/- Joined for the claim ParseBack: the parser, the lexer and the trees as they are walked, made short by a program of mine. -/
import Derived.Test.YtlnbbaehihgigaaGreatDoorB07
import Derived.Deep.RegionLaw
import Derived.Test.YtlnbbaehihgigaaGreatDoorB02
import Derived.Test.YtlnbbaehihgigaaGreatDoorB01
import Derived.Deep.CutBlock
import Derived.Deep.DeepCutAuto
import Derived.Laws.BitsAllLaws
import Derived.Deep.LoopGhost
set_option maxHeartbeats 16000000
set_option maxRecDepth 1000000
namespace Go.Proofs.YtlnbbaehihgigaaGreatDoor
open Go.Proofs.Tryz
open Go.RowKit
variable {Ak Al:Option Addr} {ck k p L B i k0:Nat} {ts:List Nd} {a0 t z:Tr} {nm:List UInt8} {ms cs:List Nat} {ks:List Kd} {e:Ending} {f:Kd→Tks} {r:List Tr} {q:Bool}
theorem zQA {A:Option Addr} {c n:Nat} {w:World} (hN:NdsR w B A n ts) (hB:B≤w.heap.size) (hc:n≤c) (hl:n≤4096) (h0:0 < n) (ht:(zAn ts).length≤1000000) (hq:zCL ts=q):
 Calls prog 25 #[.agg #[.slice A n c]] w fun e w'=>e=.returned (.bool q)∧Below w.heap.size w w':=by
 obtain⟨W,hW⟩:=jx (w.alloc (.cells #[.slice A n c] 24));have a2:Below w.heap.size w W:=jb hW;have h6:W.heap.size=w.heap.size+1:=by rw[←hW];simp
 have e7:=zA ((hN.below (a2.mono hB)));have b8:W.cell? ⟨w.heap.size,0,none⟩=some (.slice A n c):=jc hW;have HQ:=zA hq;have H:=zA a2;have HT:=zA ht;have b9:=zA hN.1;have a3:=zA (zUf ts);obtain⟨i0,hi,I,J,L⟩:=info_parts Tryz.info_int;have HI:=zA (And.intro hi (And.intro I (And.intro J L)));have HB:=zA hB;clear hq a2 ht hN hi I J L;go_enter func25,ntmps25;go_upto_region 1 with(fail);have HW:=zA hW;clear hW;go_wp2_with fail
 go_loopw [3,10] (fun v i wr=>∃(k:Nat) (d:List Int),k≤n∧i=.int .i64 k∧Hid (OrdAt ts n k d)∧Hid (d.length≤(zAn (ts.take k)).length)∧Hid (OrS W wr v d)) (fun _ i _=>n - (intOf i).toNat)
 case atStart=>exact⟨0,[],yAE _,rfl,⟨by unfold zCL;rw[b9.out,if_pos rfl,List.drop_zero],fun _=>rfl⟩,yAE _,⟨yAJ _ _ _ _,Below.refl _ _⟩⟩
 case round=>
  obtain⟨k,d,hk,rfl,t,d4,M⟩:=hrel
  by_cases e8:k < n
  · have N:=M.out.below;obtain⟨b,o,x,s,rfl,h7,hx,hC,hR⟩:=(e7.out.below (N.mono jo)).get e8;obtain⟨e9,f0,f1,f2,f3,f4,f5,f6⟩:=hC;have f7:=N.size;have c0:=zA N;have c1:wr.cell? ⟨w.heap.size,0,none⟩=some (.slice (some ⟨b,o,none⟩) n c):=(N.cell (p:=⟨w.heap.size,0,none⟩) (show w.heap.size < W.heap.size by omega)).trans b8;have u:=zA hx;have HR:=zA hR;have b6:=d4.out;have a4:x.kids.length≤1000000∧(x.kids++d).length≤(zAn (ts.take (k+1))).length:=by
     have h1:=a3.out (k+1);have h2:=HT.out;rw[zUe u.out,List.length_append]at h1⊢;rw[List.length_append];omega
    have g8:=a4.1;have a5:=zA a4.2;have d5:d.length≤1000000:=by have:=a3.out k;have:=HT.out;omega
    clear N hx hR a4 b6;go_upto_region 5 with(fail);obtain⟨r,C⟩:=jx (wr.alloc (.cells #[.int .i64 x.kind,.string ⟨x.name.toArray⟩,.slice s.As x.str.length s.cs,.int .i64 x.nk,.int .i64 x.nn,.bool x.neg,.slice s.Am x.mag.length s.cm,.slice s.Ak x.kids.length s.ck] 43));rw[C];have S:Below wr.heap.size wr r:=jb C;have f8:r.heap.size=wr.heap.size+1:=by rw[←C];simp
    have p7:r.cell? ⟨wr.heap.size,7,none⟩=some (.slice s.Ak x.kids.length s.ck):=jc C;have a6:r.cell? ⟨w.heap.size,0,none⟩=some (.slice (some ⟨b,o,none⟩) n c):=(S.cell (p:=⟨w.heap.size,0,none⟩) (show w.heap.size < wr.heap.size by omega)).trans c1;have f:=zA (show OrS W r u3 d from⟨by rw[←C];exact M.out.own.alloc _,c0.out.trans (S.mono f7)⟩);have a7:u3.ownBlock≠some wr.heap.size:=fun e=>by have:=(M.out.own.lt _ e).2;omega
    have c2:=zA (HR.out.back (c0.out.mono jo));have a8:=zA a7;clear C S a7 e9 f0 f1 f2 f3 f4 f5 f6 c1 HR M
    go_upto_if 16 with(fail)
    go_cut [3] (fun v' wx=>wx=r∧∃l,Hid (OrdIn ts n k x l)∧Hid (OrS W r v' l)∧v'.ownBlock≠some wr.heap.size∧Hid ((x.kids++l).length≤(zAn (ts.take (k+1))).length))
    case first=>
     by_cases U:k=0
     · have e0:decide ((0:Int) < (k:Int))=false:=yAI jo;have e1:decide (0 < k)=false:=yAI jo;have e2:¬0 < k:=by omega
       have O:=zA U;clear U;go_wp2_with fail;go_meet;refine⟨rfl,[],?_,?_,a8.out,?_⟩
       · have:=t.out;rw[O.out]at this⊢;exact(this.zero (by rw[←O.out];exact u.out)).2
       · have:=t.out;rw[O.out]at this;obtain rfl:=(this.zero (by rw[←O.out];exact u.out)).1;exact f.out
       · have:=a5.out;show(x.kids++[]).length≤_;rw[List.length_append]at this⊢;simp only[List.length_nil];omega
     · have e0:decide ((0:Int) < (k:Int))=true:=decide_eq_true jo;have e1:decide (0 < k)=true:=decide_eq_true jo;have e2:0 < k:=by omega
       have O:=zA U;clear U;cases d with
       | nil=>
        obtain⟨Av,cv,rfl,_,_⟩:=zR f.out.own;have F:=zA (show false=q from by rw[←HQ.out];exact(t.out.none_ e2 u.out).symm);go_wp2_with fail;go_ret;exact⟨zJ F.out,H.out.trans (f.out.below.mono jo)⟩
       | cons s0 d=>
        obtain⟨g,cv,hv,h8,j0⟩:=f.out.own.form js;subst hv;have j1:r.cell? ⟨g,d.length,none⟩=some (.int .i64 s0):=by
         rw[f.out.own.cellAt _ js];simp[zEk]
        have j2:d.length≤cv:=by
         obtain⟨_,_,e,h,_⟩:=zR f.out.own;injection e with _ _ e;subst e;simp at h;omega
        have P:(s0::d).length=d.length+1:=rfl;rw[P];have g9:d.length≤1000000:=by simp at d5;omega
        clear P
        by_cases Q:s0=(k:Int)
        · subst Q;go_wp2_with fail;go_meet;refine⟨rfl,d,t.out.pop rfl u.out,⟨?_,f.out.below⟩,a8.out,?_⟩
          · have:=zUo f.out.own (j:=d.length) js;have e:(zEk ((↑k:Int)::d).reverse).take d.length=zEk d.reverse:=by simp[zEk]
            rwa[e]at this
          · have h9:(x.kids++((k:Int)::d)).length≤(zAn (ts.take (k+1))).length:=a5.out;rw[List.length_append,List.length_cons]at h9;show(x.kids++d).length≤_;rw[List.length_append];omega
        · have e3:(s0==(k:Int))=false:=yA.2 Q;have e4:(s0 !=(k:Int))=true:=bne_iff_ne.2 Q;have F:=zA (show false=q from by rw[←HQ.out];exact(t.out.bad Q u.out).symm);clear Q;go_wp2_with fail;go_ret;exact⟨zJ F.out,H.out.trans (f.out.below.mono jo)⟩
    case rest=>
     obtain⟨rfl,l,c3,M,a9,G⟩:=hcut;have b0:(x.kids++l).length≤1000000:=by have:=G.out;have:=a3.out (k+1);have:=HT.out;omega
     have d6:=zA b0;obtain⟨X,hX⟩:=jx wr.heap.size;rw[hX]at a9 p7 f8;rw[hX];have HX:=zA hX;have d7:=zA a9;have f9:=zA p7;have j3:=zA a6;have h3:W.heap.size≤X:=by omega
     have c4:=zA c3.out;have b7:=zA G.out;clear hX b0 a9 a5 a8 c3 G;go_wp2_with fail;clear p7 a6
     go_loopw [3,6] (fun v i wr=>∃(j:Nat) (z:Int),j≤x.kids.length∧i=.int .i64 z∧z=(j:Int) - 1∧Hid (OrS W wr v (x.kids.drop j++l))∧Hid (v.ownBlock≠some X)∧Hid (zCi n k (x.kids.drop j)=true)∧wr.cell? ⟨X,7,none⟩=some (.slice s.Ak x.kids.length s.ck)∧X < wr.heap.size) (fun _ i _=>(intOf i+1).toNat)
     case atStart=>exact⟨x.kids.length,_,yAC _,rfl,rfl,by rw[List.drop_length];exact M.out,d7.out,by rw[List.drop_length];rfl,f9.out,by omega⟩
     case round=>
      obtain⟨j,z,hj,rfl,hz,D,c5,V,c6,c7⟩:=hrel;have R:=D.out.below;have h4:wr.cell? ⟨w.heap.size,0,none⟩=some (.slice (some ⟨b,o,none⟩) n c):=(R.cell (p:=⟨w.heap.size,0,none⟩) (show w.heap.size < W.heap.size by omega)).trans b8;have b1:=zA R
      by_cases Y:j=0
      · obtain rfl:z= -1:=by omega
        have g0:=zA (show zCi n k x.kids=true by have:=V.out;rwa[Y]at this);have g1:=zA (show OrS W wr u3 (x.kids++l) by have:=D.out;rwa[Y]at this);clear Y R D V hz;go_wp2_with fail
        go_roundw
        case rel=>exact⟨k+1,x.kids++l,by omega,by go_num,c4.out.done g0.out,b7.out,g1.out⟩
        case measure=>simp[intOf];omega
      · obtain⟨m,rfl⟩:∃m,j=m+1:=⟨j - 1,by omega⟩;obtain rfl:z=(m:Int):=by omega
        obtain⟨bk,ok,b2,j4,c8⟩:=(c2.out.below (R.mono jo)).kids.spotK jo;have b3:=c8 m jo;have h5:=c2.out.ck.1;have b4:=zA (yAH (show m < x.kids.length by omega));have c9:m < x.kids.length:=by omega
        have T:Hid (¬((k:Int) < x.kids[m]∧x.kids[m] < (n:Int))→zCL ts=false):=fun hb=>c4.out.bad c9 hb;have d0:Hid ((k:Int) < x.kids[m]∧x.kids[m] < (n:Int)→zCi n k (x.kids.drop m)=true):=fun hb=>zKf V.out c9 hb;rw[b2]at c6;have g2:=zA b2;clear b2;obtain⟨y,hy⟩:=jx (x.kids[m]);rw[hy]at b3 b4 T d0;clear c8 hy V R Y hz
        by_cases g3:y≤(k:Int)
        · have F:=zA (show false=q from by rw[←HQ.out];exact(T.out jo).symm);go_wp2_with fail
          go_quiet (fail)
          go_wp2_with fail;go_ret;exact⟨zJ F.out,H.out.trans ((zAZ b1.out _).mono jo)⟩
        · have e5:decide (y≤(k:Int))=false:=yAI g3
          by_cases d1:(n:Int)≤y
          · have F:=zA (show false=q from by rw[←HQ.out];exact(T.out jo).symm);have e6:decide ((n:Int)≤y)=true:=decide_eq_true d1;go_wp2_with fail
            go_quiet (fail)
            go_wp2_with fail;go_ret;exact⟨zJ F.out,H.out.trans ((zAZ b1.out _).mono jo)⟩
          · have e6:decide ((n:Int)≤y)=false:=yAI d1;have d8:=zA (d0.out ⟨by omega,by omega⟩);go_wp2_with fail
            go_quiet (fail)
            obtain⟨w1,E⟩:=jx (wr.drewN nq);rw[E];have b5:w1.cell? ⟨X,7,none⟩=some (.slice (some ⟨bk,ok,none⟩) x.kids.length s.ck):=by rw[←E];exact c6
            have d9:w1.cell? ⟨bk,ok+m,none⟩=some (.int .i64 y):=by rw[←E];exact b3
            have a0:X < w1.heap.size:=by rw[←E];exact c7
            have f:=zA (show OrS W w1 u3 (x.kids.drop (m+1)++l) by rw[←E];exact⟨zMH D.out.own _,zAZ D.out.below _⟩);have g4:=zA a0;have P:(x.kids.drop (m+1)++l).length+1≤1000000:=by
             have:=d6.out;rw[List.length_append]at this⊢;rw[List.length_drop];omega
            have g5:=zA P;obtain⟨hi,I,J,L⟩:=HI.out;clear E b3 D b1 c7 P;go_wp2_with (at_builtin;refine zDD rfl _ _ 41 rfl W.heap.size 3 i0 (.int .i64 0) 1 8 underlying41 hi I J L rfl jd u3 _ _ rfl (by exact f.out.own) f.out.below.size [.int .i64 y] 1 1 rfl rfl rfl (by have:=g5.out;omega) jd ?_;intro v' w' d2 a1);have d3:=zA a1;have g6:=(a1.cell (p:=⟨X,7,none⟩) a0 c5.out).trans b5;have g7:X < w'.heap.size:=yAA a0 a1.size;have HO:=zA d2;clear a1 d2 b5 d9 a0 hi I J L;go_wp2_with fail
            go_roundw
            case rel=>
             refine⟨m,_,by omega,rfl,rfl,⟨?_,?_⟩,d3.out.apart g4.out c5.out,d8.out,by rw[g2.out];exact g6,g7⟩
             · have e:zEk (x.kids.drop (m+1)++l).reverse++[.int .i64 y]=zEk (x.kids.drop m++l).reverse:=by rw[b4.out];simp[zEk]
               have e2:(x.kids.drop (m+1)++l).length+1=(x.kids.drop m++l).length:=by rw[b4.out];simp
               have:=HO.out;rwa[e,e2]at this
             · exact f.out.below.trans ((d3.out.below (zK0 f.out.own) f.out.below.size))
            case measure=>simp[intOf]
  · obtain rfl:k=n:=by omega
    have F:=zA (show d.isEmpty=q from by rw[←HQ.out];exact(t.out.end_ b9.out h0).symm);obtain⟨Av,cv,rfl,_,_⟩:=zR M.out.own;go_wp2_with fail;go_ret;refine⟨zJ ?_,H.out.trans (M.out.below.mono jo)⟩;rw[←F.out];cases d<;>simp<;>omega
theorem zVk (h:(zAn ts).length≤1000000):∀x∈ts,x.kids.length≤1000000:=by
 intro x b;obtain⟨k,hk,rfl⟩:=List.getElem_of_mem b;have h1:=zUe (yAB hk);have c:=zUf ts (k+1);rw[h1,List.length_append]at c;omega
theorem zS8 (h:ts.length=0):zRE ts=false:=by
 have:=List.length_eq_zero_iff.1 h;subst this;rfl
theorem zQB {x:Nd} (h:ts[0]? =some x):zRE ts=(decide (ts.length≤4096)&&x.kind==1&&zCL ts&&zBy ts 0 ts&&decide (zMF ts≤48)):=by
 cases ts with
 | nil=>cases h
 | cons y r=>obtain rfl:y=x:=Option.some.inj h;rfl
theorem zQC {x:Nd} (b:ts[k]? =some x):zBy ts k (ts.drop k)=(!(decide (0 < k)&&x.kind==1)&&zN x&&zCs ts x&&zBy ts (k+1) (ts.drop (k+1))):=by
 obtain⟨c,rfl⟩:=List.getElem?_eq_some_iff.1 b;rw[yAH c];rfl
theorem zQD {A:Option Addr} {c n:Nat} {w:World} (hN:NdsR w B A n ts) (hB:B≤w.heap.size) (hc:n≤c) (ht:(zAn ts).length≤1000000) (J:zRE ts=q):
 Calls prog 10 #[.agg #[.slice A n c]] w (BmP q w):=by
 have v:=hN.1
 by_cases h0:n=0
 · subst h0;rw[zS8 v]at J;subst J;clear hN v ht;go_enter func10,ntmps10;go_wp2_with fail;go_ret;exact⟨rfl,by go_grown⟩
 by_cases h4:4096 < n
 · have t:=zA (show false=q by
    obtain⟨x,X⟩:∃x,ts[0]? =some x:=⟨_,yAB jo⟩;rw[←J,zQB X,v,yAI jo];rfl)
   have e1:((n:Int)==0)=false:=yA.2 jo;have e2:(4096:Int) < (n:Int):=by omega
   have e3:decide ((4096:Int) < (n:Int))=true:=decide_eq_true e2;clear hN v ht J;go_enter func10,ntmps10;go_wp2_with fail;go_ret;exact⟨zJ t.out,by go_grown⟩
 have hl:n≤4096:=by omega
 obtain⟨b,o,x0,s0,rfl,c9,Y,a7,b5⟩:=hN.get (i:=0) jo;have M:w.cell? ⟨b,o,none⟩=some (.int .i64 x0.kind):=by have:=a7.k0;rwa[Nat.zero_mul,Nat.add_zero]at this
 have e1:((n:Int)==0)=false:=yA.2 jo;have e2:¬(4096:Int) < (n:Int):=by omega
 have e3:decide ((4096:Int) < (n:Int))=false:=yAI e2;rw[zQB Y,v,decide_eq_true hl,Bool.true_and]at J;obtain⟨W,hW⟩:=jx (w.alloc (.cells #[.slice (some ⟨b,o,none⟩) n c] 24));have N:Below w.heap.size w W:=jb hW;have a8:w.heap.size < W.heap.size:=by rw[←hW];simp
 have a9:W.cell? ⟨w.heap.size,0,none⟩=some (.slice (some ⟨b,o,none⟩) n c):=jc hW;have g:W.cell? ⟨b,o,none⟩=some (.int .i64 x0.kind):=(N.cell (p:=⟨b,o,none⟩) (show b < w.heap.size by omega)).trans M;have u:=zA N;have HN:=zA hN;have O:=zA (hN.below (N.mono hB));have G:=zA hB;have HT:=zA ht;have b6:=zA v;have d0:=zA Y;have HQ:=zA J;clear Y a7 b5 M N hN hB ht v J;go_enter func10,ntmps10;go_upto_region 1 with(fail);have HW:=zA hW;clear hW;obtain⟨K,hK⟩:=jx x0.kind;rw[hK]at g;have HK:=zA hK;clear hK
 by_cases P:K=1
 · subst P;have b7:((1:Int) !=1)=false:=rfl;obtain⟨oq,a0⟩:=jx (zCL ts);have CO:=zA (zQA O.out (by have:=G.out;omega) hc hl jo HT.out a0);have a1:=zA a0;clear a0;cases oq with
   | false=>
    have t:=zA (show false=q by rw[←HQ.out,a1.out];simp);go_wp2_with (go_at_call 25;refine CO.out.mono ?_;rintro e2 w2 ⟨rfl,H⟩);go_ret;exact⟨zJ t.out,u.out.trans (H.mono jo)⟩
   | true=>
    have b0:=zA (zJd a1.out);have b8:=zA (show(zBy ts 0 ts&&decide (zMF ts≤48))=q by rw[←HQ.out,HK.out,a1.out];rfl);have b1:=zA (zVk HT.out);go_upto_region 4 with(go_at_call 25;refine CO.out.mono ?_;rintro e2 w2 ⟨rfl,H⟩;have C:=(H.cell (p:=⟨w.heap.size,0,none⟩) a8).trans a9);have b9:=zA H;obtain⟨eq,a2⟩:=jx (zBy ts 0 ts);obtain⟨nd,a3⟩:=jx (zMF ts);have c0:=zA a2;have c1:=zA a3;have Q:=zA (show(eq&&decide (nd≤48))=q by rw[←b8.out,a2,a3]);clear H C g a2 a3
    go_loopw [30] (fun i wr=>∃k:Nat,k≤n∧i=.int .i64 k∧Hid (zBy ts k (ts.drop k)=eq)∧Hid (Below W.heap.size W wr)) (fun i _=>n - (intOf i).toNat)
    case atStart=>exact⟨0,yAE _,rfl,by rw[List.drop_zero];exact c0.out,b9.out⟩
    case round=>
     obtain⟨k,hk,rfl,R,j⟩:=hrel;have C:=(j.out.cell (p:=⟨w.heap.size,0,none⟩) a8).trans a9;have y:=j.out.size
     by_cases c2:k < n
     · obtain⟨b',o',x,s,hA,_,X,hC,hR⟩:=(O.out.below (j.out.mono (by have:=G.out;omega))).get c2;injection hA with hA;injection hA with hA1 hA2;subst hA1 hA2;obtain⟨c4,d1,d2,d3,d4,d5,d6,d7⟩:=hC;have r:=R.out;rw[zQC X]at r;obtain⟨fv,a4⟩:=jx (zN x);obtain⟨kv,a5⟩:=jx (zCs ts x);have L:=zA (zNB hR (by have:=G.out;omega) a4);have CK:=zA (fun(w3:World) (d:Below wr.heap.size wr w3)=>zS7 (c:=c) ((O.out.below (j.out.mono (by have:=G.out;omega))).below (d.mono (by have:=G.out;omega))) (yAD (show B≤wr.heap.size by have:=G.out;omega) d.size) b0.out b1.out X a5);rw[a4,a5]at r;obtain⟨I,S⟩:=jx x.kind;rw[S]at c4 r;have d8:=zA S;have F:=zA r;have HX:=zA X;have T:w.heap.size < wr.heap.size:=by omega
       rw[S]at L;clear X hR a4 a5 r S R
       by_cases f:0 < k∧I=1
       · have l:(0:Int) < (k:Int):=by omega
         have D:decide ((0:Int) < (k:Int))=true:=decide_eq_true l;have E:decide (0 < k)=true:=decide_eq_true f.1;have d9:=f.1;have U:(I==1)=true:=by rw[f.2];rfl
         have t:=zA (show false=q by
          rw[←Q.out,←F.out,decide_eq_true f.1,U];rfl)
         clear f;go_wp2_with fail;go_ret;exact⟨zJ t.out,u.out.trans (j.out.mono jo)⟩
       · have m:(decide (0 < k)&&I==1)=false:=by
          cases h1:decide (0 < k)with
          | false=>rfl
          | true=>exact yA.2 (fun e=>f ⟨of_decide_eq_true h1,e⟩)
         have HG:=zA m;cases fv with
         | false=>
          have t:=zA (show false=q by rw[←Q.out,←F.out];simp)
          by_cases g:0 < k
          · have l:(0:Int) < (k:Int):=by omega
            have D:decide ((0:Int) < (k:Int))=true:=decide_eq_true l;have E:decide (0 < k)=true:=decide_eq_true g;have U:(I==1)=false:=yA.2 (fun e=>f ⟨g,e⟩);clear f m;go_wp2_with (go_at_call 26;refine L.out.mono ?_;rintro e3 w3 ⟨rfl,d⟩);go_ret;exact⟨zJ t.out,u.out.trans ((j.out.trans (d.mono y)).mono jo)⟩
          · have l:¬(0:Int) < (k:Int):=by omega
            have D:decide ((0:Int) < (k:Int))=false:=yAI l;have E:decide (0 < k)=false:=yAI g;clear f m;go_wp2_with (go_at_call 26;refine L.out.mono ?_;rintro e3 w3 ⟨rfl,d⟩);go_ret;exact⟨zJ t.out,u.out.trans ((j.out.trans (d.mono y)).mono jo)⟩
         | true=>
          have b2:=zA (show(kv&&zBy ts (k+1) (ts.drop (k+1)))=eq by rw[←F.out,HG.out];rfl);cases kv with
          | false=>
           have t:=zA (show false=q by rw[←Q.out,←b2.out];rfl)
           by_cases g:0 < k
           · have l:(0:Int) < (k:Int):=by omega
             have D:decide ((0:Int) < (k:Int))=true:=decide_eq_true l;have E:decide (0 < k)=true:=decide_eq_true g;have U:(I==1)=false:=yA.2 (fun e=>f ⟨g,e⟩);clear f m;go_wp2_with (first | (go_at_call 26;refine L.out.mono ?_;rintro e3 w3 ⟨rfl,d⟩;have V:=(d.cell (p:=⟨w.heap.size,0,none⟩) T).trans C) | (go_at_call 27;refine(CK.out w3 d).mono ?_;rintro e4 w4 ⟨rfl,z⟩));go_ret;exact⟨zJ t.out,u.out.trans ((j.out.trans ((d.trans (z.mono d.size)).mono y)).mono jo)⟩
           · have l:¬(0:Int) < (k:Int):=by omega
             have D:decide ((0:Int) < (k:Int))=false:=yAI l;have E:decide (0 < k)=false:=yAI g;clear f m;go_wp2_with (first | (go_at_call 26;refine L.out.mono ?_;rintro e3 w3 ⟨rfl,d⟩;have V:=(d.cell (p:=⟨w.heap.size,0,none⟩) T).trans C) | (go_at_call 27;refine(CK.out w3 d).mono ?_;rintro e4 w4 ⟨rfl,z⟩));go_ret;exact⟨zJ t.out,u.out.trans ((j.out.trans ((d.trans (z.mono d.size)).mono y)).mono jo)⟩
          | true=>
           have b3:=zA (show zBy ts (k+1) (ts.drop (k+1))=eq from b2.out)
           by_cases g:0 < k
           · have l:(0:Int) < (k:Int):=by omega
             have D:decide ((0:Int) < (k:Int))=true:=decide_eq_true l;have E:decide (0 < k)=true:=decide_eq_true g;have U:(I==1)=false:=yA.2 (fun e=>f ⟨g,e⟩);clear f m;go_wp2_with (first | (go_at_call 26;refine L.out.mono ?_;rintro e3 w3 ⟨rfl,d⟩;have V:=(d.cell (p:=⟨w.heap.size,0,none⟩) T).trans C) | (go_at_call 27;refine(CK.out w3 d).mono ?_;rintro e4 w4 ⟨rfl,z⟩))
             go_roundw
             case rel=>exact⟨k+1,by omega,by go_num,b3.out,j.out.trans ((d.trans (z.mono d.size)).mono y)⟩
             case measure=>simp[intOf];omega
           · have l:¬(0:Int) < (k:Int):=by omega
             have D:decide ((0:Int) < (k:Int))=false:=yAI l;have E:decide (0 < k)=false:=yAI g;clear f m;go_wp2_with (first | (go_at_call 26;refine L.out.mono ?_;rintro e3 w3 ⟨rfl,d⟩;have V:=(d.cell (p:=⟨w.heap.size,0,none⟩) T).trans C) | (go_at_call 27;refine(CK.out w3 d).mono ?_;rintro e4 w4 ⟨rfl,z⟩))
             go_roundw
             case rel=>exact⟨k+1,by omega,by go_num,b3.out,j.out.trans ((d.trans (z.mono d.size)).mono y)⟩
             case measure=>simp[intOf];omega
     · obtain rfl:n=k:=by omega
       have b4:=zA (show true=eq by
        rw[←R.out,List.drop_of_length_le (by rw[b6.out];omega)];rfl)
       obtain⟨dl,a6⟩:=jx (zJ6 ts);have CD:=zA (zLq (c:=c) (O.out.below (j.out.mono (by have:=G.out;omega))) (by have:=G.out;omega) jo hl b0.out b1.out a6);have c5:=zA (show zGB dl=nd by rw[←a6];exact c1.out);have c6:=zA (show decide (nd≤48)=q by rw[←Q.out,←b4.out];rfl);clear a6 R;go_wp2_with (first | (go_at_call 19;refine CD.out.mono ?_;rintro e3 w3 ⟨A3,c3,rfl,c7,V,c8,d⟩) | (go_at_call 18;refine(zPq c7 jo jo c8 c5.out).mono ?_;rintro e4 w4 ⟨rfl,rfl⟩));go_ret;refine⟨zJ ?_,u.out.trans ((j.out.trans (d.mono y)).mono jo)⟩;rw[←c6.out,Bool.eq_iff_iff];simp
       try omega
 · have b7:(K !=1)=true:=bne_iff_ne.2 P;have t:=zA (show false=q by rw[←HQ.out,HK.out,yA.2 P];rfl);clear P;go_wp2_with fail;go_ret;exact⟨zJ t.out,u.out⟩
structure Pk (g:Nat) (w w':World) (v v':Value):Prop where
 os:w'.os=w.os
 tape:w'.tape=w.tape
 output:w'.output=w.output
 size:w.heap.size≤w'.heap.size
 block:∀i,i < w.heap.size→i≠g→v.ownBlock≠some i→w'.heap[i]? =w.heap[i]?
 own:v'.ownBlock=v.ownBlock∨∃r,v'.ownBlock=some r∧w.heap.size≤r
section
variable {g:Nat} {w w' w'':World} {v v' v'':Value}
theorem Pk.refl (g:Nat) (w:World) (v:Value):Pk g w w v v:=⟨rfl,rfl,rfl,yAC _,fun _ _ _ _=>rfl,.inl rfl⟩
theorem Pk.trans (h:Pk g w w' v v') (k:Pk g w' w'' v' v''):Pk g w w'' v v'':=
 ⟨k.os.trans h.os,k.tape.trans h.tape,k.output.trans h.output,yAD h.size k.size,fun i hi hg c=>(k.block i (yAA hi h.size) hg (by
  rcases h.own with e | ⟨r,e,b⟩
  · rw[e];exact c
  · rw[e];intro e2;injection e2 with e2;omega)).trans (h.block i hi hg c),by
  rcases k.own with e | ⟨r,e,b⟩
  · rcases h.own with e2 | ⟨r,e2,b⟩
    · exact .inl (e.trans e2)
    · exact .inr ⟨r,e.trans e2,b⟩
  · exact .inr ⟨r,e,yAD h.size b⟩⟩
theorem Pk.of_kept (h:Kept w w' v v'):Pk g w w' v v':=⟨h.os,h.tape,h.output,h.size,fun i hi _ b=>h.block i hi b,h.own⟩
theorem Pk.of_below (h:Below w.heap.size w w'):Pk g w w' v v:=⟨h.os,h.tape,h.output,h.size,fun i hi _ _=>h.block i hi,.inl rfl⟩
theorem Pk.set (h:Pk g w w' v v') (j:Nat) (z:Value):Pk g w (w'.setCell ⟨g,j,none⟩ z) v v':=
 ⟨h.os,h.tape,h.output,by have:=h.size;simpa using this,fun i hi hg b=>(Below.heap_setCell _ _ _ _ hg).trans (h.block i hi hg b),h.own⟩
theorem Pk.cell (h:Pk g w w' v v') {p:Addr} (c:p.block < w.heap.size) (hg:p.block≠g) (b:v.ownBlock≠some p.block):w'.cell? p=w.cell? p:=World.cell?_of_block (h.block p.block c hg b)
theorem Pk.below (h:Pk g w w' v v') (hB:∀i,v.ownBlock=some i→B≤i) (hg:B≤g) (hs:B≤w.heap.size):Below B w w':=
 ⟨h.os,h.tape,h.output,h.size,fun i hi=>h.block i jo jo (fun e=>by have:=hB i e;omega)⟩
end
structure Pn (w:World) (base g:Nat) (A:Option Addr) (n c:Nat) (us:List UInt16) (v:Value):Prop where
 c0:w.cell? ⟨g,0,none⟩=some (.slice A n c)
 c1:w.cell? ⟨g,1,none⟩=some v
 f1:w.frozen? ⟨g,1,none⟩=false
 own:w.ownsRow base 65 1 v us.length (zAI us)
 gb:g < base
section
variable {w w':World} {base g n c:Nat} {A:Option Addr} {us us':List UInt16} {v v':Value}
theorem Pn.lt (h:Pn w base g A n c us v):g < w.heap.size:=World.block_lt_of_cell? w _ h.c0
theorem Pn.ne (h:Pn w base g A n c us v):v.ownBlock≠some g:=fun e=>by have:=(h.own.lt g e).1;have:=h.gb;omega
theorem Pn.ge (h:Pn w base g A n c us v):∀i,v.ownBlock=some i→base≤i:=zK0 h.own
theorem Pn.below (h:Pn w base g A n c us v) (hb:Below w.heap.size w w'):Pn w' base g A n c us v:=
 ⟨(hb.cell (p:=⟨g,0,none⟩) h.lt).trans h.c0,(hb.cell (p:=⟨g,1,none⟩) h.lt).trans h.c1,(hb.frozen (p:=⟨g,1,none⟩) h.lt).trans h.f1,zDX h.own hb,h.gb⟩
theorem Pn.drew (h:Pn w base g A n c us v):Pn w.drew base g A n c us v:=h.below ((Below.refl _ _).drew)
theorem Pn.cells (h:Pn w base g A n c us v) (hk:Kept w w' v v'):w'.cell? ⟨g,0,none⟩=some (.slice A n c)∧w'.cell? ⟨g,1,none⟩=some v∧w'.frozen? ⟨g,1,none⟩=false:=
 ⟨(hk.cell (p:=⟨g,0,none⟩) h.lt h.ne).trans h.c0,(hk.cell (p:=⟨g,1,none⟩) h.lt h.ne).trans h.c1,(hk.frozen (p:=⟨g,1,none⟩) h.lt h.ne).trans h.f1⟩
theorem Pn.put (h:Pn w base g A n c us v) (hk:Kept w w' v v') (b:w'.ownsRow base 65 1 v' us'.length (zAI us')):Pn (w'.setCell ⟨g,1,none⟩ v') base g A n c us' v':=by
 obtain⟨d,h1,e⟩:=h.cells hk;exact⟨by go_simp,by go_simp,by go_simp,zBl b (zQ w' g 1 v') h.gb,h.gb⟩
end
section
variable {P:Program} {w:World} {ops:Array Oper} {o:Oper} {a:Act} {K:Act→World→Prop} {Q:Exit→Act→World→Prop} {E:Prop}
theorem zQE (d:o.guard=none) (s x:Operand) (t:TypeId)
 (g:o.op=.call {callee:=.builtin .append,args:=#[s,x],argTypes:=#[t,t]})
 (base:Nat) (e:TypeId) (i:TypeInfo) (z:Value) (bytes:Nat) (ht:P.underlying t=some (.slice e)) (hi:P.info? e=some i) (hz:i.zero=some z)
 (hsize:i.size=1) (hby:i.bytes=bytes) (hzs:z.cells.size=1)
 (v:Value) (n:Nat) (xs:List Value) (hs:a.eval s=v) (hown:w.ownsRow base e 1 v n xs) (hbase:base≤w.heap.size)
 (ad:Addr) (m c:Nat) (news:List Value) (hx:a.eval x=.slice (some ad) m c) (hl:news.length=m) (hnews:∀j u,news[j]? =some u→w.cell? (ad.add j)=some u) (h1:∀u∈news,u.oneCell'=true)
 (hm:0 < m) (hsz:n+m≤1099511627776) (hb2:bytes≤128)
 (h:∀v' w',w'.ownsRow base e 1 v' (n+m) (xs++news)→Kept w w' v v'→K (a.put o.dst v') w'):
 if Region.wanted o (yielded ops a.tmps)=true then Oper.wp P o a w K Q else E:=by
 refine step_append_lies w d s x t g base e i z 1 bytes ht hi hz hsize hby hzs jo v n xs hs hown ad m c news hx jo hnews h1 hm (by unfold maxLen;omega) ?_ hbase _ rfl ?_
 · calc (n+m)*bytes≤1099511627776*128:=Nat.mul_le_mul hsz hb2
    _≤140737488355328:=by omega
 · intro gg cap w' l b p _;refine h _ w' l ⟨b.os,b.tape,b.output,b.size,fun k hk f=>b.block k hk (fun e=>f e.symm),?_⟩;rcases p with e | e
   · exact .inl e.symm
   · exact .inr ⟨gg,rfl,by omega⟩
end
theorem zS9 (x:List UInt8) (hs:x.length≤1000000000) (w:World):
 Calls prog 11 #[.string ⟨x.toArray⟩] w fun e w'=>∃A c,e=.returned (.slice A x.length c)∧Reads w' w'.heap.size 1 A x.length (zAI (zV x))∧Below w.heap.size w w':=by
 refine(zDc ⟨x.toArray⟩ w (by show x.toArray.size≤_;simp;omega)).mono ?_;rintro e w' ⟨v,rfl,b⟩;obtain⟨A,c,rfl,h1,g,d⟩:=b.u16;have f:(zV (⟨x.toArray⟩:ByteArray).data.toList).length=x.length:=by simp[zV]
 rw[f]at d⊢;exact⟨A,c,rfl,d,b.below⟩
def MayPut (us:List UInt16) (tks:Tks):Prop:=(∀s∈tks,s≠[])∧us.length+zBZ tks≤1000000000
theorem zVl:∀(t:Tks),t.length≤zBZ t:=by
 intro t
 induction t with
 | nil=>exact yAE _
 | cons s r b=>simp only[List.length_cons,zBZ];omega
theorem MayPut.app {us:List UInt16} {a b:Tks} (h:MayPut us (a++b)):MayPut us a∧MayPut (zCk us a) b:=by
 have h1:=h.2;rw[zBq]at h1;have c:=zK6 a us;exact⟨⟨fun s hs=>h.1 s (List.mem_append_left _ hs),by omega⟩,⟨fun s hs=>h.1 s (List.mem_append_right _ hs),by omega⟩⟩
def zZP (w:World) (base g:Nat) (A:Option Addr) (n c:Nat) (us:List UInt16) (v:Value) (tks:Tks) (e:Ending) (w':World):Prop:=
 e=.returned (.tuple #[])∧∃v',Pn w' base g A n c (zCk us tks) v'∧Pk g w w' v v'
theorem zVm {base g n c m cl X V:Nat} {A:Option Addr} {us:List UInt16} {v:Value} {b:Tks} {w:World} (Y:Pn w base g A n c us v) (hb:base≤w.heap.size) (hn:b.length=m)
 (hc:∀(j:Nat) (s:List UInt8),b[j]? =some s→w.cell? ⟨X,V+j,none⟩=some (.string ⟨s.toArray⟩)) (hX:X < w.heap.size) (a0:X≠g) (O:v.ownBlock≠some X) (W:MayPut us b):
 Calls prog 43 #[.pointer (some ⟨g,0,none⟩),.slice (some ⟨X,V,none⟩) m cl] w (zZP w base g A n c us v b):=by
 have HP:=zA Y;have HB:=zA hb;have HN:=zA hn;have HC:=zA hc;have HM:=zA W;have a1:=zA O;have b4:m≤1000000000:=by have h1:=zVl b;have h2:=W.2;omega
 clear Y hn hc W O;go_enter func43,ntmps43;obtain⟨i0,hi,r,t,y⟩:=info_parts Tryz.info_u16;have HI:=zA (And.intro hi (And.intro r (And.intro t y)));clear hi r t y;go_wp2_with fail
 go_loopw [8] (fun i wr=>∃(k:Nat) (M:Value),k≤m∧i=.int .i64 k∧Hid (Pn wr base g A n c (zCk us (b.take k)) M)∧Hid (Pk g w wr v M)) (fun i _=>m - (intOf i).toNat)
 case atStart=>exact⟨0,v,yAE _,rfl,HP.out,Pk.refl g w v⟩
 case round=>
  obtain⟨k,M,hk,rfl,d,z⟩:=hrel
  by_cases a2:k < m
  · have F:k < b.length:=by rw[HN.out];exact a2
    obtain⟨s,hs⟩:∃s,b[k]? =some s:=⟨_,yAB F⟩;have a3:=(z.out.cell (p:=⟨X,V+k,none⟩) hX a0 a1.out).trans (HC.out k s hs);have G:=zA (show b.take (k+1)=b.take k++[s] by rw[List.take_add_one,hs];rfl);have H:s≠[]:=HM.out.1 s (List.mem_of_getElem? hs);have I:(zCk us (b.take k)).length+(s.length+1)≤1000000000:=by
     have h1:=HM.out.2;have e:b=b.take k++(s::b.drop (k+1)):=by
      have:=(List.getElem?_eq_some_iff.1 hs).2;rw[←this,←yAH F,List.take_append_drop]
     rw[e,zBq]at h1;have h2:=zK6 (b.take k) us;have h3:zBZ (s::b.drop (k+1))=s.length+1+zBZ (b.drop (k+1)):=rfl;omega
    have P:0 < s.length:=List.length_pos_iff.2 H;obtain⟨f,J⟩:=jx (zCk us (b.take k));rw[J]at d I;have a4:=zA J;have Q:=d.out.c1;have R:=d.out.f1;have S:=d.out.lt;have T:base≤wr.heap.size:=yAD hb z.out.size;obtain⟨Av,cv,hv,b5,_⟩:=zR d.out.own;subst hv;clear hs H J F
    go_upto_if 17 with(fail)
    go_cut [5] (fun v5 wx=>v5=.string ⟨s.toArray⟩∧∃N,Hid (Pn wx base g A n c (if f=[]then []else f++[32]) N)∧Hid (Pk g w wx v N))
    case first=>
     by_cases C:f=[]
     · subst C;go_wp2_with fail;go_meet;exact⟨rfl,_,d.out,z.out⟩
     · have a5:0 < f.length:=List.length_pos_iff.2 C;have e1:(0:Int) < (f.length:Int):=by omega
       have e2:decide ((0:Int) < (f.length:Int))=true:=decide_eq_true e1;have e3:decide (0 < f.length)=true:=decide_eq_true a5;have HU:=zA C;obtain⟨hi,r,t,y⟩:=HI.out;clear C;go_wp2_with (at_builtin;refine zDD rfl _ _ 27 rfl base 65 i0 (.int .u16 0) 1 2 underlying27 hi r t y rfl jd (.slice Av f.length cv) _ _ rfl (by exact d.out.own) T [.int .u16 32] 1 1 rfl rfl rfl jo jd ?_;intro v' w' l o;obtain⟨a6,a7,a8⟩:=d.out.cells o;obtain⟨Aw,cw,rfl,_,_⟩:=zR l);go_meet;refine⟨rfl,_,?_,z.out.trans ((Pk.of_kept o).set 1 _)⟩;rw[if_neg HU.out];have e:zAI f++[Value.int .u16 32]=zAI (f++[32]):=by simp[zAI,zWd]
       rw[e]at l;exact d.out.put o (by rw[List.length_append];exact l)
    case rest=>
     obtain⟨rfl,N,B,U⟩:=hcut;clear Q R a3 d z S T;obtain⟨q,D⟩:=jx ((if f=[]then []else f++[32]));have b6:q.length+s.length≤1000000000:=by
      rw[←D];split
      · simp;omega
      · rw[List.length_append,List.length_singleton];omega
     rw[D]at B;have a9:=zA D;clear D I;have Q:=B.out.c1;have R:=B.out.f1;have S:=B.out.lt;have b0:base≤wc.heap.size:=yAD hb U.out.size;have CA:=zA (zS9 s jo wc.drew);obtain⟨hi,r,t,y⟩:=HI.out;go_wp2_with fail;go_region_law (first | (go_simp;go_at_call 11;refine CA.out.mono ?_;rintro e3 w3 ⟨AA,cA,rfl,b1,L⟩;have E:=zA (B.out.drew.below L);have b7:=E.out.c1;obtain⟨bA,oA,b2,_,b3⟩:=b1.spotR P;subst b2) | (refine zQE rfl _ _ 27 rfl base 65 i0 (.int .u16 0) 2 underlying27 hi r t y rfl N q.length (zAI q) rfl (by exact E.out.own) (yAD b0 L.size) ⟨bA,oA,none⟩ s.length cA (zAI (zV s)) rfl (by simp[zAI,zV]) (fun j u hu=>by rw[Addr.add_lit];exact b3 j u hu) (zRA _) P jo jd ?_;intro v' w' l o;obtain⟨a6,a7,a8⟩:=E.out.cells o;obtain⟨Aw,cw,rfl,_,_⟩:=zR l))
     all_goals go_wp2_with fail
     all_goals go_roundw
     all_goals first
      | (simp[intOf];omega)
      | (refine⟨k+1,_,by omega,by go_num,?_,U.out.trans ((Pk.of_below (zCS L)).trans ((Pk.of_kept o).set 1 _))⟩
         have e:zCk us (b.take (k+1))=q++zV s:=by
          rw[G.out,zAB,a4.out];show zN3 f s=_;unfold zN3;rw[a9.out]
         rw[e];refine E.out.put o ?_;have e2:zAI q++zAI (zV s)=zAI (q++zV s):=by simp[zAI]
         have e3:q.length+s.length=(q++zV s).length:=by simp[zV]
         rw[e2]at l;rw[←e3];exact l)
  · obtain rfl:m=k:=by omega
    have G:=zA (show b.take m=b from List.take_of_length_le (by rw[HN.out];omega));go_wp2_with fail;refine jr ?_;refine⟨rfl,M,?_,z.out⟩;have:=d.out;rwa[G.out]at this
structure Cx where
 B:Nat
 base:Nat
 g:Nat
 n:Nat
 c:Nat
 A:Option Addr
 ts:List Nd
structure Pe (C:Cx) (us:List UInt16) (v:Value) (w:World):Prop where
 pn:Pn w C.base C.g C.A C.n C.c us v
 nds:NdsR w C.B C.A C.n C.ts
 hb:C.base≤w.heap.size
 hB:C.B≤C.g
 tab:Tab w
 gB:0 < C.B
section
variable {C:Cx} {us us':List UInt16} {v v':Value} {w w':World}
theorem Pe.low (h:Pe C us v w) (hk:Pk C.g w w' v v'):Below C.B w w':=
 hk.below (fun i hi=>by have:=h.pn.ge i hi;have:=h.pn.gb;have:=h.hB;omega) h.hB (by have:=h.hB;have:=h.pn.gb;have:=h.hb;omega)
theorem Pe.next (h:Pe C us v w) (b:Pn w' C.base C.g C.A C.n C.c us' v') (hk:Pk C.g w w' v v'):Pe C us' v' w':=
 ⟨b,h.nds.below (h.low hk),yAD h.hb hk.size,h.hB,h.tab.below h.gB (h.low hk),h.gB⟩
theorem Pe.below (h:Pe C us v w) (hb:Below w.heap.size w w'):Pe C us v w':=h.next (h.pn.below hb) (Pk.of_below hb)
theorem Pe.alloc (h:Pe C us v w) (o:Obj):Pe C us v (w.alloc o):=h.below (ja)
theorem Pe.blt (h:Pe C us v w):C.B < w.heap.size:=by have:=h.hB;have:=h.pn.lt;omega
end
def PutQ (C:Cx) (us:List UInt16) (v:Value) (w:World) (tks:Tks) (e:Ending) (w':World):Prop:=
 e=.returned (.tuple #[])∧∃v',Pe C (zCk us tks) v' w'∧Pk C.g w w' v v'
theorem PutQ.back {C:Cx} {us:List UInt16} {v:Value} {w w1 w':World} {b:Tks} (hb:Below w.heap.size w w1) (h:PutQ C us v w1 b e w'):PutQ C us v w b e w':=by
 obtain⟨h1,v',c,d⟩:=h;exact⟨h1,v',c,(Pk.of_below hb).trans d⟩
theorem PutQ.nil {C:Cx} {us:List UInt16} {v:Value} {w:World} (h:Pe C us v w):PutQ C us v w [] (.returned (.tuple #[])) w:=⟨rfl,v,h,Pk.refl _ _ _⟩
theorem zAC {C:Cx} {us:List UInt16} {v:Value} {w:World} (c:Pe C us v w) (b:Tks) (m:Nat) (k:b.length=m) (l:MayPut us b):
 Calls prog 43 #[.pointer (some ⟨C.g,0,none⟩),.slice (some ⟨w.heap.size,0,none⟩) m m] (w.alloc (.cells (zLr b).toArray 9)) (PutQ C us v w b):=by
 have d:Below w.heap.size w (w.alloc (.cells (zLr b).toArray 9)):=ja;refine(zVm (c.pn.below d) (yAD c.hb d.size) k (fun j s hs=>?_) js (fun e=>by have:=c.pn.lt;omega) (fun e=>by have:=(c.pn.own.lt _ e).2;omega) l).mono ?_
 · rw[Nat.zero_add,World.cell?_alloc_at _ _ _ _ rfl];simp[zLr,hs]
 · rintro e w' ⟨rfl,v',h1,o⟩;have f:=(Pk.of_below d).trans o;exact⟨rfl,v',c.next h1 f,f⟩
theorem zC6 {C:Cx} {us:List UInt16} {v:Value} {w:World} {x:Nd} (c:Pe C us v w) (h:C.ts[k]? =some x):
 Calls prog 84 #[.pointer (some ⟨C.g,0,none⟩),.int .i64 (k:Int)] w fun e w'=>e=.returned (.int .i64 x.kind)∧w=w':=by
 have d:k < C.n:=by have:=(List.getElem?_eq_some_iff.1 h).1;rwa[c.nds.1]at this
 obtain⟨b,o,q,s,m,t,f,p,r⟩:=c.nds.get d;obtain rfl:x=q:=Option.some.inj (h.symm.trans f);have j:=c.pn.c0;rw[m]at j;have u:=p.k0;obtain⟨g,hg⟩:∃g,C.g=g:=⟨_,rfl⟩;obtain⟨n,l⟩:∃n,C.n=n:=⟨_,rfl⟩;rw[hg,l]at j;rw[l]at d;rw[hg];clear c h m f p r hg l;go_enter func84,ntmps84;go_wp2_with fail;go_ret;exact⟨rfl,rfl⟩
theorem MayPut.of {us:List UInt16} {a b:Tks} (h:MayPut us a) (e:a=b):MayPut us b:=e▸h
theorem zHm {C:Cx} {us:List UInt16} {v:Value} {w:World} (f:Pe C us v w) (d:MayPut us (zAo nm)):
 Calls prog 46 #[.pointer (some ⟨C.g,0,none⟩),.string ⟨nm.toArray⟩] w (PutQ C us v w (zAo nm)):=by
 by_cases h:nm=[]
 · subst h;have l:=zA f;clear d f;go_enter func46,ntmps46;go_wp2_with fail;exact jr (PutQ.nil l.out)
 · have e:zAo nm=[nm]:=by unfold zAo;rw[if_neg h]
   rw[e]at d⊢;obtain⟨b,c⟩:∃b:ByteArray,⟨nm.toArray⟩=b:=⟨_,rfl⟩;have j:b.data.toList=nm:=by rw[←c]
   have f1:b.toList≠[]:=by rw[ByteArray.toList_eq,j];exact h
   have o:(b.toList==[])=false:=yA.2 f1;have f3:b.toList.isEmpty=false:=by rw[List.isEmpty_eq_false_iff];exact f1
   have k:=zA (zAC f [nm] 1 rfl d);rw[show zLr [nm]=[Value.string b] by rw[←c];rfl]at k;rw[c];clear d e h j c f1;go_enter func46,ntmps46;go_wp2_with fail;refine k.out.mono ?_;rintro e1 w1 ⟨rfl,m⟩;go_wp2_with fail;exact jr (⟨rfl,m⟩)
def zAi (C:Cx) (m:Nat):Prop:=∀(t:Tr) (k:Nat) (us:List UInt16) (v:Value) (w:World),t.size≤m→At C.ts k t→Pe C us v w→MayPut us (prT t)→
 Calls prog 14 #[.pointer (some ⟨C.g,0,none⟩),.int .i64 (k:Int)] w (PutQ C us v w (prT t))
theorem MayPut.two {us:List UInt16} {a b c:Tks} (h:MayPut us a) (e:a=b++c):MayPut us b∧MayPut (zCk us b) c:=(h.of e).app
theorem zIL {C:Cx} {m:Nat} {us:List UInt16} {v:Value} {w:World} (hN:zAi C m) (B:t.size≤m) (p:At C.ts k t) (D:Pe C us v w) (q:MayPut us (inP (prT t))):
 Calls prog 44 #[.pointer (some ⟨C.g,0,none⟩),.int .i64 (k:Int)] w (PutQ C us v w (inP (prT t))):=by
 obtain⟨m1,m2⟩:=q.two (b:=[[40]]) (c:=prT t++[[41]]) rfl;obtain⟨r,s⟩:=m2.app;have E:=zA (zAC D [[40]] 1 rfl m1);have F:=zA r;have G:=zA s;have H:=zA hN;have I:=zA p;clear q m1 m2 r s hN p;go_enter func44,ntmps44;go_wp2_with fail;refine E.out.mono ?_;rintro e1 w1 ⟨rfl,v1,d,e⟩;have J:=zA (H.out t k _ v1 w1 B I.out d F.out);have u:=zA e;clear d e;go_wp2_with fail;refine J.out.mono ?_;rintro e2 w2 ⟨rfl,v2,f,j⟩;have L:=zA (zAC f [[41]] 1 rfl G.out);have y:=zA (u.out.trans j);clear f j;go_wp2_with fail;refine L.out.mono ?_;rintro e3 w3 ⟨rfl,v3,l,o⟩;have z:=zA l;have A:=zA (y.out.trans o);clear l o;go_wp2_with fail;refine jr ?_;refine⟨rfl,v3,?_,A.out⟩;have:=z.out;rwa[←zAB,←zAB]at this
theorem zC7 {C:Cx} {m:Nat} {us:List UInt16} {v:Value} {w:World} (hN:zAi C m) (q:t.size≤m) (c:At C.ts k t) (p:Pe C us v w) (b:MayPut us (zb (t.nd.kind,prT t))):
 Calls prog 52 #[.pointer (some ⟨C.g,0,none⟩),.int .i64 (k:Int)] w (PutQ C us v w (zb (t.nd.kind,prT t))):=by
 obtain⟨K,d⟩:=jx t.nd.kind;have l:=zA (zC6 p c.get);rw[zBU,d]at l;rw[d]at b⊢
 by_cases h:30≤K∧K≤37
 · have e:zb (K,prT t)=prT t:=by unfold zb;rw[if_pos h]
   rw[e]at b⊢;have o:=zA (hN t k us v w q c p b);obtain⟨h1,f⟩:=h;have e1:decide ((30:Int)≤K)=true:=decide_eq_true h1;have e2:decide (K≤(37:Int))=true:=decide_eq_true f;clear b hN c d e;go_enter func52,ntmps52;go_wp2_with (go_at_call 84;refine l.out.mono ?_;rintro e1 w1 ⟨rfl,rfl⟩);refine o.out.mono ?_;rintro e1 w1 ⟨rfl,j⟩;go_wp2_with fail;exact jr (⟨rfl,j⟩)
 · have e:zb (K,prT t)=inP (prT t):=by unfold zb;rw[if_neg h]
   rw[e]at b⊢;have o:=zA (zIL hN q c p b)
   by_cases h1:30≤K
   · have f:¬K≤37:=fun f=>h ⟨h1,f⟩;have e1:decide ((30:Int)≤K)=true:=decide_eq_true h1;have e2:decide (K≤(37:Int))=false:=yAI f;clear b hN c d e h;go_enter func52,ntmps52;go_wp2_with (go_at_call 84;refine l.out.mono ?_;rintro e1 w1 ⟨rfl,rfl⟩);refine o.out.mono ?_;rintro e1 w1 ⟨rfl,j⟩;go_wp2_with fail;exact jr (⟨rfl,j⟩)
   · have e1:decide ((30:Int)≤K)=false:=yAI h1;clear b hN c d e h;go_enter func52,ntmps52;go_wp2_with (go_at_call 84;refine l.out.mono ?_;rintro e1 w1 ⟨rfl,rfl⟩);refine o.out.mono ?_;rintro e1 w1 ⟨rfl,j⟩;go_wp2_with fail;exact jr (⟨rfl,j⟩)
def KidsAt (C:Cx) (w:World) (b o:Nat) (l:List Tr):Prop:=∀i (hi:i < l.length),∃p:Nat,At C.ts p l[i]∧b < C.B∧w.cell? ⟨b,o+i,none⟩=some (.int .i64 (p:Int))
theorem KidsAt.below {C:Cx} {w w':World} {b o:Nat} {l:List Tr} (h:KidsAt C w b o l) (hb:Below C.B w w'):KidsAt C w' b o l:=fun i hi=>by
 obtain⟨p,h1,c,d⟩:=h i hi;exact⟨p,h1,c,(hb.cell (p:=⟨b,o+i,none⟩) c).trans d⟩
theorem zTA (f:Kd→Tks) (a b:List Kd):zGH f (a++b)=zGH f a++zGH f b:=by
 induction a with
 | nil=>rfl
 | cons k r c=>show [44]::(f k++zGH f (r++b))=[44]::(f k++zGH f r)++zGH f b;rw[c];simp
theorem zLt (f:Kd→Tks) (a b:List Kd):zAW f (a++b)=zAW f a++(if a=[]then zAW f b else zGH f b):=by
 cases a with
 | nil=>rfl
 | cons k r=>
  rw[if_neg js];show f k++zGH f (r++b)=f k++zGH f r++zGH f b;rw[zTA,List.append_assoc]
def zDq (f:Kd→Tks) (i:Nat) (k:Kd):Tks:=if i=0 then f k else [44]::f k
theorem zGr {k:Kd} (h:ks[i]? =some k):zAW f (ks.take (i+1))=zAW f (ks.take i)++zDq f i k:=by
 obtain⟨c,rfl⟩:=List.getElem?_eq_some_iff.1 h;rw[yAK c,zLt];congr 1;unfold zDq
 by_cases b:i=0
 · subst b;simp[zAW,zGH]
 · rw[if_neg b,if_neg (by
    intro e;rcases List.take_eq_nil_iff.1 e with e | e
    · exact b e
    · subst e;simp at c)];simp[zGH]
theorem zQF (f:Kd→Tks) (ks:List Kd) (i:Nat):∃r,zAW f ks=zAW f (ks.take i)++r:=by
 refine⟨if ks.take i=[]then zAW f (ks.drop i)else zGH f (ks.drop i),?_⟩;rw[←zLt,List.take_append_drop]
theorem MayPut.upto {us:List UInt16} {k:Kd} (h:MayPut us (zAW f ks)) (hk:ks[i]? =some k):MayPut (zCk us (zAW f (ks.take i))) (zDq f i k):=by
 obtain⟨r,b⟩:=zQF f ks (i+1);rw[zGr hk,List.append_assoc]at b;exact((h.of b).app.2).app.1
def KidsS (C:Cx) (w:World) (Al:Option Addr) (l:List Tr):Prop:=l≠[]→∃b o,Al=some ⟨b,o,none⟩∧KidsAt C w b o l
theorem KidsS.below {C:Cx} {w w':World} {l:List Tr} (h:KidsS C w Al l) (hb:Below C.B w w'):KidsS C w' Al l:=fun c=>by
 obtain⟨b,o,h1,d⟩:=h c;exact⟨b,o,h1,d.below hb⟩
theorem zD8 {C:Cx} {m:Nat} {us:List UInt16} {v:Value} {w:World} {l:List Tr} (hN:zAi C m) (hs:∀t∈l,t.size≤m) (hk:KidsS C w Al l) (O:Pe C us v w) (D:l.length=L) (a2:L≤1000000) (P:MayPut us (zAW (·.2) (prs l))):
 Calls prog 51 #[.pointer (some ⟨C.g,0,none⟩),.slice Al L ck,.func (Fn.func 14) #[.pointer (some ⟨C.g,0,none⟩)] #[]] w (PutQ C us v w (zAW (·.2) (prs l))):=by
 have V:=zA hN;have HS:=zA hs;have HM:=zA P;have Q:=zA O;have F:=zA D
 by_cases R:l=[]
 · subst R;obtain rfl:L=0:=by rw[←D];rfl
   clear hN hs hk O D P;go_enter func51,ntmps51;go_wp2_with fail
   go_loopw [10] (fun i wr=>i=.int .i64 0∧wr=w) (fun _ _=>0)
   case atStart=>exact⟨rfl,rfl⟩
   case round=>
    obtain⟨rfl,rfl⟩:=hrel;go_wp2_with fail;refine jr ?_;rw[zY];exact PutQ.nil Q.out
 obtain⟨b,o,rfl,G⟩:=hk R;have HK:=zA G;clear hN hs hk O D P G R;go_enter func51,ntmps51;go_wp2_with fail
 go_loopw [10] (fun i wr=>∃(j:Nat) (s:Value),j≤L∧i=.int .i64 j∧Hid (Pe C (zCk us (zAW (·.2) ((prs l).take j))) s wr)∧Hid (Pk C.g w wr v s)) (fun i _=>L - (intOf i).toNat)
 case atStart=>exact⟨0,v,yAE _,rfl,Q.out,Pk.refl _ _ _⟩
 case round=>
  obtain⟨j,s,hj,rfl,k,q⟩:=hrel
  by_cases W:j < L
  · have r:j < l.length:=by rw[F.out];exact W
    obtain⟨p,u,a3,a1⟩:=(HK.out.below (Q.out.low q.out)) j r;have y:=HS.out l[j] (List.getElem_mem r);obtain⟨t,S⟩:=jx (l[j]);have hg:(prs l)[j]? =some (t.nd.kind,prT t):=by rw[zB0,List.getElem?_map,yAB r,S];rfl
    rw[S]at u y;have z:=zA (HM.out.upto hg);have H:=zA (zGr (f:=(·.2)) hg);have I:=zA u;obtain⟨T,A⟩:=jx (zCk us (zAW (·.2) ((prs l).take j)));rw[A]at k z;have J:=zA A;clear r u S hg A
    by_cases E:j=0
    · have e0:¬(0:Int) < (j:Int):=by omega
      have e1:decide ((0:Int) < (j:Int))=false:=yAI e0;have e2:¬0 < j:=by omega
      have c:=zA (show zDq (·.2) j (t.nd.kind,prT t)=prT t by unfold zDq;rw[if_pos E]);have U:=zA (V.out t p T s wr y I.out k.out (by have:=z.out;rwa[c.out]at this));clear E;go_wp2_with fail;refine U.out.mono ?_;rintro e3 w3 ⟨rfl,v3,d,e⟩;have X:=zA d;have B:=zA (q.out.trans e);clear d e;go_wp2_with fail
      go_roundw
      case rel=>exact⟨j+1,v3,by omega,by go_num,by rw[H.out,zAB,J.out,c.out];exact X.out,B.out⟩
      case measure=>simp[intOf];omega
    · have e0:(0:Int) < (j:Int):=by omega
      have e1:decide ((0:Int) < (j:Int))=true:=decide_eq_true e0;have e2:0 < j:=by omega
      have c:=zA (show zDq (·.2) j (t.nd.kind,prT t)=[[44]]++prT t by unfold zDq;rw[if_neg E];rfl);obtain⟨m1,m2⟩:=z.out.two c.out;have U:=zA (zAC k.out [[44]] 1 rfl m1);have M2:=zA m2;clear E m1 m2;go_wp2_with fail;refine U.out.mono ?_;rintro e3 w3 ⟨rfl,v3,d,e⟩;have C2:=zA (V.out t p _ v3 w3 y I.out d M2.out);have B:=zA (q.out.trans e);clear d e;go_wp2_with fail;refine C2.out.mono ?_;rintro e4 w4 ⟨rfl,v4,M,N⟩;have Y:=zA M;have a0:=zA (B.out.trans N);clear M N;go_wp2_with fail
      go_roundw
      case rel=>exact⟨j+1,v4,by omega,by go_num,by rw[H.out,zAB,J.out,c.out,zAB];exact Y.out,a0.out⟩
      case measure=>simp[intOf];omega
  · obtain rfl:L=j:=by omega
    have HT:=zA (show(prs l).take L=prs l from List.take_of_length_le (by rw[zN2,F.out];omega));go_wp2_with fail;refine jr ?_;refine⟨rfl,s,?_,q.out⟩;have:=k.out;rwa[HT.out]at this
theorem zFd {C:Cx} {m:Nat} {us:List UInt16} {v:Value} {w:World} {l:List Tr} (hN:zAi C m) (hs:∀t∈l,t.size≤m) (hk:KidsS C w Al l) (O:Pe C us v w) (B:l.length=L) (a2:L≤1000000) (P:MayPut us (zAW zb (prs l))):
 Calls prog 51 #[.pointer (some ⟨C.g,0,none⟩),.slice Al L ck,.func (Fn.func 52) #[.pointer (some ⟨C.g,0,none⟩)] #[]] w (PutQ C us v w (zAW zb (prs l))):=by
 have U:=zA hN;have HS:=zA hs;have HM:=zA P;have Q:=zA O;have F:=zA B
 by_cases R:l=[]
 · subst R;obtain rfl:L=0:=by rw[←B];rfl
   clear hN hs hk O B P;go_enter func51,ntmps51;go_wp2_with fail
   go_loopw [10] (fun i wr=>i=.int .i64 0∧wr=w) (fun _ _=>0)
   case atStart=>exact⟨rfl,rfl⟩
   case round=>
    obtain⟨rfl,rfl⟩:=hrel;go_wp2_with fail;refine jr ?_;rw[zY];exact PutQ.nil Q.out
 obtain⟨b,o,rfl,G⟩:=hk R;have HK:=zA G;clear hN hs hk O B P G R;go_enter func51,ntmps51;go_wp2_with fail
 go_loopw [10] (fun i wr=>∃(j:Nat) (D:Value),j≤L∧i=.int .i64 j∧Hid (Pe C (zCk us (zAW zb ((prs l).take j))) D wr)∧Hid (Pk C.g w wr v D)) (fun i _=>L - (intOf i).toNat)
 case atStart=>exact⟨0,v,yAE _,rfl,Q.out,Pk.refl _ _ _⟩
 case round=>
  obtain⟨j,D,hj,rfl,k,q⟩:=hrel
  by_cases V:j < L
  · have r:j < l.length:=by rw[F.out];exact V
    obtain⟨p,s,a3,a1⟩:=(HK.out.below (Q.out.low q.out)) j r;have u:=HS.out l[j] (List.getElem_mem r);obtain⟨t,S⟩:=jx (l[j]);have hg:(prs l)[j]? =some (t.nd.kind,prT t):=by rw[zB0,List.getElem?_map,yAB r,S];rfl
    rw[S]at s u;have y:=zA (HM.out.upto hg);have H:=zA (zGr (f:=zb) hg);have I:=zA s;obtain⟨W,z⟩:=jx (zCk us (zAW zb ((prs l).take j)));rw[z]at k y;have J:=zA z;clear r s S hg z
    by_cases E:j=0
    · have e0:¬(0:Int) < (j:Int):=by omega
      have e1:decide ((0:Int) < (j:Int))=false:=yAI e0;have e2:¬0 < j:=by omega
      have c:=zA (show zDq zb j (t.nd.kind,prT t)=zb (t.nd.kind,prT t) by unfold zDq;rw[if_pos E]);have T:=zA (zC7 U.out u I.out k.out (by have:=y.out;rwa[c.out]at this));clear E;go_wp2_with fail;refine T.out.mono ?_;rintro e3 w3 ⟨rfl,v3,d,e⟩;have X:=zA d;have A:=zA (q.out.trans e);clear d e;go_wp2_with fail
      go_roundw
      case rel=>exact⟨j+1,v3,by omega,by go_num,by rw[H.out,zAB,J.out,c.out];exact X.out,A.out⟩
      case measure=>simp[intOf];omega
    · have e0:(0:Int) < (j:Int):=by omega
      have e1:decide ((0:Int) < (j:Int))=true:=decide_eq_true e0;have e2:0 < j:=by omega
      have c:=zA (show zDq zb j (t.nd.kind,prT t)=[[44]]++zb (t.nd.kind,prT t) by unfold zDq;rw[if_neg E];rfl);obtain⟨m1,m2⟩:=y.out.two c.out;have T:=zA (zAC k.out [[44]] 1 rfl m1);have M2:=zA m2;clear E m1 m2;go_wp2_with fail;refine T.out.mono ?_;rintro e3 w3 ⟨rfl,v3,d,e⟩;have C2:=zA (zC7 U.out u I.out d M2.out);have A:=zA (q.out.trans e);clear d e;go_wp2_with fail;refine C2.out.mono ?_;rintro e4 w4 ⟨rfl,v4,M,N⟩;have Y:=zA M;have a0:=zA (A.out.trans N);clear M N;go_wp2_with fail
      go_roundw
      case rel=>exact⟨j+1,v4,by omega,by go_num,by rw[H.out,zAB,J.out,c.out,zAB];exact Y.out,a0.out⟩
      case measure=>simp[intOf];omega
  · obtain rfl:L=j:=by omega
    have HT:=zA (show(prs l).take L=prs l from List.take_of_length_le (by rw[zN2,F.out];omega));go_wp2_with fail;refine jr ?_;refine⟨rfl,D,?_,q.out⟩;have:=k.out;rwa[HT.out]at this
theorem zEc {C:Cx} {m:Nat} {us:List UInt16} {v:Value} {w:World} {l:List Tr} (hN:zAi C m) (hs:∀t∈l,t.size≤m) (hk:KidsS C w Al l) (q:Pe C us v w) (r:l.length=L) (s:L≤1000000) (u:MayPut us (zu (prs l))):
 Calls prog 91 #[.pointer (some ⟨C.g,0,none⟩),.slice Al L ck] w (PutQ C us v w (zu (prs l))):=by
 obtain⟨m1,m2⟩:=u.two (b:=[[40]]) (c:=zAW (·.2) (prs l)++[[41]]) rfl;obtain⟨y,z⟩:=m2.app;have H:=zA y;have I:=zA z;have J:=zA hN;have M:=zA hs;have A:=zA hk;have B:=zA q;have D:=zA r;have N:=zA m1;clear u m1 m2 y z hN hs hk q r;go_enter func91,ntmps91;have O:=zA (zAC B.out [[40]] 1 rfl N.out);go_wp2_with fail;refine O.out.mono ?_;rintro e1 w1 ⟨rfl,v1,d,f⟩;have R:=zA d;have j:=zA (f);have P:=zA (zD8 (ck:=ck) J.out M.out (A.out.below (B.out.low j.out)) d D.out s H.out);clear d f;go_wp2_with fail;refine P.out.mono ?_;rintro e2 w2 ⟨rfl,v2,e,k⟩;have S:=zA e;have E:=zA (j.out.trans k);have Q:=zA (zAC e [[41]] 1 rfl I.out);clear e k;go_wp2_with fail;refine Q.out.mono ?_;rintro e3 w3 ⟨rfl,v3,o,p⟩;have F:=zA o;have G:=zA (E.out.trans p);clear o p;go_wp2_with fail;refine jr ?_;refine⟨rfl,v3,?_,G.out⟩;have:=F.out;simp only[←zAB]at this;exact this
structure PF (C:Cx) (m:Nat) (us:List UInt16) (v0:Value) (W:World) (X b o:Nat) (K:Int) (u1 vk:Value) (l:List Tr) (ps:List Nat) (dn rs:Tks) (v:Value) (w:World):Prop where
 N:zAi C m
 pe:Pe C (zCk us dn) v w
 p0:Pe C us v0 W
 pk:Pk C.g W w v0 v
 h1:X < W.heap.size
 hg:X≠C.g
 hv:v0.ownBlock≠some X
 x0:W.cell? ⟨X,0,none⟩=some (.int .i64 K)
 x1:W.cell? ⟨X,1,none⟩=some u1
 x7:W.cell? ⟨X,7,none⟩=some vk
 kids:∀(i:Nat) (p:Nat) (t:Tr),ps[i]? =some p→l[i]? =some t→At C.ts p t∧b < C.B∧W.cell? ⟨b,o+i,none⟩=some (.int .i64 (p:Int))
 put:MayPut (zCk us dn) rs
section
variable {C:Cx} {m X b o:Nat} {us:List UInt16} {v0 v u1 vk:Value} {W w w':World} {K:Int} {l:List Tr} {ps:List Nat} {dn rs a:Tks}
theorem PF.x (F:PF C m us v0 W X b o K u1 vk l ps dn rs v w):w.cell? ⟨X,0,none⟩=some (.int .i64 K)∧w.cell? ⟨X,1,none⟩=some u1∧w.cell? ⟨X,7,none⟩=some vk:=
 ⟨(F.pk.cell (p:=⟨X,0,none⟩) F.h1 F.hg F.hv).trans F.x0,(F.pk.cell (p:=⟨X,1,none⟩) F.h1 F.hg F.hv).trans F.x1,(F.pk.cell (p:=⟨X,7,none⟩) F.h1 F.hg F.hv).trans F.x7⟩
theorem PF.c (F:PF C m us v0 W X b o K u1 vk l ps dn rs v w) (i:Nat) (d:ps[i]? =some p:=by rfl) (ht:l[i]? =some t:=by rfl):w.cell? ⟨b,o+i,none⟩=some (.int .i64 (p:Int)):=by
 obtain⟨_,h1,e⟩:=F.kids i p t d ht;exact((F.p0.low F.pk).cell (p:=⟨b,o+i,none⟩) h1).trans e
theorem PF.c0 (F:PF C m us v0 W X b o K u1 vk l ps dn rs v w) (d:ps[0]? =some p:=by rfl) (ht:l[0]? =some t:=by rfl):w.cell? ⟨b,o,none⟩=some (.int .i64 (p:Int)):=F.c 0 d ht
def PFq (C:Cx) (m:Nat) (us:List UInt16) (v0:Value) (W:World) (X b o:Nat) (K:Int) (u1 vk:Value) (l:List Tr) (ps:List Nat) (dn rs:Tks) (e:Ending) (w':World):Prop:=e=.returned (.tuple #[])∧∃v',Hid (PF C m us v0 W X b o K u1 vk l ps dn rs v' w')
theorem PF.then (F:PF C m us v0 W X b o K u1 vk l ps dn (a++rs) v w) (h:PutQ C (zCk us dn) v w a e w'):PFq C m us v0 W X b o K u1 vk l ps (dn++a) rs e w':=by
 obtain⟨h1,v',c,d⟩:=h;exact⟨h1,v',⟨F.N,by rw[zAB];exact c,F.p0,F.pk.trans d,F.h1,F.hg,F.hv,F.x0,F.x1,F.x7,F.kids,by rw[zAB];exact F.put.app.2⟩⟩
theorem PF.lit (F:PF C m us v0 W X b o K u1 vk l ps dn (a++rs) v w) {n:Nat} (c:a.length=n):
 Calls prog 43 #[.pointer (some ⟨C.g,0,none⟩),.slice (some ⟨w.heap.size,0,none⟩) n n] (w.alloc (.cells (zLr a).toArray 9)) (PFq C m us v0 W X b o K u1 vk l ps (dn++a) rs):=
 (zAC F.pe a n c F.put.app.1).mono fun _ _ h=>F.then h
theorem PF.part (i:Nat) (F:PF C m us v0 W X b o K u1 vk l ps dn (zb (t.nd.kind,prT t)++rs) v w) (hs:t.size≤m) (c:ps[i]? =some p) (d:l[i]? =some t):
 Calls prog 52 #[.pointer (some ⟨C.g,0,none⟩),.int .i64 (p:Int)] w (PFq C m us v0 W X b o K u1 vk l ps (dn++zb (t.nd.kind,prT t)) rs):=
 (zC7 F.N hs (F.kids i p t c d).1 F.pe F.put.app.1).mono fun _ _ h=>F.then h
theorem PF.pin (i:Nat) (F:PF C m us v0 W X b o K u1 vk l ps dn (inP (prT t)++rs) v w) (hs:t.size≤m) (c:ps[i]? =some p) (d:l[i]? =some t):
 Calls prog 44 #[.pointer (some ⟨C.g,0,none⟩),.int .i64 (p:Int)] w (PFq C m us v0 W X b o K u1 vk l ps (dn++inP (prT t)) rs):=
 (zIL F.N hs (F.kids i p t c d).1 F.pe F.put.app.1).mono fun _ _ h=>F.then h
theorem PF.node (i:Nat) (F:PF C m us v0 W X b o K u1 vk l ps dn (prT t++rs) v w) (hs:t.size≤m) (c:ps[i]? =some p) (d:l[i]? =some t):
 Calls prog 14 #[.pointer (some ⟨C.g,0,none⟩),.int .i64 (p:Int)] w (PFq C m us v0 W X b o K u1 vk l ps (dn++prT t) rs):=
 (F.N t p _ _ _ hs (F.kids i p t c d).1 F.pe F.put.app.1).mono fun _ _ h=>F.then h
theorem PF.fin (F:PF C m us v0 W X b o K u1 vk l ps dn [] v w') {w:World} (hb:Below w.heap.size w W) {q:Tks} (c:q=dn):PutQ C us v0 w q (.returned (.tuple #[])) w':=
 PutQ.back hb ⟨rfl,v,by rw[c];exact F.pe,F.pk⟩
end
theorem zKg {C:Cx} {w:World} {b:Nat}:∀(l:List Tr) (o:Nat),KidsAt C w b o l→∃ps:List Nat,ps.length=l.length∧∀(i:Nat) (p:Nat) (t:Tr),ps[i]? =some p→l[i]? =some t→At C.ts p t∧b < C.B∧w.cell? ⟨b,o+i,none⟩=some (.int .i64 (p:Int)):=by
 intro l
 induction l with
 | nil=>intro o _;exact⟨[],rfl,fun i p t h=>by cases h⟩
 | cons t r e=>
  intro o h;obtain⟨p0,h1,f,g⟩:=h 0 js;obtain⟨ps,j,k⟩:=e (o+1) fun i hi=>by
   obtain⟨p,g1,g2,m⟩:=h (i+1) (by simpa using hi);exact⟨p,g1,g2,by rw[show o+1+i=o+(i+1) by omega];exact m⟩
  refine⟨p0::ps,by simp[j],fun i p u c d=>?_⟩;cases i with
  | zero=>
   obtain rfl:=Option.some.inj c;obtain rfl:=Option.some.inj d;exact⟨h1,f,g⟩
  | succ i=>
   have:=k i p u (by simpa using c) (by simpa using d);rwa[show o+1+i=o+(i+1) by omega]at this
theorem ps1 {ps:List Nat} (h:ps.length=1):∃p,ps=[p]:=by
 rcases ps with _ | ⟨p,_ | ⟨q,r⟩⟩<;>simp at h;exact⟨_,rfl⟩
theorem ps2 {ps:List Nat} (h:ps.length=2):∃p q,ps=[p,q]:=by
 rcases ps with _ | ⟨p,r⟩
 · simp at h
 · obtain⟨q,rfl⟩:=ps1 (by simpa using h);exact⟨p,q,rfl⟩
theorem ps3 {ps:List Nat} (h:ps.length=3):∃p q r,ps=[p,q,r]:=by
 rcases ps with _ | ⟨p,r⟩
 · simp at h
 · obtain⟨q,s,rfl⟩:=ps2 (by simpa using h);exact⟨p,q,s,rfl⟩
theorem PF.new {C:Cx} {m b o:Nat} {us:List UInt16} {v:Value} {w:World} {l:List Tr} {rs:Tks} (K:Int) (u1 f g j k p vk:Value) (hN:zAi C m) (hk:KidsAt C w b o l) (d:Pe C us v w) (q:MayPut us rs):
 ∃W X,w.alloc (.cells #[.int .i64 K,u1,f,g,j,k,p,vk] 43)=W∧w.heap.size=X∧Hid (Below w.heap.size w W)∧∃ps:List Nat,ps.length=l.length∧Hid (PF C m us v W X b o K u1 vk l ps [] rs v W):=by
 obtain⟨W,c⟩:=jx (w.alloc (.cells #[.int .i64 K,u1,f,g,j,k,p,vk] 43));have hb:Below w.heap.size w W:=jb c;obtain⟨ps,h1,r⟩:=zKg l o (hk.below (hb.mono (Nat.le_of_lt d.blt)));refine⟨W,_,c,rfl,hb,ps,h1,⟨hN,d.below hb,d.below hb,Pk.refl _ _ _,by rw[←c];simp,fun e=>by have:=d.pn.lt;omega,fun e=>by have:=(d.pn.own.lt _ e).2;omega,?_,?_,?_,r,q⟩⟩
 · rw[←c,World.cell?_alloc_at _ _ _ _ rfl];rfl
 · rw[←c,World.cell?_alloc_at _ _ _ _ rfl];rfl
 · rw[←c,World.cell?_alloc_at _ _ _ _ rfl];rfl
theorem zLu {C:Cx} {w:World} {x:Nd} {l:List Tr} {s:NdSl} (h:At C.ts k (.mk x l)) (e:NdR w C.B ((Tr.mk x l).laid k) s):KidsS C w s.Ak l:=by
 intro f;have c:((Tr.mk x l).laid k).kids.length=l.length:=zBg (k+1) l;obtain⟨b,o,g,hb,j⟩:=e.kids.spotK (by rw[c];exact List.length_pos_iff.2 f);refine⟨b,o,g,fun i hi=>?_⟩;obtain⟨p,m,d,_⟩:=h.kid i hi;have h1:=j i (by rw[c];exact hi);have q:((Tr.mk x l).laid k).kids[i]'(by rw[c];exact hi)=(p:Int):=(List.getElem?_eq_some_iff.1 m).2;rw[q]at h1;exact⟨p,d,hb,h1⟩
theorem Pe.node {C:Cx} {us:List UInt16} {v:Value} {w:World} (d:Pe C us v w) (h:At C.ts k t):∃b o s,C.A=some ⟨b,o,none⟩∧k < C.n∧b < C.B∧NdC w b (o+k*8) (t.laid k) s∧NdR w C.B (t.laid k) s:=by
 have hg:=h.get;have c:k < C.n:=by have:=(List.getElem?_eq_some_iff.1 hg).1;rwa[d.nds.1]at this
 obtain⟨b,o,g,s,j,e,f,l,m⟩:=d.nds.get c;obtain rfl:t.laid k=g:=Option.some.inj (hg.symm.trans f);exact⟨b,o,s,j,c,e,l,m⟩
theorem zHn {C:Cx} {m:Nat} {us:List UInt16} {v:Value} {w:World} {x:Nd} {l:List Tr} (hN:zAi C m) (hs:∀t∈l,t.size≤m) (h:At C.ts k (.mk x l)) (H:x.kind=5∨x.kind=6) (I:Pe C us v w) (O:l.length≤1000000) (hm:MayPut us (zBJ x (prs l))):
 Calls prog 45 #[.pointer (some ⟨C.g,0,none⟩),.int .i64 (k:Int)] w (PutQ C us v w (zBJ x (prs l))):=by
 obtain⟨b,o,s,hA,b2,b5,hC,hR⟩:=I.node h;obtain⟨r,P,Q,R,S,T,U,V⟩:=hC;have a6:=zLu h hR;have Y:((Tr.mk x l).laid k).kids.length=l.length:=zBg (k+1) l;obtain⟨L,hL⟩:=jx l.length;rw[Y,hL]at V;rw[hL]at O;obtain⟨y,hy⟩:=jx ((Tr.mk x l).laid k);have a7:y.kind=x.kind:=by rw[←hy];rfl
 rw[hy]at r P Q R S T U;rw[a7]at r;have u:=I.pn.c0;rw[hA]at u;have b3:=I.pn.lt;have b6:=I.blt;obtain⟨g,hg⟩:∃g,C.g=g:=⟨_,rfl⟩;have N:=zA I;have HN:=zA hN;have HS:=zA hs;have a8:=zA a6;have a9:=zA hL;obtain⟨z,m1,m2,e1⟩:∃z:List UInt8,MayPut us [z]∧MayPut (zCk us [z]) (zAW (·.2) (prs l))∧zBJ x (prs l)=[z]++zAW (·.2) (prs l):=
  ⟨_,(hm.two rfl).1,(hm.two rfl).2,rfl⟩
 have M2:=zA m2;have d:z=(if x.kind=6 then [99,111,110,115,116]else [108,101,116]):=by
  have:zBJ x (prs l)=(if x.kind=6 then [99,111,110,115,116]else [108,101,116])::zAW (·.2) (prs l):=rfl;rw[this]at e1;injection e1 with e2 e3;exact e2.symm
 have HE:=zA e1;have b0:=zA (fun(W:World) (hb:Below w.heap.size w W)=>zAC (I.below hb) [z] 1 rfl m1);rw[hg]at u b3;obtain⟨n,hn⟩:∃n,C.n=n:=⟨_,rfl⟩;rw[hn]at u b2;have M:=zA hg;clear hm m1 m2 e1 I hN hs h hR hA hy a7 Y hL a6 hn;rcases H with H | H
 · rw[H]at r d;have q:z=[108,101,116]:=d;clear d;subst q;rw[hg];clear H hg;go_enter func45,ntmps45;go_upto_region 1 with(fail);obtain⟨W,j⟩:=jx (w.alloc (.cells #[.int .i64 5,.string ⟨y.name.toArray⟩,.slice s.As y.str.length s.cs,.int .i64 y.nk,.int .i64 y.nn,.bool y.neg,.slice s.Am y.mag.length s.cm,.slice s.Ak L s.ck] 43));rw[j];have c:Below w.heap.size w W:=jb j;have A:w.heap.size < W.heap.size:=by rw[←j];simp
   have x0:W.cell? ⟨w.heap.size,0,none⟩=some (.int .i64 5):=jc j;have x7:W.cell? ⟨w.heap.size,7,none⟩=some (.slice s.Ak L s.ck):=jc j;have B:w.heap.size≠C.g:=fun e=>by have:=N.out.pn.lt;omega
   have D:v.ownBlock≠some w.heap.size:=fun e=>by have:=(N.out.pn.own.lt _ e).2;omega
   have a0:=zA (N.out.below c);have a1:=zA c;have C1:=zA (b0.out W c);have a2:=zA (a8.out.below (c.mono jo));obtain⟨X,J⟩:=jx w.heap.size;rw[J]at x0 x7 A B D;rw[J];clear j c J r P Q R S T U V u;rw[M.out]at C1;go_wp2_with fail;refine C1.out.mono ?_;rintro e1 w1 ⟨rfl,v1,E,f⟩;have b4:=(f.cell (p:=⟨X,7,none⟩) A B D).trans x7;have C2:=zA (zD8 (ck:=s.ck) HN.out HS.out (a2.out.below (a0.out.low f)) E a9.out O M2.out);rw[M.out]at C2;have a3:=zA f;clear E f x7 x0;go_wp2_with fail;refine C2.out.mono ?_;rintro e2 w2 ⟨rfl,v2,F,G⟩;have a4:=zA F;have a5:=zA (a3.out.trans G);clear F G;go_wp2_with fail;refine jr ?_;refine PutQ.back a1.out ⟨rfl,v2,?_,a5.out⟩;rw[HE.out,zAB];exact a4.out
 · rw[H]at r d;have q:z=[99,111,110,115,116]:=d;clear d;subst q;rw[hg];clear H hg;go_enter func45,ntmps45;go_upto_region 1 with(fail);obtain⟨W,j⟩:=jx (w.alloc (.cells #[.int .i64 6,.string ⟨y.name.toArray⟩,.slice s.As y.str.length s.cs,.int .i64 y.nk,.int .i64 y.nn,.bool y.neg,.slice s.Am y.mag.length s.cm,.slice s.Ak L s.ck] 43));rw[j];have c:Below w.heap.size w W:=jb j;have A:w.heap.size < W.heap.size:=by rw[←j];simp
   have x0:W.cell? ⟨w.heap.size,0,none⟩=some (.int .i64 6):=jc j;have x7:W.cell? ⟨w.heap.size,7,none⟩=some (.slice s.Ak L s.ck):=jc j;have B:w.heap.size≠C.g:=fun e=>by have:=N.out.pn.lt;omega
   have D:v.ownBlock≠some w.heap.size:=fun e=>by have:=(N.out.pn.own.lt _ e).2;omega
   have a0:=zA (N.out.below c);have a1:=zA c;have C1:=zA (b0.out W c);have a2:=zA (a8.out.below (c.mono jo));obtain⟨X,J⟩:=jx w.heap.size;rw[J]at x0 x7 A B D;rw[J];clear j c J r P Q R S T U V u;rw[M.out]at C1;go_wp2_with fail;refine C1.out.mono ?_;rintro e1 w1 ⟨rfl,v1,E,f⟩;have b4:=(f.cell (p:=⟨X,7,none⟩) A B D).trans x7;have C2:=zA (zD8 (ck:=s.ck) HN.out HS.out (a2.out.below (a0.out.low f)) E a9.out O M2.out);rw[M.out]at C2;have a3:=zA f;clear E f x7 x0;go_wp2_with fail;refine C2.out.mono ?_;rintro e2 w2 ⟨rfl,v2,F,G⟩;have a4:=zA F;have a5:=zA (a3.out.trans G);clear F G;go_wp2_with fail;refine jr ?_;refine PutQ.back a1.out ⟨rfl,v2,?_,a5.out⟩;rw[HE.out,zAB];exact a4.out
theorem zVn {x:Nd} {l:List Tr} (h:x.kind=5∨x.kind=6):prT (.mk x l)=zBJ x (prs l)++[[59]]:=by
 rw[zAS];unfold zAk zi;rw[if_pos jo,jn,jn,jn,jn,if_pos h]
theorem zEd {C:Cx} {m:Nat} {us:List UInt16} {v:Value} {w:World} (hN:zAi C m) (o:t.size≤m) (F:m≤1000000) (f:At C.ts k t) (d:Pe C us v w) (b:MayPut us (zn (t.nd.kind,prT t))):
 Calls prog 83 #[.pointer (some ⟨C.g,0,none⟩),.int .i64 (k:Int)] w (PutQ C us v w (zn (t.nd.kind,prT t))):=by
 obtain⟨K,j⟩:=jx t.nd.kind;have p:=zA (zC6 d f.get);rw[zBU,j]at p;rw[j]at b⊢
 by_cases h:K=5∨K=6
 · obtain⟨x,l⟩:=t;have s:x.kind=K:=j;have h1:x.kind=5∨x.kind=6:=by rw[s];exact h
   have e:zn (K,prT (.mk x l))=zBJ x (prs l):=by
    unfold zn;rw[if_pos h];show(prT (.mk x l)).dropLast=_;rw[zVn h1,List.dropLast_concat]
   rw[e]at b⊢;have q:∀t∈l,t.size≤m:=by
    intro t u;rw[zh]at o;have:t.size≤sizes l:=by
     clear o hN f d b p j s h1 e h
     induction l with
     | nil=>cases u
     | cons a r B=>
      rw[zG];rcases List.mem_cons.1 u with rfl | D
      · omega
      · have:=B D;omega
    omega
   have y:l.length≤1000000:=by
    rw[zh]at o;have:l.length≤sizes l:=by
     clear o hN f d b p j s h1 e h q
     induction l with
     | nil=>exact yAE _
     | cons a r B=>rw[zG];have:=zBG a;simp only[List.length_cons];omega
    omega
   have z:=zA (zHn hN q f h1 d y b);clear b hN f s h1 e q y o j d;rcases h with rfl | rfl
   all_goals
    go_enter func83,ntmps83;go_wp2_with (go_at_call 84;refine p.out.mono ?_;rintro e1 w1 ⟨rfl,rfl⟩);refine z.out.mono ?_;rintro e1 w1 ⟨rfl,A⟩;go_wp2_with fail;exact jr (⟨rfl,A⟩)
 · have e5:(K==5)=false:=yA.2 jo;have e6:(K==6)=false:=yA.2 jo
   by_cases c:K=11
   · have e:zn (K,prT t)=[]:=by unfold zn;rw[if_neg h,if_pos c]
     rw[e];have E:=zA d;subst c;clear b hN f d e h j;go_enter func83,ntmps83;go_wp2_with (go_at_call 84;refine p.out.mono ?_;rintro e1 w1 ⟨rfl,rfl⟩);exact jr (PutQ.nil E.out)
   · have e:zn (K,prT t)=inP (prT t):=by unfold zn;rw[if_neg h,if_neg c]
     rw[e]at b⊢;have z:=zA (zIL hN o f d b);have G:(K !=11)=true:=bne_iff_ne.2 c;have H:(K==11)=false:=yA.2 c;clear b hN f d e h j c;go_enter func83,ntmps83;go_wp2_with (go_at_call 84;refine p.out.mono ?_;rintro e1 w1 ⟨rfl,rfl⟩);refine z.out.mono ?_;rintro e1 w1 ⟨rfl,A⟩;go_wp2_with fail;exact jr (⟨rfl,A⟩)
theorem KidsAt.init {C:Cx} {w:World} {b o:Nat} {l:List Tr} (h:KidsAt C w b o (l++r)):KidsAt C w b o l:=fun i hi=>by
 have h1:=h i (by rw[List.length_append];omega);rw[List.getElem_append_left hi]at h1;exact h1
theorem KidsAt.last {C:Cx} {w:World} {b o:Nat} {l:List Tr} (h:KidsAt C w b o (l++[z])):∃p:Nat,At C.ts p z∧b < C.B∧w.cell? ⟨b,o+l.length,none⟩=some (.int .i64 (p:Int)):=by
 have h1:=h l.length (by rw[List.length_append];simp);rw[List.getElem_append_right (yAC _)]at h1;simp only[Nat.sub_self,List.getElem_singleton]at h1;exact h1
theorem KidsAt.tail {C:Cx} {w:World} {b o:Nat} (h:KidsAt C w b o (z::r)):KidsAt C w b (o+1) r:=fun i hi=>by
 obtain⟨p,h1,c,d⟩:=h (i+1) (by simp;omega);refine⟨p,h1,c,?_⟩;rw[show o+1+i=o+(i+1) by omega];exact d
theorem KidsAt.s {C:Cx} {w:World} {b o:Nat} {l:List Tr} (h:KidsAt C w b o l):KidsS C w (some ⟨b,o,none⟩) l:=fun _=>⟨b,o,rfl,h⟩
theorem zJg {C:Cx} {m n:Nat} {us:List UInt16} {v:Value} {w:World} (kk:Int) (nm:List UInt8) (vs vm:Value) (nk nn:Int) (ng:Bool) {l:List Tr} (hN:zAi C m) (hs:∀t∈l,t.size≤m) (s0:a0.size≤m) (hl:l.length=n) (c4:n+1≤1000000) (b5:n+1≤ck) (hk:KidsS C w Ak (l++[a0])) (D:Pe C us v w) (hm:MayPut us ([[102,117,110,99,116,105,111,110]]++((zAo nm)++((zu (prs l))++(prT a0))))):
 Calls prog 53 #[.pointer (some ⟨C.g,0,none⟩),.agg #[.int .i64 kk,.string ⟨nm.toArray⟩,vs,.int .i64 nk,.int .i64 nn,.bool ng,vm,.slice Ak (n+1) ck]] w (PutQ C us v w ([[102,117,110,99,116,105,111,110]]++((zAo nm)++((zu (prs l))++(prT a0))))):=by
 obtain⟨b,o,rfl,H⟩:=hk js;obtain⟨W,E⟩:=jx (w.alloc (.cells #[.int .i64 kk,.string ⟨nm.toArray⟩,vs,.int .i64 nk,.int .i64 nn,.bool ng,vm,.slice (some ⟨b,o,none⟩) (n+1) ck] 43));have u:Below w.heap.size w W:=jb E;have d:w.heap.size < W.heap.size:=by rw[←E];simp
 have f:w.heap.size≠C.g:=fun e=>by have:=D.pn.lt;omega
 have j:v.ownBlock≠some w.heap.size:=fun e=>by have:=(D.pn.own.lt _ e).2;omega
 have x1:W.cell? ⟨w.heap.size,1,none⟩=some (.string ⟨nm.toArray⟩):=jc E;have x7:W.cell? ⟨w.heap.size,7,none⟩=some (.slice (some ⟨b,o,none⟩) (n+1) ck):=jc E;have F:=H.below (u.mono (Nat.le_of_lt D.blt));obtain⟨p0,I,y,q⟩:=F.last;rw[hl]at q;have a2:=zA I;have a3:=zA F.init;have HS:=zA hs;have a4:=zA hl;have b0:n≤ck:=by omega
 have k:=zA (D.below u);have a5:=zA u;have HN:=zA hN;obtain⟨J,L⟩:=hm.two (b:=[[102,117,110,99,116,105,111,110]]) (c:=(zAo nm)++((zu (prs l))++(prT a0))) rfl;have M1:=zA J;obtain⟨M,N⟩:=L.two (b:=zAo nm) (c:=(zu (prs l))++(prT a0)) rfl;have M2:=zA M;obtain⟨O,P⟩:=N.two (b:=zu (prs l)) (c:=prT a0) rfl;have M3:=zA O;have M4:=zA P;obtain⟨X,G⟩:=jx w.heap.size;go_enter func53,ntmps53;go_upto_region 1 with(fail);clear hm D u hN H F I hs hl J L M N O P;clear E;rw[G]at x1;rw[G]at x7;rw[G]at d f j;clear G;have C1:=zA (zAC k.out [[102,117,110,99,116,105,111,110]] 1 rfl M1.out);go_wp2_with fail;refine C1.out.mono ?_;rintro e1 w1 ⟨rfl,v1,Q,R⟩;have a6:=zA Q;have z:=zA (R);have b1:=((k.out.low z.out).cell (p:=⟨b,o+n,none⟩) y).trans q;have b6:=(z.out.cell (p:=⟨X,1,none⟩) d f j).trans x1;have b7:=(z.out.cell (p:=⟨X,7,none⟩) d f j).trans x7;clear Q R;have C2:=zA (zHm a6.out M2.out);go_wp2_with fail;refine C2.out.mono ?_;rintro e2 w2 ⟨rfl,v2,S,T⟩;have a7:=zA S;have r:=zA (z.out.trans T);have b2:=((k.out.low r.out).cell (p:=⟨b,o+n,none⟩) y).trans q;have b8:=(r.out.cell (p:=⟨X,1,none⟩) d f j).trans x1;have b9:=(r.out.cell (p:=⟨X,7,none⟩) d f j).trans x7;clear S T;have C3:=zA (zEc (ck:=ck) HN.out HS.out (a3.out.below (k.out.low r.out)).s a7.out a4.out jo M3.out);go_wp2_with fail;refine C3.out.mono ?_;rintro e3 w3 ⟨rfl,v3,U,V⟩;have a8:=zA U;have A:=zA (r.out.trans V);have b3:=((k.out.low A.out).cell (p:=⟨b,o+n,none⟩) y).trans q;have c0:=(A.out.cell (p:=⟨X,1,none⟩) d f j).trans x1;have c1:=(A.out.cell (p:=⟨X,7,none⟩) d f j).trans x7;clear U V;have C4:=zA (HN.out a0 p0 _ v3 w3 s0 a2.out a8.out M4.out);go_wp2_with fail;refine C4.out.mono ?_;rintro e4 w4 ⟨rfl,v4,Y,a1⟩;have a9:=zA Y;have B:=zA (A.out.trans a1);have b4:=((k.out.low B.out).cell (p:=⟨b,o+n,none⟩) y).trans q;have c2:=(B.out.cell (p:=⟨X,1,none⟩) d f j).trans x1;have c3:=(B.out.cell (p:=⟨X,7,none⟩) d f j).trans x7;clear Y a1;go_wp2_with fail;refine jr ?_;refine PutQ.back a5.out ⟨rfl,v4,?_,B.out⟩;have:=a9.out;simp only[←zAB,List.append_assoc]at this;exact this
theorem zJh {C:Cx} {m n:Nat} {us:List UInt16} {v:Value} {w:World} (kk:Int) (nm:List UInt8) (vs Y:Value) (nk nn:Int) (ng:Bool) {l:List Tr} (hN:zAi C m) (hs:∀t∈l,t.size≤m) (s0:a0.size≤m) (V:l.length=n) (b8:n+1≤1000000) (b1:n+1≤ck) (hk:KidsS C w Ak (l++[a0])) (A:Pe C us v w) (hK:a0.nd.kind=4) (hm:MayPut us ((zu (prs l))++([[61,62]]++(prT a0)))):
 Calls prog 54 #[.pointer (some ⟨C.g,0,none⟩),.agg #[.int .i64 kk,.string ⟨nm.toArray⟩,vs,.int .i64 nk,.int .i64 nn,.bool ng,Y,.slice Ak (n+1) ck]] w (PutQ C us v w ((zu (prs l))++([[61,62]]++(prT a0)))):=by
 obtain⟨b,o,rfl,G⟩:=hk js;obtain⟨W,B⟩:=jx (w.alloc (.cells #[.int .i64 kk,.string ⟨nm.toArray⟩,vs,.int .i64 nk,.int .i64 nn,.bool ng,Y,.slice (some ⟨b,o,none⟩) (n+1) ck] 43));have k:Below w.heap.size w W:=jb B;have d:w.heap.size < W.heap.size:=by rw[←B];simp
 have f:w.heap.size≠C.g:=fun e=>by have:=A.pn.lt;omega
 have j:v.ownBlock≠some w.heap.size:=fun e=>by have:=(A.pn.own.lt _ e).2;omega
 have x1:W.cell? ⟨w.heap.size,1,none⟩=some (.string ⟨nm.toArray⟩):=jc B;have x7:W.cell? ⟨w.heap.size,7,none⟩=some (.slice (some ⟨b,o,none⟩) (n+1) ck):=jc B;have D:=G.below (k.mono (Nat.le_of_lt A.blt));obtain⟨p0,H,E,q⟩:=D.last;rw[V]at q;have I:=zA H;have a1:=zA D.init;have HS:=zA hs;have a2:=zA V;have a7:n≤ck:=by omega
 have r:=zA (A.below k);have a3:=zA k;have HN:=zA hN;obtain⟨J,L⟩:=hm.two (b:=zu (prs l)) (c:=[[61,62]]++(prT a0)) rfl;have M1:=zA J;obtain⟨M,N⟩:=L.two (b:=[[61,62]]) (c:=prT a0) rfl;have M2:=zA M;have M3:=zA N;have a4:=zA hK;obtain⟨X,F⟩:=jx w.heap.size;go_enter func54,ntmps54;go_upto_region 1 with(fail);clear hK hm A k hN G D H hs V J L M N;clear B;rw[F]at x1;rw[F]at x7;rw[F]at d f j;clear F;have C1:=zA (zEc (ck:=ck) HN.out HS.out a1.out.s r.out a2.out jo M1.out);go_wp2_with fail;refine C1.out.mono ?_;rintro e1 w1 ⟨rfl,v1,O,P⟩;have a5:=zA O;have u:=zA (P);have a8:=((r.out.low u.out).cell (p:=⟨b,o+n,none⟩) E).trans q;have b2:=(u.out.cell (p:=⟨X,1,none⟩) d f j).trans x1;have b3:=(u.out.cell (p:=⟨X,7,none⟩) d f j).trans x7;clear O P;have C2:=zA (zAC a5.out [[61,62]] 1 rfl M2.out);go_wp2_with fail;refine C2.out.mono ?_;rintro e2 w2 ⟨rfl,v2,Q,R⟩;have S:=zA Q;have y:=zA (u.out.trans R);have a9:=((r.out.low y.out).cell (p:=⟨b,o+n,none⟩) E).trans q;have b4:=(y.out.cell (p:=⟨X,1,none⟩) d f j).trans x1;have b5:=(y.out.cell (p:=⟨X,7,none⟩) d f j).trans x7;clear Q R;have CK:=zA (show Calls prog 84 #[.pointer (some ⟨C.g,0,none⟩),.int .i64 (p0:Int)] w2 fun e w'=>e=.returned (.int .i64 4)∧w2=w' from by have:=zC6 S.out I.out.get;rwa[zBU,a4.out]at this);go_wp2_with fail;refine CK.out.mono ?_;rintro ek wk ⟨rfl,rfl⟩;have C3:=zA (HN.out a0 p0 _ v2 w2 s0 I.out S.out M3.out);go_wp2_with fail;refine C3.out.mono ?_;rintro e3 w3 ⟨rfl,v3,T,U⟩;have a6:=zA T;have z:=zA (y.out.trans U);have b0:=((r.out.low z.out).cell (p:=⟨b,o+n,none⟩) E).trans q;have b6:=(z.out.cell (p:=⟨X,1,none⟩) d f j).trans x1;have b7:=(z.out.cell (p:=⟨X,7,none⟩) d f j).trans x7;clear T U;go_wp2_with fail;refine jr ?_;refine PutQ.back a3.out ⟨rfl,v3,?_,z.out⟩;have:=a6.out;simp only[←zAB,List.append_assoc]at this;exact this
theorem zQG {C:Cx} {m n:Nat} {us:List UInt16} {v:Value} {w:World} (kk:Int) (nm:List UInt8) (vs vm:Value) (nk nn:Int) (ng:Bool) {l:List Tr} (hN:zAi C m) (hs:∀t∈l,t.size≤m) (s0:a0.size≤m) (hl:l.length=n) (b8:n+1≤1000000) (b1:n+1≤ck) (hk:KidsS C w Ak (l++[a0])) (A:Pe C us v w) {F:Int} (hK:a0.nd.kind=F) (H:F≠4) (hm:MayPut us ((zu (prs l))++([[61,62]]++(inP (prT a0))))):
 Calls prog 54 #[.pointer (some ⟨C.g,0,none⟩),.agg #[.int .i64 kk,.string ⟨nm.toArray⟩,vs,.int .i64 nk,.int .i64 nn,.bool ng,vm,.slice Ak (n+1) ck]] w (PutQ C us v w ((zu (prs l))++([[61,62]]++(inP (prT a0))))):=by
 obtain⟨b,o,rfl,I⟩:=hk js;obtain⟨W,B⟩:=jx (w.alloc (.cells #[.int .i64 kk,.string ⟨nm.toArray⟩,vs,.int .i64 nk,.int .i64 nn,.bool ng,vm,.slice (some ⟨b,o,none⟩) (n+1) ck] 43));have k:Below w.heap.size w W:=jb B;have d:w.heap.size < W.heap.size:=by rw[←B];simp
 have f:w.heap.size≠C.g:=fun e=>by have:=A.pn.lt;omega
 have j:v.ownBlock≠some w.heap.size:=fun e=>by have:=(A.pn.own.lt _ e).2;omega
 have x1:W.cell? ⟨w.heap.size,1,none⟩=some (.string ⟨nm.toArray⟩):=jc B;have x7:W.cell? ⟨w.heap.size,7,none⟩=some (.slice (some ⟨b,o,none⟩) (n+1) ck):=jc B;have D:=I.below (k.mono (Nat.le_of_lt A.blt));obtain⟨p0,J,E,q⟩:=D.last;rw[hl]at q;have L:=zA J;have a1:=zA D.init;have HS:=zA hs;have a2:=zA hl;have a7:n≤ck:=by omega
 have r:=zA (A.below k);have a3:=zA k;have HN:=zA hN;obtain⟨M,N⟩:=hm.two (b:=zu (prs l)) (c:=[[61,62]]++(inP (prT a0))) rfl;have M1:=zA M;obtain⟨O,P⟩:=N.two (b:=[[61,62]]) (c:=inP (prT a0)) rfl;have M2:=zA O;have M3:=zA P;have a4:=zA hK;have e4:(F==4)=false:=yA.2 H;obtain⟨X,G⟩:=jx w.heap.size;go_enter func54,ntmps54;go_upto_region 1 with(fail);clear hK H hm A k hN I D J hs hl M N O P;clear B;rw[G]at x1;rw[G]at x7;rw[G]at d f j;clear G;have C1:=zA (zEc (ck:=ck) HN.out HS.out a1.out.s r.out a2.out jo M1.out);go_wp2_with fail;refine C1.out.mono ?_;rintro e1 w1 ⟨rfl,v1,Q,R⟩;have a5:=zA Q;have u:=zA (R);have a8:=((r.out.low u.out).cell (p:=⟨b,o+n,none⟩) E).trans q;have b2:=(u.out.cell (p:=⟨X,1,none⟩) d f j).trans x1;have b3:=(u.out.cell (p:=⟨X,7,none⟩) d f j).trans x7;clear Q R;have C2:=zA (zAC a5.out [[61,62]] 1 rfl M2.out);go_wp2_with fail;refine C2.out.mono ?_;rintro e2 w2 ⟨rfl,v2,S,T⟩;have U:=zA S;have y:=zA (u.out.trans T);have a9:=((r.out.low y.out).cell (p:=⟨b,o+n,none⟩) E).trans q;have b4:=(y.out.cell (p:=⟨X,1,none⟩) d f j).trans x1;have b5:=(y.out.cell (p:=⟨X,7,none⟩) d f j).trans x7;clear S T;have CK:=zA (show Calls prog 84 #[.pointer (some ⟨C.g,0,none⟩),.int .i64 (p0:Int)] w2 fun e w'=>e=.returned (.int .i64 F)∧w2=w' from by have:=zC6 U.out L.out.get;rwa[zBU,a4.out]at this);go_wp2_with fail;refine CK.out.mono ?_;rintro ek wk ⟨rfl,rfl⟩;have C3:=zA (zIL HN.out s0 L.out U.out M3.out);go_wp2_with fail;refine C3.out.mono ?_;rintro e3 w3 ⟨rfl,v3,V,Y⟩;have a6:=zA V;have z:=zA (y.out.trans Y);have b0:=((r.out.low z.out).cell (p:=⟨b,o+n,none⟩) E).trans q;have b6:=(z.out.cell (p:=⟨X,1,none⟩) d f j).trans x1;have b7:=(z.out.cell (p:=⟨X,7,none⟩) d f j).trans x7;clear V Y;go_wp2_with fail;refine jr ?_;refine PutQ.back a3.out ⟨rfl,v3,?_,z.out⟩;have:=a6.out;simp only[←zAB,List.append_assoc]at this;exact this
theorem zNC {C:Cx} {m n:Nat} {us:List UInt16} {v:Value} {w:World} {l:List Tr} (hN:zAi C m) (hs:∀t∈l,t.size≤m) (s0:a0.size≤m) (L:l.length=n) (a3:n+1≤1000000) (W:n+1≤ck) (e:ck≠1) (hk:KidsS C w Ak (a0::l)) (M:Pe C us v w) (N:MayPut us (zb (a0.nd.kind,prT a0)++([[40]]++(zAW zb (prs l)++[[41]])))):
 Calls prog 92 #[.pointer (some ⟨C.g,0,none⟩),.slice Ak (n+1) ck] w (PutQ C us v w (zb (a0.nd.kind,prT a0)++([[40]]++(zAW zb (prs l)++[[41]])))):=by
 obtain⟨b,o,rfl,d⟩:=hk js;obtain⟨p0,f,a4,j⟩:=d 0 js;have c0:w.cell? ⟨b,o,none⟩=some (.int .i64 (p0:Int)):=j;have O:=zA f;have P:=zA d.tail;have X:=zA hs;have Q:=zA L;have k:=zA M;have R:=zA hN;have Y:1≤ck:=by omega
 have a1:(1:Int)≤(ck:Int):=by omega
 have a2:¬ck=1:=e;clear e;obtain⟨p,q⟩:=N.two (b:=zb (a0.nd.kind,prT a0)) (c:=[[40]]++(zAW zb (prs l)++[[41]])) rfl;obtain⟨r,u⟩:=q.two (b:=[[40]]) (c:=zAW zb (prs l)++[[41]]) rfl;obtain⟨y,z⟩:=u.app;have M1:=zA p;have M2:=zA r;have M3:=zA y;have M4:=zA z;clear N M hN d f j hs L p q r u y z;go_enter func92,ntmps92;have C1:=zA (zC7 R.out s0 O.out k.out M1.out);go_wp2_with fail;refine C1.out.mono ?_;rintro e1 w1 ⟨rfl,v1,A,B⟩;have C2:=zA (zAC A [[40]] 1 rfl M2.out);have S:=zA B;clear A B;go_wp2_with fail;refine C2.out.mono ?_;rintro e2 w2 ⟨rfl,v2,D,E⟩;have F:=zA (S.out.trans E);have C3:=zA (zFd (ck:=ck - 1) R.out X.out (P.out.below (k.out.low F.out)).s D Q.out jo M3.out);clear D E;go_wp2_with fail;refine C3.out.mono ?_;rintro e3 w3 ⟨rfl,v3,G,H⟩;have C4:=zA (zAC G [[41]] 1 rfl M4.out);have T:=zA (F.out.trans H);clear G H;go_wp2_with fail;refine C4.out.mono ?_;rintro e4 w4 ⟨rfl,v4,I,J⟩;have U:=zA I;have V:=zA (T.out.trans J);clear I J;go_wp2_with fail;refine jr ?_;refine⟨rfl,v4,?_,V.out⟩;have:=U.out;simp only[←zAB,List.append_assoc]at this;exact this
theorem zQH {C:Cx} {m n:Nat} {us:List UInt16} {v:Value} {w:World} {l:List Tr} (hN:zAi C m) (hs:∀t∈l,t.size≤m) (s0:a0.size≤m) (H:l.length=n) (a3:n+1≤1000000) (X:n+1≤ck) (I:ck=1) (hk:KidsS C w Ak (a0::l)) (J:Pe C us v w) (L:MayPut us (zb (a0.nd.kind,prT a0)++([[40]]++(zAW zb (prs l)++[[41]])))):
 Calls prog 92 #[.pointer (some ⟨C.g,0,none⟩),.slice Ak (n+1) ck] w (PutQ C us v w (zb (a0.nd.kind,prT a0)++([[40]]++(zAW zb (prs l)++[[41]])))):=by
 obtain⟨b,o,rfl,d⟩:=hk js;obtain⟨p0,e,a4,f⟩:=d 0 js;have c0:w.cell? ⟨b,o,none⟩=some (.int .i64 (p0:Int)):=f;have M:=zA e;have a5:=zA d.tail;have Y:=zA hs;have N:=zA H;have O:=zA J;have P:=zA hN;have a1:1≤ck:=by omega
 have a2:(1:Int)≤(ck:Int):=by omega
 obtain rfl:=I;have Q:n=0:=by omega
 have j:l=[]:=List.length_eq_zero_iff.1 jo;have R:=zA j;subst Q;clear j;obtain⟨k,p⟩:=L.two (b:=zb (a0.nd.kind,prT a0)) (c:=[[40]]++(zAW zb (prs l)++[[41]])) rfl;obtain⟨q,r⟩:=p.two (b:=[[40]]) (c:=zAW zb (prs l)++[[41]]) rfl;obtain⟨s,u⟩:=r.app;have M1:=zA k;have M2:=zA q;have M3:=zA s;have M4:=zA u;clear L J hN d e f hs H k p q r s u;go_enter func92,ntmps92;have C1:=zA (zC7 P.out s0 M.out O.out M1.out);go_wp2_with fail;refine C1.out.mono ?_;rintro e1 w1 ⟨rfl,v1,y,z⟩;have C2:=zA (zAC y [[40]] 1 rfl M2.out);have S:=zA z;clear y z;go_wp2_with fail;refine C2.out.mono ?_;rintro e2 w2 ⟨rfl,v2,A,B⟩;have T:=zA (S.out.trans B);have C3:=zA (zFd (Al:=some ⟨b,o,none⟩) (ck:=0) P.out Y.out (fun h=>absurd R.out h) A N.out jo M3.out);clear A B;go_wp2_with fail;refine C3.out.mono ?_;rintro e3 w3 ⟨rfl,v3,D,E⟩;have C4:=zA (zAC D [[41]] 1 rfl M4.out);have U:=zA (T.out.trans E);clear D E;go_wp2_with fail;refine C4.out.mono ?_;rintro e4 w4 ⟨rfl,v4,F,G⟩;have V:=zA F;have W:=zA (U.out.trans G);clear F G;go_wp2_with fail;refine jr ?_;refine⟨rfl,v4,?_,W.out⟩;have:=V.out;simp only[←zAB,List.append_assoc]at this;exact this
theorem zJi {C:Cx} {m n:Nat} {us:List UInt16} {v:Value} {w:World} {l:List Tr} (hN:zAi C m) (hs:∀t∈l,t.size≤m) (s0:a0.size≤m) (f:l.length=n) (c:n+1≤1000000) (b:n+1≤ck) (hk:KidsS C w Ak (a0::l)) (j:Pe C us v w) (d:MayPut us (zER (prs (a0::l)))):
 Calls prog 92 #[.pointer (some ⟨C.g,0,none⟩),.slice Ak (n+1) ck] w (PutQ C us v w (zER (prs (a0::l)))):=by
 have e:zER (prs (a0::l))=zb (a0.nd.kind,prT a0)++([[40]]++(zAW zb (prs l)++[[41]])):=by rw[zH];rfl
 rw[e]at d⊢
 by_cases h:ck=1
 · exact zQH hN hs s0 f c b h hk j d
 · exact zNC hN hs s0 f c b h hk j d
theorem zIM {C:Cx} {K:Int} (e:K∈([8,9,10,16,17,19]:List Int)) {us:List UInt16} {v:Value} {w:World} {b:Tks} (f:ByteArray) (vs j vk:Value) (nk nn:Int) (k:Bool) (l:∀W,Below w.heap.size w W→Calls prog 47 #[.pointer (some ⟨C.g,0,none⟩),.agg #[.int .i64 K,.string f,vs,.int .i64 nk,.int .i64 nn,.bool k,j,vk]] W (PutQ C us v W b)):
 Calls prog 28 #[.pointer (some ⟨C.g,0,none⟩),.int .i64 (k0:Int),.agg #[.int .i64 K,.string f,vs,.int .i64 nk,.int .i64 nn,.bool k,j,vk]] w (PutQ C us v w b):=by
 simp only[List.mem_cons,List.not_mem_nil,or_false]at e;have p:=zA l;clear l;rcases e with rfl | rfl | rfl | rfl | rfl | rfl
 all_goals
  go_enter func28,ntmps28;go_wp2_with fail;refine(p.out _ (ja)).mono ?_;rintro e1 w1 ⟨rfl,v1,c,d⟩;have m:=zA c;have o:=zA d;clear c d;go_wp2_with fail;exact jr (PutQ.back (ja) ⟨rfl,v1,m.out,o.out⟩)
theorem zTB {C:Cx} {us:List UInt16} {v:Value} {w:World} {b:Tks} (e:ByteArray) (vs f vk:Value) (nk nn:Int) (j:Bool) (k:∀W,Below w.heap.size w W→Calls prog 53 #[.pointer (some ⟨C.g,0,none⟩),.agg #[.int .i64 19,.string e,vs,.int .i64 nk,.int .i64 nn,.bool j,f,vk]] W (PutQ C us v W b)):
 Calls prog 47 #[.pointer (some ⟨C.g,0,none⟩),.agg #[.int .i64 19,.string e,vs,.int .i64 nk,.int .i64 nn,.bool j,f,vk]] w (PutQ C us v w b):=by
 have o:=zA k;clear k;go_enter func47,ntmps47;go_wp2_with fail;refine(o.out _ (ja)).mono ?_;rintro e1 w1 ⟨rfl,v1,c,d⟩;have l:=zA c;have m:=zA d;clear c d;go_wp2_with fail;exact jr (PutQ.back (ja) ⟨rfl,v1,l.out,m.out⟩)
theorem zTC {C:Cx} {us:List UInt16} {v:Value} {w:World} {b:Tks} (e:ByteArray) (vs f vk:Value) (nk nn:Int) (j:Bool) (k:∀W,Below w.heap.size w W→Calls prog 53 #[.pointer (some ⟨C.g,0,none⟩),.agg #[.int .i64 41,.string e,vs,.int .i64 nk,.int .i64 nn,.bool j,f,vk]] W (PutQ C us v W b)):
 Calls prog 29 #[.pointer (some ⟨C.g,0,none⟩),.agg #[.int .i64 41,.string e,vs,.int .i64 nk,.int .i64 nn,.bool j,f,vk]] w (PutQ C us v w b):=by
 have o:=zA k;clear k;go_enter func29,ntmps29;go_wp2_with fail;refine(o.out _ (ja)).mono ?_;rintro e1 w1 ⟨rfl,v1,c,d⟩;have l:=zA c;have m:=zA d;clear c d;go_wp2_with fail;exact jr (PutQ.back (ja) ⟨rfl,v1,l.out,m.out⟩)
theorem zLv {C:Cx} {us:List UInt16} {v:Value} {w:World} {b:Tks} (e:ByteArray) (vs f vk:Value) (nk nn:Int) (j:Bool) (k:∀W,Below w.heap.size w W→Calls prog 54 #[.pointer (some ⟨C.g,0,none⟩),.agg #[.int .i64 42,.string e,vs,.int .i64 nk,.int .i64 nn,.bool j,f,vk]] W (PutQ C us v W b)):
 Calls prog 29 #[.pointer (some ⟨C.g,0,none⟩),.agg #[.int .i64 42,.string e,vs,.int .i64 nk,.int .i64 nn,.bool j,f,vk]] w (PutQ C us v w b):=by
 have o:=zA k;clear k;go_enter func29,ntmps29;go_wp2_with fail;refine(o.out _ (ja)).mono ?_;rintro e1 w1 ⟨rfl,v1,c,d⟩;have l:=zA c;have m:=zA d;clear c d;go_wp2_with fail;exact jr (PutQ.back (ja) ⟨rfl,v1,l.out,m.out⟩)
theorem zGs {C:Cx} {K:Int} (e:K∈([43,44,45,46,47,48,49,50,51,52,53]:List Int)) {us:List UInt16} {v:Value} {w:World} {b:Tks} (f:ByteArray) (vs j vk:Value) (nk nn:Int) (k:Bool) (l:∀W,Below w.heap.size w W→Calls prog 55 #[.pointer (some ⟨C.g,0,none⟩),.agg #[.int .i64 K,.string f,vs,.int .i64 nk,.int .i64 nn,.bool k,j,vk]] W (PutQ C us v W b)):
 Calls prog 29 #[.pointer (some ⟨C.g,0,none⟩),.agg #[.int .i64 K,.string f,vs,.int .i64 nk,.int .i64 nn,.bool k,j,vk]] w (PutQ C us v w b):=by
 simp only[List.mem_cons,List.not_mem_nil,or_false]at e;have p:=zA l;clear l;rcases e with rfl | rfl | rfl | rfl | rfl | rfl | rfl | rfl | rfl | rfl | rfl
 all_goals
  go_enter func29,ntmps29;go_wp2_with fail;refine(p.out _ (ja)).mono ?_;rintro e1 w1 ⟨rfl,v1,c,d⟩;have m:=zA c;have o:=zA d;clear c d;go_wp2_with fail;exact jr (PutQ.back (ja) ⟨rfl,v1,m.out,o.out⟩)
theorem zVo {C:Cx} {us:List UInt16} {v:Value} {w:World} {b:ByteArray} (h:⟨nm.toArray⟩=b) (c:Pe C us v w) (d:MayPut us [[40],nm,[41]]):
 Calls prog 43 #[.pointer (some ⟨C.g,0,none⟩),.slice (some ⟨w.heap.size,0,none⟩) 3 3] (w.alloc (.cells #[.string ⟨#[40]⟩,.string b,.string ⟨#[41]⟩] 9)) (PutQ C us v w [[40],nm,[41]]):=by
 subst h;exact zAC c [[40],nm,[41]] 3 rfl d
theorem zQI {C:Cx} {m:Nat} {us:List UInt16} {v:Value} {w:World} (vs S:Value) (nk nn:Int) (T:Bool) {k:ByteArray} (hN:zAi C m) (s0:a0.size≤m) (hk:KidsS C w Ak [a0]) (u:Pe C us v w) (y:⟨nm.toArray⟩=k) (B:nm≠[]) (U:MayPut us ([[99,97,116,99,104]]++([[40],nm,[41]]++(prT a0)))):
 Calls prog 47 #[.pointer (some ⟨C.g,0,none⟩),.agg #[.int .i64 17,.string k,vs,.int .i64 nk,.int .i64 nn,.bool T,S,.slice Ak 1 ck]] w (PutQ C us v w ([[99,97,116,99,104]]++([[40],nm,[41]]++(prT a0)))):=by
 obtain⟨b,o,rfl,D⟩:=hk js;obtain⟨W,t⟩:=jx (w.alloc (.cells #[.int .i64 17,.string k,vs,.int .i64 nk,.int .i64 nn,.bool T,S,.slice (some ⟨b,o,none⟩) 1 ck] 43));have r:Below w.heap.size w W:=jb t;have d:w.heap.size < W.heap.size:=by rw[←t];simp
 have f:w.heap.size≠C.g:=fun e=>by have:=u.pn.lt;omega
 have j:v.ownBlock≠some w.heap.size:=fun e=>by have:=(u.pn.own.lt _ e).2;omega
 have x0:W.cell? ⟨w.heap.size,0,none⟩=some (.int .i64 17):=jc t;have x7:W.cell? ⟨w.heap.size,7,none⟩=some (.slice (some ⟨b,o,none⟩) 1 ck):=jc t;have x1:W.cell? ⟨w.heap.size,1,none⟩=some (.string k):=jc t;obtain⟨p0,E,F,G⟩:=(D.below (r.mono (Nat.le_of_lt u.blt))) 0 js;have c0:W.cell? ⟨b,o,none⟩=some (.int .i64 (p0:Int)):=G;have V:Hid (At C.ts p0 a0):=E;have z:=zA (u.below r);have Y:=zA r;have HN:=zA hN;obtain⟨H,I⟩:=U.two (b:=[[99,97,116,99,104]]) (c:=[[40],nm,[41]]++(prT a0)) rfl;have M1:=zA H;obtain⟨J,L⟩:=I.two (b:=[[40],nm,[41]]) (c:=prT a0) rfl;have M2:=zA J;have M3:=zA L;have a1:=zA y;have hd:k.data.toList=nm:=by rw[←y]
 have f1:k.toList≠[]:=by rw[ByteArray.toList_eq,hd];exact B
 have f2:(k.toList==[])=false:=yA.2 f1;have f3:k.toList.isEmpty=false:=by rw[List.isEmpty_eq_false_iff];exact f1
 clear y hd B f1;obtain⟨X,A⟩:=jx w.heap.size;go_enter func47,ntmps47;go_upto_region 1 with(fail);clear U u r hN D H I J L E G;clear t;rw[A]at x0;rw[A]at x7;rw[A]at x1;rw[A]at d f j;clear A;have C1:=zA (zAC z.out [[99,97,116,99,104]] 1 rfl M1.out);go_wp2_with fail;refine C1.out.mono ?_;rintro e1 w1 ⟨rfl,v1,M,N⟩;have a2:=zA M;have l:=zA (N);have a5:=((z.out.low l.out).cell (p:=⟨b,o,none⟩) F).trans c0;have a6:=(l.out.cell (p:=⟨X,0,none⟩) d f j).trans x0;have a7:=(l.out.cell (p:=⟨X,7,none⟩) d f j).trans x7;have a8:=(l.out.cell (p:=⟨X,1,none⟩) d f j).trans x1;clear M N;have C2:=zA (zVo a1.out a2.out M2.out);go_wp2_with fail;refine C2.out.mono ?_;rintro e2 w2 ⟨rfl,v2,O,P⟩;have a3:=zA O;have q:=zA (l.out.trans P);have a9:=((z.out.low q.out).cell (p:=⟨b,o,none⟩) F).trans c0;have b0:=(q.out.cell (p:=⟨X,0,none⟩) d f j).trans x0;have b1:=(q.out.cell (p:=⟨X,7,none⟩) d f j).trans x7;have b2:=(q.out.cell (p:=⟨X,1,none⟩) d f j).trans x1;clear O P;have C3:=zA (HN.out a0 p0 _ v2 w2 s0 V.out a3.out M3.out);go_wp2_with fail;refine C3.out.mono ?_;rintro e3 w3 ⟨rfl,v3,Q,R⟩;have a4:=zA Q;have s:=zA (q.out.trans R);have b3:=(s.out.cell (p:=⟨X,0,none⟩) d f j).trans x0;have b4:=(s.out.cell (p:=⟨X,7,none⟩) d f j).trans x7;have b5:=(s.out.cell (p:=⟨X,1,none⟩) d f j).trans x1;clear Q R;go_wp2_with fail;refine jr ?_;refine PutQ.back Y.out ⟨rfl,v3,?_,s.out⟩;have:=a4.out;simp only[←zAB,List.append_assoc]at this;exact this
theorem zXo {C:Cx} {m:Nat} {us:List UInt16} {v:Value} {w:World} (D:ByteArray) (vs E:Value) (nk nn:Int) (F:Bool) {l:List Tr} (hN:zAi C m) (hs:∀t∈l,t.size≤m) (G:l.length=L) (H:L≤1000000) (hk:KidsS C w Ak l) (B:Pe C us v w) (I:MayPut us ([[91]]++((zAW zb (prs l))++([[93]])))):
 Calls prog 29 #[.pointer (some ⟨C.g,0,none⟩),.agg #[.int .i64 38,.string D,vs,.int .i64 nk,.int .i64 nn,.bool F,E,.slice Ak (L) ck]] w (PutQ C us v w ([[91]]++((zAW zb (prs l))++([[93]])))):=by
 obtain⟨W,e⟩:=jx (w.alloc (.cells #[.int .i64 38,.string D,vs,.int .i64 nk,.int .i64 nn,.bool F,E,.slice Ak (L) ck] 43));have d:Below w.heap.size w W:=jb e;have J:w.heap.size < W.heap.size:=by rw[←e];simp
 have x0:W.cell? ⟨w.heap.size,0,none⟩=some (.int .i64 38):=jc e;have x7:W.cell? ⟨w.heap.size,7,none⟩=some (.slice Ak (L) ck):=jc e;have M:=zA (hk.below (d.mono (Nat.le_of_lt B.blt)));have V:=zA hs;have Y:=zA hN;have f:=zA (B.below d);have N:=zA d;obtain⟨j,k⟩:=I.two (b:=[[91]]) (c:=(zAW zb (prs l))++([[93]])) rfl;have M1:=zA j;obtain⟨o,p⟩:=k.two (b:=zAW zb (prs l)) (c:=[[93]]) rfl;have M2:=zA o;have M3:=zA p;have O:=zA G;clear G;obtain⟨X,P⟩:=jx w.heap.size;go_enter func29,ntmps29;go_upto_region 1 with(fail);clear I B d hN hs hk j k o p;clear e;rw[P]at x0 x7 J;clear P;have C1:=zA (zAC f.out [[91]] 1 rfl M1.out);go_wp2_with fail;refine C1.out.mono ?_;rintro e1 w1 ⟨rfl,v1,q,r⟩;have Q:=zA q;have s:=zA (r);clear q r;have C2:=zA (zFd (ck:=ck) Y.out V.out (M.out.below (f.out.low s.out)) Q.out O.out H M2.out);go_wp2_with fail;refine C2.out.mono ?_;rintro e2 w2 ⟨rfl,v2,u,y⟩;have R:=zA u;have S:=zA (s.out.trans y);clear u y;have C3:=zA (zAC R.out [[93]] 1 rfl M3.out);go_wp2_with fail;refine C3.out.mono ?_;rintro e3 w3 ⟨rfl,v3,z,A⟩;have T:=zA z;have U:=zA (S.out.trans A);clear z A;go_wp2_with fail;refine jr ?_;refine PutQ.back N.out ⟨rfl,v3,?_,U.out⟩;have:=T.out;simp only[←zAB,List.append_assoc]at this;exact this
theorem zXp {C:Cx} {m:Nat} {us:List UInt16} {v:Value} {w:World} (D:ByteArray) (vs E:Value) (nk nn:Int) (F:Bool) {l:List Tr} (hN:zAi C m) (hs:∀t∈l,t.size≤m) (G:l.length=L) (H:L≤1000000) (hk:KidsS C w Ak l) (B:Pe C us v w) (I:MayPut us ([[123]]++((zAW (·.2) (prs l))++([[125]])))):
 Calls prog 29 #[.pointer (some ⟨C.g,0,none⟩),.agg #[.int .i64 39,.string D,vs,.int .i64 nk,.int .i64 nn,.bool F,E,.slice Ak (L) ck]] w (PutQ C us v w ([[123]]++((zAW (·.2) (prs l))++([[125]])))):=by
 obtain⟨W,e⟩:=jx (w.alloc (.cells #[.int .i64 39,.string D,vs,.int .i64 nk,.int .i64 nn,.bool F,E,.slice Ak (L) ck] 43));have d:Below w.heap.size w W:=jb e;have J:w.heap.size < W.heap.size:=by rw[←e];simp
 have x0:W.cell? ⟨w.heap.size,0,none⟩=some (.int .i64 39):=jc e;have x7:W.cell? ⟨w.heap.size,7,none⟩=some (.slice Ak (L) ck):=jc e;have M:=zA (hk.below (d.mono (Nat.le_of_lt B.blt)));have V:=zA hs;have Y:=zA hN;have f:=zA (B.below d);have N:=zA d;obtain⟨j,k⟩:=I.two (b:=[[123]]) (c:=(zAW (·.2) (prs l))++([[125]])) rfl;have M1:=zA j;obtain⟨o,p⟩:=k.two (b:=zAW (·.2) (prs l)) (c:=[[125]]) rfl;have M2:=zA o;have M3:=zA p;have O:=zA G;clear G;obtain⟨X,P⟩:=jx w.heap.size;go_enter func29,ntmps29;go_upto_region 1 with(fail);clear I B d hN hs hk j k o p;clear e;rw[P]at x0 x7 J;clear P;have C1:=zA (zAC f.out [[123]] 1 rfl M1.out);go_wp2_with fail;refine C1.out.mono ?_;rintro e1 w1 ⟨rfl,v1,q,r⟩;have Q:=zA q;have s:=zA (r);clear q r;have C2:=zA (zD8 (ck:=ck) Y.out V.out (M.out.below (f.out.low s.out)) Q.out O.out H M2.out);go_wp2_with fail;refine C2.out.mono ?_;rintro e2 w2 ⟨rfl,v2,u,y⟩;have R:=zA u;have S:=zA (s.out.trans y);clear u y;have C3:=zA (zAC R.out [[125]] 1 rfl M3.out);go_wp2_with fail;refine C3.out.mono ?_;rintro e3 w3 ⟨rfl,v3,z,A⟩;have T:=zA z;have U:=zA (S.out.trans A);clear z A;go_wp2_with fail;refine jr ?_;refine PutQ.back N.out ⟨rfl,v3,?_,U.out⟩;have:=T.out;simp only[←zAB,List.append_assoc]at this;exact this
theorem zXq {C:Cx} {m n:Nat} {us:List UInt16} {v:Value} {w:World} (k:ByteArray) (vs o:Value) (nk nn:Int) (p:Bool) {l:List Tr} (hN:zAi C m) (hs:∀t∈l,t.size≤m) (s0:a0.size≤m) (q:l.length=n) (r:n+1≤1000000) (f:n+1≤ck) (hk:KidsS C w Ak (a0::l)) (j:Pe C us v w) (s:MayPut us (zER (prs (a0::l)))):
 Calls prog 55 #[.pointer (some ⟨C.g,0,none⟩),.agg #[.int .i64 50,.string k,vs,.int .i64 nk,.int .i64 nn,.bool p,o,.slice Ak (n+1) ck]] w (PutQ C us v w (zER (prs (a0::l)))):=by
 obtain⟨W,c⟩:=jx (w.alloc (.cells #[.int .i64 50,.string k,vs,.int .i64 nk,.int .i64 nn,.bool p,o,.slice Ak (n+1) ck] 43));have b:Below w.heap.size w W:=jb c;have u:w.heap.size < W.heap.size:=by rw[←c];simp
 have x0:W.cell? ⟨w.heap.size,0,none⟩=some (.int .i64 50):=jc c;have x7:W.cell? ⟨w.heap.size,7,none⟩=some (.slice Ak (n+1) ck):=jc c;have y:=zA (hk.below (b.mono (Nat.le_of_lt j.blt)));have G:=zA hs;have H:=zA hN;have z:=zA (j.below b);have A:=zA b;have I:=zA s;have B:=zA q;clear q;obtain⟨X,D⟩:=jx w.heap.size;go_enter func55,ntmps55;go_upto_region 1 with(fail);clear s j b hN hs hk;clear c;rw[D]at x0 x7 u;clear D;have J:=zA (zJi H.out G.out s0 B.out r f y.out z.out I.out);go_wp2_with fail;refine J.out.mono ?_;rintro e1 w1 ⟨rfl,v1,d,e⟩;have E:=zA d;have F:=zA (e);clear d e;go_wp2_with fail;refine jr ?_;refine PutQ.back A.out ⟨rfl,v1,?_,F.out⟩;exact E.out
theorem zXr {C:Cx} {m n:Nat} {us:List UInt16} {v:Value} {w:World} (z:ByteArray) (vs A:Value) (nk nn:Int) (B:Bool) {l:List Tr} (hN:zAi C m) (hs:∀t∈l,t.size≤m) (s0:a0.size≤m) (D:l.length=n) (E:n+1≤1000000) (u:n+1≤ck) (hk:KidsS C w Ak (a0::l)) (y:Pe C us v w) (F:MayPut us ([[110,101,119]]++(zER (prs (a0::l))))):
 Calls prog 55 #[.pointer (some ⟨C.g,0,none⟩),.agg #[.int .i64 51,.string z,vs,.int .i64 nk,.int .i64 nn,.bool B,A,.slice Ak (n+1) ck]] w (PutQ C us v w ([[110,101,119]]++(zER (prs (a0::l))))):=by
 obtain⟨W,e⟩:=jx (w.alloc (.cells #[.int .i64 51,.string z,vs,.int .i64 nk,.int .i64 nn,.bool B,A,.slice Ak (n+1) ck] 43));have d:Below w.heap.size w W:=jb e;have G:w.heap.size < W.heap.size:=by rw[←e];simp
 have x0:W.cell? ⟨w.heap.size,0,none⟩=some (.int .i64 51):=jc e;have x7:W.cell? ⟨w.heap.size,7,none⟩=some (.slice Ak (n+1) ck):=jc e;have H:=zA (hk.below (d.mono (Nat.le_of_lt y.blt)));have P:=zA hs;have Q:=zA hN;have f:=zA (y.below d);have I:=zA d;obtain⟨j,k⟩:=F.two (b:=[[110,101,119]]) (c:=zER (prs (a0::l))) rfl;have R:=zA j;have S:=zA k;have J:=zA D;clear D;obtain⟨X,L⟩:=jx w.heap.size;go_enter func55,ntmps55;go_upto_region 1 with(fail);clear F y d hN hs hk j k;clear e;rw[L]at x0 x7 G;clear L;have T:=zA (zAC f.out [[110,101,119]] 1 rfl R.out);go_wp2_with fail;refine T.out.mono ?_;rintro e1 w1 ⟨rfl,v1,o,p⟩;have M:=zA o;have q:=zA (p);clear o p;have U:=zA (zJi Q.out P.out s0 J.out E u (H.out.below (f.out.low q.out)) M.out S.out);go_wp2_with fail;refine U.out.mono ?_;rintro e2 w2 ⟨rfl,v2,r,s⟩;have N:=zA r;have O:=zA (q.out.trans s);clear r s;go_wp2_with fail;refine jr ?_;refine PutQ.back I.out ⟨rfl,v2,?_,O.out⟩;have:=N.out;simp only[←zAB]at this;exact this
theorem zW3 {C:Cx} {K:Int} (S:K=5∨K=6) {m:Nat} {us:List UInt16} {v:Value} {w:World} (u:ByteArray) (vs y:Value) (nk nn:Int) (z:Bool) {l:List Tr} {x:Nd} (hN:zAi C m) (hs:∀t∈l,t.size≤m) (f:At C.ts k0 (.mk x l)) (A:x.kind=5∨x.kind=6) (B:l.length=L) (D:L≤1000000) (hk:KidsS C w Ak l) (s:Pe C us v w) (E:MayPut us ((zBJ x (prs l))++([[59]]))):
 Calls prog 28 #[.pointer (some ⟨C.g,0,none⟩),.int .i64 (k0:Int),.agg #[.int .i64 K,.string u,vs,.int .i64 nk,.int .i64 nn,.bool z,y,.slice Ak (L) ck]] w (PutQ C us v w ((zBJ x (prs l))++([[59]]))):=by
 obtain⟨W,e⟩:=jx (w.alloc (.cells #[.int .i64 K,.string u,vs,.int .i64 nk,.int .i64 nn,.bool z,y,.slice Ak (L) ck] 43));have d:Below w.heap.size w W:=jb e;have F:w.heap.size < W.heap.size:=by rw[←e];simp
 have x0:W.cell? ⟨w.heap.size,0,none⟩=some (.int .i64 K):=jc e;have x7:W.cell? ⟨w.heap.size,7,none⟩=some (.slice Ak (L) ck):=jc e;have a0:=zA (hk.below (d.mono (Nat.le_of_lt s.blt)));have T:=zA hs;have U:=zA hN;have G:=zA (s.below d);have H:=zA d;obtain⟨j,k⟩:=E.two (b:=zBJ x (prs l)) (c:=[[59]]) rfl;have V:=zA j;have Y:=zA k;have I:=zA B;clear B;have J:=zA f;have M:=zA A;clear f A;obtain⟨X,N⟩:=jx w.heap.size;rcases S with rfl | rfl
 all_goals
  go_enter func28,ntmps28;go_upto_region 1 with(fail);clear E s d hN hs hk j k;clear e;rw[N]at x0 x7 F;clear N;have C1:=zA (zHn U.out T.out J.out M.out G.out (by rw[I.out];exact D) V.out);go_wp2_with fail;refine C1.out.mono ?_;rintro e1 w1 ⟨rfl,v1,o,p⟩;have O:=zA o;have P:=zA (p);clear o p;have C2:=zA (zAC O.out [[59]] 1 rfl Y.out);go_wp2_with fail;refine C2.out.mono ?_;rintro e2 w2 ⟨rfl,v2,q,r⟩;have Q:=zA q;have R:=zA (P.out.trans r);clear q r;go_wp2_with fail;refine jr ?_;refine PutQ.back H.out ⟨rfl,v2,?_,R.out⟩;have:=Q.out;simp only[←zAB]at this;exact this
theorem zXs {C:Cx} {m:Nat} {us:List UInt16} {v:Value} {w:World} (nm:List UInt8) (vs d:Value) (nk nn:Int) (e:Bool) (hN:zAi C m) (f:Pe C us v w) (j:MayPut us ([nm])):
 Calls prog 29 #[.pointer (some ⟨C.g,0,none⟩),.agg #[.int .i64 33,.string ⟨nm.toArray⟩,vs,.int .i64 nk,.int .i64 nn,.bool e,d,.slice Ak 0 ck]] w (PutQ C us v w ([nm])):=by
 obtain⟨W,X,p,q,r,ps,s,c⟩:=PF.new 33 (.string ⟨nm.toArray⟩) vs (.int .i64 nk) (.int .i64 nn) (.bool e) d (.slice Ak 0 ck) (b:=0) (o:=0) (l:=[]) (rs:=_++[]) hN (fun i hi=>absurd hi (Nat.not_lt_zero _)) f (by rw[List.append_nil];exact j)
 try simp only[List.append_assoc]at c
 go_enter func29,ntmps29;go_upto_region 1 with(fail);clear hN f j s p q;have:=c.out.x;go_wp2_with fail;refine(c.out.lit (a:=[nm]) rfl).mono ?_;rintro e1 w1 ⟨rfl,v1,k⟩;have:=k.out.x;go_wp2_with fail;exact jr (k.out.fin r.out js)
theorem zXX {C:Cx} {K:Int} {c:List UInt8} (q:(K=34∧c=[116,114,117,101])∨(K=35∧c=[102,97,108,115,101])∨(K=36∧c=[110,117,108,108])∨(K=37∧c=[116,104,105,115])) {m:Nat} {us:List UInt16} {v:Value} {w:World} (nm:List UInt8) (vs e:Value) (nk nn:Int) (f:Bool) (hN:zAi C m) (j:Pe C us v w) (k:MayPut us ([c])):
 Calls prog 29 #[.pointer (some ⟨C.g,0,none⟩),.agg #[.int .i64 K,.string ⟨nm.toArray⟩,vs,.int .i64 nk,.int .i64 nn,.bool f,e,.slice Ak 0 ck]] w (PutQ C us v w ([c])):=by
 obtain⟨W,X,r,s,t,ps,u,d⟩:=PF.new K (.string ⟨nm.toArray⟩) vs (.int .i64 nk) (.int .i64 nn) (.bool f) e (.slice Ak 0 ck) (b:=0) (o:=0) (l:=[]) (rs:=_++[]) hN (fun i hi=>absurd hi (Nat.not_lt_zero _)) j (by rw[List.append_nil];exact k)
 try simp only[List.append_assoc]at d
 rcases q with⟨rfl,rfl⟩ | ⟨rfl,rfl⟩ | ⟨rfl,rfl⟩ | ⟨rfl,rfl⟩
 all_goals
  go_enter func29,ntmps29;go_upto_region 1 with(fail);clear hN j k u r s;have:=d.out.x;go_wp2_with fail;refine(d.out.lit (a:=[_]) rfl).mono ?_;rintro e1 w1 ⟨rfl,v1,p⟩;have:=p.out.x;go_wp2_with fail;exact jr (p.out.fin t.out js)
section
variable {P:Program} {w0 w:World} {ops:Array Oper} {o:Oper} {a:Act} {K:Act→World→Prop} {Q:Exit→Act→World→Prop} {E:Prop}
theorem zQJ (f:o.guard=none) (s x:Operand) (t:TypeId)
 (g:o.op=.call {callee:=.builtin .append,args:=#[s,x],argTypes:=#[t,t]})
 (e:TypeId) (i:TypeInfo) (z:Value) (bytes:Nat) (ht:P.underlying t=some (.slice e)) (hi:P.info? e=some i) (hz:i.zero=some z)
 (hsize:i.size=1) (hby:i.bytes=bytes) (hzs:z.cells.size=1)
 (v:Value) (xs:List Value) (hs:a.eval s=v) (hm:Made w0 w e v xs)
 (cs:List Value) (m c:Nat) (hx:a.eval x=.slice (some ⟨w.heap.size,0,none⟩) m c) (hl:cs.length=m) (h1:(cs.all fun u=>u.oneCell')=true)
 (hm0:0 < m) (hsz:xs.length+m≤70368744177664) (hb2:bytes≤2)
 (h:∀v' w',Made w0 w' e v' (xs++cs)→w.grownBy w' v.ownBlock→K (a.put o.dst v') w'):
 if Region.wanted o (yielded ops a.tmps)=true then Oper.wp P o a (w.alloc (.cells cs.toArray e)) K Q else E:=by
 subst hl;refine step_append_lies (w.alloc (.cells cs.toArray e)) f s x t g w0.heap.size e i z 1 bytes ht hi hz hsize hby hzs jo v xs.length xs hs (hm.own.alloc _) ⟨w.heap.size,0,none⟩ _ c cs hx jo ?_ (fun u d=>List.all_eq_true.1 h1 u d) hm0 (by unfold maxLen;omega) ?_ (yAD hm.below.size js) _ rfl ?_
 · intro j u d;rw[Addr.add_lit,World.cell?_alloc_at _ _ _ _ rfl];simpa using d
 · calc (xs.length+cs.length)*bytes≤70368744177664*2:=Nat.mul_le_mul hsz hb2
    _≤140737488355328:=by omega
 · intro gg cap w' h1 l _ _;have b:w.grownBy w' v.ownBlock:=zC (zF w _ _) l;exact h _ w' ⟨by rw[List.length_append];exact h1,hm.below.grown b hm.below.size (fun k hk=>(hm.own.lt k hk).1)⟩ b
theorem zQK (b:o.guard=none) (s x:Operand) (t:TypeId)
 (d:o.op=.call {callee:=.builtin .append,args:=#[s,x],argTypes:=#[t,t]})
 (e:TypeId) (i:TypeInfo) (z:Value) (bytes:Nat) (ht:P.underlying t=some (.slice e)) (hi:P.info? e=some i) (hz:i.zero=some z)
 (hsize:i.size=1) (hby:i.bytes=bytes) (hzs:z.cells.size=1)
 (v:Value) (xs:List Value) (hs:a.eval s=v) (hm:Made w0 w e v xs)
 (cs:List Value) (m c:Nat) (hx:a.eval x=.slice (some ⟨w.heap.size,0,none⟩) m c) (hl:cs.length=m) (h1:(cs.all fun u=>u.oneCell')=true)
 (hm0:0 < m) (hsz:xs.length+m≤70368744177664) (hb2:bytes≤2)
 (h:∀v' w',Made w0 w' e v' (xs++cs)→K (a.put o.dst v') w'):
 if Region.wanted o (yielded ops a.tmps)=true then Oper.wp P o a (w.alloc (.cells cs.toArray e)).drew K Q else E:=
 zQJ (w:=w.drew) b s x t d e i z bytes ht hi hz hsize hby hzs v xs hs hm.drew cs m c hx hl h1 hm0 hsz hb2 (fun v' w' h1 _=>h v' w' h1)
end
def zTD (u:List UInt16):List UInt8:=34::u.flatMap zGI
theorem zQL {u:List UInt16} (h:k < u.length):zTD (u.take (k+1))=zTD (u.take k)++zGI u[k]:=by
 unfold zTD;rw[yAK h,List.flatMap_append];simp
theorem zTE (u:List UInt16):(zTD u).length≤6*u.length+1:=by
 unfold zTD;rw[List.length_cons];have:(u.flatMap zGI).length≤6*u.length:=by
  induction u with
  | nil=>simp
  | cons x r b=>rw[List.flatMap_cons,List.length_append,List.length_cons];have:=zK9 x;omega
 omega
theorem zIN {d:Nat} (b:d < 16):∀h,(ByteArray.mk #[48,49,50,51,52,53,54,55,56,57,97,98,99,100,101,102])[d]'h=zCH d:=by
 have h:d=0∨d=1∨d=2∨d=3∨d=4∨d=5∨d=6∨d=7∨d=8∨d=9∨d=10∨d=11∨d=12∨d=13∨d=14∨d=15:=by omega
 rcases h with rfl | rfl | rfl | rfl | rfl | rfl | rfl | rfl | rfl | rfl | rfl | rfl | rfl | rfl | rfl | rfl<;>exact fun _=>rfl
theorem zVp {x:Nat} (h:x < 65536):bits .and .u16 (x:Int) 15=((x % 16:Nat):Int):=by
 have:=u16_and_nat x 15 h jo;rw[show(15:Int)=((15:Nat):Int)from rfl,this,show(15:Nat)=2^4 - 1 from rfl,Nat.and_two_pow_sub_one_eq_mod]
theorem zVq (u:List UInt16):zFg u=zTD u++[34]:=rfl
theorem zND (u:List UInt16):u8s (zTD u)++[.int .u8 34]=u8s (zFg u):=by rw[zVq];unfold u8s;rw[List.map_append];rfl
theorem zHo {A:Option Addr} {c n:Nat} {us:List UInt16} {w:World} (Q:us.length=n) (hB:B≤w.heap.size) (J:Reads w B 1 A n (zAI us)) (hl:n≤1000000):
 Calls prog 50 #[.slice A n c] w fun e w'=>e=.returned (.string ⟨(zFg us).toArray⟩)∧Below w.heap.size w w':=by
 subst Q;obtain⟨H,j,l,m,o⟩:=info_parts Tryz.info_u8;have R:=zA J;have L:=zA (Made.lit w 5 (u8s [34]) (by simp[u8s,maxLen]));clear J;go_enter func50,ntmps50;go_wp2_with fail
 go_loopg [3,9] us.length (fun r v i wr=>∃k:Nat,k+r=us.length∧i=.int .i64 k∧Hid (Made w wr 5 v (u8s (zTD (us.take k)))))
 case atStart=>exact⟨0,by omega,rfl,L.out⟩
 case round=>
  obtain⟨k,a0,rfl,p⟩:=hrel;have M:=zTE (us.take k);have N:(u8s (zTD (us.take k))).length≤6*k+1:=by rw[zFF];rw[List.length_take]at M;omega
  clear M
  by_cases D:k < us.length
  · obtain⟨ad,S,_,q⟩:=(R.out.below (p.out.below.mono hB)).u16 D;subst S;have h3:(k:Int) < (us.length:Int):=by omega
    have C:=us[k].toNat_lt;have I:=zA (zQL D);obtain⟨x,E⟩:=jx (us[k]);rw[E]at q C I;clear E
    by_cases s:32≤x.toNat∧x.toNat≤126∧x.toNat≠34∧x.toNat≠92
    · have b:=zA (show zGI x=[x.toUInt8] by unfold zGI;rw[if_pos s]);obtain⟨p1,p2,p3,p4⟩:=s;obtain⟨y,g⟩:=jx x.toNat
      have T:=zA (show u8s [x.toUInt8]=[.int .u8 (y:Int)] by rw[←g];simp[u8s,u8v];omega);rw[g]at p1 p2 p3 p4 q C;clear g;have q3:((y:Int) !=34)=true:=by simp;omega
      have q4:((y:Int) !=92)=true:=by simp;omega
      go_wp2_with (at_builtin;refine zDv rfl _ _ 115 rfl 5 H _ 1 underlying115 j l m o rfl _ _ rfl p.out [.int .u8 (y:Int)] 1 1 rfl rfl rfl jo jo ?_;intro v' w' f)
      go_roundg (gk - 1)
      all_goals first
       | omega
       | exact⟨k+1,by omega,by go_num,f.cells (by rw[I.out,b.out,←T.out];simp[u8s])⟩
    · have b:=zA (show zGI x=[92,117,zCH (x.toNat / 4096),zCH (x.toNat / 256 % 16),zCH (x.toNat / 16 % 16),zCH (x.toNat % 16)] by unfold zGI;rw[if_neg s]);obtain⟨y,g⟩:=jx x.toNat
      rw[g]at s q C b;clear g;have O:y < 65536:=C;obtain⟨d0,F⟩:=jx (y / 4096);obtain⟨d1,t⟩:=jx (y / 256 % 16);obtain⟨d2,u⟩:=jx (y / 16 % 16);obtain⟨d3,z⟩:=jx (y % 16);have e0:(y:Int) / 4096=(d0:Int):=by omega
      have e1:bits .and .u16 ((y:Int) / 256) 15=(d1:Int):=by
       rw[show(y:Int) / 256=((y / 256:Nat):Int) by omega,zVp jo,t]
      have e2:bits .and .u16 ((y:Int) / 16) 15=(d2:Int):=by
       rw[show(y:Int) / 16=((y / 16:Nat):Int) by omega,zVp jo,u]
      have e3:bits .and .u16 (y:Int) 15=(d3:Int):=by rw[zVp O,z]
      have U:d0 < 16:=by omega
      have V:d1 < 16:=by omega
      have W:d2 < 16:=by omega
      have X:d3 < 16:=by omega
      have g0:=zIN U;have g1:=zIN V;have g2:=zIN W;have g3:=zIN X;have k0:(d0:Int) < 16:=by omega
      have k1:(d1:Int) < 16:=by omega
      have k2:(d2:Int) < 16:=by omega
      have k3:(d3:Int) < 16:=by omega
      rw[F,t,u,z]at b;have Y:(¬32≤y)∨(32≤y∧¬y≤126)∨(32≤y∧y≤126∧y=34)∨(32≤y∧y≤126∧y=92):=by omega
      clear s F t u z;go_upto_region 5 with(fail)
      go_cut [9,26] (fun i cc wx=>i=.int .i64 k∧cc=.bool false∧wx=wr)
      case first=>
       rcases Y with c1 | ⟨c1,c2⟩ | ⟨c1,c2,c3⟩ | ⟨c1,c2,c4⟩
       · have b1:¬(32≤(y:Int)):=by omega
         go_wp2_with fail;go_meet;exact⟨rfl,rfl,rfl⟩
       · have b2:¬((y:Int)≤126):=by omega
         go_wp2_with fail;go_meet;exact⟨rfl,rfl,rfl⟩
       · have b3:((y:Int) !=34)=false:=by simp;omega
         clear c3;go_wp2_with fail;go_meet;exact⟨rfl,rfl,rfl⟩
       · have b3:((y:Int) !=34)=true:=by simp;omega
         have b4:((y:Int) !=92)=false:=by simp;omega
         clear c4;go_wp2_with fail;go_meet;exact⟨rfl,rfl,rfl⟩
      case rest=>
       obtain⟨rfl,rfl,rfl⟩:=hcut;go_wp2_with fail;go_region_law (refine zQK rfl _ _ 115 rfl 5 H _ 1 underlying115 j l m o rfl _ _ rfl p.out [.int .u8 92,.int .u8 117,.int .u8 ((zCH d0).toNat:Int),.int .u8 ((zCH d1).toNat:Int),.int .u8 ((zCH d2).toNat:Int),.int .u8 ((zCH d3).toNat:Int)] 6 6 rfl rfl rfl jo jo jo ?_;intro v' w' f)
       all_goals go_wp2
       all_goals go_roundg (gk - 1)
       all_goals first
        | omega
        | exact⟨k+1,by omega,by go_num,f.cells (by rw[I.out,b.out];simp[u8s,u8v])⟩
  · have P:us.take k=us:=List.take_of_length_le jo;rw[P]at p N;go_wp2_with (at_builtin;refine zDv rfl _ _ 115 rfl 5 H _ 1 underlying115 j l m o rfl _ _ rfl p.out [.int .u8 34] 1 1 rfl rfl rfl jo jo ?_;intro v' w' f;have G:Made w w' 5 v' (u8s (zFg us)):=f.cells (zND us);obtain⟨A',c',rfl,_,_,hr⟩:=G.u8;have hs:=zEU (c:=c') hr);go_ret;exact⟨rfl,G.below⟩
theorem zQM (l:List Nat):zB1 l=zEQ l:=by
 induction l with
 | nil=>rfl
 | cons x r b=>rw[zB1,zEQ,b]
def AtTxt (v0 v:Nat) (ls:List UInt8):Prop:=zBR v0=(if v=0 then []else zBR v)++ls.reverse
theorem AtTxt.start {v0:Nat} (h:v0≠0):AtTxt v0 v0 []:=by unfold AtTxt;rw[if_neg h];simp
theorem AtTxt.step {v0 v:Nat} {c:List UInt8} (h:AtTxt v0 v c) (hv:v≠0):AtTxt v0 (v / 10) (c++[chr (48+v % 10)]):=by
 unfold AtTxt at h⊢;rw[if_neg hv]at h;rw[h,List.reverse_append]
 by_cases b:v < 10
 · rw[zCY b,if_pos jo,show v % 10=v by omega];rfl
 · rw[zDE b,jn];simp
theorem AtTxt.done {v0:Nat} {b:List UInt8} (h:AtTxt v0 0 b):b.reverse=zBR v0:=by
 unfold AtTxt at h;rw[h];rfl
theorem AtTxt.len {v0 v:Nat} {b:List UInt8} (h:AtTxt v0 v b):b.length≤(zBR v0).length:=by
 unfold AtTxt at h;rw[h,List.length_append,List.length_reverse];omega
structure AtDiv (ms:List Nat) (k r:Nat) (cs:List Nat):Prop where
 len:cs.length=ms.length
 low:cs.take k=ms.take k
 rest:r≤9
 val:zB1 (ms.drop k)=10*zB1 (cs.drop k)+r
 lt:∀x∈cs,x < 4294967296
theorem AtDiv.start (h:∀x∈ms,x < 4294967296):AtDiv ms ms.length 0 ms:=⟨rfl,rfl,by omega,by rw[List.drop_length];rfl,h⟩
theorem AtDiv.get {r:Nat} (h:AtDiv ms (k+1) r cs) (hk:k < ms.length):cs[k]'(by rw[h.len];exact hk)=ms[k]:=by
 have h1:=congrArg (fun l=>l[k]?) h.low;simp only[List.getElem?_take,if_pos (yAF k)]at h1;rw[yAB (by rw[h.len];exact hk),yAB hk]at h1;exact Option.some.inj h1
theorem AtDiv.step {r:Nat} (h:AtDiv ms (k+1) r cs) (hk:k < ms.length):AtDiv ms k ((r*4294967296+ms[k]) % 10) (cs.set k ((r*4294967296+ms[k]) / 10)):=by
 have c:k < cs.length:=by rw[h.len];exact hk
 have d:ms[k] < 4294967296:=by rw[←h.get hk];exact h.lt _ (List.getElem_mem _)
 have e:=h.rest;refine⟨by simp[h.len],?_,by omega,?_,?_⟩
 · rw[List.take_set_of_le (yAC k)];have:=congrArg (List.take k) h.low;rwa [List.take_take,List.take_take,Nat.min_eq_left jo]at this
 · have hv:=h.val;rw[yAH hk,zB1,hv,List.drop_set,jn,Nat.sub_self,yAH c,List.set_cons_zero,zB1];omega
 · intro x b;rcases List.mem_or_eq_of_mem_set b with b | rfl
   · exact h.lt x b
   · omega
theorem AtDiv.done {r:Nat} (h:AtDiv ms 0 r cs):zB1 ms=10*zB1 cs+r∧r≤9:=by
 have:=h.val;simp only[List.drop_zero]at this;exact⟨this,h.rest⟩
theorem zHp (l:List Nat):zB1 (zAh l)=zB1 l:=by
 induction l with
 | nil=>rfl
 | cons x r b=>
  by_cases h:zAh r=[]∧x=0
  · rw[zAh,if_pos h,zB1,zB1];have:=zDi.1 h.1;omega
  · rw[zAh,if_neg h,zB1,zB1,b]
theorem zNE (l:List Nat):zAh (zAh l)=zAh l:=by
 induction l with
 | nil=>rfl
 | cons x r b=>
  by_cases h:zAh r=[]∧x=0
  · rw[zAh,if_pos h];rfl
  · rw[zAh,if_neg h,zAh,b,if_neg h]
theorem zQN {l:List Nat} {x:Nat} (h:x∈zAh l):x∈l:=by
 rw[zD1 l]at h;exact List.mem_of_mem_take h
theorem zNF {l:List Nat} {x:Nat} (h:l.getLast? =some x) (c:x≠0):zAh l=l:=by
 obtain⟨r,rfl⟩:∃r,l=r++[x]:=by
  have b:l≠[]:=by intro e;subst e;simp at h
  refine⟨l.dropLast,?_⟩;have h1:=List.dropLast_concat_getLast b;rw[List.getLast?_eq_some_getLast b]at h;rw[←Option.some.inj h,h1]
 exact zFP c r
end Go.Proofs.YtlnbbaehihgigaaGreatDoor
