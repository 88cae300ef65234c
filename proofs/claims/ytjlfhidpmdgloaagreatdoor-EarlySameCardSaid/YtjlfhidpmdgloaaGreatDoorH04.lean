/- Joined for the claim EarlySame: the parser, the lexer and the trees as they are walked, made short by a program of mine. -/
import Derived.Test.YtjlfhidpmdgloaaGreatDoorH03
import Derived.Test.YtjlfhidpmdgloaaGreatDoorH02
import Derived.Test.YtjlfhidpmdgloaaGreatDoorH01
import Derived.Laws.OwnMore
import Derived.Deep.AppendLies
set_option maxHeartbeats 16000000
set_option maxRecDepth 1000000
namespace Go.Proofs.YtjlfhidpmdgloaaGreatDoor
open Go.Proofs.Tryz
open Go.RowKit
variable {l:List Tr} {v:Value} {ts:List Nd} {xs ks:List Value} {n base B j:Nat} {t x:Tr} {A:jQ} {k:Int} {e:TypeId} {q:Bool}
theorem zPp {c:Nat} {w:World} (hN:NdsR w B A n ts) (hB:B≤w.heap.size) (hc:n≤c) (hl:n≤4096) (h0:0 < n) (ht:(zAR ts).length≤1000000) (hq:zCP ts=q):
 Calls prog 24 #[.agg #[.slice A n c]] w fun e w'=>e=.returned q∧jY w w':=by
 obtain⟨W,hW⟩:=jx (w.alloc (.cells #[.slice A n c] 24));have a2:jY w W:=jb hW;have h6:W.heap.size=w.heap.size+1:=by rw[←hW];simp
 have e7:=zA ((hN.below (a2.mono hB)));have b8:W.cell? w.heap.size=some (.slice A n c):=jc hW;have HQ:=zA hq;have H:=zA a2;have HT:=zA ht;have b9:=zA hN.1;have a3:=zA (zVp ts);obtain⟨i0,hi,I,J,L⟩:=info_parts Tryz.info_int;have HI:=zA (And.intro hi (And.intro I (And.intro J L)));have HB:=zA hB;clear hq a2 ht hN hi I J L;go_enter func24,ntmps24;go_upto_region 1 with(fail);have HW:=zA hW;clear hW;go_wp2_with fail
 go_loopw [3,10] (fun v i wr=>∃(k:Nat) (d:List Int),k≤n∧i=.int .i64 k∧Hid (OrdAt ts n k d)∧Hid (d.length≤(zAR (ts.take k)).length)∧Hid (OrS W wr v d)) (fun _ i _=>n - (intOf i).toNat)
 case atStart=>exact⟨0,[],yAE _,rfl,⟨by unfold zCP;rw[b9.out,if_pos rfl,List.drop_zero],fun _=>rfl⟩,yAE _,⟨yAJ _ _ _ _,Below.refl _ _⟩⟩
 case round=>
  obtain⟨k,d,hk,rfl,t,d4,M⟩:=hrel
  by_cases e8:k < n
  · have N:=M.out.below;obtain⟨b,o,x,s,rfl,h7,hx,hC,hR⟩:=(e7.out.below (N.mono jo)).get e8;obtain⟨e9,f0,f1,f2,f3,f4,f5,f6⟩:=hC;have f7:=N.size;have c0:=zA N;have c1:wr.cell? w.heap.size=some (.slice (some ⟨b,o,none⟩) n c):=(N.cell (p:=w.heap.size) (show w.heap.size < W.heap.size by omega)).trans b8;have u:=zA hx;have HR:=zA hR;have b6:=d4.out;have a4:x.kids.length≤1000000∧(x.kids++d).length≤(zAR (ts.take (k+1))).length:=by
     have h1:=a3.out (k+1);have h2:=HT.out;rw[zVo u.out,yAN]at h1⊢;rw[yAN];omega
    have g8:=a4.1;have a5:=zA a4.2;have d5:d.length≤1000000:=by have:=a3.out k;have:=HT.out;omega
    clear N hx hR a4 b6;go_upto_region 5 with(fail);obtain⟨r,C⟩:=jx (wr.alloc (.cells #[x.kind,x.name,.slice s.As x.str.length s.cs,x.nk,x.nn,x.neg,.slice s.Am x.mag.length s.cm,.slice s.Ak x.kids.length s.ck] 58));rw[C];have S:jY wr r:=jb C;have f8:r.heap.size=wr.heap.size+1:=by rw[←C];simp
    have p7:r.cell? ⟨wr.heap.size,7,none⟩=some (.slice s.Ak x.kids.length s.ck):=jc C;have a6:r.cell? w.heap.size=some (.slice (some ⟨b,o,none⟩) n c):=(S.cell (p:=w.heap.size) (show w.heap.size < wr.heap.size by omega)).trans c1;have f:=zA (show OrS W r u3 d from⟨by rw[←C];exact M.out.own.alloc _,c0.out.trans (S.mono f7)⟩);have a7:u3.ownBlock≠some wr.heap.size:=fun e=>by have:=(M.out.own.lt _ e).2;omega
    have c2:=zA (HR.out.back (c0.out.mono jo));have a8:=zA a7;clear C S a7 e9 f0 f1 f2 f3 f4 f5 f6 c1 HR M
    go_upto_if 16 with(fail)
    go_cut [3] (fun v' wx=>wx=r∧∃l,Hid (OrdIn ts n k x l)∧Hid (OrS W r v' l)∧v'.ownBlock≠some wr.heap.size∧Hid ((x.kids++l).length≤(zAR (ts.take (k+1))).length))
    case first=>
     by_cases U:k=0
     · have e0:decide ((0:Int) < (k:Int))=false:=yAI jo;have e1:decide (0 < k)=false:=yAI jo;have e2:¬0 < k:=by omega
       have O:=zA U;clear U;go_wp2_with fail;go_meet;refine⟨rfl,[],?_,?_,a8,?_⟩
       · have:=t.out;rw[O.out]at this⊢;exact(this.zero (by rw[←O.out];exact u.out)).2
       · have:=t.out;rw[O.out]at this;obtain rfl:=(this.zero (by rw[←O.out];exact u.out)).1;exact f.out
       · have:=a5.out;show(x.kids++[]).length≤_;rw[yAN]at this⊢;simp only[yBA];omega
     · have e0:decide ((0:Int) < (k:Int))=true:=yBE jo;have e1:decide (0 < k)=true:=yBE jo;have e2:0 < k:=by omega
       have O:=zA U;clear U;cases d with
       | nil=>
        obtain⟨Av,cv,rfl,_,_⟩:=zP f.out.own;have F:=zA (show false=q from by rw[←HQ.out];exact(t.out.none_ e2 u).symm);go_wp2_with fail;go_ret;exact⟨zF F,H.out.trans (f.out.below.mono jo)⟩
       | cons s0 d=>
        obtain⟨g,cv,hv,h8,j0⟩:=f.out.own.form js;subst hv;have j1:r.cell? ⟨g,d.length,none⟩=some (.int .i64 s0):=by
         rw[f.out.own.cellAt _ js];simp[zBw]
        have j2:d.length≤cv:=by
         obtain⟨_,_,e,h,_⟩:=zP f.out.own;injection e with _ _ e;subst e;simp at h;omega
        have P:(s0::d).length=d.length+1:=rfl;rw[P];have g9:d.length≤1000000:=by simp at d5;omega
        clear P
        by_cases Q:s0=(k:Int)
        · subst Q;go_wp2_with fail;go_meet;refine⟨rfl,d,t.out.pop rfl u,⟨?_,f.out.below⟩,a8,?_⟩
          · have:=zV4 f.out.own (j:=d.length) js;have e:(zBw ((↑k:Int)::d).reverse).take d.length=zBw d.reverse:=by simp[zBw]
            rwa[e]at this
          · have h9:(x.kids++((k:Int)::d)).length≤(zAR (ts.take (k+1))).length:=a5.out;rw[yAN,yAO]at h9;show(x.kids++d).length≤_;rw[yAN];omega
        · have e3:(s0==(k:Int))=false:=yA.2 Q;have e4:(s0 !=(k:Int))=true:=yBM.2 Q;have F:=zA (show false=q from by rw[←HQ.out];exact(t.out.bad Q u).symm);clear Q;go_wp2_with fail;go_ret;exact⟨zF F,H.out.trans (f.out.below.mono jo)⟩
    case rest=>
     obtain⟨rfl,l,c3,M,a9,G⟩:=hcut;have b0:(x.kids++l).length≤1000000:=by have:=G.out;have:=a3.out (k+1);have:=HT.out;omega
     have d6:=zA b0;obtain⟨X,hX⟩:=jx wr.heap.size;rw[hX]at a9 p7 f8;rw[hX];have HX:=zA hX;have d7:=zA a9;have f9:=zA p7;have j3:=zA a6;have h3:W.heap.size≤X:=by omega
     have c4:=zA c3;have b7:=zA G;clear hX b0 a9 a5 a8 c3 G;go_wp2_with fail;clear p7 a6
     go_loopw [3,6] (fun v i wr=>∃(j:Nat) (z:Int),j≤x.kids.length∧i=.int .i64 z∧z=(j:Int) - 1∧Hid (OrS W wr v (x.kids.drop j++l))∧Hid (v.ownBlock≠some X)∧Hid (zCo n k (x.kids.drop j)=true)∧wr.cell? ⟨X,7,none⟩=some (.slice s.Ak x.kids.length s.ck)∧X < wr.heap.size) (fun _ i _=>(intOf i+1).toNat)
     case atStart=>exact⟨x.kids.length,_,yAC _,rfl,rfl,by rw[yBZ];exact M.out,d7,by rw[yBZ];rfl,f9,by omega⟩
     case round=>
      obtain⟨j,z,hj,rfl,hz,D,c5,V,c6,c7⟩:=hrel;have R:=D.out.below;have h4:wr.cell? w.heap.size=some (.slice (some ⟨b,o,none⟩) n c):=(R.cell (p:=w.heap.size) (show w.heap.size < W.heap.size by omega)).trans b8;have b1:=zA R
      by_cases Y:j=0
      · obtain rfl:z= -1:=by omega
        have g0:=zA (show zCo n k x.kids=true by have:=V.out;rwa[Y]at this);have g1:=zA (show OrS W wr u3 (x.kids++l) by have:=D.out;rwa[Y]at this);clear Y R D V hz;go_wp2_with fail
        go_roundw
        case rel=>exact⟨k+1,x.kids++l,by omega,by go_num,c4.out.done g0,b7,g1⟩
        case measure=>simp[intOf];omega
      · obtain⟨m,rfl⟩:∃m,j=m+1:=⟨j - 1,by omega⟩;obtain rfl:z=(m:Int):=by omega
        obtain⟨bk,ok,b2,j4,c8⟩:=(c2.out.below (R.mono jo)).kids.spotK jo;have b3:=c8 m jo;have h5:=c2.out.ck.1;have b4:=zA (yAH (show m < x.kids.length by omega));have c9:m < x.kids.length:=by omega
        have T:Hid (¬((k:Int) < x.kids[m]∧x.kids[m] < (n:Int))→zCP ts=false):=fun hb=>c4.out.bad c9 hb;have d0:Hid ((k:Int) < x.kids[m]∧x.kids[m] < (n:Int)→zCo n k (x.kids.drop m)=true):=fun hb=>zKh V c9 hb;rw[b2]at c6;have g2:=zA b2;clear b2;obtain⟨y,hy⟩:=jx (x.kids[m]);rw[hy]at b3 b4 T d0;clear c8 hy V R Y hz
        by_cases g3:y≤(k:Int)
        · have F:=zA (show false=q from by rw[←HQ.out];exact(T.out jo).symm);go_wp2_with fail
          go_quiet (fail)
          go_wp2_with fail;go_ret;exact⟨zF F,H.out.trans ((zv b1 _).mono jo)⟩
        · have e5:decide (y≤(k:Int))=false:=yAI g3
          by_cases d1:(n:Int)≤y
          · have F:=zA (show false=q from by rw[←HQ.out];exact(T.out jo).symm);have e6:decide ((n:Int)≤y)=true:=yBE d1;go_wp2_with fail
            go_quiet (fail)
            go_wp2_with fail;go_ret;exact⟨zF F,H.out.trans ((zv b1 _).mono jo)⟩
          · have e6:decide ((n:Int)≤y)=false:=yAI d1;have d8:=zA (d0.out ⟨by omega,by omega⟩);go_wp2_with fail
            go_quiet (fail)
            obtain⟨w1,E⟩:=jx (wr.drewN nq);rw[E];have b5:w1.cell? ⟨X,7,none⟩=some (.slice (some ⟨bk,ok,none⟩) x.kids.length s.ck):=by rw[←E];exact c6
            have d9:w1.cell? ⟨bk,ok+m,none⟩=some (.int .i64 y):=by rw[←E];exact b3
            have a0:X < w1.heap.size:=by rw[←E];exact c7
            have f:=zA (show OrS W w1 u3 (x.kids.drop (m+1)++l) by rw[←E];exact⟨zM3 D.out.own _,zv D.out.below _⟩);have g4:=zA a0;have P:(x.kids.drop (m+1)++l).length+1≤1000000:=by
             have:=d6.out;rw[yAN]at this⊢;rw[yAR];omega
            have g5:=zA P;obtain⟨hi,I,J,L⟩:=HI.out;clear E b3 D b1 c7 P;go_wp2_with (at_builtin;refine zDI rfl _ _ 56 rfl W.heap.size 3 i0 (.int .i64 0) 1 8 underlying56 hi I J L rfl jd u3 _ _ rfl (by exact f.out.own) f.out.below.size [y] 1 1 rfl rfl rfl (by have:=g5.out;omega) jd ?_;intro v' w' d2 a1);have d3:=zA a1;have g6:=(a1.cell (p:=⟨X,7,none⟩) a0 c5).trans b5;have g7:X < w'.heap.size:=yAA a0 a1.size;have HO:=zA d2;clear a1 d2 b5 d9 a0 hi I J L;go_wp2_with fail
            go_roundw
            case rel=>
             refine⟨m,_,by omega,rfl,rfl,⟨?_,?_⟩,d3.out.apart g4 c5,d8,by rw[g2.out];exact g6,g7⟩
             · have e:zBw (x.kids.drop (m+1)++l).reverse++[.int .i64 y]=zBw (x.kids.drop m++l).reverse:=by rw[b4.out];simp[zBw]
               have e2:(x.kids.drop (m+1)++l).length+1=(x.kids.drop m++l).length:=by rw[b4.out];simp
               have:=HO.out;rwa[e,e2]at this
             · exact f.out.below.trans ((d3.out.below (zLa f.out.own) f.out.below.size))
            case measure=>simp[intOf]
  · obtain rfl:k=n:=by omega
    have F:=zA (show d.isEmpty=q from by rw[←HQ.out];exact(t.out.end_ b9 h0).symm);obtain⟨Av,cv,rfl,_,_⟩:=zP M.out.own;go_wp2_with fail;go_ret;refine⟨zF ?_,H.out.trans (M.out.below.mono jo)⟩;rw[←F.out];cases d<;>simp<;>omega
theorem zWe (h:(zAR ts).length≤1000000):∀x∈ts,x.kids.length≤1000000:=by
 intro x b;obtain⟨k,hk,rfl⟩:=List.getElem_of_mem b;have h1:=zVo (yAB hk);have c:=zVp ts (k+1);rw[h1,yAN]at c;omega
theorem zTI (h:ts.length=0):zI1 ts=false:=by
 have:=yCT.1 h;subst this;rfl
theorem zPq {x:Nd} (h:ts[0]? =some x):zI1 ts=(decide (ts.length≤4096)&&x.kind==1&&zCP ts&&zB0 ts 0 ts&&decide (zM2 ts≤48)):=by
 cases ts with
 | nil=>cases h
 | cons y r=>obtain rfl:y=x:=yBI h;rfl
theorem zPr {k:Nat} {x:Nd} (b:ts[k]? =some x):zB0 ts k (ts.drop k)=(!(decide (0 < k)&&x.kind==1)&&zL x&&zCz ts x&&zB0 ts (k+1) (ts.drop (k+1))):=by
 obtain⟨c,rfl⟩:=yAT.1 b;rw[yAH c];rfl
theorem zGl {c:Nat} {w:World} (hN:NdsR w B A n ts) (hB:B≤w.heap.size) (hc:n≤c) (ht:(zAR ts).length≤1000000) (J:zI1 ts=q):
 Calls prog 13 #[.agg #[.slice A n c]] w (BmP q w):=by
 have v:=hN.1
 by_cases h0:n=0
 · subst h0;rw[zTI v]at J;subst J;clear hN v ht;go_enter func13,ntmps13;go_wp2_with fail;go_ret;exact⟨rfl,by go_grown⟩
 by_cases h4:4096 < n
 · have t:=zA (show false=q by
    obtain⟨x,X⟩:∃x,ts[0]? =some x:=⟨_,yAB jo⟩;rw[←J,zPq X,v,yAI jo];rfl)
   have e1:((n:Int)==0)=false:=yA.2 jo;have e2:(4096:Int) < (n:Int):=by omega
   have e3:decide ((4096:Int) < (n:Int))=true:=yBE e2;clear hN v ht J;go_enter func13,ntmps13;go_wp2_with fail;go_ret;exact⟨zF t,by go_grown⟩
 have hl:n≤4096:=by omega
 obtain⟨b,o,x0,s0,rfl,c9,Y,a7,b5⟩:=hN.get (i:=0) jo;have M:w.cell? ⟨b,o,none⟩=some (.int .i64 x0.kind):=by have:=a7.k0;rwa[Nat.zero_mul,Nat.add_zero]at this
 have e1:((n:Int)==0)=false:=yA.2 jo;have e2:¬(4096:Int) < (n:Int):=by omega
 have e3:decide ((4096:Int) < (n:Int))=false:=yAI e2;rw[zPq Y,v,yBE hl,yC]at J;obtain⟨W,hW⟩:=jx (w.alloc (.cells #[.slice (some ⟨b,o,none⟩) n c] 24));have N:jY w W:=jb hW;have a8:w.heap.size < W.heap.size:=by rw[←hW];simp
 have a9:W.cell? w.heap.size=some (.slice (some ⟨b,o,none⟩) n c):=jc hW;have g:W.cell? ⟨b,o,none⟩=some (.int .i64 x0.kind):=(N.cell (p:=⟨b,o,none⟩) (show b < w.heap.size by omega)).trans M;have u:=zA N;have HN:=zA hN;have O:=zA (hN.below (N.mono hB));have G:=zA hB;have HT:=zA ht;have b6:=zA v;have d0:=zA Y;have HQ:=zA J;clear Y a7 b5 M N hN hB ht v J;go_enter func13,ntmps13;go_upto_region 1 with(fail);have HW:=zA hW;clear hW;obtain⟨K,hK⟩:=jx x0.kind;rw[hK]at g;have HK:=zA hK;clear hK
 by_cases P:K=1
 · subst P;have b7:((1:Int) !=1)=false:=rfl;obtain⟨oq,a0⟩:=jx (zCP ts);have CO:=zA (zPp O (by have:=G.out;omega) hc hl jo HT a0);have a1:=zA a0;clear a0;cases oq with
   | false=>
    have t:=zA (show false=q by rw[←HQ.out,a1.out];simp);go_wp2_with (go_at_call 24;refine CO.out.mono ?_;rintro e2 w2 ⟨rfl,H⟩);go_ret;exact⟨zF t,u.out.trans (H.mono jo)⟩
   | true=>
    have b0:=zA (zGe a1);have b8:=zA (show(zB0 ts 0 ts&&decide (zM2 ts≤48))=q by rw[←HQ.out,HK.out,a1.out];rfl);have b1:=zA (zWe HT);go_upto_region 4 with(go_at_call 24;refine CO.out.mono ?_;rintro e2 w2 ⟨rfl,H⟩;have C:=(H.cell (p:=w.heap.size) a8).trans a9);have b9:=zA H;obtain⟨eq,a2⟩:=jx (zB0 ts 0 ts);obtain⟨nd,a3⟩:=jx (zM2 ts);have c0:=zA a2;have c1:=zA a3;have Q:=zA (show(eq&&decide (nd≤48))=q by rw[←b8.out,a2,a3]);clear H C g a2 a3
    go_loopw [30] (fun i wr=>∃k:Nat,k≤n∧i=.int .i64 k∧Hid (zB0 ts k (ts.drop k)=eq)∧Hid (jY W wr)) (fun i _=>n - (intOf i).toNat)
    case atStart=>exact⟨0,yAE _,rfl,by rw[List.drop_zero];exact c0.out,b9⟩
    case round=>
     obtain⟨k,hk,rfl,R,j⟩:=hrel;have C:=(j.out.cell (p:=w.heap.size) a8).trans a9;have y:=j.out.size
     by_cases c2:k < n
     · obtain⟨b',o',x,s,hA,_,X,hC,hR⟩:=(O.out.below (j.out.mono (by have:=G.out;omega))).get c2;injection hA with hA;injection hA with hA1 hA2;subst hA1 hA2;obtain⟨c4,d1,d2,d3,d4,d5,d6,d7⟩:=hC;have r:=R.out;rw[zPr X]at r;obtain⟨fv,a4⟩:=jx (zL x);obtain⟨kv,a5⟩:=jx (zCz ts x);have L:=zA (zNP hR (by have:=G.out;omega) a4);have CK:=zA (fun(w3:World) (d:jY wr w3)=>zTH (c:=c) ((O.out.below (j.out.mono (by have:=G.out;omega))).below (d.mono (by have:=G.out;omega))) (yAD (show B≤wr.heap.size by have:=G.out;omega) d.size) b0 b1 X a5);rw[a4,a5]at r;obtain⟨I,S⟩:=jx x.kind;rw[S]at c4 r;have d8:=zA S;have F:=zA r;have HX:=zA X;have T:w.heap.size < wr.heap.size:=by omega
       rw[S]at L;clear X hR a4 a5 r S R
       by_cases f:0 < k∧I=1
       · have l:(0:Int) < (k:Int):=by omega
         have D:decide ((0:Int) < (k:Int))=true:=yBE l;have E:decide (0 < k)=true:=yBE f.1;have d9:=f.1;have U:(I==1)=true:=by rw[f.2];rfl
         have t:=zA (show false=q by
          rw[←Q.out,←F.out,yBE f.1,U];rfl)
         clear f;go_wp2_with fail;go_ret;exact⟨zF t,u.out.trans (j.out.mono jo)⟩
       · have m:(decide (0 < k)&&I==1)=false:=by
          cases h1:decide (0 < k)with
          | false=>rfl
          | true=>exact yA.2 (fun e=>f ⟨yBF h1,e⟩)
         have HG:=zA m;cases fv with
         | false=>
          have t:=zA (show false=q by rw[←Q.out,←F.out];simp)
          by_cases g:0 < k
          · have l:(0:Int) < (k:Int):=by omega
            have D:decide ((0:Int) < (k:Int))=true:=yBE l;have E:decide (0 < k)=true:=yBE g;have U:(I==1)=false:=yA.2 (fun e=>f ⟨g,e⟩);clear f m;go_wp2_with (go_at_call 25;refine L.out.mono ?_;rintro e3 w3 ⟨rfl,d⟩);go_ret;exact⟨zF t,u.out.trans ((j.out.trans (d.mono y)).mono jo)⟩
          · have l:¬(0:Int) < (k:Int):=by omega
            have D:decide ((0:Int) < (k:Int))=false:=yAI l;have E:decide (0 < k)=false:=yAI g;clear f m;go_wp2_with (go_at_call 25;refine L.out.mono ?_;rintro e3 w3 ⟨rfl,d⟩);go_ret;exact⟨zF t,u.out.trans ((j.out.trans (d.mono y)).mono jo)⟩
         | true=>
          have b2:=zA (show(kv&&zB0 ts (k+1) (ts.drop (k+1)))=eq by rw[←F.out,HG.out];rfl);cases kv with
          | false=>
           have t:=zA (show false=q by rw[←Q.out,←b2.out];rfl)
           by_cases g:0 < k
           · have l:(0:Int) < (k:Int):=by omega
             have D:decide ((0:Int) < (k:Int))=true:=yBE l;have E:decide (0 < k)=true:=yBE g;have U:(I==1)=false:=yA.2 (fun e=>f ⟨g,e⟩);clear f m;go_wp2_with (first | (go_at_call 25;refine L.out.mono ?_;rintro e3 w3 ⟨rfl,d⟩;have V:=(d.cell (p:=w.heap.size) T).trans C) | (go_at_call 26;refine(CK.out w3 d).mono ?_;rintro e4 w4 ⟨rfl,z⟩));go_ret;exact⟨zF t,u.out.trans ((j.out.trans ((d.trans (z.mono d.size)).mono y)).mono jo)⟩
           · have l:¬(0:Int) < (k:Int):=by omega
             have D:decide ((0:Int) < (k:Int))=false:=yAI l;have E:decide (0 < k)=false:=yAI g;clear f m;go_wp2_with (first | (go_at_call 25;refine L.out.mono ?_;rintro e3 w3 ⟨rfl,d⟩;have V:=(d.cell (p:=w.heap.size) T).trans C) | (go_at_call 26;refine(CK.out w3 d).mono ?_;rintro e4 w4 ⟨rfl,z⟩));go_ret;exact⟨zF t,u.out.trans ((j.out.trans ((d.trans (z.mono d.size)).mono y)).mono jo)⟩
          | true=>
           have b3:=zA (show zB0 ts (k+1) (ts.drop (k+1))=eq from b2.out)
           by_cases g:0 < k
           · have l:(0:Int) < (k:Int):=by omega
             have D:decide ((0:Int) < (k:Int))=true:=yBE l;have E:decide (0 < k)=true:=yBE g;have U:(I==1)=false:=yA.2 (fun e=>f ⟨g,e⟩);clear f m;go_wp2_with (first | (go_at_call 25;refine L.out.mono ?_;rintro e3 w3 ⟨rfl,d⟩;have V:=(d.cell (p:=w.heap.size) T).trans C) | (go_at_call 26;refine(CK.out w3 d).mono ?_;rintro e4 w4 ⟨rfl,z⟩))
             go_roundw
             case rel=>exact⟨k+1,by omega,by go_num,b3,j.out.trans ((d.trans (z.mono d.size)).mono y)⟩
             case measure=>simp[intOf];omega
           · have l:¬(0:Int) < (k:Int):=by omega
             have D:decide ((0:Int) < (k:Int))=false:=yAI l;have E:decide (0 < k)=false:=yAI g;clear f m;go_wp2_with (first | (go_at_call 25;refine L.out.mono ?_;rintro e3 w3 ⟨rfl,d⟩;have V:=(d.cell (p:=w.heap.size) T).trans C) | (go_at_call 26;refine(CK.out w3 d).mono ?_;rintro e4 w4 ⟨rfl,z⟩))
             go_roundw
             case rel=>exact⟨k+1,by omega,by go_num,b3,j.out.trans ((d.trans (z.mono d.size)).mono y)⟩
             case measure=>simp[intOf];omega
     · obtain rfl:n=k:=by omega
       have b4:=zA (show true=eq by
        rw[←R.out,yCA (by rw[b6.out];omega)];rfl)
       obtain⟨dl,a6⟩:=jx (zKV ts);have CD:=zA (zL4 (c:=c) (O.out.below (j.out.mono (by have:=G.out;omega))) (by have:=G.out;omega) jo hl b0 b1 a6);have c5:=zA (show zGN dl=nd by rw[←a6];exact c1.out);have c6:=zA (show decide (nd≤48)=q by rw[←Q.out,←b4.out];rfl);clear a6 R;go_wp2_with (first | (go_at_call 19;refine CD.out.mono ?_;rintro e3 w3 ⟨A3,c3,rfl,c7,V,c8,d⟩) | (go_at_call 18;refine(zPZ c7 jo jo c8 c5.out).mono ?_;rintro e4 w4 ⟨rfl,rfl⟩));go_ret;refine⟨zF ?_,u.out.trans ((j.out.trans (d.mono y)).mono jo)⟩;rw[←c6.out,yBJ];simp
       try omega
 · have b7:(K !=1)=true:=yBM.2 P;have t:=zA (show false=q by rw[←HQ.out,HK.out,yA.2 P];rfl);clear P;go_wp2_with fail;go_ret;exact⟨zF t,u⟩
mutual
theorem ekidsT (n:Nat) (t:Tr):(zAR (flatT n t)).length+1=t.size:=by
 cases t with
 | mk x l=>
  rw[zAz,zCr,yAN,zBV,zAk];have:=ekidsL (n+1) l;omega
theorem ekidsL (n:Nat) (l:List Tr):l.length+(zAR (flatL n l)).length=sizes l:=by
 cases l with
 | nil=>rw[zA0,zo];rfl
 | cons t r=>
  rw[zAP,zDM,yAN,zY,yAO];have:=ekidsT n t;have:=ekidsL (n+t.size) r;omega
end
theorem zPs:∀(ts:List Nd),∀x∈ts,x.kids.length≤(zAR ts).length:=by
 intro ts
 induction ts with
 | nil=>intro x b;cases b
 | cons y r c=>
  intro x b;rw[zCr,yAN];rcases yAW.1 b with rfl | h
  · omega
  · have:=c x h;omega
theorem zKi (h:zI1 ts=true):EOk ts∧0 < ts.length∧(zAR ts).length≤4096∧knK ts 0=1:=by
 obtain⟨t,m⟩:=zLl h;have hk:(zAR ts).length+1=ts.length:=by
  have:=ekidsT 0 t;rw[←m.flat]at this;have k:=flatT_len 0 t;rw[←m.flat]at k;omega
 have l:=m.len;refine⟨⟨?_,l,fun x b=>?_,fun x b d=>?_⟩,by omega,by omega,?_⟩
 · rw[m.flat];exact zGe (zFQ t)
 · have:=zPs ts x b;omega
 · have c:=zLm (zLn m.each b).2;intro e;rw[e]at c;rcases d with f | g
   · have:=c.four f;simp at this
   · have:=c.one (.inr (.inr (.inr (.inr (.inr (.inr (.inl g)))))));simp at this
 · have b:=zD2 0 t;rw[←m.flat]at b;have o:ts[0]? =some (t.laid 0):=by
    cases ts with
    | nil=>cases b
    | cons a r=>simpa using b
   have:=zBX (j:=0) o;unfold knK;rw[show((0:Int))=((0:Nat):Int)from rfl,this,zBr];exact m.kind
theorem zZG (h:EOk ts):UpOk (upN ts):=by
 refine zWF (fun m c k hk=>?_) _ (yAC _);have b:=yAB c;rw[zBX b]at hk;exact(h.fwd m _ b k hk).1
theorem zKj {c:Nat} {w:World} (hN:NdsR w B A n ts) (hB:B≤w.heap.size) (hc:n≤c) (hk:(zAR ts).length≤1000000):
 Calls prog 8 #[.agg #[.slice A n c]] w fun e w'=>e=.returned (.tuple #[((chN ts).1:Int),((chN ts).2:Int)])∧jY w w':=by
 obtain⟨W,v⟩:=jx (w.alloc (.cells #[.slice A n c] 24));have R:jY w W:=jb v;have sW:W.heap.size=w.heap.size+1:=by rw[←v];simp
 obtain⟨X,U⟩:=jx w.heap.size;have a0:W.cell? X=some (.slice A n c):=by rw[←v,←U,yBR _ _ _ _ rfl];rfl
 have D:X < W.heap.size:=by omega
 have E:=zA a0;have F:=zA (hN.below (R.mono hB));have j:=zA hN.1;have o:B≤W.heap.size:=by omega
 have b:=zA R;obtain⟨q,y⟩:=jx (zI1 ts);have V:=zA (zGl (w:=W) F o hc hk y);have S:=zA y;clear hN hB R sW hk y;go_enter func8,ntmps8;go_upto_region 1 with(fail);clear v U;go_wp2_with fail;refine V.out.mono ?_;rintro e1 w1 ⟨rfl,d⟩;have G:=zA d;have a1:=(d.cell (p:=X) D).trans E;have H:=zA a1;have I:X < w1.heap.size:=yAA D d.size;have r:=zA (F.out.below (d.mono o));have s:B≤w1.heap.size:=yAD o d.size;clear d a0 E V;cases q with
 | false=>
  have T:=zA (show chN ts=(0,2) by unfold chN;rw[if_neg (by rw[S.out];decide)]);go_wp2_with fail
  go_ret2
  exact⟨by rw[T.out];rfl,b.out.trans (G.out.mono b.out.size)⟩
 | true=>
  obtain⟨C,Y,_,J⟩:=zKi S;rw[j.out]at Y;have HE:=zA C;have a4:=zA J;have b0:n≤4096:=by rw[←j.out];exact C.len
  have CU:=zA (zWT (c:=c) (w:=w1) r s Y C);have T:=zA (show chN ts=zYF ts (upN ts) n 0 by unfold chN;rw[if_pos S.out,j.out]);clear C J;go_wp2_with fail;refine CU.out.mono ?_;rintro e2 w2 ⟨g,rfl,L,f⟩;have M:=zA (zBM G f);have a2:=(f.cell (p:=X) I).trans H;have a5:=zA a2;have a6:X < w2.heap.size:=yAA I f.size;have a7:=zA (r.out.below (f.mono s));have N:B≤w2.heap.size:=yAD s f.size;have CW:=zA (fun(wx:World) (hb:jY w2 wx) (m:Nat) (hm:m < n)=>zWS (c:=c) (cu:=n) (w:=wx) ((a7.out.below (hb.mono N)).more (yAD N hb.size)) (yAC _) HE ((L.below hb).more hb.size) (by rw[zWD,j.out]) (zZG HE) hm (fun h7=>by
   rcases yCN m with h | h
   · subst h;have:=a4.out;rw[show((0:Nat):Int)=0 from rfl,this]at h7;cases h7
   · exact h))
  have a8:=zA (Below.refl w2.heap.size w2);clear f L a1 H CU r;go_wp2_with fail
  go_loopw [14] (fun i wr=>∃q:Nat,q≤n∧i=.int .i64 (q:Int)∧Hid (chN ts=zYF ts (upN ts) (n - q) q)∧Hid (jY w2 wr)) (fun i _=>n - (intOf i).toNat)
  case atStart=>exact⟨0,yAE _,rfl,T,a8⟩
  case round=>
   clear a2;obtain⟨q,y,rfl,t,k⟩:=hrel;have a3:=(k.out.cell (p:=X) a6).trans a5
   by_cases a9:q < n
   · have CK:=zA (CW.out wr k q a9);have l:=t.out;rw[show n - q=(n - (q+1))+1 by omega,zYF]at l;obtain⟨bq,O⟩:=jx (wrN ts (upN ts) (q:Int));rw[O]at CK l;have HC:=zA l;clear l O t;go_wp2_with fail;refine CK.out.mono ?_;rintro e4 w4 ⟨rfl,P⟩;have Q:=zA (zBM k P);clear P;cases bq with
     | true=>
      have u:=zA (HC.out.trans (if_pos rfl));go_wp2_with fail
      go_ret2
      exact⟨by rw[u.out];rfl,b.out.trans ((zBM M Q).mono b.out.size)⟩
     | false=>
      have u:=zA (HC.out.trans (ji));go_wp2_with fail
      go_roundw
      case rel=>exact⟨q+1,by omega,by go_num,u,Q⟩
      case measure=>simp[intOf];omega
   · obtain rfl:q=n:=by omega
     have u:=zA (show chN ts=(0,0) by rw[t.out,yCS];rfl);go_wp2_with fail
     go_ret2
     exact⟨by rw[u.out];rfl,b.out.trans ((zBM M k).mono b.out.size)⟩
structure Ps where
 k:Nat
 bad:Nat
 far:Nat
deriving DecidableEq
def zH (L:List Tok) (i:Nat):Tok:=L.getD i zh
def zAm (L:List Tok) (k j:Nat):Tok:=zH L (k+j)
def isT (t:Tok) (w:jE):Bool:=decide (t.text=w)&&(t.kind==5 || t.kind==6)
def onP (L:List Tok) (w:jE) (s:Ps):Bool:=isT (zH L s.k) w
def zB (s:Ps):Ps:={s with k:=s.k+1}
def zC8 (L:List Tok) (e:Nat) (s:Ps):Ps:=⟨L.length - 1,if s.bad=0 then e else s.bad,if s.bad=0 then s.k else s.far⟩
def zb (L:List Tok) (s:Ps):Ps:=zC8 L (if(zH L s.k).kind=6∧zCS (zH L s.k).text=2 then 6 else 5) s
def zO (L:List Tok) (w:jE) (s:Ps):Ps:=if onP L w s=true then zB s else zb L s
def ze (L:List Tok) (s:Ps):jE×Ps:=if(zH L s.k).kind=1 then((zH L s.k).text,zB s)else([],zb L s)
def zDm (L:List Tok) (s:Ps):Bool:=(zH L s.k).nl || (zH L s.k).kind==0 || onP L [59] s || onP L [125] s
def zEK (L:List Tok) (s:Ps):Ps:=if onP L [59] s=true then zB s else if(onP L [125] s || (zH L s.k).kind==0 || (zH L s.k).nl)=true then s else zb L s
def trK (k:Int) (l:List Tr):Tr:=.mk {zB6 with kind:=k} l
def trN (k:Int) (n:jE) (l:List Tr):Tr:=.mk {zB6 with kind:=k,name:=n} l
def zEQ (L:List Tok):Nat→Nat→Option Nat
 | 0,_=>none
 | f+1,i=>if(zH L i).kind=1 then(if isT (zH L (i+1)) [44]=true then zEQ L f (i+2)else some (i+1))else none
def zBs (L:List Tok) (i:Nat):Bool:=isT (zH L i) [41]&&isT (zH L (i+1)) [61,62]
def zAb (L:List Tok) (s:Ps):Bool:=
 onP L [40] s&&(if isT (zH L (s.k+1)) [41]=true then zBs L (s.k+1)else match zEQ L L.length (s.k+1)with | none=>false | some i=>zBs L i)
def zE0 (w:jE):Nat:=
 if w=[124]then 0 else if w=[94]then 1 else if w=[38]then 2
 else if w=[61,61]∨w=[33,61]∨w=[61,61,61]∨w=[33,61,61]then 3
 else if w=[60]∨w=[62]∨w=[60,61]∨w=[62,61]∨w=[105,110]then 4
 else if w=[60,60]∨w=[62,62]∨w=[62,62,62]then 5
 else if w=[43]∨w=[45]then 6
 else if w=[42]∨w=[47]∨w=[37]then 7 else 9
def zBJ (t:Tok):Nat:=if t.kind=5∨isT t [105,110]=true then zE0 t.text else 9
inductive Ph where
 | program (acc:List Tr)
 | block
 | blockL (acc:List Tr)
 | item
 | declares
 | declL (k:Int) (acc:List Tr)
 | func (k:Int) (n:jE)
 | params
 | paramL (acc:List Tr)
 | statement
 | simple
 | word (w:jE)
 | within
 | clause (w:jE)
 | loop
 | jump (k:Int)
 | tries
 | assign
 | body (l:List Tr)
 | cond
 | either
 | nullL (x:Tr)
 | orL (x:Tr)
 | both (x:Tr)
 | level (n:Nat)
 | levelL (n:Nat) (x:Tr)
 | unary
 | calls
 | callsL (x:Tr)
 | head
 | headL (x:Tr)
 | args
 | list (w:jE)
 | listL (w:jE) (acc:List Tr)
 | primary
 | object
 | objL (acc:List Tr)
 | prop
def zBS (t:Tok):Option jH:=
 if t.kind=4 then some t.str else if t.kind=2 then some (zV (zBQ t.nn.toNat))else if t.kind=1∨t.kind=6 then some (zV t.text)else none
def zD (L:List Tok) (R:Ph→Ps→Tr×Ps) (p:Ph) (s:Ps):Tr×Ps:=
 match p with
 | .program acc=>if(zH L s.k).kind=0 then(trK 1 acc,s)else R (.program (acc++[(R .item s).1])) (R .item s).2
 | .block=>R (.blockL []) (zO L [123] s)
 | .blockL acc=>
  if s.bad≠0 then(trK 4 acc,s)else if onP L [125] s=true then(trK 4 acc,zB s)
  else R (.blockL (acc++[(R .item s).1])) (R .item s).2
 | .item=>
  if(onP L [108,101,116] s || onP L [99,111,110,115,116] s)=true then((R .declares s).1,zEK L (R .declares s).2)
  else if onP L [102,117,110,99,116,105,111,110] s=true then R (.func 19 (ze L (zB s)).1) (ze L (zB s)).2
  else R .statement s
 | .declares=>if onP L [99,111,110,115,116] s=true then R (.declL 6 []) (zB s)else R (.declL 5 []) (zO L [108,101,116] s)
 | .declL k acc=>
  let n:=ze L s
  let d:=if onP L [61] n.2=true then(trN 7 n.1 [(R .assign (zB n.2)).1],(R .assign (zB n.2)).2)else(trN 7 n.1 [],n.2)
  if d.2.bad≠0 then(trK k (acc++[d.1]),d.2)else if onP L [44] d.2=true then R (.declL k (acc++[d.1])) (zB d.2)else(trK k (acc++[d.1]),d.2)
 | .func k n=>
  let ps:=R .params s
  let b:=R .block ps.2
  (trN k n (ps.1.subs++[b.1]),b.2)
 | .params=>
  let s1:=zO L [40] s
  if onP L [41] s1=true then(trK 0 [],zB s1)else R (.paramL []) s1
 | .paramL acc=>
  let n:=ze L s
  let a:=acc++[trN 20 n.1 []]
  if n.2.bad≠0 then(trK 0 a,n.2)else if onP L [41] n.2=true then(trK 0 a,zB n.2)else R (.paramL a) (zO L [44] n.2)
 | .statement=>
  let t:=zH L s.k
  if t.kind=1∧isT (zAm L s.k 1) [58]=true then(trN 18 t.text [(R .statement (zB (zB s))).1],(R .statement (zB (zB s))).2)
  else if t.kind=6 then R (.word t.text) s
  else if onP L [59] s=true then(trK 2 [],zB s)
  else if onP L [123] s=true then R .block s
  else R .simple s
 | .simple=>(trK 3 [(R .assign s).1],zEK L (R .assign s).2)
 | .word w=>
  if w=[105,102]then
   let e:=R .within (zB s)
   let b:=R .statement e.2
   if onP L [101,108,115,101] b.2=true then(trK 8 [e.1,b.1,(R .statement (zB b.2)).1],(R .statement (zB b.2)).2)else(trK 8 [e.1,b.1],b.2)
  else if w=[119,104,105,108,101]then
   let e:=R .within (zB s)
   let b:=R .statement e.2
   (trK 9 [e.1,b.1],b.2)
  else if w=[102,111,114]then R .loop s
  else if w=[98,114,101,97,107]then R (.jump 12) s
  else if w=[99,111,110,116,105,110,117,101]then R (.jump 13) s
  else if w=[114,101,116,117,114,110]then
   (if zDm L (zB s)=true then(trK 14 [],zEK L (zB s))else(trK 14 [(R .assign (zB s)).1],zEK L (R .assign (zB s)).2))
  else if w=[116,104,114,111,119]then
   let s1:=if(zH L (zB s).k).nl=true then zb L (zB s)else zB s
   (trK 15 [(R .assign s1).1],zEK L (R .assign s1).2)
  else if w=[116,114,121]then R .tries s
  else if w=[102,117,110,99,116,105,111,110]∨w=[108,101,116]∨w=[99,111,110,115,116]then(trK 2 [],zb L s)
  else R .simple s
 | .within=>((R .assign (zO L [40] s)).1,zO L [41] (R .assign (zO L [40] s)).2)
 | .clause w=>if onP L w s=true then(trK 11 [],zO L w s)else((R .assign s).1,zO L w (R .assign s).2)
 | .loop=>
  let s1:=zO L [40] (zB s)
  let a:=if(onP L [108,101,116] s1 || onP L [99,111,110,115,116] s1)=true then((R .declares s1).1,zO L [59] (R .declares s1).2)else R (.clause [59]) s1
  let b:=R (.clause [59]) a.2
  let c:=R (.clause [41]) b.2
  let d:=R .statement c.2
  (trK 10 [a.1,b.1,c.1,d.1],d.2)
 | .jump k=>
  if(zH L (zB s).k).kind=1∧(zH L (zB s).k).nl=false then(trN k (ze L (zB s)).1 [],zEK L (ze L (zB s)).2)
  else(trK k [],zEK L (zB s))
 | .tries=>
  let b:=R .block (zB s)
  let s1:=if(onP L [99,97,116,99,104] b.2 || onP L [102,105,110,97,108,108,121] b.2)=true then b.2 else zb L b.2
  let c:=if onP L [99,97,116,99,104] s1=true then
   (let n:=if onP L [40] (zB s1)=true then((ze L (zB (zB s1))).1,zO L [41] (ze L (zB (zB s1))).2)else([],zB s1)
    (trN 17 n.1 [(R .block n.2).1],(R .block n.2).2))
   else(trK 11 [],s1)
  if onP L [102,105,110,97,108,108,121] c.2=true then(trK 16 [b.1,c.1,(R .block (zB c.2)).1],(R .block (zB c.2)).2)else(trK 16 [b.1,c.1,trK 11 []],c.2)
 | .assign=>
  let t:=zH L s.k
  if t.kind=1∧isT (zAm L s.k 1) [61,62]=true∧(zAm L s.k 1).nl=false then R (.body [trN 20 t.text []]) (zB s)
  else if zAb L s=true then R (.body (R .params s).1.subs) (R .params s).2
  else
   let x:=R .cond s
   let o:=zH L x.2.k
   if o.kind≠5∨¬o.text∈zKO then x
   else if zAN x.1.nd.kind=false then(x.1,zC8 L 5 x.2)
   else(trN 49 o.text [x.1,(R .assign (zB x.2)).1],(R .assign (zB x.2)).2)
 | .body l=>
  let s1:=zO L [61,62] (if(zH L s.k).nl=true then zb L s else s)
  let b:=if onP L [123] s1=true then R .block s1 else R .assign s1
  (trK 42 (l++[b.1]),b.2)
 | .cond=>
  let x:=R .either s
  if onP L [63] x.2=true then
   let a:=R .assign (zB x.2)
   let b:=R .assign (zO L [58] a.2)
   (trK 48 [x.1,a.1,b.1],b.2)
  else x
 | .either=>
  let x:=R (.level 0) s
  if onP L [63,63] x.2=true then
   let r:=R (.nullL x.1) x.2
   (r.1,if(onP L [124,124] r.2 || onP L [38,38] r.2)=true then zb L r.2 else r.2)
  else
   let y:=R (.both x.1) x.2
   let r:=R (.orL y.1) y.2
   (r.1,if onP L [63,63] r.2=true then zb L r.2 else r.2)
 | .nullL x=>if onP L [63,63] s=true then R (.nullL (trN 47 [63,63] [x,(R (.level 0) (zB s)).1])) (R (.level 0) (zB s)).2 else(x,s)
 | .orL x=>
  if onP L [124,124] s=true then
   let y:=R (.level 0) (zB s)
   let z:=R (.both y.1) y.2
   R (.orL (trN 47 [124,124] [x,z.1])) z.2
  else(x,s)
 | .both x=>if onP L [38,38] s=true then R (.both (trN 47 [38,38] [x,(R (.level 0) (zB s)).1])) (R (.level 0) (zB s)).2 else(x,s)
 | .level n=>
  if n=8 then R .unary s else R (.levelL n (R (.level (n+1)) s).1) (R (.level (n+1)) s).2
 | .levelL n x=>
  if zBJ (zH L s.k)=n then R (.levelL n (trN 46 (zH L s.k).text [x,(R (.level (n+1)) (zB s)).1])) (R (.level (n+1)) (zB s)).2 else(x,s)
 | .unary=>
  let t:=zH L s.k
  if(t.kind=5∨t.kind=6)∧t.text∈zHe then(trN 43 t.text [(R .unary (zB s)).1],(R .unary (zB s)).2)
  else if(t.kind=5∨t.kind=6)∧t.text∈zDa then
   let r:=R .unary (zB s)
   (trN 44 t.text [r.1],if r.2.bad=0∧zAN r.1.nd.kind=false then zb L r.2 else r.2)
  else
   let x:=R .calls s
   let o:=zH L x.2.k
   if o.kind=5∧o.text∈zDa∧o.nl=false then(if zAN x.1.nd.kind=false then(x.1,zb L x.2)else(trN 45 o.text [x.1],zB x.2))else x
 | .calls=>R (.callsL (R .head s).1) (R .head s).2
 | .callsL x=>
  if onP L [40] s=true then R (.callsL (trK 50 (x::(R .args s).1.subs))) (R .args s).2
  else if onP L [46] s=true then
   (if(zH L (zB s).k).kind≠1∧(zH L (zB s).k).kind≠6 then(x,zb L (zB s))else R (.callsL (trN 52 (zH L (zB s).k).text [x])) (zB (zB s)))
  else if onP L [91] s=true then R (.callsL (trK 53 [x,(R .assign (zB s)).1])) (zO L [93] (R .assign (zB s)).2)
  else(x,s)
 | .head=>
  if onP L [110,101,119] s=true then
   let x:=R .head (zB s)
   let y:=R (.headL x.1) x.2
   if onP L [40] y.2=true then(trK 51 (y.1::(R .args y.2).1.subs),(R .args y.2).2)else(trK 51 [y.1],y.2)
  else R .primary s
 | .headL x=>
  if onP L [46] s=true then
   (if(zH L (zB s).k).kind≠1∧(zH L (zB s).k).kind≠6 then(x,zb L (zB s))else R (.headL (trN 52 (zH L (zB s).k).text [x])) (zB (zB s)))
  else if onP L [91] s=true then R (.headL (trK 53 [x,(R .assign (zB s)).1])) (zO L [93] (R .assign (zB s)).2)
  else(x,s)
 | .args=>R (.list [41]) (zO L [40] s)
 | .list w=>if onP L w s=true then(trK 0 [],zB s)else R (.listL w []) s
 | .listL w acc=>
  let a:=R .assign s
  if a.2.bad≠0 then(trK 0 (acc++[a.1]),a.2)else if onP L w a.2=true then(trK 0 (acc++[a.1]),zB a.2)else R (.listL w (acc++[a.1])) (zO L [44] a.2)
 | .primary=>
  let t:=zH L s.k
  if t.kind=0 then(trK 0 [],zb L s)
  else if t.kind=2 then(.mk {zB6 with kind:=30,nk:=t.nk,nn:=t.nn} [],zB s)
  else if t.kind=3 then(.mk {zB6 with kind:=31,mag:=t.mag} [],zB s)
  else if t.kind=4 then(.mk {zB6 with kind:=32,str:=t.str} [],zB s)
  else if t.kind=1 then(trN 33 t.text [],zB s)
  else if t.text=[116,114,117,101]then(trK 34 [],zB s)
  else if t.text=[102,97,108,115,101]then(trK 35 [],zB s)
  else if t.text=[110,117,108,108]then(trK 36 [],zB s)
  else if t.text=[116,104,105,115]then(trK 37 [],zB s)
  else if t.text=[91]then(trK 38 (R (.list [93]) (zB s)).1.subs,(R (.list [93]) (zB s)).2)
  else if t.text=[123]then R .object (zB s)
  else if t.text=[102,117,110,99,116,105,111,110]then
   (if(zH L (zB s).k).kind=1 then R (.func 41 (ze L (zB s)).1) (ze L (zB s)).2 else R (.func 41 []) (zB s))
  else if t.text=[40]then((R .assign (zB s)).1,zO L [41] (R .assign (zB s)).2)
  else(trK 0 [],if(onP L [47] s || onP L [47,61] s)=true then zC8 L 6 s else zb L s)
 | .object=>if onP L [125] s=true then(trK 39 [],zB s)else R (.objL []) s
 | .objL acc=>
  let a:=R .prop s
  if a.2.bad≠0 then(trK 39 (acc++[a.1]),a.2)else if onP L [125] a.2=true then(trK 39 (acc++[a.1]),zB a.2)else R (.objL (acc++[a.1])) (zO L [44] a.2)
 | .prop=>
  let t:=zH L s.k
  match zBS t with
  | none=>(trK 40 [],zb L s)
  | some u=>
   if t.kind=1∧onP L [58] (zB s)=false then(.mk {zB6 with kind:=40,str:=u} [trN 33 t.text []],zB s)
   else(.mk {zB6 with kind:=40,str:=u} [(R .assign (zO L [58] (zB s))).1],(R .assign (zO L [58] (zB s))).2)
def zHK (L:List Tok):Nat→Ph→Ps→Tr×Ps
 | 0,_,s=>(trK 0 [],zC8 L 99 s)
 | f+1,p,s=>zD L (zHK L f) p s
def zAa:Ph→Ps→Nat
 | .program _,_=>60
 | .blockL _,s=>if s.bad≠0 then 0 else 60
 | .item,_=>58
 | .declares,_=>57
 | .declL _ _,_=>56
 | .statement,_=>57
 | .word _,_=>56
 | .func _ _,_=>55
 | .loop,_=>55
 | .jump _,_=>55
 | .tries,_=>55
 | .simple,_=>55
 | .list _,_=>52
 | .object,_=>52
 | .listL _ _,_=>51
 | .objL _,_=>51
 | .block,_=>50
 | .within,_=>50
 | .clause _,_=>50
 | .prop,_=>50
 | .body _,_=>46
 | .assign,_=>45
 | .cond,_=>44
 | .either,_=>43
 | .nullL _,_=>42
 | .orL _,_=>42
 | .both _,_=>42
 | .params,_=>41
 | .paramL _,_=>40
 | .level n,_=>40 - 2*n
 | .levelL n _,_=>39 - 2*n
 | .unary,_=>23
 | .calls,_=>22
 | .head,_=>21
 | .primary,_=>20
 | .callsL _,_=>19
 | .headL _,_=>18
 | .args,_=>10
def zCL (L:List Tok) (p:Ph) (s:Ps):Nat:=(L.length - s.k)*64+zAa p s
def zE (L:List Tok) (p:Ph) (s:Ps):Tr×Ps:=zHK L (zCL L p s+1) p s
def zBt (u:jH):List Nd×Nat×Nat:=
 if(zDX u).2.2≠0 then([],(zDX u).2)
 else
  let r:=zE (zDX u).1 (.program []) ⟨0,0,0⟩
  if r.2.bad≠0 then([],(zH (zDX u).1 r.2.far).pos,r.2.bad)
  else if 4096 < r.1.size then([],0,3)
  else if 48 < depT r.1 then([],0,7)
  else(flatT 0 r.1,0,0)
variable {p:Ph} {s' s1:Ps}
section Zq
open Go.Lib
def dec (l:jE):Nat×Nat:=decodeN l.length (l.getD 0 0).toNat (l.getD 1 0).toNat (l.getD 2 0).toNat (l.getD 3 0).toNat
theorem zNQ (n b c d e:Nat) (f:b < 256) (g:0 < n):1≤(decodeN n b c d e).2∧(decodeN n b c d e).2≤4∧(decodeN n b c d e).2≤n∧(decodeN n b c d e).1≤1114111∧
 ((decodeN n b c d e).1 < 55296∨57344≤(decodeN n b c d e).1)∧(65536≤(decodeN n b c d e).1→(decodeN n b c d e).2=4):=by
 unfold decodeN
 repeat' split
 all_goals refine⟨?_,?_,?_,?_,?_,?_⟩
 all_goals try simp only
 all_goals first | omega | (intro _;trivial)
theorem zL5 {l:jE} (h:0 < l.length):1≤(dec l).2∧(dec l).2≤4∧(dec l).2≤l.length∧(dec l).1≤1114111∧((dec l).1 < 55296∨57344≤(dec l).1)∧(65536≤(dec l).1→(dec l).2=4):=
 zNQ _ _ _ _ _ (UInt8.toNat_lt _) h
def zGm (r:Nat):jH:=if r < 65536 then [UInt16.ofNat r]else [UInt16.ofNat (55296+(r - 65536) / 1024),UInt16.ofNat (56320+(r - 65536) % 1024)]
def zIS (p:Nat×Nat):Bool:=p.1==65533&&decide (p.2≤1)
def zFt:Nat→jE→jH×Option Nat
 | 0,_=>([],none)
 | f+1,b=>
  if b=[]then([],none)else if zIS (dec b)=true then([],some 0)
  else(zGm (dec b).1++(zFt f (b.drop (dec b).2)).1,(zFt f (b.drop (dec b).2)).2.map (·+(dec b).2))
def zCD (b:jE):jH×Option Nat:=zFt b.length b
theorem zKk:∀(f g:Nat) (b:jE),b.length≤f→b.length≤g→zFt f b=zFt g b:=by
 intro f
 induction f with
 | zero=>
  intro g b d _;have hb:b=[]:=yBB jo;subst hb;cases g<;>rfl
 | succ f e=>
  intro g b d hg;cases g with
  | zero=>
   have hb:b=[]:=yBB jo;subst hb;rfl
  | succ g=>
   unfold zFt
   by_cases hb:b=[]
   · rw[if_pos hb,if_pos hb]
   · rw[if_neg hb,if_neg hb]
     by_cases c:zIS (dec b)=true
     · rw[if_pos c,if_pos c]
     · rw[if_neg c,if_neg c];have h1:=zL5 (yCL.2 hb);rw[e g (b.drop (dec b).2) (by rw[yAR];omega) (by rw[yAR];omega)]
theorem zNR:zCD []=([],none):=rfl
theorem zNS {b:jE} (h:0 < b.length) (hb:zIS (dec b)=true):zCD b=([],some 0):=by
 unfold zCD;obtain⟨n,c⟩:∃n,b.length=n+1:=⟨b.length - 1,by omega⟩;rw[c,zFt,if_neg (List.ne_nil_of_length_pos h),if_pos hb]
theorem zKl {b:jE} (h:0 < b.length) (hb:zIS (dec b)=false):
 zCD b=(zGm (dec b).1++(zCD (b.drop (dec b).2)).1,(zCD (b.drop (dec b).2)).2.map (·+(dec b).2)):=by
 have h1:=zL5 h;unfold zCD;obtain⟨n,c⟩:∃n,b.length=n+1:=⟨b.length - 1,by omega⟩;rw[c,zFt,if_neg (List.ne_nil_of_length_pos h),if_neg (by rw[hb];simp)];rw[zKk n (b.drop (dec b).2).length (b.drop (dec b).2) (by rw[yAR];omega) (yAC _)]
def zVq (b:jE):jH:=if 4096 < b.length then []else match (zCD b).2 with | none=>(zCD b).1 | some _=>[]
def uAt (b:jE):Nat:=if 4096 < b.length then 0 else((zCD b).2).getD 0
def zSG (b:jE):Nat:=if 4096 < b.length then 3 else match (zCD b).2 with | none=>0 | some _=>2
end Zq
def zIT (q:List Nd×Nat×Nat):List Nd×Nat×Nat:=if q.2.2=0 then(if(chN q.1).2=0 then(q.1,0,0)else([],(chN q.1).1,(chN q.1).2))else([],q.2.1,q.2.2)
def zCf (b:jE):List Nd×Nat×Nat:=if zSG b=0 then zIT (zBt (zVq b))else([],uAt b,zSG b)
def zKm (b:jE) (a e:Nat):Bool:=(zCf b).2.1==a&&(zCf b).2.2==e
theorem zZH:zKm [108,101,116,32,97,44,32,97] 0 5=true:=by decide+kernel
theorem zZI:zKm [97,58,32,119,104,105,108,101,32,40,49,41,32,123,32,98,114,101,97,107,32,97,59,32,125] 0 0=true:=by decide+kernel
theorem zZJ:zKm [98,114,101,97,107,32,97] 1 5=true:=by decide+kernel
theorem zZK:zKm [40,120,41,32,61,62,32,123,32,108,101,116,32,120,59,32,125] 4 5=true:=by decide+kernel
theorem zZL:zKm [255] 0 2=true:=by decide+kernel
theorem zE1 {b:jE} {a e:Nat} (h:zKm b a e=true):∃ts,zCf b=(ts,a,e):=by
 unfold zKm at h;simp only[yAQ,yBL]at h;exact⟨(zCf b).1,by rw[←h.1,←h.2]⟩
def zAe:List Nat→List Nat
 | []=>[]
 | x::r=>if zAe r=[]∧x=0 then []else x::zAe r
theorem zNT (l:List Nat):zAe (l++[0])=zAe l:=by
 induction l with
 | nil=>rfl
 | cons x r b=>rw[yAP,zAe,zAe,b]
theorem zFc {x:Nat} (h:x≠0) (l:List Nat):zAe (l++[x])=l++[x]:=by
 induction l with
 | nil=>simp[zAe,h]
 | cons y r b=>rw[yAP,zAe,b,if_neg js]
theorem zD5 (l:List Nat):zAe l=l.take (zAe l).length:=by
 induction l with
 | nil=>rfl
 | cons x r b=>
  by_cases h:zAe r=[]∧x=0
  · simp[zAe,h]
  · rw[zAe,if_neg h,yAO,List.take_succ_cons,←b]
theorem zJI (l:List Nat):(zAe l).length≤l.length:=by
 have:=congrArg List.length (zD5 l);rw[yBK]at this;omega
def zB4:List Nat→Nat
 | []=>0
 | x::r=>x+4294967296*zB4 r
theorem zTJ (l r:List Nat):zB4 (l++r)=zB4 l+4294967296^l.length*zB4 r:=by
 induction l with
 | nil=>simp[zB4]
 | cons x l b=>
  rw[yAP,zB4,zB4,b,yAO,yCP,Nat.mul_add,Nat.mul_comm (4294967296^l.length) 4294967296,Nat.mul_assoc];omega
theorem zDn {l:List Nat}:zAe l=[]↔zB4 l=0:=by
 induction l with
 | nil=>simp[zAe,zB4]
 | cons x r b=>
  rw[zAe,zB4]
  by_cases h:zAe r=[]∧x=0
  · rw[if_pos h];have:=b.1 h.1;simp[this,h.2]
  · rw[if_neg h];constructor
    · intro c;cases c
    · intro c;exact absurd ⟨b.2 jo,by omega⟩ h
theorem zDo:∀(f:Nat) (l:List Nat),l.length≤f→(∀x∈l,x < 4294967296)→zAe l=zBH f (zB4 l):=by
 intro f
 induction f with
 | zero=>
  intro l b _;have:l=[]:=yBB jo;subst this;rfl
 | succ f d=>
  intro l b c;cases l with
  | nil=>rfl
  | cons x r=>
   have h1:=c x js;have e:=d r (by simp at b;omega) (fun y g=>c y (by simp[g]));rw[zBH,zAe]
   by_cases h:zAe r=[]∧x=0
   · rw[if_pos h,if_pos (by rw[zB4,zDn.1 h.1,h.2])]
   · have hv:zB4 (x::r)≠0:=fun j=>h (by
      rw[zB4]at j;exact⟨zDn.2 jo,by omega⟩)
     rw[if_neg h,if_neg hv,zB4,e];congr 1
     · omega
     · congr 1;omega
theorem zPt:∀(k f v:Nat),v < 4294967296^k→(zBH f v).length≤k:=by
 intro k
 induction k with
 | zero=>
  intro f v hv;have:v=0:=by simpa using hv
  subst this;cases f<;>simp[zBH]
 | succ k b=>
  intro f v hv;cases f with
  | zero=>simp[zBH]
  | succ f=>
   rw[zBH]
   by_cases h:v=0
   · rw[if_pos h];simp
   · rw[if_neg h,yAO];have:=b f (v / 4294967296) (Nat.div_lt_of_lt_mul (by rw[yCP,Nat.mul_comm]at hv;exact hv));omega
theorem zPu:∀(k f v:Nat),k < f→4294967296^k≤v→k < (zBH f v).length:=by
 intro k
 induction k with
 | zero=>
  intro f v b hv;obtain⟨f,rfl⟩:∃m,f=m+1:=⟨f - 1,by omega⟩;have d:1≤v:=hv;rw[zBH,jn];simp
 | succ k c=>
  intro f v b hv;obtain⟨f,rfl⟩:∃m,f=m+1:=⟨f - 1,by omega⟩;have h1:4294967296^k≤v / 4294967296:=(Nat.le_div_iff_mul_le jo).2 (by rw[←yCP];exact hv);have e:0 < 4294967296^k:=Nat.pow_pos jo;rw[zBH,if_neg (by intro h;subst h;simp at h1),yAO];have:=c f _ jo h1;omega
theorem zPv:∀(f v:Nat),∀x∈zBH f v,x < 4294967296:=by
 intro f
 induction f with
 | zero=>intro v x b;simp[zBH]at b
 | succ f c=>
  intro v x b;rw[zBH]at b;split at b
  · simp at b
  · rcases yAW.1 b with h | h
    · rw[h];exact Nat.mod_lt _ jo
    · exact c _ x h
theorem zHl:∀(f v:Nat),v < 4294967296^f→zB4 (zBH f v)=v:=by
 intro f
 induction f with
 | zero=>intro v hv;simp at hv;subst hv;rfl
 | succ f b=>
  intro v hv;rw[zBH]
  by_cases h:v=0
  · rw[if_pos h,h];rfl
  · rw[if_neg h,zB4,b _ (Nat.div_lt_of_lt_mul (by rw[yCP,Nat.mul_comm]at hv;exact hv))];exact Nat.mod_add_div _ _
def zCg:List Nat→Nat→List Nat×Nat
 | [],c=>([],c)
 | x::r,c=>((c+10*x) % 4294967296::(zCg r ((c+10*x) / 4294967296)).1,(zCg r ((c+10*x) / 4294967296)).2)
theorem zJJ:∀(l:List Nat) (c:Nat),(zCg l c).1.length=l.length:=by
 intro l
 induction l with
 | nil=>intro c;rfl
 | cons x r b=>intro c;simp[zCg,b]
theorem zTK:∀(l:List Nat) (c:Nat),∀x∈(zCg l c).1,x < 4294967296:=by
 intro l
 induction l with
 | nil=>intro c x b;simp[zCg]at b
 | cons y r d=>
  intro c x b;rw[zCg]at b;rcases yAW.1 b with h | h
  · rw[h];exact Nat.mod_lt _ jo
  · exact d _ x h
theorem zPw:∀(l:List Nat) (c:Nat),zB4 (zCg l c).1+4294967296^l.length*(zCg l c).2=10*zB4 l+c:=by
 intro l
 induction l with
 | nil=>intro c;simp[zCg,zB4]
 | cons x r b=>
  intro c;have h:=b ((c+10*x) / 4294967296);have d:=Nat.mod_add_div (c+10*x) 4294967296;simp only[zCg,zB4,yAO];rw[yCP,Nat.mul_comm (4294967296^r.length) 4294967296,Nat.mul_assoc];omega
theorem zKn:∀(l:List Nat) (c:Nat),c≤9→(∀x∈l,x < 4294967296)→(zCg l c).2≤9:=by
 intro l
 induction l with
 | nil=>intro c b _;exact b
 | cons x r e=>
  intro c b d;have:=d x js;exact e _ jo (fun y f=>d y (by simp[f]))
theorem zTL:zGM=4294967296^8:=rfl
theorem zE2 {v:Nat} (h:v < zGM):(limbs v).length≤8:=zPt 8 9 v h
theorem zTM {v:Nat} (h:zGM≤v):8 < (limbs v).length:=zPu 8 9 v jo h
theorem zF7 (v:Nat):∀x∈limbs v,x < 4294967296:=zPv 9 v
theorem zYJ {v:Nat} (h:v < zGM):v < 4294967296^9:=yAA h (by rw[zTL];exact Nat.pow_le_pow_right jo jo)
theorem zNU {v d:Nat} (h:v < zGM) (c:d≤9):zAe ((zCg (limbs v) d).1++[(zCg (limbs v) d).2])=limbs (10*v+d):=by
 have f:=zKn (limbs v) d c (zF7 v);have hv:=zPw (limbs v) d;have h1:zB4 (limbs v)=v:=zHl 9 v (zYJ h);rw[zDo 9 _ (by rw[yAN,zJJ];have:=zE2 h;simp;omega) (by
  intro x e;rcases yBQ.1 e with b | b
  · exact zTK _ _ x b
  · simp at b;omega)]
 rw[zTJ,zJJ,show zB4 [(zCg (limbs v) d).2]=(zCg (limbs v) d).2 by simp[zB4],hv,h1];rfl
theorem zNV {v:Nat} (h:v < zGM):zAe (limbs v)=limbs v:=by
 rw[zDo 9 _ (by have:=zE2 h;omega) (zF7 v),show zB4 (limbs v)=v from zHl 9 v (zYJ h)];rfl
def zBg (l:List Nat):List Value:=l.map fun n:Nat=>Value.int .u32 (n:Int)
theorem zTN (l:List Nat):(zBg l).length=l.length:=by simp[zBg]
theorem zL6 {l:List Nat} (h:j < l.length):(zBg l)[j]? =some (.int .u32 (l[j]:Int)):=by
 simp[zBg,yAB h]
theorem zJK (l:List Nat) (k:Nat):(zBg l).take k=zBg (l.take k):=by simp[zBg]
theorem zF8 (l r:List Nat):zBg l++zBg r=zBg (l++r):=by simp[zBg]
theorem zL7 {w:World} {c:Nat} (h:w.ownsRow base e 1 (.slice A n c) n xs) (l:j≤n):w.ownsRow base e 1 (.slice A j c) j (xs.take j):=by
 refine⟨by rw[yBK,h.1];omega,?_⟩;rcases h.2 with⟨h1,d⟩ | ⟨g,cap,b,h1,hb,hg,m,f,hs,k⟩
 · left;injection h1 with h3 h4 h5;subst d;obtain rfl:j=0:=by omega
   exact⟨by rw[h3,h5],rfl⟩
 · right;injection h1 with h3 h4 h5;subst h3 h5;refine⟨g,c,b,rfl,hb,hg,by omega,f,hs,?_⟩;rw[←k,List.take_take];congr 1;omega
theorem Reads.spotV {w:World} (h:Reads w B 1 A n xs) (g:0 < n):
 ∃b off,A=some ⟨b,off,none⟩∧b < B∧∀j u,xs[j]? =some u→w.cell? ⟨b,off+j,none⟩=some u:=by
 obtain⟨d,u,e,hb,m,c⟩:=h.at_ g;have hs:d.spot=none:=by
  cases hsp:d.spot with
  | none=>rfl
  | some s=>
   exfalso;rw[Addr.add_zero]at c;simp only[World.cell?,hsp]at c;split at c
   · simp at c
   · cases c
 obtain⟨b,off,o⟩:=d;simp only at hs;subst hs;refine⟨b,off,e,hb,fun j v hv=>?_⟩;have k:j < n:=by
  have:=(yAT.1 hv).1;have h1:=h.1;omega
 obtain⟨l,p,e',_,f,h1⟩:=h.at_ k;rw[e]at e';injection e' with e';subst e';rw[Addr.add_lit]at h1;rw[h1,←f,hv]
theorem zE3 {c m:Nat} {xs:List Nat} {w:World} (p:xs.length=n) (q:Reads w B 1 A n (zBg xs)) (E:n≤4096) (F:n≤c) (r:c≤maxLen) (s:(zAe xs).length=m):
 Calls prog 104 #[.slice A n c] w fun e w'=>e=.returned (.slice A m c)∧w=w':=by
 have z:=zA q;have t:=zA s;have u:=zA p;unfold maxLen at r;clear q s p;go_enter func104,ntmps104;go_wp2
 go_loop [0] (fun v=>∃j:Nat,v=.slice A j c∧j≤n∧Hid (zAe (xs.take j)=zAe xs)) (fun v=>match v with | .slice _ j _=>j | _=>0)
 case atStart=>exact⟨n,rfl,yAC _,zA (by rw[←u.out,List.take_length])⟩
 case round=>
  obtain⟨j,rfl,G,o⟩:=hrel;cases j with
  | zero=>
   have f:=zA (show m=0 by
    have:=o.out;rw[List.take_zero]at this;rw[←t.out,←this];rfl)
   go_wp2;go_ret;obtain rfl:=f.out;exact⟨rfl,rfl⟩
  | succ i=>
   have C:=u.out;obtain⟨b,off,rfl,D,d⟩:=z.out.spotV jo;have hi:i < xs.length:=by omega
   have y:=d i _ (zL6 hi);have g:=zA (show xs.take (i+1)=xs.take i++[xs[i]]from yAK hi);obtain⟨x,l⟩:=jx (xs[i]);rw[l]at y g;clear d l C
   by_cases k:x=0
   · have e1:((x:Int)==0)=true:=by rw[k];rfl
     have f:=zA (show zAe (xs.take i)=zAe xs by rw[←o.out,g.out,k,zNT]);clear k;go_wp2;go_round
     case rel=>exact⟨i,rfl,by omega,f⟩
     case measure=>simp
   · have e1:((x:Int)==0)=false:=yA.2 jo;have f:=zA (show m=i+1 by
      rw[←t.out,←o.out,g.out,zFc k,yAN,yBK];simp;omega)
     clear k;go_wp2;go_ret;obtain rfl:=f.out;exact⟨rfl,rfl⟩
structure Lst (L:List Tok):Prop where
 pos:0 < L.length
 last:(zH L (L.length - 1)).kind=0
 mid:∀i,i < L.length - 1→(zH L i).kind≠0
structure Adv (L:List Tok) (s s':Ps):Prop where
 le:s.k≤s'.k
 hi:s'.k≤L.length - 1
 bad:s.bad≠0→s'.bad≠0
 far:s'.bad=0→s'.far=s.far
structure Eat (L:List Tok) (s s':Ps):Prop where
 adv:Adv L s s'
 more:s.k < L.length - 1→s.k < s'.k
 stop:s.k=L.length - 1→s'.bad≠0
section
variable {L:List Tok} {a b c s:Ps} {w:jE}
theorem Adv.refl (h:s.k≤L.length - 1):Adv L s s:=⟨yAC _,h,id,fun _=>rfl⟩
theorem Adv.trans (h:Adv L a b) (k:Adv L b c):Adv L a c:=⟨yAD h.le k.le,k.hi,fun x=>k.bad (h.bad x),fun x=>(k.far x).trans (h.far (by
 rcases yCN b.bad with d | d
 · exact d
 · exact absurd x (k.bad jo)))⟩
theorem Eat.then (h:Eat L a b) (k:Adv L b c):Eat L a c:=⟨h.adv.trans k,fun x=>yAA (h.more x) k.le,fun x=>k.bad (h.stop x)⟩
theorem Adv.eat (h:Adv L a b) (k:Eat L b c):Eat L a c:=by
 have h1:=h.le;have e:=h.hi;have f:=k.adv.le;refine⟨h.trans k.adv,fun x=>?_,fun x=>k.stop jo⟩;rcases yBO b.k (L.length - 1)with d | d
 · have:=k.more d;omega
 · omega
theorem Lst.lt (c:Lst L) (h:s.k≤L.length - 1) (hk:(zH L s.k).kind≠0):s.k < L.length - 1:=by
 rcases yBO s.k (L.length - 1)with b | b
 · exact b
 · exact absurd (by rw[show s.k=L.length - 1 by omega];exact c.last) hk
theorem zF9 {t:Tok} (h:isT t w=true):t.kind≠0:=by
 unfold isT at h;intro b;rw[b]at h;simp at h
theorem Lst.on (b:Lst L) (h:s.k≤L.length - 1) (c:onP L w s=true):s.k < L.length - 1:=b.lt h (zF9 c)
theorem zAL (h:s.k < L.length - 1):Adv L s (zB s):=⟨Nat.le_succ _,h,id,fun _=>rfl⟩
theorem zAt (h:s.k < L.length - 1):Eat L s (zB s):=⟨zAL h,fun _=>yAF _,fun x=>by omega⟩
theorem zGA {e:Nat} (b:e≠0):(zC8 L e s).bad≠0:=by
 unfold zC8;simp only;split
 · exact b
 · assumption
theorem zGB {e:Nat} (b:e≠0) (h:s.k≤L.length - 1):Eat L s (zC8 L e s):=⟨⟨h,yAC _,fun _=>zGA b,fun x=>absurd x (zGA b)⟩,fun x=>x,fun _=>zGA b⟩
theorem zz (h:s.k≤L.length - 1):Eat L s (zb L s):=zGB (by split<;>decide) h
theorem zFd:(zb L s).bad≠0:=zGA (by split<;>decide)
theorem zPx:(zb L s).k=L.length - 1:=rfl
theorem za (b:Lst L) (h:s.k≤L.length - 1):Eat L s (zO L w s):=by
 unfold zO;split
 · rename_i c;exact zAt (b.on h c)
 · exact zz h
theorem zA7 (b:Lst L) (h:s.k≤L.length - 1):Eat L s (ze L s).2:=by
 unfold ze;split
 · rename_i c;exact zAt (b.lt h (by rw[c];decide))
 · exact zz h
theorem zCV (b:Lst L) (h:s.k≤L.length - 1):Adv L s (zEK L s):=by
 unfold zEK;split
 · rename_i c;exact zAL (b.on h c)
 · split
   · exact Adv.refl h
   · exact(zz h).adv
end
def Pre (L:List Tok) (p:Ph) (s:Ps):Prop:=s.k≤L.length - 1∧match p with
 | .word _=>s.k < L.length - 1
 | .loop=>s.k < L.length - 1
 | .jump _=>s.k < L.length - 1
 | .tries=>s.k < L.length - 1
 | .args=>s.k < L.length - 1
 | .level n=>n≤8
 | .levelL n _=>n < 8
 | _=>True
def zab:Ph→Bool
 | .program _=>false
 | .blockL _=>false
 | .nullL _=>false
 | .orL _=>false
 | .both _=>false
 | .levelL _ _=>false
 | .callsL _=>false
 | .headL _=>false
 | _=>true
def Post (L:List Tok) (p:Ph) (s s':Ps):Prop:=if zab p=true then Eat L s s' else Adv L s s'
theorem Post.adv {L:List Tok} {s:Ps} (h:Post L p s s'):Adv L s s':=by
 unfold Post at h;split at h
 · exact h.adv
 · exact h
theorem zWf (p:Ph) (s:Ps):zAa p s≤60:=by
 cases p<;>simp only[zAa]<;>(try split)<;>omega
theorem zJL {L:List Tok} {q:Ph} {s:Ps} (h:s.k < s'.k) (b:s'.k≤L.length - 1) (c:0 < L.length):zCL L q s' < zCL L p s:=by
 unfold zCL;have:=zWf q s';omega
theorem zJM {L:List Tok} {q:Ph} {s:Ps} (h:s.k≤s'.k) (b:zAa q s' < zAa p s):zCL L q s' < zCL L p s:=by
 unfold zCL;omega
section
variable {L:List Tok} {R R':Ph→Ps→Tr×Ps} {s:Ps}
def Hyp (L:List Tok) (R R':Ph→Ps→Tr×Ps) (p:Ph) (s:Ps):Prop:=∀q s1,Pre L q s1→zCL L q s1 < zCL L p s→Post L q s1 (R q s1).2∧R q s1=R' q s1
def Con (L:List Tok) (R R':Ph→Ps→Tr×Ps) (p:Ph) (s:Ps):Prop:=Post L p s (zD L R p s).2∧zD L R p s=zD L R' p s
def SgQ (L:List Tok) (R R':Ph→Ps→Tr×Ps) (p:Ph) (s:Ps):Prop:=Lst L→Pre L p s→Hyp L R R' p s→Con L R R' p s
theorem Hyp.rank (H:Hyp L R R' p s) {q:Ph} (h:Pre L q s1) (h1:s.k≤s1.k:=by exact yAC _) (h2:zAa q s1 < zAa p s:=by simp only[zAa];omega):Post L q s1 (R q s1).2∧R' q s1=R q s1:=by
 have:=H q s1 h (zJM h1 h2);exact⟨this.1,this.2.symm⟩
theorem Hyp.more (b:Lst L) (H:Hyp L R R' p s) {q:Ph} (h:Pre L q s1) (h1:s.k < s1.k):Post L q s1 (R q s1).2∧R' q s1=R q s1:=by
 have:=H q s1 h (zJL h1 h.1 b.pos);exact⟨this.1,this.2.symm⟩
theorem zNW {b:List Tr}:SgQ L R R' (.program b) s:=fun e d H=>by
 unfold Con zD;dsimp only
 by_cases c:(zH L s.k).kind=0
 · simp only[if_pos c];exact⟨Adv.refl d.1,trivial⟩
 · simp only[if_neg c];have f:=e.lt d.1 c;obtain⟨p1,e1⟩:=H.rank (q:=.item) (s1:=s) ⟨d.1,trivial⟩;have x1:Eat L s _:=p1;obtain⟨p2,e2⟩:=H.more e (q:=.program (b++[(R .item s).1])) (s1:=(R .item s).2) ⟨x1.adv.hi,trivial⟩ (x1.more f);rw[e1,e2];exact⟨x1.adv.trans p2,rfl⟩
theorem zTO:SgQ L R R' .block s:=fun b d H=>by
 unfold Con zD;dsimp only;have e:=za (w:=[123]) b d.1;have h1:Post L (.blockL []) (zO L [123] s) (R (.blockL []) (zO L [123] s)).2∧R' (.blockL []) (zO L [123] s)=R (.blockL []) (zO L [123] s):=by
  by_cases c:onP L [123] s=true
  · exact H.more b ⟨e.adv.hi,trivial⟩ (e.more (b.on d.1 c))
  · refine H.rank ⟨e.adv.hi,trivial⟩ e.adv.le ?_;have hb:(zO L [123] s).bad≠0:=by unfold zO;rw[if_neg c];exact zFd
    simp only[zAa];rw[if_pos hb];omega
 rw[h1.2];exact⟨e.then h1.1.adv,rfl⟩
theorem zPy {b:List Tr}:SgQ L R R' (.blockL b) s:=fun e d H=>by
 unfold Con zD;dsimp only
 by_cases c:s.bad≠0
 · simp only[if_pos c];exact⟨Adv.refl d.1,trivial⟩
 simp only[if_neg c]
 by_cases c2:onP L [125] s=true
 · simp only[if_pos c2];exact⟨zAL (e.on d.1 c2),trivial⟩
 simp only[if_neg c2];have f:zAa (.blockL b) s=60:=by simp only[zAa];rw[if_neg c]
 obtain⟨p1,e1⟩:=H.rank (q:=.item) (s1:=s) ⟨d.1,trivial⟩ (yAC _) (by rw[f];simp only[zAa];omega);have x1:Eat L s _:=p1;have g:Post L (.blockL (b++[(R .item s).1])) (R .item s).2 (R (.blockL (b++[(R .item s).1])) (R .item s).2).2∧R' (.blockL (b++[(R .item s).1])) (R .item s).2=R (.blockL (b++[(R .item s).1])) (R .item s).2:=by
  rcases yBO s.k (L.length - 1)with j | l
  · exact H.more e ⟨x1.adv.hi,trivial⟩ (x1.more j)
  · refine H.rank ⟨x1.adv.hi,trivial⟩ x1.adv.le ?_;rw[f];simp only[zAa];rw[if_pos (x1.stop (by have:=d.1;omega))];omega
 rw[e1,g.2];exact⟨x1.adv.trans g.1.adv,rfl⟩
theorem zWg:SgQ L R R' .item s:=fun e f H=>by
 unfold Con zD;dsimp only
 by_cases c:(onP L [108,101,116] s || onP L [99,111,110,115,116] s)=true
 · simp only[if_pos c];obtain⟨p1,e1⟩:=H.rank (q:=.declares) (s1:=s) ⟨f.1,trivial⟩;rw[e1];exact⟨Eat.then (b:=(R .declares s).2) p1 (zCV e p1.adv.hi),rfl⟩
 simp only[if_neg c]
 by_cases c2:onP L [102,117,110,99,116,105,111,110] s=true
 · simp only[if_pos c2];have d:=e.on f.1 c2;have x1:=(zAt d).then (zA7 (s:=zB s) e d).adv;obtain⟨p2,e2⟩:=H.more e (q:=.func 19 (ze L (zB s)).1) (s1:=(ze L (zB s)).2) ⟨x1.adv.hi,trivial⟩ (x1.more d);rw[e2];exact⟨x1.then p2.adv,rfl⟩
 simp only[if_neg c2];obtain⟨p1,e1⟩:=H.rank (q:=.statement) (s1:=s) ⟨f.1,trivial⟩;rw[e1];exact⟨p1,rfl⟩
theorem zKo:SgQ L R R' .declares s:=fun d e H=>by
 unfold Con zD;dsimp only
 by_cases c:onP L [99,111,110,115,116] s=true
 · simp only[if_pos c];have b:=d.on e.1 c;obtain⟨p1,e1⟩:=H.more d (q:=.declL 6 []) (s1:=zB s) ⟨b,trivial⟩ (yAF _);rw[e1];exact⟨(zAt b).then p1.adv,rfl⟩
 simp only[if_neg c];have x:=za (w:=[108,101,116]) d e.1;obtain⟨p1,e1⟩:=H.rank (q:=.declL 5 []) (s1:=zO L [108,101,116] s) ⟨x.adv.hi,trivial⟩ x.adv.le;rw[e1];exact⟨x.then p1.adv,rfl⟩
theorem zJN {b:List Tr} (f:Lst L) (H:Hyp L R R' (.declL k b) s) {d:Tr×Ps} (x:Eat L s d.2):
 Post L (.declL k b) s (if d.2.bad≠0 then(trK k (b++[d.1]),d.2)else if onP L [44] d.2=true then R (.declL k (b++[d.1])) (zB d.2)else(trK k (b++[d.1]),d.2)).2∧
 (if d.2.bad≠0 then(trK k (b++[d.1]),d.2)else if onP L [44] d.2=true then R (.declL k (b++[d.1])) (zB d.2)else(trK k (b++[d.1]),d.2))=(if d.2.bad≠0 then(trK k (b++[d.1]),d.2)else if onP L [44] d.2=true then R' (.declL k (b++[d.1])) (zB d.2)else(trK k (b++[d.1]),d.2)):=by
 by_cases c:d.2.bad≠0
 · simp only[if_pos c];exact⟨x,trivial⟩
 simp only[if_neg c]
 by_cases c2:onP L [44] d.2=true
 · simp only[if_pos c2];have e:=f.on x.adv.hi c2;obtain⟨p1,e1⟩:=H.more f (q:=.declL k (b++[d.1])) (s1:=zB d.2) ⟨e,trivial⟩ (yBP x.adv.le);rw[e1];exact⟨x.then ((zAL e).trans p1.adv),rfl⟩
 · simp only[if_neg c2];exact⟨x,trivial⟩
theorem zTP {f:List Tr}:SgQ L R R' (.declL k f) s:=fun b g H=>by
 unfold Con zD;dsimp only;have x:=zA7 b g.1
 by_cases c:onP L [61] (ze L s).2=true
 · have e:=b.on x.adv.hi c;obtain⟨p1,e1⟩:=H.more b (q:=.assign) (s1:=zB (ze L s).2) ⟨e,trivial⟩ (yBP x.adv.le);simp only[if_pos c];rw[e1];exact zJN b H (d:=(trN 7 (ze L s).1 [(R .assign (zB (ze L s).2)).1],(R .assign (zB (ze L s).2)).2)) (x.then ((zAL e).trans p1.adv))
 · simp only[if_neg c];exact zJN b H (d:=(trN 7 (ze L s).1 [],(ze L s).2)) x
theorem zWh {n:jE}:SgQ L R R' (.func k n) s:=fun _b b H=>by
 unfold Con zD;dsimp only;obtain⟨p1,e1⟩:=H.rank (q:=.params) (s1:=s) ⟨b.1,trivial⟩;obtain⟨p2,e2⟩:=H.rank (q:=.block) (s1:=(R .params s).2) ⟨p1.adv.hi,trivial⟩ p1.adv.le;rw[e1,e2];have x1:Eat L s (R .params s).2:=p1;exact⟨x1.then p2.adv,rfl⟩
theorem zPz:SgQ L R R' .params s:=fun b d H=>by
 unfold Con zD;dsimp only;have x:=za (w:=[40]) b d.1
 by_cases c:onP L [41] (zO L [40] s)=true
 · simp only[if_pos c];exact⟨x.then (zAL (b.on x.adv.hi c)),trivial⟩
 simp only[if_neg c];obtain⟨p1,e1⟩:=H.rank (q:=.paramL []) (s1:=zO L [40] s) ⟨x.adv.hi,trivial⟩ x.adv.le;rw[e1];exact⟨x.then p1.adv,rfl⟩
theorem Eat.lt (h:Eat L s s') (hs:s.k≤L.length - 1) (hb:¬s'.bad≠0):s.k < s'.k:=by
 rcases yBO s.k (L.length - 1)with b | c
 · exact h.more b
 · exact absurd (h.stop jo) hb
theorem zP0 {d:List Tr}:SgQ L R R' (.paramL d) s:=fun b e H=>by
 unfold Con zD;dsimp only;have x:=zA7 b e.1
 by_cases c:(ze L s).2.bad≠0
 · simp only[if_pos c];exact⟨x,trivial⟩
 simp only[if_neg c]
 by_cases c2:onP L [41] (ze L s).2=true
 · simp only[if_pos c2];exact⟨x.then (zAL (b.on x.adv.hi c2)),trivial⟩
 simp only[if_neg c2];have y:=za (w:=[44]) b x.adv.hi;obtain⟨p1,e1⟩:=H.more b (q:=.paramL (d++[trN 20 (ze L s).1 []])) (s1:=zO L [44] (ze L s).2) ⟨y.adv.hi,trivial⟩ (yAA (x.lt e.1 c) y.adv.le);rw[e1];exact⟨x.then (y.adv.trans p1.adv),rfl⟩
theorem zL8 (c:Lst L) {w:jE} (b:s.k < L.length - 1) (h:isT (zAm L s.k 1) w=true):s.k+1 < L.length - 1:=
 c.lt (s:=zB s) b (zF9 h)
theorem zJO:SgQ L R R' .statement s:=fun e d H=>by
 unfold Con zD;dsimp only
 by_cases c:(zH L s.k).kind=1∧isT (zAm L s.k 1) [58]=true
 · simp only[if_pos c];have b:=e.lt d.1 (by rw[c.1];decide);have f:=zL8 e b c.2;have y:Adv L (zB s) (zB (zB s)):=zAL (s:=zB s) f;obtain⟨p1,e1⟩:=H.more e (q:=.statement) (s1:=zB (zB s)) ⟨y.hi,trivial⟩ (by show s.k < s.k+1+1;omega);rw[e1];exact⟨(zAt b).then (y.trans p1.adv),rfl⟩
 simp only[if_neg c]
 by_cases c2:(zH L s.k).kind=6
 · simp only[if_pos c2];have b:=e.lt d.1 (by rw[c2];decide);obtain⟨p1,e1⟩:=H.rank (q:=.word (zH L s.k).text) (s1:=s) ⟨d.1,b⟩;rw[e1];exact⟨p1,rfl⟩
 simp only[if_neg c2]
 by_cases c3:onP L [59] s=true
 · simp only[if_pos c3];exact⟨zAt (e.on d.1 c3),trivial⟩
 simp only[if_neg c3]
 by_cases c4:onP L [123] s=true
 · simp only[if_pos c4];obtain⟨p1,e1⟩:=H.rank (q:=.block) (s1:=s) ⟨d.1,trivial⟩;rw[e1];exact⟨p1,rfl⟩
 simp only[if_neg c4];obtain⟨p1,e1⟩:=H.rank (q:=.simple) (s1:=s) ⟨d.1,trivial⟩;rw[e1];exact⟨p1,rfl⟩
theorem zP1:SgQ L R R' .simple s:=fun c d H=>by
 unfold Con zD;dsimp only;obtain⟨p1,e1⟩:=H.rank (q:=.assign) (s1:=s) ⟨d.1,trivial⟩;rw[e1];exact⟨Eat.then (b:=(R .assign s).2) p1 (zCV c p1.adv.hi),rfl⟩
theorem zWi {w:jE}:SgQ L R R' (.word w) s:=fun d e H=>by
 have b:s.k < L.length - 1:=e.2;have x0:=zAt b;have f:s.k < (zB s).k:=yAF _;unfold Con zD;dsimp only
 by_cases c1:w=[105,102]
 · simp only[if_pos c1];obtain⟨p1,e1⟩:=H.more d (q:=.within) (s1:=zB s) ⟨b,trivial⟩ f;obtain⟨p2,e2⟩:=H.more d (q:=.statement) (s1:=(R .within (zB s)).2) ⟨p1.adv.hi,trivial⟩ (yAA f p1.adv.le);rw[e1,e2];have y:=p1.adv.trans p2.adv
   by_cases c:onP L [101,108,115,101] (R .statement (R .within (zB s)).2).2=true
   · simp only[if_pos c];have g:=d.on p2.adv.hi c;obtain⟨p3,e3⟩:=H.more d (q:=.statement) (s1:=zB (R .statement (R .within (zB s)).2).2) ⟨g,trivial⟩ (yAA f (Nat.le_succ_of_le y.le));rw[e3];exact⟨x0.then (y.trans ((zAL g).trans p3.adv)),rfl⟩
   · simp only[if_neg c];exact⟨x0.then y,trivial⟩
 simp only[if_neg c1]
 by_cases c2:w=[119,104,105,108,101]
 · simp only[if_pos c2];obtain⟨p1,e1⟩:=H.more d (q:=.within) (s1:=zB s) ⟨b,trivial⟩ f;obtain⟨p2,e2⟩:=H.more d (q:=.statement) (s1:=(R .within (zB s)).2) ⟨p1.adv.hi,trivial⟩ (yAA f p1.adv.le);rw[e1,e2];exact⟨x0.then (p1.adv.trans p2.adv),rfl⟩
 simp only[if_neg c2]
 by_cases c3:w=[102,111,114]
 · simp only[if_pos c3];obtain⟨p1,e1⟩:=H.rank (q:=.loop) (s1:=s) ⟨e.1,b⟩;rw[e1];exact⟨p1,rfl⟩
 simp only[if_neg c3]
 by_cases c4:w=[98,114,101,97,107]
 · simp only[if_pos c4];obtain⟨p1,e1⟩:=H.rank (q:=.jump 12) (s1:=s) ⟨e.1,b⟩;rw[e1];exact⟨p1,rfl⟩
 simp only[if_neg c4]
 by_cases c5:w=[99,111,110,116,105,110,117,101]
 · simp only[if_pos c5];obtain⟨p1,e1⟩:=H.rank (q:=.jump 13) (s1:=s) ⟨e.1,b⟩;rw[e1];exact⟨p1,rfl⟩
 simp only[if_neg c5]
 by_cases c6:w=[114,101,116,117,114,110]
 · simp only[if_pos c6]
   by_cases c:zDm L (zB s)=true
   · simp only[if_pos c];exact⟨x0.then (zCV (s:=zB s) d b),trivial⟩
   · simp only[if_neg c];obtain⟨p1,e1⟩:=H.more d (q:=.assign) (s1:=zB s) ⟨b,trivial⟩ f;rw[e1];exact⟨x0.then (p1.adv.trans (zCV d p1.adv.hi)),rfl⟩
 simp only[if_neg c6]
 by_cases c7:w=[116,104,114,111,119]
 · simp only[if_pos c7];have y:Adv L (zB s) (if(zH L (zB s).k).nl=true then zb L (zB s)else zB s):=by
    split
    · exact(zz (s:=zB s) b).adv
    · exact Adv.refl b
   obtain⟨p1,e1⟩:=H.more d (q:=.assign) (s1:=if(zH L (zB s).k).nl=true then zb L (zB s)else zB s) ⟨y.hi,trivial⟩ (yAA f y.le);rw[e1];exact⟨x0.then (y.trans (p1.adv.trans (zCV d p1.adv.hi))),rfl⟩
 simp only[if_neg c7]
 by_cases c8:w=[116,114,121]
 · simp only[if_pos c8];obtain⟨p1,e1⟩:=H.rank (q:=.tries) (s1:=s) ⟨e.1,b⟩;rw[e1];exact⟨p1,rfl⟩
 simp only[if_neg c8]
 by_cases j:w=[102,117,110,99,116,105,111,110]∨w=[108,101,116]∨w=[99,111,110,115,116]
 · simp only[if_pos j];exact⟨zz e.1,trivial⟩
 simp only[if_neg j];obtain⟨p1,e1⟩:=H.rank (q:=.simple) (s1:=s) ⟨e.1,trivial⟩;rw[e1];exact⟨p1,rfl⟩
theorem zP2:SgQ L R R' .within s:=fun b c H=>by
 unfold Con zD;dsimp only;have x:=za (w:=[40]) b c.1;obtain⟨p1,e1⟩:=H.rank (q:=.assign) (s1:=zO L [40] s) ⟨x.adv.hi,trivial⟩ x.adv.le;rw[e1];exact⟨x.then (p1.adv.trans (za b p1.adv.hi).adv),rfl⟩
theorem zP3 {w:jE}:SgQ L R R' (.clause w) s:=fun d e H=>by
 unfold Con zD;dsimp only
 by_cases c:onP L w s=true
 · simp only[if_pos c];exact⟨za d e.1,trivial⟩
 simp only[if_neg c];obtain⟨p1,e1⟩:=H.rank (q:=.assign) (s1:=s) ⟨e.1,trivial⟩;rw[e1];exact⟨Eat.then (b:=(R .assign s).2) p1 (za d p1.adv.hi).adv,rfl⟩
theorem zJP (b:Lst L) (H:Hyp L R R' .loop s) {a:Tr×Ps} (x:Eat L s a.2) (c:s.k < a.2.k):
 Post L .loop s (trK 10 [a.1,(R (.clause [59]) a.2).1,(R (.clause [41]) (R (.clause [59]) a.2).2).1,(R .statement (R (.clause [41]) (R (.clause [59]) a.2).2).2).1],(R .statement (R (.clause [41]) (R (.clause [59]) a.2).2).2).2).2∧
 (trK 10 [a.1,(R (.clause [59]) a.2).1,(R (.clause [41]) (R (.clause [59]) a.2).2).1,(R .statement (R (.clause [41]) (R (.clause [59]) a.2).2).2).1],(R .statement (R (.clause [41]) (R (.clause [59]) a.2).2).2).2)=(trK 10 [a.1,(R' (.clause [59]) a.2).1,(R' (.clause [41]) (R' (.clause [59]) a.2).2).1,(R' .statement (R' (.clause [41]) (R' (.clause [59]) a.2).2).2).1],(R' .statement (R' (.clause [41]) (R' (.clause [59]) a.2).2).2).2):=by
 obtain⟨p1,e1⟩:=H.more b (q:=.clause [59]) (s1:=a.2) ⟨x.adv.hi,trivial⟩ c;have h1:=yAA c p1.adv.le;obtain⟨p2,e2⟩:=H.more b (q:=.clause [41]) (s1:=(R (.clause [59]) a.2).2) ⟨p1.adv.hi,trivial⟩ h1;have d:=yAA h1 p2.adv.le;obtain⟨p3,e3⟩:=H.more b (q:=.statement) (s1:=(R (.clause [41]) (R (.clause [59]) a.2).2).2) ⟨p2.adv.hi,trivial⟩ d;rw[e1,e2,e3];exact⟨x.then (p1.adv.trans (p2.adv.trans p3.adv)),rfl⟩
theorem zWj:SgQ L R R' .loop s:=fun b f H=>by
 have e:s.k < L.length - 1:=f.2;have x0:=zAt e;have x1:=za (w:=[40]) (s:=zB s) b e;have d:s.k < (zO L [40] (zB s)).k:=yAA (yAF s.k) x1.adv.le;unfold Con zD;dsimp only
 by_cases c:(onP L [108,101,116] (zO L [40] (zB s)) || onP L [99,111,110,115,116] (zO L [40] (zB s)))=true
 · simp only[if_pos c];obtain⟨p1,e1⟩:=H.more b (q:=.declares) (s1:=zO L [40] (zB s)) ⟨x1.adv.hi,trivial⟩ d;have y:=za (w:=[59]) b p1.adv.hi;rw[e1];exact zJP b H (a:=((R .declares (zO L [40] (zB s))).1,zO L [59] (R .declares (zO L [40] (zB s))).2)) (x0.then (x1.adv.trans (p1.adv.trans y.adv))) (yAA d (yAD p1.adv.le y.adv.le))
 · simp only[if_neg c];obtain⟨p1,e1⟩:=H.more b (q:=.clause [59]) (s1:=zO L [40] (zB s)) ⟨x1.adv.hi,trivial⟩ d;rw[e1];exact zJP b H (a:=R (.clause [59]) (zO L [40] (zB s))) (x0.then (x1.adv.trans p1.adv)) (yAA d p1.adv.le)
theorem zWk:SgQ L R R' (.jump k) s:=fun d e _H=>by
 have b:s.k < L.length - 1:=e.2;have x0:=zAt b;unfold Con zD;dsimp only;have y:=zA7 (s:=zB s) d b
 by_cases c:(zH L (zB s).k).kind=1∧(zH L (zB s).k).nl=false
 · simp only[if_pos c];exact⟨x0.then (y.adv.trans (zCV d y.adv.hi)),trivial⟩
 · simp only[if_neg c];exact⟨x0.then (zCV (s:=zB s) d b),trivial⟩
theorem zHm (f:Lst L) (H:Hyp L R R' .tries s) {b:Tr} {c:Tr×Ps} (x:Eat L s c.2) (g:s.k < c.2.k):
 Post L .tries s (if onP L [102,105,110,97,108,108,121] c.2=true then(trK 16 [b,c.1,(R .block (zB c.2)).1],(R .block (zB c.2)).2)else(trK 16 [b,c.1,trK 11 []],c.2)).2∧
 (if onP L [102,105,110,97,108,108,121] c.2=true then(trK 16 [b,c.1,(R .block (zB c.2)).1],(R .block (zB c.2)).2)else(trK 16 [b,c.1,trK 11 []],c.2))=(if onP L [102,105,110,97,108,108,121] c.2=true then(trK 16 [b,c.1,(R' .block (zB c.2)).1],(R' .block (zB c.2)).2)else(trK 16 [b,c.1,trK 11 []],c.2)):=by
 by_cases d:onP L [102,105,110,97,108,108,121] c.2=true
 · simp only[if_pos d];have e:=f.on x.adv.hi d;obtain⟨p1,e1⟩:=H.more f (q:=.block) (s1:=zB c.2) ⟨e,trivial⟩ (Nat.lt_succ_of_lt g);rw[e1];exact⟨x.then ((zAL e).trans p1.adv),rfl⟩
 · simp only[if_neg d];exact⟨x,trivial⟩
theorem zGn (d:Lst L) (H:Hyp L R R' .tries s) {b:Tr} (x:Eat L s s1) (e:s.k < s1.k) {n:jE×Ps} (y:Adv L s1 n.2):
 Post L .tries s (if onP L [102,105,110,97,108,108,121] (R .block n.2).2=true then(trK 16 [b,trN 17 n.1 [(R .block n.2).1],(R .block (zB (R .block n.2).2)).1],(R .block (zB (R .block n.2).2)).2)else(trK 16 [b,trN 17 n.1 [(R .block n.2).1],trK 11 []],(R .block n.2).2)).2∧
 (if onP L [102,105,110,97,108,108,121] (R .block n.2).2=true then(trK 16 [b,trN 17 n.1 [(R .block n.2).1],(R .block (zB (R .block n.2).2)).1],(R .block (zB (R .block n.2).2)).2)else(trK 16 [b,trN 17 n.1 [(R .block n.2).1],trK 11 []],(R .block n.2).2))=(if onP L [102,105,110,97,108,108,121] (R' .block n.2).2=true then(trK 16 [b,trN 17 n.1 [(R' .block n.2).1],(R' .block (zB (R' .block n.2).2)).1],(R' .block (zB (R' .block n.2).2)).2)else(trK 16 [b,trN 17 n.1 [(R' .block n.2).1],trK 11 []],(R' .block n.2).2)):=by
 obtain⟨p1,e1⟩:=H.more d (q:=.block) (s1:=n.2) ⟨y.hi,trivial⟩ (yAA e y.le);rw[e1];exact zHm d H (c:=(trN 17 n.1 [(R .block n.2).1],(R .block n.2).2)) (x.then (y.trans p1.adv)) (yAA e (yAD y.le p1.adv.le))
theorem zTQ:SgQ L R R' .tries s:=fun b l H=>by
 have d:s.k < L.length - 1:=l.2;have x0:=zAt d;unfold Con zD;dsimp only;obtain⟨p1,e1⟩:=H.more b (q:=.block) (s1:=zB s) ⟨d,trivial⟩ (yAF _);rw[e1];have y:Adv L (zB s) (if(onP L [99,97,116,99,104] (R .block (zB s)).2 || onP L [102,105,110,97,108,108,121] (R .block (zB s)).2)=true then(R .block (zB s)).2 else zb L (R .block (zB s)).2):=by
  split
  · exact p1.adv
  · exact p1.adv.trans (zz p1.adv.hi).adv
 obtain⟨s1,j⟩:=jx ((if(onP L [99,97,116,99,104] (R .block (zB s)).2 || onP L [102,105,110,97,108,108,121] (R .block (zB s)).2)=true then(R .block (zB s)).2 else zb L (R .block (zB s)).2));rw[j]at y⊢;have g:s.k < s1.k:=y.le
 by_cases c:onP L [99,97,116,99,104] s1=true
 · simp only[if_pos c];have e:=b.on y.hi c;have z:=zAL e
   by_cases c2:onP L [40] (zB s1)=true
   · simp only[if_pos c2];have f:=b.on (s:=zB s1) e c2;have u:=zA7 (s:=zB (zB s1)) b f;have v:=za (w:=[41]) b u.adv.hi;exact zGn b H (n:=((ze L (zB (zB s1))).1,zO L [41] (ze L (zB (zB s1))).2)) (x0.then y) g (z.trans ((zAL f).trans (u.adv.trans v.adv)))
   · simp only[if_neg c2];exact zGn b H (n:=([],zB s1)) (x0.then y) g z
 · simp only[if_neg c];exact zHm b H (c:=(trK 11 [],s1)) (x0.then y) g
theorem zP4:SgQ L R R' .assign s:=fun d e H=>by
 unfold Con zD;dsimp only
 by_cases c:(zH L s.k).kind=1∧isT (zAm L s.k 1) [61,62]=true∧(zAm L s.k 1).nl=false
 · simp only[if_pos c];have b:=d.lt e.1 (by rw[c.1];decide);obtain⟨p1,e1⟩:=H.more d (q:=.body [trN 20 (zH L s.k).text []]) (s1:=zB s) ⟨b,trivial⟩ (yAF _);rw[e1];exact⟨(zAt b).then p1.adv,rfl⟩
 simp only[if_neg c]
 by_cases c2:zAb L s=true
 · simp only[if_pos c2];have b:s.k < L.length - 1:=d.on (w:=[40]) e.1 (by
    unfold zAb at c2;rw[yAQ]at c2;exact c2.1)
   obtain⟨p1,e1⟩:=H.rank (q:=.params) (s1:=s) ⟨e.1,trivial⟩;have x1:Eat L s (R .params s).2:=p1;obtain⟨p2,e2⟩:=H.more d (q:=.body (R .params s).1.subs) (s1:=(R .params s).2) ⟨x1.adv.hi,trivial⟩ (x1.more b);rw[e1,e2];exact⟨x1.then p2.adv,rfl⟩
 simp only[if_neg c2];obtain⟨p1,e1⟩:=H.rank (q:=.cond) (s1:=s) ⟨e.1,trivial⟩;have x1:Eat L s (R .cond s).2:=p1;rw[e1]
 by_cases c3:(zH L (R .cond s).2.k).kind≠5∨¬(zH L (R .cond s).2.k).text∈zKO
 · simp only[if_pos c3];exact⟨x1,trivial⟩
 simp only[if_neg c3];have f:(R .cond s).2.k < L.length - 1:=d.lt x1.adv.hi (by
  intro g;exact c3 (.inl (by rw[g];decide)))
 by_cases c4:zAN (R .cond s).1.nd.kind=false
 · simp only[if_pos c4];exact⟨x1.then (zGB jd x1.adv.hi).adv,trivial⟩
 simp only[if_neg c4];obtain⟨p2,e2⟩:=H.more d (q:=.assign) (s1:=zB (R .cond s).2) ⟨f,trivial⟩ (yBP x1.adv.le);rw[e2];exact⟨x1.then ((zAL f).trans p2.adv),rfl⟩
theorem zWl:SgQ L R R' (.body l) s:=fun b d H=>by
 unfold Con zD;dsimp only;have y:Adv L s (if(zH L s.k).nl=true then zb L s else s):=by
  split
  · exact(zz d.1).adv
  · exact Adv.refl d.1
 obtain⟨s0,e⟩:=jx ((if(zH L s.k).nl=true then zb L s else s));rw[e]at y⊢;have x1:=za (w:=[61,62]) b y.hi;have x:=y.eat x1
 by_cases c:onP L [123] (zO L [61,62] s0)=true
 · simp only[if_pos c];have f:s0.k < (zO L [61,62] s0).k:=by
    by_cases c2:onP L [61,62] s0=true
    · unfold zO;rw[if_pos c2];exact yAF _
    · have g:zO L [61,62] s0=zb L s0:=by unfold zO;rw[if_neg c2]
      have:=b.on x1.adv.hi c;rw[g,zPx]at this;omega
   obtain⟨p1,e1⟩:=H.more b (q:=.block) (s1:=zO L [61,62] s0) ⟨x.adv.hi,trivial⟩ (Nat.lt_of_le_of_lt y.le f);rw[e1];exact⟨x.then p1.adv,rfl⟩
 · simp only[if_neg c];obtain⟨p1,e1⟩:=H.rank (q:=.assign) (s1:=zO L [61,62] s0) ⟨x.adv.hi,trivial⟩ x.adv.le;rw[e1];exact⟨x.then p1.adv,rfl⟩
theorem zWm:SgQ L R R' .cond s:=fun b f H=>by
 unfold Con zD;dsimp only;obtain⟨p1,e1⟩:=H.rank (q:=.either) (s1:=s) ⟨f.1,trivial⟩;have x1:Eat L s (R .either s).2:=p1;rw[e1]
 by_cases c:onP L [63] (R .either s).2=true
 · simp only[if_pos c];have d:=b.on x1.adv.hi c;have e:s.k < (zB (R .either s).2).k:=yBP x1.adv.le;obtain⟨p2,e2⟩:=H.more b (q:=.assign) (s1:=zB (R .either s).2) ⟨d,trivial⟩ e;have y:=za (w:=[58]) b p2.adv.hi;obtain⟨p3,e3⟩:=H.more b (q:=.assign) (s1:=zO L [58] (R .assign (zB (R .either s).2)).2) ⟨y.adv.hi,trivial⟩ (yAA e (yAD p2.adv.le y.adv.le));rw[e2,e3];exact⟨x1.then ((zAL d).trans (p2.adv.trans (y.adv.trans p3.adv))),rfl⟩
 · simp only[if_neg c];exact⟨x1,trivial⟩
theorem zP5:SgQ L R R' .either s:=fun d e H=>by
 unfold Con zD;dsimp only;obtain⟨p1,e1⟩:=H.rank (q:=.level 0) (s1:=s) ⟨e.1,yAE _⟩;have x1:Eat L s (R (.level 0) s).2:=p1;have _:=d.pos;rw[e1];have fin:∀{q:Ps} {c:Bool},q.k≤L.length - 1→Adv L q (if c=true then zb L q else q):=by
  intro q c b;split
  · exact(zz b).adv
  · exact Adv.refl b
 by_cases c:onP L [63,63] (R (.level 0) s).2=true
 · simp only[if_pos c];obtain⟨p2,e2⟩:=H.rank (q:=.nullL (R (.level 0) s).1) (s1:=(R (.level 0) s).2) ⟨x1.adv.hi,trivial⟩ x1.adv.le;rw[e2];exact⟨x1.then (p2.adv.trans (fin p2.adv.hi)),rfl⟩
 · simp only[if_neg c];obtain⟨p2,e2⟩:=H.rank (q:=.both (R (.level 0) s).1) (s1:=(R (.level 0) s).2) ⟨x1.adv.hi,trivial⟩ x1.adv.le;rw[e2];obtain⟨p3,e3⟩:=H.rank (q:=.orL (R (.both (R (.level 0) s).1) (R (.level 0) s).2).1) (s1:=(R (.both (R (.level 0) s).1) (R (.level 0) s).2).2) ⟨p2.adv.hi,trivial⟩ (yAD x1.adv.le p2.adv.le);rw[e3];exact⟨x1.then (p2.adv.trans (p3.adv.trans (fin p3.adv.hi))),rfl⟩
theorem zTR:SgQ L R R' (.nullL x) s:=fun b d H=>by
 unfold Con zD;dsimp only
 by_cases c:onP L [63,63] s=true
 · simp only[if_pos c];have e:=b.on d.1 c;obtain⟨p1,e1⟩:=H.more b (q:=.level 0) (s1:=zB s) ⟨e,yAE _⟩ (yAF _);obtain⟨p2,e2⟩:=H.more b (q:=.nullL (trN 47 [63,63] [x,(R (.level 0) (zB s)).1])) (s1:=(R (.level 0) (zB s)).2) ⟨p1.adv.hi,trivial⟩ (yAA (yAF _) p1.adv.le);rw[e1,e2];exact⟨(zAL e).trans (p1.adv.trans p2.adv),rfl⟩
 · simp only[if_neg c];exact⟨Adv.refl d.1,trivial⟩
theorem zWn:SgQ L R R' (.both x) s:=fun b d H=>by
 unfold Con zD;dsimp only
 by_cases c:onP L [38,38] s=true
 · simp only[if_pos c];have e:=b.on d.1 c;obtain⟨p1,e1⟩:=H.more b (q:=.level 0) (s1:=zB s) ⟨e,yAE _⟩ (yAF _);obtain⟨p2,e2⟩:=H.more b (q:=.both (trN 47 [38,38] [x,(R (.level 0) (zB s)).1])) (s1:=(R (.level 0) (zB s)).2) ⟨p1.adv.hi,trivial⟩ (yAA (yAF _) p1.adv.le);rw[e1,e2];exact⟨(zAL e).trans (p1.adv.trans p2.adv),rfl⟩
 · simp only[if_neg c];exact⟨Adv.refl d.1,trivial⟩
theorem zYK:SgQ L R R' (.orL x) s:=fun b d H=>by
 unfold Con zD;dsimp only
 by_cases c:onP L [124,124] s=true
 · simp only[if_pos c];have e:=b.on d.1 c;obtain⟨p1,e1⟩:=H.more b (q:=.level 0) (s1:=zB s) ⟨e,yAE _⟩ (yAF _);have h1:s.k < (R (.level 0) (zB s)).2.k:=p1.adv.le;rw[e1];obtain⟨p2,e2⟩:=H.more b (q:=.both (R (.level 0) (zB s)).1) (s1:=(R (.level 0) (zB s)).2) ⟨p1.adv.hi,trivial⟩ h1;rw[e2];obtain⟨p3,e3⟩:=H.more b (q:=.orL (trN 47 [124,124] [x,(R (.both (R (.level 0) (zB s)).1) (R (.level 0) (zB s)).2).1])) (s1:=(R (.both (R (.level 0) (zB s)).1) (R (.level 0) (zB s)).2).2) ⟨p2.adv.hi,trivial⟩ (yAA h1 p2.adv.le);rw[e3];exact⟨(zAL e).trans (p1.adv.trans (p2.adv.trans p3.adv)),rfl⟩
 · simp only[if_neg c];exact⟨Adv.refl d.1,trivial⟩
theorem zTS:SgQ L R R' (.level n) s:=fun d b H=>by
 have e:n≤8:=b.2;have _:=d.pos;unfold Con zD;dsimp only
 by_cases c:n=8
 · simp only[if_pos c];obtain⟨p1,e1⟩:=H.rank (q:=.unary) (s1:=s) ⟨b.1,trivial⟩;rw[e1];exact⟨p1,rfl⟩
 · simp only[if_neg c];obtain⟨p1,e1⟩:=H.rank (q:=.level (n+1)) (s1:=s) ⟨b.1,(by show n+1≤8;omega)⟩;have x1:Eat L s (R (.level (n+1)) s).2:=p1;obtain⟨p2,e2⟩:=H.rank (q:=.levelL n (R (.level (n+1)) s).1) (s1:=(R (.level (n+1)) s).2) ⟨x1.adv.hi,(by show n < 8;omega)⟩ x1.adv.le;rw[e1,e2];exact⟨x1.then p2.adv,rfl⟩
theorem zFe {t:Tok} (h:zBJ t≠9):t.kind≠0:=by
 unfold zBJ at h;intro c;apply h;rw[if_neg];intro b;rcases b with b | b
 · omega
 · exact zF9 b c
theorem zP6:SgQ L R R' (.levelL n x) s:=fun b d H=>by
 have f:n < 8:=d.2;unfold Con zD;dsimp only
 by_cases c:zBJ (zH L s.k)=n
 · simp only[if_pos c];have e:=b.lt d.1 (zFe jo);obtain⟨p1,e1⟩:=H.more b (q:=.level (n+1)) (s1:=zB s) ⟨e,(by show n+1≤8;omega)⟩ (yAF _);obtain⟨p2,e2⟩:=H.more b (q:=.levelL n (trN 46 (zH L s.k).text [x,(R (.level (n+1)) (zB s)).1])) (s1:=(R (.level (n+1)) (zB s)).2) ⟨p1.adv.hi,f⟩ (yAA (yAF _) p1.adv.le);rw[e1,e2];exact⟨(zAL e).trans (p1.adv.trans p2.adv),rfl⟩
 · simp only[if_neg c];exact⟨Adv.refl d.1,trivial⟩
theorem zTT:SgQ L R R' .unary s:=fun b e H=>by
 unfold Con zD;dsimp only
 by_cases c:((zH L s.k).kind=5∨(zH L s.k).kind=6)∧(zH L s.k).text∈zHe
 · simp only[if_pos c];have d:=b.lt e.1 jo;obtain⟨p1,e1⟩:=H.more b (q:=.unary) (s1:=zB s) ⟨d,trivial⟩ (yAF _);rw[e1];exact⟨(zAt d).then p1.adv,rfl⟩
 simp only[if_neg c]
 by_cases c2:((zH L s.k).kind=5∨(zH L s.k).kind=6)∧(zH L s.k).text∈zDa
 · simp only[if_pos c2];have d:=b.lt e.1 jo;obtain⟨p1,e1⟩:=H.more b (q:=.unary) (s1:=zB s) ⟨d,trivial⟩ (yAF _);rw[e1];refine⟨(zAt d).then (p1.adv.trans ?_),rfl⟩;show Adv L _ (if _ then _ else _);split
   · exact(zz p1.adv.hi).adv
   · exact Adv.refl p1.adv.hi
 simp only[if_neg c2];obtain⟨p1,e1⟩:=H.rank (q:=.calls) (s1:=s) ⟨e.1,trivial⟩;have x1:Eat L s (R .calls s).2:=p1;rw[e1]
 by_cases c3:(zH L (R .calls s).2.k).kind=5∧(zH L (R .calls s).2.k).text∈zDa∧(zH L (R .calls s).2.k).nl=false
 · simp only[if_pos c3]
   by_cases c4:zAN (R .calls s).1.nd.kind=false
   · simp only[if_pos c4];exact⟨x1.then (zz x1.adv.hi).adv,trivial⟩
   · simp only[if_neg c4];exact⟨x1.then (zAL (b.lt x1.adv.hi jo)),trivial⟩
 · simp only[if_neg c3];exact⟨x1,trivial⟩
theorem zTU:SgQ L R R' .calls s:=fun b c H=>by
 have _:=b.pos;unfold Con zD;dsimp only;obtain⟨p1,e1⟩:=H.rank (q:=.head) (s1:=s) ⟨c.1,trivial⟩;have x1:Eat L s (R .head s).2:=p1;obtain⟨p2,e2⟩:=H.rank (q:=.callsL (R .head s).1) (s1:=(R .head s).2) ⟨x1.adv.hi,trivial⟩ x1.adv.le;rw[e1,e2];exact⟨x1.then p2.adv,rfl⟩
theorem zP7:SgQ L R R' (.callsL x) s:=fun d e H=>by
 unfold Con zD;dsimp only
 by_cases c:onP L [40] s=true
 · simp only[if_pos c];have b:=d.on e.1 c;obtain⟨p1,e1⟩:=H.rank (q:=.args) (s1:=s) ⟨e.1,b⟩;have x1:Eat L s (R .args s).2:=p1;obtain⟨p2,e2⟩:=H.more d (q:=.callsL (trK 50 (x::(R .args s).1.subs))) (s1:=(R .args s).2) ⟨x1.adv.hi,trivial⟩ (x1.more b);rw[e1,e2];exact⟨x1.adv.trans p2.adv,rfl⟩
 simp only[if_neg c]
 by_cases c2:onP L [46] s=true
 · simp only[if_pos c2];have b:=d.on e.1 c2;have x0:=zAL b
   by_cases c3:(zH L (zB s).k).kind≠1∧(zH L (zB s).k).kind≠6
   · simp only[if_pos c3];exact⟨x0.trans (zz (s:=zB s) b).adv,trivial⟩
   · simp only[if_neg c3];have f:(zB s).k < L.length - 1:=d.lt b jo;obtain⟨p1,e1⟩:=H.more d (q:=.callsL (trN 52 (zH L (zB s).k).text [x])) (s1:=zB (zB s)) ⟨f,trivial⟩ (by show s.k < s.k+1+1;omega);rw[e1];exact⟨x0.trans ((zAL f).trans p1.adv),rfl⟩
 simp only[if_neg c2]
 by_cases c4:onP L [91] s=true
 · simp only[if_pos c4];have b:=d.on e.1 c4;obtain⟨p1,e1⟩:=H.more d (q:=.assign) (s1:=zB s) ⟨b,trivial⟩ (yAF _);have y:=za (w:=[93]) d p1.adv.hi;have z:=p1.adv.trans y.adv;obtain⟨p2,e2⟩:=H.more d (q:=.callsL (trK 53 [x,(R .assign (zB s)).1])) (s1:=zO L [93] (R .assign (zB s)).2) ⟨y.adv.hi,trivial⟩ (yAA (yAF _) z.le);rw[e1,e2];exact⟨(zAL b).trans (z.trans p2.adv),rfl⟩
 · simp only[if_neg c4];exact⟨Adv.refl e.1,trivial⟩
theorem zTV:SgQ L R R' (.headL x) s:=fun c e H=>by
 unfold Con zD;dsimp only
 by_cases c2:onP L [46] s=true
 · simp only[if_pos c2];have b:=c.on e.1 c2;have x0:=zAL b
   by_cases c3:(zH L (zB s).k).kind≠1∧(zH L (zB s).k).kind≠6
   · simp only[if_pos c3];exact⟨x0.trans (zz (s:=zB s) b).adv,trivial⟩
   · simp only[if_neg c3];have d:(zB s).k < L.length - 1:=c.lt b jo;obtain⟨p1,e1⟩:=H.more c (q:=.headL (trN 52 (zH L (zB s).k).text [x])) (s1:=zB (zB s)) ⟨d,trivial⟩ (by show s.k < s.k+1+1;omega);rw[e1];exact⟨x0.trans ((zAL d).trans p1.adv),rfl⟩
 simp only[if_neg c2]
 by_cases c4:onP L [91] s=true
 · simp only[if_pos c4];have b:=c.on e.1 c4;obtain⟨p1,e1⟩:=H.more c (q:=.assign) (s1:=zB s) ⟨b,trivial⟩ (yAF _);have y:=za (w:=[93]) c p1.adv.hi;have z:=p1.adv.trans y.adv;obtain⟨p2,e2⟩:=H.more c (q:=.headL (trK 53 [x,(R .assign (zB s)).1])) (s1:=zO L [93] (R .assign (zB s)).2) ⟨y.adv.hi,trivial⟩ (yAA (yAF _) z.le);rw[e1,e2];exact⟨(zAL b).trans (z.trans p2.adv),rfl⟩
 · simp only[if_neg c4];exact⟨Adv.refl e.1,trivial⟩
theorem zWo:SgQ L R R' .head s:=fun b e H=>by
 unfold Con zD;dsimp only
 by_cases c:onP L [110,101,119] s=true
 · simp only[if_pos c];have d:=b.on e.1 c;have x0:=zAt d;obtain⟨p1,e1⟩:=H.more b (q:=.head) (s1:=zB s) ⟨d,trivial⟩ (yAF _);have h1:s.k < (R .head (zB s)).2.k:=p1.adv.le;obtain⟨p2,e2⟩:=H.more b (q:=.headL (R .head (zB s)).1) (s1:=(R .head (zB s)).2) ⟨p1.adv.hi,trivial⟩ h1;rw[e1,e2];have y:=p1.adv.trans p2.adv
   by_cases c2:onP L [40] (R (.headL (R .head (zB s)).1) (R .head (zB s)).2).2=true
   · simp only[if_pos c2];have f:=b.on y.hi c2;obtain⟨p3,e3⟩:=H.more b (q:=.args) (s1:=(R (.headL (R .head (zB s)).1) (R .head (zB s)).2).2) ⟨y.hi,f⟩ (yAA h1 p2.adv.le);rw[e3];exact⟨x0.then (y.trans p3.adv),rfl⟩
   · simp only[if_neg c2];exact⟨x0.then y,trivial⟩
 · simp only[if_neg c];obtain⟨p1,e1⟩:=H.rank (q:=.primary) (s1:=s) ⟨e.1,trivial⟩;rw[e1];exact⟨p1,rfl⟩
theorem zWp:SgQ L R R' .args s:=fun b c H=>by
 have d:s.k < L.length - 1:=c.2;unfold Con zD;dsimp only;have x:=za (w:=[40]) b c.1;obtain⟨p1,e1⟩:=H.more b (q:=.list [41]) (s1:=zO L [40] s) ⟨x.adv.hi,trivial⟩ (x.more d);rw[e1];exact⟨x.then p1.adv,rfl⟩
theorem zWq {w:jE}:SgQ L R R' (.list w) s:=fun d b H=>by
 unfold Con zD;dsimp only
 by_cases c:onP L w s=true
 · simp only[if_pos c];exact⟨zAt (d.on b.1 c),trivial⟩
 · simp only[if_neg c];obtain⟨p1,e1⟩:=H.rank (q:=.listL w []) (s1:=s) ⟨b.1,trivial⟩;rw[e1];exact⟨p1,rfl⟩
theorem zTW {w:jE} {b:List Tr}:SgQ L R R' (.listL w b) s:=fun d e H=>by
 unfold Con zD;dsimp only;obtain⟨p1,e1⟩:=H.rank (q:=.assign) (s1:=s) ⟨e.1,trivial⟩;have x1:Eat L s (R .assign s).2:=p1;rw[e1]
 by_cases c:(R .assign s).2.bad≠0
 · simp only[if_pos c];exact⟨x1,trivial⟩
 simp only[if_neg c]
 by_cases c2:onP L w (R .assign s).2=true
 · simp only[if_pos c2];exact⟨x1.then (zAL (d.on x1.adv.hi c2)),trivial⟩
 simp only[if_neg c2];have y:=za (w:=[44]) d x1.adv.hi;obtain⟨p2,e2⟩:=H.more d (q:=.listL w (b++[(R .assign s).1])) (s1:=zO L [44] (R .assign s).2) ⟨y.adv.hi,trivial⟩ (yAA (x1.lt e.1 c) y.adv.le);rw[e2];exact⟨x1.then (y.adv.trans p2.adv),rfl⟩
theorem zP8:SgQ L R R' .object s:=fun d b H=>by
 unfold Con zD;dsimp only
 by_cases c:onP L [125] s=true
 · simp only[if_pos c];exact⟨zAt (d.on b.1 c),trivial⟩
 · simp only[if_neg c];obtain⟨p1,e1⟩:=H.rank (q:=.objL []) (s1:=s) ⟨b.1,trivial⟩;rw[e1];exact⟨p1,rfl⟩
theorem zWr {b:List Tr}:SgQ L R R' (.objL b) s:=fun d e H=>by
 unfold Con zD;dsimp only;obtain⟨p1,e1⟩:=H.rank (q:=.prop) (s1:=s) ⟨e.1,trivial⟩;have x1:Eat L s (R .prop s).2:=p1;rw[e1]
 by_cases c:(R .prop s).2.bad≠0
 · simp only[if_pos c];exact⟨x1,trivial⟩
 simp only[if_neg c]
 by_cases c2:onP L [125] (R .prop s).2=true
 · simp only[if_pos c2];exact⟨x1.then (zAL (d.on x1.adv.hi c2)),trivial⟩
 simp only[if_neg c2];have y:=za (w:=[44]) d x1.adv.hi;obtain⟨p2,e2⟩:=H.more d (q:=.objL (b++[(R .prop s).1])) (s1:=zO L [44] (R .prop s).2) ⟨y.adv.hi,trivial⟩ (yAA (x1.lt e.1 c) y.adv.le);rw[e2];exact⟨x1.then (y.adv.trans p2.adv),rfl⟩
theorem zFu {t:Tok} {u:jH} (h:zBS t=some u):t.kind≠0:=by
 unfold zBS at h;intro b;rw[b]at h;simp at h
theorem zWs:SgQ L R R' .prop s:=fun d e H=>by
 unfold Con zD;dsimp only;cases hs:zBS (zH L s.k)with
 | none=>exact⟨zz e.1,by first | rfl | trivial⟩
 | some u=>
  have b:=d.lt e.1 (zFu hs);have x0:=zAt b;dsimp only
  by_cases c:(zH L s.k).kind=1∧onP L [58] (zB s)=false
  · simp only[if_pos c];exact⟨x0,trivial⟩
  simp only[if_neg c];have y:=za (w:=[58]) (s:=zB s) d b;obtain⟨p1,e1⟩:=H.more d (q:=.assign) (s1:=zO L [58] (zB s)) ⟨y.adv.hi,trivial⟩ (yAA (yAF s.k) y.adv.le);rw[e1];exact⟨x0.then (y.adv.trans p1.adv),rfl⟩
theorem zNX:SgQ L R R' .primary s:=fun c d H=>by
 unfold Con zD;dsimp only
 by_cases c0:(zH L s.k).kind=0
 · simp only[if_pos c0];exact⟨zz d.1,trivial⟩
 simp only[if_neg c0];have b:=c.lt d.1 c0;have x0:=zAt b
 by_cases c1:(zH L s.k).kind=2
 · simp only[if_pos c1];exact⟨x0,trivial⟩
 simp only[if_neg c1]
 by_cases c2:(zH L s.k).kind=3
 · simp only[if_pos c2];exact⟨x0,trivial⟩
 simp only[if_neg c2]
 by_cases c3:(zH L s.k).kind=4
 · simp only[if_pos c3];exact⟨x0,trivial⟩
 simp only[if_neg c3]
 by_cases c4:(zH L s.k).kind=1
 · simp only[if_pos c4];exact⟨x0,trivial⟩
 simp only[if_neg c4]
 by_cases c5:(zH L s.k).text=[116,114,117,101]
 · simp only[if_pos c5];exact⟨x0,trivial⟩
 simp only[if_neg c5]
 by_cases c6:(zH L s.k).text=[102,97,108,115,101]
 · simp only[if_pos c6];exact⟨x0,trivial⟩
 simp only[if_neg c6]
 by_cases c7:(zH L s.k).text=[110,117,108,108]
 · simp only[if_pos c7];exact⟨x0,trivial⟩
 simp only[if_neg c7]
 by_cases c8:(zH L s.k).text=[116,104,105,115]
 · simp only[if_pos c8];exact⟨x0,trivial⟩
 simp only[if_neg c8]
 by_cases e:(zH L s.k).text=[91]
 · simp only[if_pos e];obtain⟨p1,e1⟩:=H.more c (q:=.list [93]) (s1:=zB s) ⟨b,trivial⟩ (yAF _);rw[e1];exact⟨x0.then p1.adv,rfl⟩
 simp only[if_neg e]
 by_cases d0:(zH L s.k).text=[123]
 · simp only[if_pos d0];obtain⟨p1,e1⟩:=H.more c (q:=.object) (s1:=zB s) ⟨b,trivial⟩ (yAF _);rw[e1];exact⟨x0.then p1.adv,rfl⟩
 simp only[if_neg d0]
 by_cases d1:(zH L s.k).text=[102,117,110,99,116,105,111,110]
 · simp only[if_pos d1]
   by_cases d2:(zH L (zB s).k).kind=1
   · simp only[if_pos d2];have y:=zA7 (s:=zB s) c b;obtain⟨p1,e1⟩:=H.more c (q:=.func 41 (ze L (zB s)).1) (s1:=(ze L (zB s)).2) ⟨y.adv.hi,trivial⟩ (yAA (yAF s.k) y.adv.le);rw[e1];exact⟨x0.then (y.adv.trans p1.adv),rfl⟩
   · simp only[if_neg d2];obtain⟨p1,e1⟩:=H.more c (q:=.func 41 []) (s1:=zB s) ⟨b,trivial⟩ (yAF _);rw[e1];exact⟨x0.then p1.adv,rfl⟩
 simp only[if_neg d1]
 by_cases d3:(zH L s.k).text=[40]
 · simp only[if_pos d3];obtain⟨p1,e1⟩:=H.more c (q:=.assign) (s1:=zB s) ⟨b,trivial⟩ (yAF _);rw[e1];exact⟨x0.then (p1.adv.trans (za c p1.adv.hi).adv),rfl⟩
 simp only[if_neg d3];refine⟨?_,by first | rfl | trivial⟩;show Eat L s (if _ then _ else _);split
 · exact zGB jd d.1
 · exact zz d.1
theorem zIU (b:Lst L) (c:Pre L p s) (H:Hyp L R R' p s):Con L R R' p s:=by
 cases p with
 | program d=>exact zNW b c H
 | block=>exact zTO b c H
 | blockL d=>exact zPy b c H
 | item=>exact zWg b c H
 | declares=>exact zKo b c H
 | declL k d=>exact zTP b c H
 | func k n=>exact zWh b c H
 | params=>exact zPz b c H
 | paramL d=>exact zP0 b c H
 | statement=>exact zJO b c H
 | simple=>exact zP1 b c H
 | word w=>exact zWi b c H
 | within=>exact zP2 b c H
 | clause w=>exact zP3 b c H
 | loop=>exact zWj b c H
 | jump k=>exact zWk b c H
 | tries=>exact zTQ b c H
 | assign=>exact zP4 b c H
 | body l=>exact zWl b c H
 | cond=>exact zWm b c H
 | either=>exact zP5 b c H
 | nullL x=>exact zTR b c H
 | orL x=>exact zYK b c H
 | both x=>exact zWn b c H
 | level n=>exact zTS b c H
 | levelL n x=>exact zP6 b c H
 | unary=>exact zTT b c H
 | calls=>exact zTU b c H
 | callsL x=>exact zP7 b c H
 | head=>exact zWo b c H
 | headL x=>exact zTV b c H
 | args=>exact zWp b c H
 | list w=>exact zWq b c H
 | listL w d=>exact zTW b c H
 | primary=>exact zNX b c H
 | object=>exact zP8 b c H
 | objL d=>exact zWr b c H
 | prop=>exact zWs b c H
end
theorem zL9 {L:List Tok} (b:Lst L):∀(f g:Nat) (p:Ph) (s:Ps),Pre L p s→zCL L p s < f→zCL L p s < g→Post L p s (zHK L f p s).2∧zHK L f p s=zHK L g p s:=by
 intro f
 induction f with
 | zero=>intro g p s _ h _;omega
 | succ f c=>
  intro g p s d j hg;obtain⟨g,rfl⟩:∃m,g=m+1:=⟨g - 1,by omega⟩;exact zIU (R:=zHK L f) (R':=zHK L g) b d (fun q s1 e k=>c g q s1 e jo jo)
theorem zZ {L:List Tok} (b:Lst L) {s:Ps} (c:Pre L p s):Post L p s (zE L p s).2:=(zL9 b _ _ p s c (yAF _) (yAF _)).1
theorem zQ {L:List Tok} (b:Lst L) {s:Ps} (c:Pre L p s):zE L p s=zD L (zE L) p s:=by
 have h:=zIU (R:=zHK L (zCL L p s)) (R':=zE L) b c (fun q s1 d e=>zL9 b _ _ q s1 d e (yAF _));exact h.2
theorem zKp {L:List Tok} (c:Lst L):∀(f:Nat) (p:Ph) (s:Ps),Pre L p s→Post L p s (zHK L f p s).2:=by
 intro f
 induction f with
 | zero=>
  intro p s b;have:=zGB (L:=L) (e:=99) (s:=s) jd b.1;unfold Post;split
  · exact this
  · exact this.adv
 | succ f d=>exact fun p s b=>(zIU (R:=zHK L f) (R':=zHK L f) c b (fun q s1 g _=>⟨d q s1 g,rfl⟩)).1
theorem zTX (r:Nat):∀ks:List Int,zFz [] r ks=ks.all (zAd r):=by
 intro ks
 induction ks with
 | nil=>rfl
 | cons k ks b=>
  show(zAd r k&&zFz [] r ks)=_;rw[b];rfl
def zP9:List Int:=[1,2,3,4,5,6,8,9,10,11,12,13,14,15,16,17,34,35,36,37,38,39,42,48,50,51,53]
theorem zD6 {P:Tr→Prop}:∀t∈([]:List Tr),P t:=fun t h=>by cases h
theorem zJQ {P:Tr→Prop} {a:Tr} (h:P a):∀t∈[a],P t:=fun t b=>by rw[yBT.1 b];exact h
theorem zSH {P:Tr→Prop} {a b:Tr} (h:P a) (d:P b):∀t∈[a,b],P t:=fun t c=>by
 rcases yAW.1 c with rfl | c
 · exact h
 · exact zJQ d t c
theorem zYL {P:Tr→Prop} {a b c:Tr} (h:P a) (e:P b) (f:P c):∀t∈[a,b,c],P t:=fun t d=>by
 rcases yAW.1 d with rfl | d
 · exact h
 · exact zSH e f t d
theorem zao {P:Tr→Prop} {a b c d:Tr} (h:P a) (f:P b) (g:P c) (j:P d):∀t∈[a,b,c,d],P t:=fun t e=>by
 rcases yAW.1 e with rfl | e
 · exact h
 · exact zYL f g j t e
theorem zB7 {P:Tr→Prop} {a:Tr} (h:∀t∈l,P t) (c:P a):∀t∈l++[a],P t:=fun t d=>by
 rcases yBQ.1 d with b | b
 · exact h t b
 · exact zJQ c t b
def GE (t:Tr):Prop:=goodT t=true∧zBb t.nd.kind=true
def GU (t:Tr):Prop:=goodT t=true∧zEJ t.nd.kind=true
def GC (t:Tr):Prop:=goodT t=true∧zAd 9 t.nd.kind=true
theorem GE.clause (h:GE t):GC t:=⟨h.1,by unfold zAd;simp[h.2]⟩
def zWt (x:Nd) (vs vm vo:Value):List Value:=[x.kind,x.name,vs,x.nk,x.nn,x.neg,vm,(),vo]
mutual
def TrC (w:World) (F:Nat→Prop):Tr→List Value→Prop
 | .mk x l,cs=>∃vs vm vo ks,cs=zWt x vs vm vo∧x.kids=[]∧w.ownsRow 0 104 1 vs x.str.length (zAC x.str)∧w.ownsRow 0 119 1 vm x.mag.length (zBg x.mag)∧w.ownsRow 0 61 9 vo l.length ks∧(∀b,vo.ownBlock=some b→F b)∧TrsC w F l ks
def TrsC (w:World) (F:Nat→Prop):List Tr→List Value→Prop
 | [],cs=>cs=[]
 | t::r,cs=>∃c0 rest,cs=c0++rest∧TrC w F t c0∧TrsC w F r rest
end
theorem zER {w:World} {F:Nat→Prop} {x:Nd} {cs:List Value}:TrC w F (.mk x l) cs↔∃vs c vo ks,cs=zWt x vs c vo∧x.kids=[]∧w.ownsRow 0 104 1 vs x.str.length (zAC x.str)∧w.ownsRow 0 119 1 c x.mag.length (zBg x.mag)∧w.ownsRow 0 61 9 vo l.length ks∧(∀b,vo.ownBlock=some b→F b)∧TrsC w F l ks:=by rw[TrC]
theorem zCs {w:World} {F:Nat→Prop} {cs:List Value}:TrsC w F [] cs↔cs=[]:=by rw[TrsC]
theorem zBu {w:World} {F:Nat→Prop} {r:List Tr} {cs:List Value}:TrsC w F (t::r) cs↔∃c0 rest,cs=c0++rest∧TrC w F t c0∧TrsC w F r rest:=by rw[TrsC]
def Bx (w:World) (R:Nat) (T:TypeId) (cs:List Value):Prop:=w.heap[R]? =some (.cells cs.toArray T (0,0))
def Fz (w:World) (P:Nat→Prop) (r:Option Nat):Prop:=∀b,r=some b→¬P b∧∃cur T,w.heap[b]? =some (.cells cur T (0,0))∧T≠104∧T≠119
section
variable {w w':World} {P Q F G:Nat→Prop} {r:Option Nat} {R:Nat} {T:TypeId} {cs:List Value}
theorem Bx.lt (h:Bx w R T cs):R < w.heap.size:=by
 rcases yBO R w.heap.size with h1 | h1
 · exact h1
 · unfold Bx at h;rw[Array.getElem?_eq_none h1]at h;cases h
theorem Bx.cell (h:Bx w R T cs) (j:Nat):w.cell? ⟨R,j,none⟩=cs[j]? :=by
 unfold World.cell?;have b:w.heap[(⟨R,j,none⟩:Addr).block]? =_:=h;rw[b];simp
theorem Bx.frozen (h:Bx w R T cs) (j:Nat):w.frozen? ⟨R,j,none⟩=false:=by
 unfold World.frozen?;have b:w.heap[(⟨R,j,none⟩:Addr).block]? =_:=h;rw[b];simp
theorem Bx.new (w:World) (cs:List Value) (T:TypeId):Bx (w.alloc (.cells cs.toArray T)) w.heap.size T cs:=by
 unfold Bx World.alloc;simp
theorem Bx.grown (h:Bx w R T cs) (hg:w.grownBy w' r) (b:r≠some R):Bx w' R T cs:=(hg.block R h.lt (fun e=>b e.symm)).trans h
theorem Bx.alloc (h:Bx w R T cs) (o:Obj):Bx (w.alloc o) R T cs:=h.grown (zG w o none) js
theorem Bx.set (h:Bx w R T cs) (j:Nat) (v:Value):Bx (w.setCell ⟨R,j,none⟩ v) R T (cs.set j v):=by
 unfold Bx at h⊢;unfold World.setCell;show(w.heap.modify R _)[R]? =_;rw[Array.getElem?_modify,if_pos rfl,h];simp
theorem Fz.none_ (w:World) (P:Nat→Prop):Fz w P none:=fun b h=>by cases h
theorem Fz.box (h:Bx w R T cs) (h1:T≠104) (c:T≠119) (d:¬P R):Fz w P (some R):=fun b e=>by
 injection e with e;subst e;exact⟨d,_,_,h,h1,c⟩
theorem Fz.own (h:w.ownsRow base 61 9 v n xs) (d:∀b,v.ownBlock=some b→¬P b):Fz w P v.ownBlock:=fun b e=>by
 refine⟨d b e,?_⟩;rcases h.2 with⟨rfl,_⟩ | ⟨g,cap,c,rfl,_,hg,_⟩
 · cases e
 · simp only[Value.ownBlock,yCE]at e;subst e;exact⟨c,_,hg,by decide,by decide⟩
theorem zBc {s:Nat} (h:w.ownsRow base e s v n xs) {b:Nat} (hb:v.ownBlock=some b):∃c,w.heap[b]? =some (.cells c e (0,0)):=by
 rcases h.2 with⟨rfl,_⟩ | ⟨g,cap,c,rfl,_,hg,_⟩
 · cases hb
 · simp only[Value.ownBlock,yCE]at hb;subst hb;exact⟨c,hg⟩
theorem zCE (h:w.ownsRow base e 1 v n xs) (c:e=104∨e=119) (hg:w.grownBy w' r) (f:Fz w P r):w'.ownsRow base e 1 v n xs:=by
 refine h.kept hg ?_;cases hb:v.ownBlock with
 | none=>exact .inl rfl
 | some b=>
  right;intro e2;obtain⟨_,l,T,h1,g,j⟩:=f b e2.symm;obtain⟨k,d⟩:=zBc h hb;rw[h1]at d;injection d with d;injection d with _ h5 _;subst h5;rcases c with c | c
  · exact g c
  · exact j c
theorem zMA {s:Nat} (h:w.ownsRow base e s v n xs) (c:∀b,v.ownBlock=some b→P b) (hg:w.grownBy w' r) (d:Fz w P r):w'.ownsRow base e s v n xs:=by
 refine h.kept hg ?_;cases hb:v.ownBlock with
 | none=>exact .inl rfl
 | some b=>exact .inr (fun e2=>(d b e2.symm).1 (c b hb))
mutual
theorem TrC.keep {w w':World} {P:Nat→Prop} {r:Option Nat} (hg:w.grownBy w' r) (hz:Fz w P r) (t:Tr) (cs:List Value) (h:TrC w P t cs):TrC w' P t cs:=by
 cases t with
 | mk x l=>
  rw[zER]at h⊢;obtain⟨vs,vm,vo,ks,h1,h2,h3,h4,h5,h6,h7⟩:=h;exact⟨vs,vm,vo,ks,h1,h2,zCE h3 (.inl rfl) hg hz,zCE h4 (.inr rfl) hg hz,zMA h5 h6 hg hz,h6,TrsC.keep hg hz l ks h7⟩
theorem TrsC.keep {w w':World} {P:Nat→Prop} {r:Option Nat} (hg:w.grownBy w' r) (hz:Fz w P r) (l:List Tr) (cs:List Value) (h:TrsC w P l cs):TrsC w' P l cs:=by
 cases l with
 | nil=>rw[zCs]at h⊢;exact h
 | cons t q=>
  rw[zBu]at h⊢;obtain⟨c0,rest,h1,h2,h3⟩:=h;exact⟨c0,rest,h1,TrC.keep hg hz t c0 h2,TrsC.keep hg hz q rest h3⟩
end
mutual
theorem TrC.sub {w:World} {P Q:Nat→Prop} (hs:∀b,P b→b < w.heap.size→Q b) (t:Tr) (cs:List Value) (h:TrC w P t cs):TrC w Q t cs:=by
 cases t with
 | mk x l=>
  rw[zER]at h⊢;obtain⟨vs,vm,vo,ks,h1,h2,h3,h4,h5,h6,h7⟩:=h;exact⟨vs,vm,vo,ks,h1,h2,h3,h4,h5,fun b hb=>hs b (h6 b hb) (h5.lt b hb).2,TrsC.sub hs l ks h7⟩
theorem TrsC.sub {w:World} {P Q:Nat→Prop} (hs:∀b,P b→b < w.heap.size→Q b) (l:List Tr) (cs:List Value) (h:TrsC w P l cs):TrsC w Q l cs:=by
 cases l with
 | nil=>rw[zCs]at h⊢;exact h
 | cons t q=>
  rw[zBu]at h⊢;obtain⟨c0,rest,h1,h2,h3⟩:=h;exact⟨c0,rest,h1,TrC.sub hs t c0 h2,TrsC.sub hs q rest h3⟩
end
theorem TrC.len (h:TrC w F t cs):cs.length=9:=by
 cases t with
 | mk x l=>
  rw[zER]at h;obtain⟨vs,b,vo,ks,rfl,_⟩:=h;rfl
theorem TrC.one (h:TrC w F t cs):(cs.all fun u=>u.oneCell')=true:=by
 cases t with
 | mk x l=>
  rw[zER]at h;obtain⟨vs,e,vo,ks,rfl,_,b,c,d,_⟩:=h;obtain⟨_,_,rfl,_⟩:=zP b;obtain⟨_,_,rfl,_⟩:=zP c;obtain⟨_,_,rfl,_⟩:=zP d;rfl
end
section
variable {w w':World} {P Q F G:Nat→Prop} {r:Option Nat}
theorem TrsC.len:∀{l:List Tr} {cs:List Value},TrsC w F l cs→cs.length=l.length*9:=by
 intro l
 induction l with
 | nil=>intro cs h;rw[zCs]at h;rw[h];rfl
 | cons t r b=>
  intro cs h;rw[zBu]at h;obtain⟨c0,rest,rfl,h1,c⟩:=h;rw[yAN,h1.len,b c,yAO];omega
theorem TrsC.one:∀{l:List Tr} {cs:List Value},TrsC w F l cs→(cs.all fun u=>u.oneCell')=true:=by
 intro l
 induction l with
 | nil=>intro cs h;rw[zCs]at h;rw[h];rfl
 | cons t r b=>
  intro cs h;rw[zBu]at h;obtain⟨c0,rest,rfl,h1,c⟩:=h;rw[List.all_append,h1.one,b c];rfl
theorem TrsC.app:∀{l r:List Tr} {cs ds:List Value},TrsC w F l cs→TrsC w F r ds→TrsC w F (l++r) (cs++ds):=by
 intro l
 induction l with
 | nil=>intro r cs ds h b;rw[zCs]at h;subst h;exact b
 | cons t l c=>
  intro r cs ds h b;rw[zBu]at h;obtain⟨c0,rest,rfl,d,e⟩:=h;rw[yAP,zBu];exact⟨c0,rest++ds,by rw[yAL],d,c e b⟩
theorem TrsC.cons {c cs:List Value} (h:TrC w F t c) (b:TrsC w F l cs):TrsC w F (t::l) (c++cs):=by
 rw[zBu];exact⟨c,cs,rfl,h,b⟩
theorem TrsC.nil (w:World) (F:Nat→Prop):TrsC w F [] []:=by rw[zCs]
theorem TrsC.single {c:List Value} (h:TrC w F t c):TrsC w F [t] c:=by
 have:=TrsC.cons h (.nil w F);rwa [yAS]at this
theorem TrsC.snoc {cs c:List Value} (h:TrsC w F l cs) (b:TrC w F t c):TrsC w F (l++[t]) (cs++c):=h.app (.single b)
structure RowK (w:World) (P:Nat→Prop) (v:Value) (l:List Tr) (ks:List Value) (F:Nat→Prop):Prop where
 own:w.ownsRow 0 61 9 v l.length ks
 blk:∀b,v.ownBlock=some b→P b
 subs:TrsC w F l ks
 off:∀b,v.ownBlock=some b→¬F b
 low:∀b,F b→P b∧b < w.heap.size
def RowP (w:World) (P:Nat→Prop) (v:Value) (l:List Tr):Prop:=∃ks F,RowK w P v l ks F
theorem RowP.nil (w:World) (P:Nat→Prop):RowP w P (.slice none 0 0) []:=⟨[],fun _=>False,yAJ _ _ _ _,(fun _ h=>by cases h),.nil _ _,(fun _ h=>by cases h),fun _ h=>h.elim⟩
theorem Fz.less (h:Fz w P r) (hs:∀b,F b→P b):Fz w F r:=fun b e=>⟨fun hb=>(h b e).1 (hs b hb),(h b e).2⟩
theorem RowK.keep (h:RowK w P v l ks F) (hg:w.grownBy w' r) (c:Fz w P r):RowK w' P v l ks F:=
 ⟨zMA h.own h.blk hg c,h.blk,.keep hg (c.less fun b hb=>(h.low b hb).1) l ks h.subs,h.off,fun b hb=>⟨(h.low b hb).1,yAA (h.low b hb).2 hg.size⟩⟩
theorem RowP.keep (h:RowP w P v l) (hg:w.grownBy w' r) (b:Fz w P r):RowP w' P v l:=by
 obtain⟨ks,F,h⟩:=h;exact⟨ks,F,h.keep hg b⟩
theorem RowP.new (h:RowP w P v l) (hg:w.grownBy w' none):RowP w' P v l:=h.keep hg (.none_ w P)
theorem RowP.sub (h:RowP w P v l) (hs:∀b,P b→b < w.heap.size→Q b):RowP w Q v l:=by
 obtain⟨ks,F,h⟩:=h;exact⟨ks,F,h.own,fun b hb=>hs b (h.blk b hb) (h.own.lt b hb).2,h.subs,h.off,fun b hb=>⟨hs b (h.low b hb).1 (h.low b hb).2,(h.low b hb).2⟩⟩
theorem RowP.shape (h:RowP w P v l):∃A c,v=.slice A l.length c∧l.length≤c∧c≤maxLen:=by
 obtain⟨ks,F,h⟩:=h;exact zP h.own
theorem RowP.tree {x:Nd} {vs c:Value} (h:RowP w P v l) (hk:x.kids=[]) (h1:w.ownsRow 0 104 1 vs x.str.length (zAC x.str)) (d:w.ownsRow 0 119 1 c x.mag.length (zBg x.mag)):TrC w P (.mk x l) (zWt x vs c v):=by
 obtain⟨ks,F,h⟩:=h;rw[zER];exact⟨vs,c,v,ks,rfl,hk,h1,d,h.own,h.blk,.sub (fun b hb _=>(h.low b hb).1) l ks h.subs⟩
def zZM (k:Int) (n:jE) (v:Value):List Value:=[k,n,(),(0:Int),(0:Int),false,(),(),v]
theorem RowP.treeN {n:jE} (h:RowP w P v l):TrC w P (trN k n l) (zZM k n v):=h.tree (x:={zB6 with kind:=k,name:=n}) rfl (yAJ _ _ _ _) (yAJ _ _ _ _)
theorem RowP.treeK (h:RowP w P v l):TrC w P (trK k l) (zZM k [] v):=h.tree (x:={zB6 with kind:=k}) rfl (yAJ _ _ _ _) (yAJ _ _ _ _)
theorem RowK.snoc {w1:World} {v':Value} {c:List Value} (h:RowK w1 P v l ks F) (k:TrC w1 Q t c) (m:∀b,Q b→b < w1.heap.size→P b) (f:∀b,v.ownBlock=some b→¬Q b) (o:P w1.heap.size)
 (p:w'.ownsRow 0 61 9 v' (l.length+1) (ks++c)) (hg:w1.grownBy w' v.ownBlock) (g:v'.ownBlock=v.ownBlock∨v'.ownBlock=some w1.heap.size):RowP w' P v' (l++[t]):=by
 have j:=hg.size;refine⟨ks++c,fun b=>F b∨(Q b∧b < w1.heap.size),by rw[yAN];exact p,?_,?_,?_,?_⟩
 · intro b hb;rcases g with e | e
   · rw[e]at hb;exact h.blk b hb
   · rw[e]at hb;injection hb with hb;subst hb;exact o
 · refine .snoc (.sub (fun b hb _=>.inl hb) l ks (.keep hg (.own h.own h.off) l ks h.subs)) ?_;have h1:TrC w1 (fun b=>Q b∧b < w1.heap.size) t c:=.sub (fun b hb q=>⟨hb,q⟩) t c k;exact .sub (fun b hb _=>.inr hb) t c (.keep hg (.own h.own fun b hb d=>f b hb d.1) t c h1)
 · intro b hb d;rcases g with e | e
   · rw[e]at hb;rcases d with d | d
     · exact h.off b hb d
     · exact f b hb d.1
   · rw[e]at hb;injection hb with hb;subst hb;rcases d with d | d
     · have:=(h.low _ d).2;omega
     · omega
 · intro b hb;rcases hb with hb | hb
   · exact⟨(h.low b hb).1,yAA (h.low b hb).2 j⟩
   · exact⟨m b hb.1 hb.2,by omega⟩
theorem RowP.lit {cs:List Value} (f:n=l.length) (h:TrsC w P l cs) (g:P w.heap.size) (c:l.length≤maxLen):RowP (w.alloc (.cells cs.toArray 61)) P (.slice (some ⟨w.heap.size,0,none⟩) n n) l:=by
 subst f;have hb:=Bx.new w cs 61;have j:TrsC w (fun b=>P b∧b < w.heap.size) l cs:=.sub (fun b hb c=>⟨hb,c⟩) l cs h;have k:=TrsC.keep (zG w (.cells cs.toArray 61) none) (.none_ w _) l cs j;refine⟨cs,_,⟨h.len,.inr ⟨w.heap.size,l.length,cs.toArray,rfl,yAE _,hb,yAC _,c,?_,?_⟩⟩,?_,k,?_,?_⟩
 · simp[h.len]
 · rw[←h.len];simp
 · intro b e;simp only[Value.ownBlock,yCE]at e;subst e;exact g
 · intro b e d;simp only[Value.ownBlock,yCE]at e;subst e;omega
 · intro b d;exact⟨d.1,by simp;omega⟩
end
theorem zC9 (x:UInt16) (w:World):Calls prog 144 #[.int .u16 (x.toNat:Int)] w fun e w'=>e=.returned (zJ x)∧w=w':=by
 have h1:=x.toNat_lt;go_enter func144,ntmps144;go_wp2
 all_goals go_ret
 all_goals refine⟨zF ?_,rfl⟩
 all_goals (rw[yBJ];simp only[zJ,yAQ,yBG,yCF,false_iff];omega)
theorem zE4 (x:UInt16) (w:World):Calls prog 139 #[.int .u16 (x.toNat:Int)] w fun e w'=>e=.returned (zAp x)∧w=w':=by
 have h1:=x.toNat_lt;go_enter func139,ntmps139;go_wp2
 all_goals go_ret
 all_goals refine⟨zF ?_,rfl⟩
 all_goals (rw[yBJ];simp[zAp];omega)
theorem zWu (w:World):Calls prog 146 #[.agg #[(2:Int),(0:Int)]] w fun e w'=>e=.returned (.agg #[(2:Int),(0:Int)])∧jY w w':=by
 go_enter func146,ntmps146;go_wp2
 go_returns
 exact⟨rfl,by go_grown⟩
theorem zWv (w:World):Calls prog 146 #[.agg #[(3:Int),(0:Int)]] w fun e w'=>e=.returned (.agg #[(4:Int),(0:Int)])∧jY w w':=by
 go_enter func146,ntmps146;go_wp2
 go_returns
 exact⟨rfl,by go_grown⟩
theorem zNY (w:World):Calls prog 146 #[.agg #[(0:Int),(0:Int)]] w fun e w'=>e=.returned (.agg #[(1:Int),(0:Int)])∧jY w w':=by
 go_enter func146,ntmps146;go_wp2
 go_returns
 exact⟨rfl,by go_grown⟩
theorem zQA (n:Int) (b:0 < n) (h1:n≤9007199254740991) (w:World):Calls prog 146 #[.agg #[(0:Int),n]] w fun e w'=>e=.returned (.agg #[(0:Int),(-n:Int)])∧jY w w':=by
 have e0:(n==0)=false:=yA.2 jo;have e1:(-9007199254740991:Int)≤n:=by omega
 go_enter func146,ntmps146;go_wp2
 go_returns
 exact⟨rfl,by go_grown⟩
def zQB (m:Nat) (A:jQ) (c:Nat):Value:=if m=0 then .slice none 0 0 else .slice A m c
theorem zMB {c m:Nat} {xs:List Nat} {w:World} (g:xs.length=n) (j:Reads w B 1 A n (zBg xs)) (hB:B≤w.heap.size) (k:n≤4096) (l:n≤c) (d:c≤maxLen) (o:(zAe xs).length=m):
 Calls prog 161 #[.slice A n c,false] w fun e w'=>e=.returned (.agg #[false,zQB m A c])∧jY w w':=by
 have p:=zA (j.alloc hB (.cells #[false,()] 55));have q:=zA o;have r:=zA g;clear j o g
 by_cases b:m=0
 · have f:=zA (show zQB m A c=.slice none 0 0 from if_pos b);have e1:((m:Int)==0)=true:=by rw[b];rfl
   clear b;go_enter func161,ntmps161;go_wp2_with (go_at_call 104;refine(zE3 r.out p.out k l d q.out).mono ?_;rintro e w' ⟨rfl,rfl⟩);rw[f.out];exact bodyPost_ret (v:=.agg #[false,()]) (by simp[results,results161,go_sem]) rfl ⟨rfl,ja⟩
 · have f:=zA (show zQB m A c=.slice A m c from if_neg b);have e1:((m:Int)==0)=false:=yA.2 jo;clear b;go_enter func161,ntmps161;go_wp2_with (go_at_call 104;refine(zE3 r.out p.out k l d q.out).mono ?_;rintro e w' ⟨rfl,rfl⟩);rw[f.out];exact bodyPost_ret (v:=.agg #[false,.slice A m c]) (by simp[results,results161,go_sem]) rfl ⟨rfl,ja⟩
theorem zQC {s:ByteArray} {l:jH} (h:s.data.toList=asc l) (d:∀x∈l,zJ x=true):s.size=l.length∧∀i (hi:i < s.size) (b:i < l.length),s[i].toNat=l[i].toNat∧48≤s[i].toNat∧s[i].toNat≤57:=by
 have h1:s.size=l.length:=by
  have:=congrArg List.length h;simpa [asc]using this
 refine⟨h1,fun i hi b=>?_⟩;have c:s.data.toList[i]? =(asc l)[i]? :=by rw[h]
 have e:s[i]=l[i].toUInt8:=by
  have e1:s.data.toList[i]? =some s[i]:=by
   rw[yAB (by simpa using hi)];rfl
  have e2:(asc l)[i]? =some l[i].toUInt8:=by simp[asc,yAB b]
  rw[e1,e2]at c;exact yBI c
 have f:=d l[i] (yAZ b);simp only[zJ,yAQ,yBG]at f;have g:l[i].toUInt8.toNat=l[i].toNat % 256:=rfl;rw[e,g];omega
theorem zNZ {s:ByteArray} {l:jH} (h:s.data.toList=asc l) (q:∀x∈l,zJ x=true) (r:0 < l.length) (c:l[0]≠48∨l=[48]) (y:l.length≤4096) (w:World):
 Calls prog 160 #[.string s] w fun e w'=>e=.returned true∧w=w':=by
 obtain⟨hs,b⟩:=zQC h q;have o:=zA (show∀i (hi:i < s.size),48≤s[i].toNat∧s[i].toNat≤57 from fun i hi=>(b i hi jo).2);have p:s.size≤4096:=by omega
 have m:0 < s.size:=by omega
 have f:s.toList≠[]:=by
  rw[ByteArray.toList_eq,h];intro t;have:=congrArg List.length t;rw[asc,List.length_map,yBA]at this;omega
 have e1:(s.toList==[])=false:=yA.2 f;have e2:s.toList.isEmpty=false:=by
  cases hh:s.toList with
  | nil=>exact absurd hh f
  | cons=>rfl
 have j:((s[0].toNat:Int) !=48)=true∨s=⟨#[48]⟩:=by
  rcases c with c | c
  · left;rw[yBM];intro u;have:=(b 0 m r).1;exact c (yBS.1 (by show l[0].toNat=48;omega))
  · right;have v:s=⟨#[48]⟩:=by
     cases s with
     | mk d=>
      simp only at h;rw[c]at h;have:d=#[48]:=by
       apply Array.toList_inj.1;rw[h];rfl
      rw[this]
    exact v
 clear b h c f;rcases j with u | rfl
 · go_enter func160,ntmps160;go_wp2
   go_loop [6] (fun i=>∃k:Nat,k≤s.size∧i=.int .i64 k) (fun i=>s.size - (intOf i).toNat)
   case atStart=>exact⟨0,yAE _,rfl⟩
   case round=>
    obtain⟨k,hk,rfl⟩:=hrel
    by_cases g:k < s.size
    · have hb:=o.out k g;go_wp2;go_round
      case rel=>exact⟨k+1,by omega,by go_num⟩
      case measure=>simp[intOf];omega
    · go_wp2;go_ret;exact⟨rfl,rfl⟩
 · clear e1 e2 o hs p m;go_enter func160,ntmps160;go_wp2
   go_loop [6] (fun i=>∃k:Nat,k≤1∧i=.int .i64 k) (fun i=>1 - (intOf i).toNat)
   case atStart=>exact⟨0,yAE _,rfl⟩
   case round=>
    obtain⟨k,hk,rfl⟩:=hrel
    by_cases g:k=0
    · subst g;go_wp2;go_round
      case rel=>exact⟨1,by omega,rfl⟩
      case measure=>simp[intOf]
    · obtain rfl:k=1:=by omega
      go_wp2;go_ret;exact⟨rfl,rfl⟩
end Go.Proofs.YtjlfhidpmdgloaaGreatDoor
