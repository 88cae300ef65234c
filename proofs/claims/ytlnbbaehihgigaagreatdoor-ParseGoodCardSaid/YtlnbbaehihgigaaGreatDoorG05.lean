/- Joined for the claim ParseGood: the parser, the lexer and the trees as they are walked, made short by a program of mine. -/
import Derived.Deep.CutBlock
import Derived.Deep.DeepCutAuto
import Derived.Test.YtlnbbaehihgigaaGreatDoorG04
import Derived.Deep.LoopGhost
import Derived.Deep.RegionWith
import Derived.Deep.RegionHeld3
import Derived.Test.YtlnbbaehihgigaaGreatDoorG02
import Derived.Test.YtlnbbaehihgigaaGreatDoorG01
set_option maxHeartbeats 16000000
set_option maxRecDepth 1000000
namespace Go.Proofs.YtlnbbaehihgigaaGreatDoor
open Go.Proofs.Tryz
open Go.RowKit
variable {A:Option Addr} {l ts xs b u r d:List UInt16} {c n B g e k m D R i base j:Nat} {ms outs:List Nat} {w' wr W wc:World} {t:Tok} {cs:List Value} {v v0 v1:Value} {s:ByteArray} {ok z zero:Bool} {q:UInt16}
theorem Blk.grownR {w:World} {row:Option Nat} (h:Blk w R cs) (hg:w.grownBy w' row) (b:some R≠row):Blk w' R cs:=
 ⟨yAA h.1 hg.size,fun j c=>⟨hg.cell (h.2 j c).1 b,(World.frozen?_of_block (w:=w) (hg.block R h.1 b)).trans (h.2 j c).2⟩⟩
theorem Blk.set {w:World} (h:Blk w R cs) (hi:i < cs.length) (v:Value):Blk (w.setCell ⟨R,i,none⟩ v) R (cs.set i v):=by
 refine⟨by simp;exact h.1,fun j b=>?_⟩;rw[List.length_set]at b;obtain⟨c1,f1⟩:=h.2 j b;obtain⟨c2,c⟩:=h.2 i hi
 by_cases e:i=j
 · subst e;refine⟨?_,by go_simp⟩;rw[List.getElem_set_self]
   go_simp
 · refine⟨?_,by go_simp⟩;rw[List.getElem_set_ne e];have:(⟨R,i,none⟩:Addr)≠⟨R,j,none⟩:=fun h=>e (by injection h)
   go_simp
theorem Blk.setOther {w:World} {S:Nat} (h:Blk w R cs) (b:S≠R) (v:Value):Blk (w.setCell ⟨S,i,none⟩ v) R cs:=
 h.grownR (zQ w S i v) (by intro e;injection e with e;exact b e.symm)
def zHv (v:Value):List Value:=[(4:Int),"",v,(0:Int),(0:Int),false,(),(0:Int),false]
structure QuoS (w wr:World) (g:Nat) (A:Option Addr) (n c p:Nat) (v:Value) (acc:List UInt16):Prop where
 mv:Mv w wr g A n c p
 zero:Blk wr w.heap.size zBY
 tok:Blk wr (w.heap.size+1) (zHv v)
 own:wr.ownsRow (w.heap.size+2) 65 1 v acc.length (zAM acc)
theorem QuoS.mov {w:World} {p:Nat} (h:QuoS w wr g A n c p v d) (hg:g < w.heap.size) (b:Mv wr w' g A n c e):QuoS w w' g A n c e v d:=
 ⟨h.mv.then b,h.zero.grown b.grown jo,h.tok.grown b.grown jo,zBt h.own b.grown jo⟩
theorem QuoS.app {w:World} {p:Nat} {v':Value} {m f:List UInt16} (h:QuoS w wr g A n c p v m) (hg:g < w.heap.size) (b:wr.grownBy w' v.ownBlock)
 (q:w'.ownsRow (w.heap.size+2) 65 1 v' f.length (zAM f)):QuoS w (w'.setCell ⟨w.heap.size+1,2,none⟩ v') g A n c p v' f:=by
 have d:∀k,k < w.heap.size+2→some k≠v.ownBlock:=fun k hk e=>by have:=(h.own.lt k e.symm).1;omega
 have j:Rd w' g A n c p:=⟨b.cell h.mv.rd.c0 (d g jo),b.cell h.mv.rd.c1 (d g jo),(World.frozen?_of_block (w:=wr) (b.block g h.mv.rd.lt (d g jo))).trans h.mv.rd.f1⟩;have hs:=zQ w' (w.heap.size+1) 2 v';refine⟨⟨⟨zB2 hs j.c0 (show g≠w.heap.size+1 by omega),zB2 hs j.c1 (show g≠w.heap.size+1 by omega),(zDm (p:=⟨g,1,none⟩) hs j.lt (show g≠w.heap.size+1 by omega)).trans j.f1⟩,?_⟩,?_,?_,?_⟩
 · refine⟨hs.os.trans (b.os.trans h.mv.grown.os),hs.tape.trans (b.tape.trans h.mv.grown.tape),hs.output.trans (b.output.trans h.mv.grown.output),yAD h.mv.grown.size (yAD b.size hs.size),fun k hk o=>?_⟩;have l:=yAA hk h.mv.grown.size;exact(hs.block k (yAA l b.size) (by intro e;injection e with e;omega)).trans ((b.block k l (d k jo)).trans (h.mv.grown.block k hk o))
 · exact(h.zero.grownR b (d _ jo)).setOther jo _
 · exact(h.tok.grownR b (d _ jo)).set (by simp[zHv]) _
 · exact zBt q hs jo
section
variable {P:Program} {w:World} {ops:Array Oper} {rest:List Oper} {o:Oper} {a:Act} {Q:Exit→Act→World→Prop}
theorem zGu (d:o.guard=none) (s x:Operand) (t:TypeId)
 (f:o.op=.call {callee:=.builtin .append,args:=#[s,x],argTypes:=#[t,t]})
 (e:TypeId) (i:TypeInfo) (z:Value) (bytes:Nat) (ht:P.underlying t=some (.slice e)) (hi:P.info? e=some i) (hz:i.zero=some z)
 (hsize:i.size=1) (hby:i.bytes=bytes) (hzs:z.cells.size=1) (base:Nat) (hbase:base≤w.heap.size)
 (v:Value) (xs:List Value) (k:Nat) (hk:xs.length=k) (hs:a.eval s=v) (hm:w.ownsRow base e 1 v k xs)
 (cs:List Value) (m c:Nat) (hx:a.eval x=.slice (some ⟨w.heap.size,0,none⟩) m c) (hl:cs.length=m) (h1:(cs.all fun u=>u.oneCell')=true)
 (hsz:xs.length+m≤70368744177664) (hb2:bytes≤2)
 (h:∀v' w',w'.ownsRow base e 1 v' (xs++cs).length (xs++cs)→w.grownBy w' v.ownBlock→wpList P ops Q rest (a.put o.dst v') w'):wpList P ops Q (o::rest) a (w.alloc (.cells cs.toArray e)):=by
 subst hl hk;refine wpList_append_own (w.alloc (.cells cs.toArray e)) d s x t f base e i z 1 bytes ht hi hz hsize hby hzs jo v xs.length xs hs (hm.alloc _) ⟨w.heap.size,0,none⟩ _ c cs hx jo ?_ (fun u b=>List.all_eq_true.1 h1 u b) (by unfold maxLen;omega) ?_ (yAD hbase js) ?_
 · intro j u b;rw[Addr.add_lit,World.cell?_alloc_at _ _ _ _ rfl];simpa using b
 · calc (xs.length+cs.length)*bytes≤70368744177664*2:=Nat.mul_le_mul hsz hb2
    _≤140737488355328:=by omega
 · intro v' w' h1 g _;exact h v' w' (by rw[List.length_append];exact h1) (zC (zF w _ _) g)
end
theorem zAa {w0 w:World} {v2 v3 v4 v5 v6 v7 v8:Value} (h:w0.grownBy w (some g)) (c:w0.heap.size≤R):w0.grownBy (((((((((w.setCell R v0).setCell ⟨R,1,none⟩ v1).setCell ⟨R,2,none⟩ v2).setCell ⟨R,3,none⟩ v3).setCell ⟨R,4,none⟩ v4).setCell ⟨R,5,none⟩ v5).setCell ⟨R,6,none⟩ v6).setCell ⟨R,7,none⟩ v7).setCell ⟨R,8,none⟩ v8) (some g):=by
 have hs:=zBr (w:=w) (R:=R) (v0:=v0) (v1:=v1) (v2:=v2) (v3:=v3) (v4:=v4) (v5:=v5) (v6:=v6) (v7:=v7) (v8:=v8);exact⟨hs.os.trans h.os,hs.tape.trans h.tape,hs.output.trans h.output,yAD h.size hs.size,fun i hi b=>(hs.block i (yAA hi h.size) (fun e=>by injection e with e;omega)).trans (h.block i hi b)⟩
def zWH (q:UInt16) (u:List UInt16) (k p:Nat) (acc:List UInt16):Prop:=∃i,p=k+1+i∧zFl q (u.drop (k+1)) []=zJc i (zFl q (u.drop p) acc)
theorem zKh {e':Nat} (h:zA3 q r=(e,t,m)) (b:(zFl q r []).1=e') (c:e'≠0):e'=e:=by
 subst b;have d:zKS q r=zFl q r []:=rfl;unfold zA3 at h;rw[d,if_pos c]at h;exact(zCP h).1
theorem zJd {s:List UInt16} (h:zA3 q r=(e,t,m)) (b:zFl q r []=(0,s,i)):e=0∧t={zq with kind:=4,str:=s}∧m=1+i:=by
 unfold zA3 at h;have:zKS q r=zFl q r []:=rfl;rw[this,b,if_neg js]at h;obtain⟨h1,c,d⟩:=zGq h;exact⟨h1.symm,c.symm,d.symm⟩
theorem zJe (l:List UInt16) (x:UInt16):zAM l++[.int .u16 (x.toNat:Int)]=zAM (l++[x]):=by simp[zAM,zVT]
theorem zGv {w:World} (hr:Rd w g A n c k) (hn:u.length=n) (ha:Reads w B 1 A n (zAM u)) (hB:B≤g) (hk:k < u.length) (hl:n≤4096) (hq:zA3 u[k] (u.drop (k+1))=(e,t,m)):
 Calls prog 64 #[.pointer (some g)] w fun ev w'=>∃v,ev=.returned (.tuple #[v,e])∧(e≠0→v=noV)∧(e=0→zXd w' w.heap.size t v∧Mv w w' g A n c (k+m))∧w.grownBy w' (some g):=by
 subst hn;obtain⟨i0,d6,d7,d8,U⟩:=info_parts Tryz.info_u16;have hg:=hr.lt;have HA:=zA ha;obtain⟨q,a9⟩:=jx (u[k]);rw[a9]at hq;have hE:=zA (fun e' h2 j=>zKh (e':=e') hq h2 j);have d4:=zA (fun s i h2=>zJd (s:=s) (i:=i) hq h2);have d9:QuoS w ((w.alloc (.cells zBY.toArray 80)).alloc (.cells (zHv (.slice none 0 0)).toArray 80)) g A u.length c k (.slice none 0 0) []:=by
  have e7:Below w.heap.size w ((w.alloc (.cells zBY.toArray 80)).alloc (.cells (zHv (.slice none 0 0)).toArray 80)):=((Below.refl _ w).alloc (yAC _) _).alloc js _;refine⟨⟨(hr.alloc _).alloc _,zAf _ e7⟩,?_,?_,yAJ _ _ _ _⟩
  · exact(Blk.new w zBY 80).below (ja) js
  · have:=Blk.new (w.alloc (.cells zBY.toArray 80)) (zHv (.slice none 0 0)) 80;rwa [show(w.alloc (.cells zBY.toArray 80)).heap.size=w.heap.size+1 by simp]at this
 have b9:=zA d9;have c9:=hr.c0;have F:=hr.c1;obtain⟨blk,off,rfl,h1,D⟩:=ha.spotL jo;have N:=D k hk;rw[a9]at N;have h7:blk < w.heap.size:=by omega
 have e4:(k:Int) < (u.length:Int):=by omega
 clear hq d9 ha hr D a9;go_enter func64,ntmps64;go_upto_region 2 with(fail)
 go_cut [5] (fun x wx=>x=.int .u16 (q.toNat:Int)∧Hid (QuoS w wx g (some ⟨blk,off,none⟩) u.length c k (.slice none 0 0) []))
 case first=>
  go_quiet (fail)
  go_wp2_with fail;go_meet;exact⟨rfl,b9.out.mov hg ((Mv.refl b9.out.mv.rd).drewN _)⟩
 case rest=>
  obtain⟨hx,f⟩:=hcut;subst hx;clear c9 F N b9;have F:=f.out.mv.rd.c1;have O:=f.out.mv.rd.f1;go_wp2;have e8:=zA (f.out.mov hg (Mv.step (Mv.refl f.out.mv.rd) (z:=(k:Int)+1) (k':=k+1) jo));clear F O f
  go_loopg [6] (u.length - (k+1)) (fun r x wr=>∃p d v,p+r=u.length∧Hid (QuoS w wr g (some ⟨blk,off,none⟩) u.length c p v d)∧d.length≤p∧Hid (zWH q u k p d))
  case atStart=>exact⟨k+1,[],.slice none 0 0,by omega,e8,yAE _,0,by omega,by simp[zJc]⟩
  case round=>
   obtain⟨p,d,v,h8,f,h3,I⟩:=hrel;have c9:=f.out.mv.rd.c0;have F:=f.out.mv.rd.c1;have O:=f.out.mv.rd.f1;have P:=zA (HA.out.grown f.out.mv.grown hB (Nat.le_of_lt hg))
   by_cases V:p < u.length
   · have e4:(p:Int) < (u.length:Int):=by omega
     obtain⟨h4,h5,d0,_,D⟩:=P.out.spotL jo;injection d0 with d0;injection d0 with e1 e2;subst e1 e2;have N:=D p V;have J:=zA (yAH V);obtain⟨x,hx⟩:=jx (u[p]);rw[hx]at N J;clear D hx;cases hln:zAI x with
     | true=>
      have G:=zA (show(zFl q (u.drop (k+1)) []).1=5 by
       obtain⟨i,hi,j⟩:=I.out;rw[j,J.out,zPO hln];rfl)
      have b:=zA f.out.zero;obtain⟨c0,f0⟩:=b.out.2 0 jd;obtain⟨c1,f1⟩:=b.out.2 1 jd;obtain⟨c2,f2⟩:=b.out.2 2 jd;obtain⟨c3,f3⟩:=b.out.2 3 jd;obtain⟨c4,f4⟩:=b.out.2 4 jd;obtain⟨c5,f5⟩:=b.out.2 5 jd;obtain⟨c6,f6⟩:=b.out.2 6 jd;obtain⟨c7,f7⟩:=b.out.2 7 jd;obtain⟨c8,f8⟩:=b.out.2 8 jd;go_wp2_with fail
      go_quiet (first | (go_at_call 57;refine Calls.quiet_of_same ((zAT _ _).mono fun _ _ h=>zD6 h)))
      go_wp2;obtain⟨q0,q1,q2,q3,q4,q5,q6,q7,q8⟩:=zb (v0:=(0:Int)) (v1:= "") (v2:=()) (v3:=(0:Int)) (v4:=(0:Int)) (v5:=false) (v6:=()) (v7:=(0:Int)) (v8:=false) (b.out.grown (zAE wr (some g) nq) jo) rfl;refine bodyPost_ret (v:=.tuple #[.agg #[(0:Int),"",(),(0:Int),(0:Int),false,(),(0:Int),false],(5:Int)]) (by simp[results,results64,go_sem,q0,q1,q2,q3,q4,q5,q6,q7,q8]) rfl ?_;obtain rfl:=hE.out _ G jd;exact⟨_,rfl,fun _=>rfl,fun h=>absurd h (by first | decide | assumption),(zAG (f.out.mv.drewN _) (yAC _) hg).grown⟩
     | false=>
      have W:=zA hln;go_wp2_with fail
      go_quiet (first | (go_at_call 57;refine Calls.quiet_of_same ((zAT _ _).mono fun _ _ h=>zD6 h)))
      go_upto_region 5 with(fail)
      go_cut [6] (fun xx wx=>xx=.int .u16 (x.toNat:Int)∧Hid (QuoS w wx g (some ⟨blk,off,none⟩) u.length c p v d))
      case first=>
       go_quiet (fail)
       go_wp2_with fail;go_meet;exact⟨rfl,f.out.mov hg (((Mv.refl f.out.mv.rd).drewN _).drewN _)⟩
      case rest=>
       obtain⟨e9,Q⟩:=hcut;subst e9;clear c9 F O N f P;have F:=Q.out.mv.rd.c1;have O:=Q.out.mv.rd.f1;go_upto_region 6 with(fail)
       go_cut [5] (fun qq wx=>qq=.int .u16 (q.toNat:Int)∧Hid (QuoS w wx g (some ⟨blk,off,none⟩) u.length c (p+1) v d))
       case first=>
        go_wp2_with fail;go_meet;exact⟨rfl,Q.out.mov hg (Mv.step (Mv.refl Q.out.mv.rd) jo)⟩
       case rest=>
        obtain⟨f9,f⟩:=hcut;subst f9;clear F O Q;have d5:w.heap.size+2≤wc.heap.size:=f.out.tok.1;have M:some (w.heap.size+1)≠v.ownBlock:=fun e=>by have:=(f.out.own.lt _ e.symm).1;omega
        by_cases o:x=q
        · have e1:((x.toNat:Int)==(q.toNat:Int))=true:=by rw[o];simp
          have G:=zA (show∃i,p=k+1+i∧zFl q (u.drop (k+1)) []=(0,d,i+1) by
           obtain⟨i,hi,j⟩:=I.out;refine⟨i,hi,?_⟩;rw[j,J.out,o,zSn (by rw[←o];exact W.out)];rfl)
          obtain⟨Y,cv,rfl,_,_⟩:=zS f.out.own;have E:=zA f.out.tok;have b:=zA f.out.zero;have a0:wc.cell? ⟨w.heap.size+1,0,none⟩=some (.int .i64 4):=(E.out.2 0 (by simp[zHv])).1;have a1:wc.cell? ⟨w.heap.size+1,1,none⟩=some (.string ⟨#[]⟩):=(E.out.2 1 (by simp[zHv])).1;have a2:wc.cell? ⟨w.heap.size+1,2,none⟩=some (.slice Y d.length cv):=(E.out.2 2 (by simp[zHv])).1;have a3:wc.cell? ⟨w.heap.size+1,3,none⟩=some (.int .i64 0):=(E.out.2 3 (by simp[zHv])).1;have a4:wc.cell? ⟨w.heap.size+1,4,none⟩=some (.int .i64 0):=(E.out.2 4 (by simp[zHv])).1;have a5:wc.cell? ⟨w.heap.size+1,5,none⟩=some (.bool false):=(E.out.2 5 (by simp[zHv])).1;have a6:wc.cell? ⟨w.heap.size+1,6,none⟩=some (.slice none 0 0):=(E.out.2 6 (by simp[zHv])).1;have a7:wc.cell? ⟨w.heap.size+1,7,none⟩=some (.int .i64 0):=(E.out.2 7 (by simp[zHv])).1;have a8:wc.cell? ⟨w.heap.size+1,8,none⟩=some (.bool false):=(E.out.2 8 (by simp[zHv])).1;obtain⟨b0,g0⟩:=b.out.2 0 jd;obtain⟨b1,g1⟩:=b.out.2 1 jd;obtain⟨b2,g2⟩:=b.out.2 2 jd;obtain⟨b3,g3⟩:=b.out.2 3 jd;obtain⟨b4,g4⟩:=b.out.2 4 jd;obtain⟨b5,g5⟩:=b.out.2 5 jd;obtain⟨b6,g6⟩:=b.out.2 6 jd;obtain⟨b7,g7⟩:=b.out.2 7 jd;obtain⟨b8,g8⟩:=b.out.2 8 jd;clear o;go_wp2;obtain⟨q0,q1,q2,q3,q4,q5,q6,q7,q8⟩:=zb (v0:=(4:Int)) (v1:= "") (v2:=.slice Y d.length cv) (v3:=(0:Int)) (v4:=(0:Int)) (v5:=false) (v6:=()) (v7:=(0:Int)) (v8:=false) b rfl;refine bodyPost_ret (v:=.tuple #[.agg #[(4:Int),"",.slice Y d.length cv,(0:Int),(0:Int),false,(),(0:Int),false],(0:Int)]) (by simp[results,results64,go_sem,q0,q1,q2,q3,q4,q5,q6,q7,q8]) rfl ?_;obtain⟨i,hi,U⟩:=G.out;obtain⟨z1,z2,z3⟩:=d4.out _ _ U;subst z1 z2 z3;refine⟨_,rfl,fun h=>absurd rfl h,fun _=>⟨⟨.slice Y d.length cv,_,rfl,zAg (zBG f.out.own jo) jo,yAJ _ _ _ _⟩,?_⟩,(zAG f.out.mv (yAC _) hg).grown⟩;rw[show k+(1+(i+1))=p+1 by omega];exact zAG f.out.mv (yAC _) hg
        · have e1:((x.toNat:Int)==(q.toNat:Int))=false:=by
           rw[yA];intro h;exact o (UInt16.toNat_inj.1 jo)
          have h6:=x.toNat_lt
          by_cases R:x.toNat=92
          · have e2:((x.toNat:Int)==92)=true:=by rw[R];rfl
            have e0:=zA R;clear R;obtain⟨⟨ee,y,ne⟩,C⟩:=jx (zEW (u.drop (p+1)));have d1:=zA C;have P:=zA (HA.out.grown f.out.mv.grown hB (Nat.le_of_lt hg))
            by_cases X:ee=0
            · subst X;have e6:=zFi (l:=u.drop (p+1)) (by rw[C]);rw[C,List.length_drop]at e6;have G:=zA (fun i (hi:p=k+1+i) (j:zFl q (u.drop (k+1)) []=zJc i (zFl q (u.drop p) d))=>(by
               refine⟨i+(1+ne),by omega,?_⟩;rw[j,J.out,zSp W.out o e0.out C,List.drop_drop];simp only[zJc];congr 2;omega:zWH q u k (p+1+ne) (d++[y])))
              clear C o;go_wp2_with fail;refine(zGt f.out.mv.rd rfl P hB V hl d1).mono ?_;rintro e5 w5 ⟨rfl,e3,S⟩;have L:=zA (f.out.mov hg (e3 rfl));have d3:w.heap.size+2≤w5.heap.size:=L.out.tok.1;have a2:w5.cell? ⟨w.heap.size+1,2,none⟩=some v:=(L.out.tok.2 2 (by simp[zHv])).1;clear e3 S;go_wp2_with (at_builtin;refine zGu rfl _ _ 27 rfl 65 i0 _ 2 underlying27 d6 d7 d8 U rfl (w.heap.size+2) d3 v (zAM d) d.length (zCV _) rfl L.out.own [.int .u16 (y.toNat:Int)] 1 1 rfl rfl rfl (by rw[zCV];omega) jo ?_;intro v' w' T H;obtain⟨Y,cv,rfl,_,_⟩:=zS T;have d2:w'.cell? ⟨w.heap.size+1,2,none⟩=some v:=((L.out.tok.grownR H M).2 2 (by simp[zHv])).1;have g9:=((L.out.tok.grownR H M).2 2 (by simp[zHv])).2)
              go_roundg (u.length - (p+1+ne))
              case measure=>omega
              case rel=>
               refine⟨p+1+ne,d++[y],_,by omega,L.out.app hg H (by rw[zJe,zCV]at T;rw[show(zAM d).length+1=(d++[y]).length by simp[zAM]];exact T),by simp;omega,?_⟩;obtain⟨i,hi,j⟩:=I.out;exact G.out i hi j
            · have G:=zA (show(zFl q (u.drop (k+1)) []).1=ee by
               obtain⟨i,hi,j⟩:=I.out;rw[j,J.out,zSo W.out o e0.out (by rw[C];exact X),C];rfl)
              have h9:((ee:Int) !=0)=true:=by rw[bne_iff_ne];omega
              clear C o;go_wp2_with fail;refine(zGt f.out.mv.rd rfl P hB V hl d1).mono ?_;rintro e5 w5 ⟨rfl,_,S⟩;have b:=zA (f.out.zero.grown S jo);have h0:=zA (zC f.out.mv.grown S);clear S;obtain⟨b0,g0⟩:=b.out.2 0 jd;obtain⟨b1,g1⟩:=b.out.2 1 jd;obtain⟨b2,g2⟩:=b.out.2 2 jd;obtain⟨b3,g3⟩:=b.out.2 3 jd;obtain⟨b4,g4⟩:=b.out.2 4 jd;obtain⟨b5,g5⟩:=b.out.2 5 jd;obtain⟨b6,g6⟩:=b.out.2 6 jd;obtain⟨b7,g7⟩:=b.out.2 7 jd;obtain⟨b8,g8⟩:=b.out.2 8 jd;go_wp2;obtain⟨q0,q1,q2,q3,q4,q5,q6,q7,q8⟩:=zb (v0:=(0:Int)) (v1:= "") (v2:=()) (v3:=(0:Int)) (v4:=(0:Int)) (v5:=false) (v6:=()) (v7:=(0:Int)) (v8:=false) b rfl;refine bodyPost_ret (v:=.tuple #[.agg #[(0:Int),"",(),(0:Int),(0:Int),false,(),(0:Int),false],ee]) (by simp[results,results64,go_sem,q0,q1,q2,q3,q4,q5,q6,q7,q8]) rfl ?_;obtain rfl:=hE.out _ G X;exact⟨_,rfl,fun _=>rfl,fun h=>absurd h X,zAa h0 (yAC _)⟩
          · have e2:((x.toNat:Int)==92)=false:=yA.2 jo;have G:=zA (fun i (hi:p=k+1+i) (j:zFl q (u.drop (k+1)) []=zJc i (zFl q (u.drop p) d))=>(by
             refine⟨i+1,by omega,?_⟩;rw[j,J.out,zM5 W.out o R];simp only[zJc];congr 2;omega:zWH q u k (p+1) (d++[x])))
            clear R o;have a2:wc.cell? ⟨w.heap.size+1,2,none⟩=some v:=(f.out.tok.2 2 (by simp[zHv])).1;go_wp2_with (at_builtin;refine zGu rfl _ _ 27 rfl 65 i0 _ 2 underlying27 d6 d7 d8 U rfl (w.heap.size+2) d5 v (zAM d) d.length (zCV _) rfl f.out.own [.int .u16 (x.toNat:Int)] 1 1 rfl rfl rfl (by rw[zCV];omega) jo ?_;intro v' w' T H;obtain⟨Y,cv,rfl,_,_⟩:=zS T;have d2:w'.cell? ⟨w.heap.size+1,2,none⟩=some v:=((f.out.tok.grownR H M).2 2 (by simp[zHv])).1;have g9:=((f.out.tok.grownR H M).2 2 (by simp[zHv])).2)
            go_roundg (gk - 1)
            case measure=>omega
            case rel=>
             refine⟨p+1,d++[x],_,by omega,f.out.app hg H (by rw[zJe,zCV]at T;rw[show(zAM d).length+1=(d++[x]).length by simp[zAM]];exact T),by simp;omega,?_⟩;obtain⟨i,hi,j⟩:=I.out;exact G.out i hi j
   · obtain rfl:p=u.length:=by omega
     have G:=zA (show(zFl q (u.drop (k+1)) []).1=5 by
      obtain⟨i,hi,j⟩:=I.out;rw[j,List.drop_length,zSm];rfl)
     have b:=zA f.out.zero;obtain⟨c0,f0⟩:=b.out.2 0 jd;obtain⟨c1,f1⟩:=b.out.2 1 jd;obtain⟨c2,f2⟩:=b.out.2 2 jd;obtain⟨c3,f3⟩:=b.out.2 3 jd;obtain⟨c4,f4⟩:=b.out.2 4 jd;obtain⟨c5,f5⟩:=b.out.2 5 jd;obtain⟨c6,f6⟩:=b.out.2 6 jd;obtain⟨c7,f7⟩:=b.out.2 7 jd;obtain⟨c8,f8⟩:=b.out.2 8 jd;go_wp2_with fail
     go_quiet (fail)
     go_wp2;obtain⟨q0,q1,q2,q3,q4,q5,q6,q7,q8⟩:=zb (v0:=(0:Int)) (v1:= "") (v2:=()) (v3:=(0:Int)) (v4:=(0:Int)) (v5:=false) (v6:=()) (v7:=(0:Int)) (v8:=false) (b.out.grown (zAE wr (some g) nq) jo) rfl;refine bodyPost_ret (v:=.tuple #[.agg #[(0:Int),"",(),(0:Int),(0:Int),false,(),(0:Int),false],(5:Int)]) (by simp[results,results64,go_sem,q0,q1,q2,q3,q4,q5,q6,q7,q8]) rfl ?_;obtain rfl:=hE.out _ G jd;exact⟨_,rfl,fun _=>rfl,fun h=>absurd h jd,(zAG (f.out.mv.drewN nq) (yAC _) hg).grown⟩
theorem Tryz.info_u32:(prog.info? 67).map (fun i=>(i.zero,i.size,i.bytes))=some (some (.int .u32 0),1,4):=by kernel_rfl
def zPP (v:Nat) (w:World) (e:Ending) (w':World):Prop:=
 ∃(X:Option Addr) (mx cx er:Nat),e=.returned (.tuple #[.agg #[false,.slice X mx cx],er])∧Below w.heap.size w w'∧
  (er=0∧v < zGR∧w'.ownsRow w.heap.size 67 1 (.slice X mx cx) (limbs v).length (zBq (limbs v))∨er=3∧zGR≤v)
def AtMul (ms:List Nat) (d k c:Nat) (outs:List Nat):Prop:=outs.length=k∧zCl ms d=(outs++(zCl (ms.drop k) c).1,(zCl (ms.drop k) c).2)
theorem AtMul.start (ms:List Nat) (d:Nat):AtMul ms d 0 d []:=⟨rfl,rfl⟩
theorem AtMul.step {d:Nat} (h:AtMul ms d k c outs) (hk:k < ms.length):AtMul ms d (k+1) ((c+10*ms[k]) / 4294967296) (outs++[(c+10*ms[k]) % 4294967296]):=by
 obtain⟨h1,b⟩:=h;refine⟨by simp[h1],?_⟩;rw[b,yAH hk,zCl];simp
theorem AtMul.done {d:Nat} (h:AtMul ms d ms.length c outs):zCl ms d=(outs,c):=by
 obtain⟨h1,b⟩:=h;rw[b,List.drop_length];simp[zCl]
def zCy (ms outs:List Nat):List Nat:=outs++ms.drop outs.length
theorem zJf (h:outs.length < ms.length):(zCy ms outs)[outs.length]? =some ms[outs.length]:=by
 unfold zCy;rw[List.getElem?_append_right (yAC _),Nat.sub_self,List.getElem?_drop];simp[yAB h]
theorem zJg (h:outs.length < ms.length) (x:Nat):(zCy ms outs).set outs.length x=zCy ms (outs++[x]):=by
 unfold zCy;rw[List.set_append_right _ _ (yAC _),Nat.sub_self,yAH h,List.set_cons_zero];simp
theorem zSq (l:List Nat) (k x:Nat):(zBq l).set k (.int .u32 (x:Int))=zBq (l.set k x):=by
 simp[zBq,List.map_set]
section
variable {P:Program} {w:World} {ops:Array Oper} {rest:List Oper} {o:Oper} {a:Act} {Q:Exit→Act→World→Prop}
theorem zEs (d:o.guard=none) (s x:Operand) (t:TypeId)
 (f:o.op=.call {callee:=.builtin .append,args:=#[s,x],argTypes:=#[t,t]})
 (e:TypeId) (i:TypeInfo) (z:Value) (size bytes:Nat) (ht:P.underlying t=some (.slice e)) (hi:P.info? e=some i) (hz:i.zero=some z)
 (hsize:i.size=size) (hby:i.bytes=bytes) (hzs:z.cells.size=size) (hsz0:0 < size) (base:Nat) (hbase:base≤w.heap.size)
 (v:Value) (xs:List Value) (k:Nat) (hs:a.eval s=v) (hm:w.ownsRow base e size v k xs)
 (cs:List Value) (m c:Nat) (hx:a.eval x=.slice (some ⟨w.heap.size,0,none⟩) m c) (hl:cs.length=m*size) (h1:(cs.all fun u=>u.oneCell')=true)
 (hsz:k+m≤70368744177664) (hb2:(k+m)*bytes≤140737488355328)
 (h:∀v' w',w'.ownsRow base e size v' (k+m) (xs++cs)→w.grownBy w' v.ownBlock→wpList P ops Q rest (a.put o.dst v') w'):wpList P ops Q (o::rest) a (w.alloc (.cells cs.toArray e)):=by
 refine wpList_append_own (w.alloc (.cells cs.toArray e)) d s x t f base e i z size bytes ht hi hz hsize hby hzs hsz0 v k xs hs (hm.alloc _) ⟨w.heap.size,0,none⟩ _ c cs hx hl ?_ (fun u b=>List.all_eq_true.1 h1 u b) (by unfold maxLen;omega) hb2 (yAD hbase js) ?_
 · intro j u b;rw[Addr.add_lit,World.cell?_alloc_at _ _ _ _ rfl];simpa using b
 · intro v' w' h1 g _;exact h v' w' h1 (zC (zF w _ _) g)
end
theorem zFm {w:World} (h:Blk w R cs) (b:cs.length=2):((w.setCell R v0).setCell ⟨R,1,none⟩ v1).cell? R=some v0∧((w.setCell R v0).setCell ⟨R,1,none⟩ v1).cell? ⟨R,1,none⟩=some v1:=by
 obtain⟨c0,c⟩:=h.2 0 jo;obtain⟨c1,f1⟩:=h.2 1 jo;refine⟨?_,?_⟩
 all_goals go_simp
theorem zFn {w0 w:World} (h:Below w0.heap.size w0 w) (b:w0.heap.size≤R):Below w0.heap.size w0 ((w.setCell R v0).setCell ⟨R,1,none⟩ v1):=(h.setCell b _).setCell b _
theorem zSr {w:World} {xs:List Value} (h:w.ownsRow base e 1 v n xs) (hb:R < base):((w.setCell R v0).setCell ⟨R,1,none⟩ v1).ownsRow base e 1 v n xs:=
 zBt (zBt h (zQ w R 0 v0) hb) (zQ _ R 1 v1) hb
theorem zPQ {xs:List Nat} {w:World} (b:xs.length=n) (f:Reads w B 1 A n (zBq xs)) (hB:B≤w.heap.size) (g:n≤4096) (j:n≤c) (d:c≤maxLen) (k:zAk xs=xs) (l:n=0):
 Calls prog 143 #[.slice A n c,false] w fun e w'=>e=.returned (.agg #[false,()])∧Below w.heap.size w w':=by
 have:=zLs (c:=c) b f hB g j d (m:=n) (by rw[k,b]);unfold zPD at this;rwa[if_pos l]at this
theorem zPR {xs:List Nat} {w:World} (b:xs.length=n) (f:Reads w B 1 A n (zBq xs)) (hB:B≤w.heap.size) (g:n≤4096) (j:n≤c) (d:c≤maxLen) (k:zAk xs=xs) (l:n≠0):
 Calls prog 143 #[.slice A n c,false] w fun e w'=>e=.returned (.agg #[false,.slice A n c])∧Below w.heap.size w w':=by
 have:=zLs (c:=c) b f hB g j d (m:=n) (by rw[k,b]);unfold zPD at this;rwa[if_neg l]at this
structure PaS (w wr:World) (v:Value) (n:Nat) (ms:List Nat):Prop where
 own:wr.ownsRow (w.heap.size+1) 67 1 v n (zBq ms)
 res:Blk wr w.heap.size [false,()]
 below:Below w.heap.size w wr
theorem PaS.grown {w:World} {v':Value} {b:List Nat} (h:PaS w wr v n ms) (hg:wr.grownBy w' v.ownBlock) (d:w'.ownsRow (w.heap.size+1) 67 1 v' c (zBq b)):PaS w w' v' c b:=
 ⟨d,h.res.grownR hg (fun e=>by have:=(h.own.lt _ e.symm).1;omega),h.below.grown hg h.below.size (fun k hk=>by have:=(h.own.lt k hk).1;omega)⟩
def AtPar (l:List UInt16) (i:Nat) (ms:List Nat):Prop:=i≤l.length∧zw (l.take i) < zGR∧ms=limbs (zw (l.take i))
theorem PaS.below' {w:World} (h:PaS w wr v n ms) (hb:Below wr.heap.size wr w'):PaS w w' v n ms:=
 ⟨zDn h.own hb,h.res.below hb h.res.1,h.below.trans (hb.mono h.below.size)⟩
theorem PaS.trimmed {w:World} {b:Option Addr} {cp d:Nat} {zs:List Nat} (h:PaS w wr (.slice A n cp) n outs) (hg:wr.grownBy w' (Value.ownBlock (.slice A n cp))) (g:w'.ownsRow (w.heap.size+1) 67 1 (.slice b (n+1) d) (n+1) (zBq (outs++[c])))
 (e:zAk (outs++[c])=zs) (f:zs.length=m) (k:m≤n+1):PaS w w' (.slice b m d) m zs:=by
 refine h.grown hg ?_;have h1:=zLr (j:=m) g k;rw[zJU,←f,←e,←zEK,e,f]at h1;exact h1
theorem AtPar.start (l:List UInt16):AtPar l 0 []:=⟨yAE _,by rw[List.take_zero];exact Nat.pow_pos jo,rfl⟩
theorem AtPar.step {d:Nat} (h:AtPar l k ms) (hk:k < l.length) (e:l[k].toNat=d+48) (b:d≤9) (f:zCl ms d=(outs,c)):zAk (outs++[c])=limbs (zw (l.take (k+1))):=by
 obtain⟨_,g,j⟩:=h;subst j;have:=zMo g b;rw[f]at this;rw[this,zDb l k hk,e];congr 1
theorem AtPar.go (hk:k < l.length) (b:ms=limbs (zw (l.take (k+1)))) (c:ms.length≤8):AtPar l (k+1) ms:=by
 refine⟨hk,?_,b⟩;rcases Nat.lt_or_ge (zw (l.take (k+1))) zGR with h | h
 · exact h
 · have:=zSK h;rw[←b]at this;omega
theorem AtPar.over (b:ms=limbs (zw (l.take (k+1)))) (c:¬ms.length≤8):zGR≤zw l:=by
 rcases Nat.lt_or_ge (zw (l.take (k+1))) zGR with h | h
 · have:=zE9 h;rw[←b]at this;omega
 · exact yAD h (zEZ l (k+1))
theorem AtPar.done (h:AtPar l l.length ms):zw l < zGR∧ms=limbs (zw l):=by
 obtain⟨_,b,c⟩:=h;rw[List.take_length]at b c;exact⟨b,c⟩
theorem PaS.drewN {w:World} (h:PaS w wr v n ms) (m:Nat):PaS w (wr.drewN m) v n ms:=
 ⟨h.own.kept (row:=none) ⟨rfl,rfl,rfl,yAC _,fun _ _ _=>rfl⟩ (by cases hv:v.ownBlock<;>simp),h.res.grown (g:=w.heap.size+1) (zAE wr _ m) jo,zAZ h.below m⟩
theorem zM6 (h:s.data.toList=asc l) (hd:∀x∈l,zM x=true) (h0:0 < l.length) (hz:l[0]≠48∨l=[48]) (hl:l.length≤4096) (w:World):
 Calls prog 119 #[.string s] w (zPP (zw l) w):=by
 obtain⟨i0,a2,a3,a4,a5⟩:=info_parts Tryz.info_u32;obtain⟨hs,I⟩:=zPE h hd;have HG:=zA I;have a6:0 < s.size:=by omega
 have d7:s.size≤4096:=by omega
 have HD:=zA (fun w=>zMx h hd h0 hz hl w);have d8:=(I 0 a6 h0).2;have d9:((s[0].toNat:Int)==45)=false:=yA.2 jo;have d4:(s.toList==[45,48])=false:=by
  rw[yA,ByteArray.toList_eq];intro h3;have h4:s.data.toList[0]? =some 45:=by rw[h3];rfl
  have h5:s.data.toList[0]? =some s[0]:=by rw[yAB (by simpa using a6)];rfl
  rw[h5]at h4;have h6:s[0].toNat=45:=by rw[Option.some.inj h4];rfl
  omega
 have c7:=zA (show PaS w (w.alloc (.cells #[false,()] 40)) (.slice none 0 0) ([]:List Nat).length []from⟨yAJ _ _ _ _,Blk.new w [false,()] _,ja⟩);have HL:=zA hs;clear I h hd hz hs;go_enter func119,ntmps119;go_wp2_with fail
 go_quiet (fail)
 go_wp2_with (go_at_call 142;refine(HD.out _).mono ?_;rintro e1 w1 ⟨rfl,rfl⟩)
 go_loopg [6,33] l.length (fun r m i wr=>∃(k:Nat) (ms:List Nat) (n:Nat),k+r=l.length∧i=.int .i64 k∧Hid (ms.length=n)∧Hid (PaS w wr m n ms)∧Hid (AtPar l k ms))
 case atStart=>exact⟨0,[],0,by omega,rfl,rfl,c7.out.drewN _,AtPar.start l⟩
 case round=>
  obtain⟨k,ms,n,e0,rfl,D,U,q⟩:=hrel;obtain⟨G,rfl⟩:∃G,G=gk:=⟨_,rfl⟩;obtain⟨wo,rfl⟩:∃wo,wo=wr:=⟨_,rfl⟩;obtain⟨A,cp,rfl,a7,a8⟩:=zS U.out.own;have a9:=HL.out;have d5:n≤8:=by have:=zE9 q.out.2.1;rwa[←q.out.2.2,D.out]at this
  by_cases O:k < l.length
  · have b2:k < s.size:=by omega
    have e2:=(HG.out k b2 O).2;obtain⟨d,V⟩:∃d,s[k].toNat=d+48:=⟨s[k].toNat - 48,by omega⟩;have e4:=zA V;have J:l[k].toNat=d+48:=by rw[←(HG.out k b2 O).1,V]
    have J:=zA J;have e5:(s[k].toNat:Int)=(d:Int)+48:=by omega
    have b3:d≤9:=by omega
    clear V a9;go_wp2_with fail
    go_loopg [8,43] n (fun r c8 c9 wi=>∃(j c:Nat) (outs:List Nat),j+r=n∧c8=.int .u64 c∧c9=.int .i64 j∧c≤9∧Hid (PaS w wi (.slice A n cp) n (zCy ms outs))∧Hid (AtMul ms d j c outs))
    case atStart=>exact⟨0,d,[],by omega,rfl,rfl,b3,U,AtMul.start ms d⟩
    case round=>
     obtain⟨j,c,outs,e6,rfl,rfl,e7,o,f⟩:=hrel
     by_cases e8:j < n
     · have t:0 < n:=by omega
       obtain⟨g,cap,hv,e9,f0⟩:=o.out.own.form t;injection hv with hA _ hcap;subst hA hcap;have W:outs.length=j:=f.out.1;have d0:ms.length=n:=D.out;have X:j < ms.length:=by omega
       have b4:=zGG (zw (l.take k)) ms[j] (by rw[←q.out.2.2];exact List.getElem_mem X);have d1:wr.cell? ⟨g,j,none⟩=some (.int .u32 (ms[j]:Int)):=by
        rw[o.out.own.cellAt j jo];subst W;have h1:=zJf X;simp only[zBq,List.getElem?_map,h1];rfl
       have f1:=o.out.own.frozenAt j;have c5:=zA (fun x:Nat=>zJg (ms:=ms) (outs:=outs) jo x);have P:=zA (f.out.step X);obtain⟨x,hx⟩:=jx (ms[j]);rw[hx]at d1 P b4;have f2:(x:Int)≤4294967295:=by omega
       have u:=zA W;clear hx W d0 b4;go_wp2_with fail
       go_roundg (gk - 1)
       case measure=>omega
       case rel=>
        refine⟨j+1,(c+10*x) / 4294967296,outs++[(c+10*x) % 4294967296],by omega,congrArg (Value.int .u64) jo,by go_num,by omega,?_,P⟩;have p:=o.out.own.stored j (.int .u32 (((c+10*x) % 4294967296:Nat):Int));have h1:=p.1;rw[zSq,show j=outs.length from u.out.symm,c5.out]at h1;have h2:=o.out.grown (by rw[show j=outs.length from u.out.symm]at p;exact p.2) h1;have e:(((c+10*x) % 4294967296:Nat):Int)=((c:Int)+10*(x:Int)) % 4294967296:=by omega
        rw[e,u.out]at h2;exact h2
     · obtain rfl:j=n:=by omega
       have Y:outs.length=ms.length:=by rw[f.out.1,D.out]
       have b5:zCy ms outs=outs:=by unfold zCy;rw[Y,List.drop_length,List.append_nil]
       have Q:=(show AtMul ms d ms.length c outs by have:=f.out;rwa [←D.out]at this).done;have E:=zA (show PaS w wr (.slice A j cp) j outs by have:=o.out;rwa [b5]at this);have p:=q.out.step O J b3 Q;obtain⟨zs,R⟩:=jx (zAk (outs++[c]));obtain⟨m,hm⟩:=jx zs.length;have b6:m≤j+1:=by
        have:=zJL (outs++[c]);rwa[R,hm,List.length_append,f.out.1]at this
       rw[R]at p;have S:=zA R;have L:=zA hm;have b7:=zA p;have u:=zA (show outs.length=j from f.out.1);have T:w.heap.size+1≤wr.heap.size:=E.out.res.1;have d2:∀v:World,v.heap.size=v.heap.size:=fun _=>rfl;clear d2 R hm p Y b5 Q o U f
       by_cases h8:m≤8
       · go_wp2_with (at_builtin;refine zEs rfl _ _ 38 rfl 67 i0 _ 1 4 underlying38 a2 a3 a4 a5 rfl jd (w.heap.size+1) T (.slice A j cp) (zBq outs) j rfl E.out.own [.int .u32 (c:Int)] 1 1 rfl rfl rfl jo jo ?_;intro v' w' B F;obtain⟨Av,cv,rfl,M,N⟩:=zS B);have y:=zA (Reads.of_own (by rw[zGK outs [c] |>.symm];exact B):Reads w' w'.heap.size 1 Av (j+1) (zBq (outs++[c])));have HP:=zA (E.out.trimmed (m:=m) (zs:=zs) F (by rw[zGK outs [c] |>.symm];exact B) S L b6);clear B F;refine(zFD (xs:=outs++[c]) (m:=m) (by rw[List.length_append,u.out];rfl) y jo M N (by rw[S.out,L.out])).mono ?_;rintro e3 w3 ⟨rfl,rfl⟩;go_wp2_with fail
         go_roundg (G - 1)
         case measure=>omega
         case rel=>exact⟨k+1,zs,m,by omega,by go_num,L,HP,AtPar.go O b7 (by rw[L.out];exact h8)⟩
       · have d3:=zA (AtPar.over b7 (by rw[L.out];exact h8));go_wp2_with (at_builtin;refine zEs rfl _ _ 38 rfl 67 i0 _ 1 4 underlying38 a2 a3 a4 a5 rfl jd (w.heap.size+1) T (.slice A j cp) (zBq outs) j rfl E.out.own [.int .u32 (c:Int)] 1 1 rfl rfl rfl jo jo ?_;intro v' w' B F;obtain⟨Av,cv,rfl,M,N⟩:=zS B);have y:=zA (Reads.of_own (by rw[zGK outs [c] |>.symm];exact B):Reads w' w'.heap.size 1 Av (j+1) (zBq (outs++[c])));have HP:=zA (E.out.trimmed (m:=m) (zs:=zs) F (by rw[zGK outs [c] |>.symm];exact B) S L b6);clear B F;refine(zFD (xs:=outs++[c]) (m:=m) (by rw[List.length_append,u.out];rfl) y jo M N (by rw[S.out,L.out])).mono ?_;rintro e3 w3 ⟨rfl,rfl⟩;have hR:=zA HP.out.res;obtain⟨b0,b8⟩:=hR.out.2 0 jd;obtain⟨b1,b9⟩:=hR.out.2 1 jd;go_wp2_with fail;obtain⟨q0,q1⟩:=zFm (v0:=false) (v1:=()) hR rfl;refine bodyPost_ret (v:=.tuple #[.agg #[false,()],(3:Int)]) (by simp[results,results119,go_sem,q0,q1]) rfl ?_;exact⟨none,0,0,3,rfl,zFn HP.out.below (yAC _),.inr ⟨rfl,d3⟩⟩
  · have c0:k=l.length:=by omega
    obtain⟨a0,a1⟩:=(show AtPar l l.length ms by have:=q.out;rwa [c0]at this).done;clear c0;have c1:zAk ms=ms:=by rw[a1];exact zMp a0
    have c2:=zA c1;have c3:=zA a0;have c4:=zA a1;have y:=zA (Reads.of_own U.out.own);have d6:¬k < s.size:=by omega
    clear c1 a0 a1 q a9
    by_cases C:n=0
    · have t:=zA C;clear C;go_wp2_with fail;refine(zPQ D y (yAC _) jo a7 a8 c2 t).mono ?_;rintro e3 w3 ⟨rfl,H⟩;have b:=zA (U.out.below' H);clear H;obtain⟨b0,b8⟩:=b.out.res.2 0 jd;obtain⟨b1,b9⟩:=b.out.res.2 1 jd;go_wp2_with fail;obtain⟨q0,q1⟩:=zFm (v0:=false) (v1:=()) b.out.res rfl;refine bodyPost_ret (v:=.tuple #[.agg #[false,()],(0:Int)]) (by simp[results,results119,go_sem,q0,q1]) rfl ?_;have c6:limbs (zw l)=[]:=by rw[←c4.out];exact List.eq_nil_of_length_eq_zero (by rw[D.out,t.out])
      exact⟨none,0,0,0,rfl,zFn b.out.below (yAC _),.inl ⟨rfl,c3,by rw[c6];exact yAJ _ _ _ _⟩⟩
    · have t:=zA C;clear C;go_wp2_with fail;refine(zPR D y (yAC _) jo a7 a8 c2 t).mono ?_;rintro e3 w3 ⟨rfl,H⟩;have b:=zA (U.out.below' H);clear H;obtain⟨b0,b8⟩:=b.out.res.2 0 jd;obtain⟨b1,b9⟩:=b.out.res.2 1 jd;go_wp2_with fail;obtain⟨q0,q1⟩:=zFm (v0:=false) (v1:=.slice A n cp) b.out.res rfl;refine bodyPost_ret (v:=.tuple #[.agg #[false,.slice A n cp],(0:Int)]) (by simp[results,results119,go_sem,q0,q1]) rfl ?_;exact⟨A,n,cp,0,rfl,zFn b.out.below (yAC _),.inl ⟨rfl,c3,by rw[←c4.out,D.out];exact zAg (zSr b.out.own jo) jo⟩⟩
structure BgS (w wr:World) (g:Nat) (A:Option Addr) (n c k R:Nat) (X:Option Addr) (mx cx:Nat):Prop where
 mv:Mv w wr g A n c k
 zero:Blk wr w.heap.size zBY
 box:Blk wr R [false,.slice X mx cx]
theorem BgS.drewN {w:World} {b cx:Nat} {X:Option Addr} (h:BgS w wr g A n c k R X b cx) (hg:g < w.heap.size) (d:w.heap.size≤R) (m:Nat):BgS w (wr.drewN m) g A n c k R X b cx:=
 ⟨h.mv.drewN m,h.zero.grown (zAE wr (some g) m) jo,h.box.grown (zAE wr (some g) m) jo⟩
theorem zJh {w:World} {xs:List Value} (h:w.ownsRow base e 1 v n xs) (m:Nat):(w.drewN m).ownsRow base e 1 v n xs:=
 h.kept (row:=none) ⟨rfl,rfl,rfl,yAC _,fun _ _ _=>rfl⟩ (by cases hv:v.ownBlock<;>simp)
theorem zPS {v:Nat} (h:zGR≤v) (b:zI1 v n r=(e,t,m)):6=e∧zq=t∧0=m:=by
 unfold zI1 at b;rw[if_pos h]at b;exact zCP b
theorem zLz {v:Nat} (h:v < zGR) (c:(zBN 0 zA6 r || zBN 0 zM r)=true) (b:zI1 v n r=(e,t,m)):5=e∧zq=t∧0=m:=by
 unfold zI1 at b;rw[if_neg (Nat.not_le.2 h),if_pos c]at b;exact zCP b
theorem zPT {v:Nat} (h:v < zGR) (c:(zBN 0 zA6 r || zBN 0 zM r)=false) (b:zI1 v n r=(e,t,m)):0=e∧{zq with kind:=3,mag:=limbs v}=t∧n+1=m:=by
 unfold zI1 at b;rw[if_neg (Nat.not_le.2 h),if_neg (by rw[c];simp)]at b;exact zGq b
theorem zKi {w:World} (P:s.data.toList=asc d) (hd:∀x∈d,zM x=true) (h0:0 < d.length) (hz:d[0]≠48∨d=[48]) (Q:d.length≤4096)
 (hr:Rd w g A n c k) (hn:u.length=n) (ha:Reads w B 1 A n (zAM u)) (hB:B≤g) (hk:k≤n) (hl:n≤4096) (hq:zI1 (zw d) d.length (u.drop k)=(e,t,m)):
 Calls prog 98 #[.pointer (some g),.string s] w fun ev w'=>∃v,ev=.returned (.tuple #[v,e])∧(e≠0→v=noV)∧(e=0→zXd w' w.heap.size t v∧Mv w w' g A n c k∧m=d.length+1)∧w.grownBy w' (some g):=by
 have hg:=hr.lt;have HP:=zA (zM6 P hd h0 hz Q (w.alloc (.cells zBY.toArray 80)));have M:=zA hq;have HA:=zA ha;have HR:=zA hr;obtain⟨b1,R⟩:=jx (zBN 0 zA6 (u.drop k));obtain⟨b2,q⟩:=jx (zBN 0 zM (u.drop k));have C:=zA R;have F:=zA q;have HN:=zA hn;clear hq ha hr P hd h0 hz Q R q hn;go_enter func98,ntmps98;go_wp2_with fail;refine HP.out.mono ?_;rintro e1 w1 ⟨X,p,cx,er,rfl,D,E⟩;have a6:w.heap.size+1≤w1.heap.size:=by have:=D.size;simpa using this
 have o:=zA (show BgS w (w1.alloc (.cells #[false,.slice X p cx] 40)) g A n c k w1.heap.size X p cx from by
  have q:Below w.heap.size w w1:=((Below.refl _ w).alloc (yAC _) _).trans (D.mono js);refine⟨⟨(HR.out.below q hg).alloc _,zC (zAf _ q) (zF _ _ _)⟩,?_,Blk.new w1 [false,.slice X p cx] _⟩;exact((Blk.new w zBY 80).below D js).grownR (zF w1 _ none) js)
 have G:=zA E;clear D E
 by_cases H:er=0
 · have r:zw d < zGR:=by
    rcases G with⟨_,h,_⟩ | ⟨h,_⟩
    · exact h
    · omega
   have I:=zA (show w1.ownsRow (w.alloc (.cells zBY.toArray 80)).heap.size 67 1 (.slice X p cx) (limbs (zw d)).length (zBq (limbs (zw d))) by
    rcases G with⟨_,_,h⟩ | ⟨h,_⟩
    · exact h
    · omega)
   have e1:((er:Int) !=0)=false:=by rw[H];rfl
   have y:=zA r;clear H G r;go_wp2_with fail;refine(zHt (j:=0) o.out.mv.rd HN (HA.out.grown o.out.mv.grown hB (Nat.le_of_lt hg)) hk hl jo C).mono ?_;rintro e3 w3 ⟨rfl,m3,J⟩;have l:=zA (show BgS w w3 g A n c k w1.heap.size X p cx by rw[J];exact o.out.drewN hg jo m3);have S:=zA (show w3.ownsRow (w.heap.size+1) 67 1 (.slice X p cx) (limbs (zw d)).length (zBq (limbs (zw d))) by
    rw[J];exact zJh (zAg (I.out.alloc _) js) m3)
   clear J m3 o I;cases b1 with
   | true=>
    obtain⟨b0,T⟩:=l.out.zero.2 0 jd;obtain⟨b1,U⟩:=l.out.zero.2 1 jd;obtain⟨b2,V⟩:=l.out.zero.2 2 jd;obtain⟨b3,W⟩:=l.out.zero.2 3 jd;obtain⟨b4,Y⟩:=l.out.zero.2 4 jd;obtain⟨b5,a0⟩:=l.out.zero.2 5 jd;obtain⟨b6,a1⟩:=l.out.zero.2 6 jd;obtain⟨b7,a2⟩:=l.out.zero.2 7 jd;obtain⟨b8,a3⟩:=l.out.zero.2 8 jd;go_wp2_with fail;obtain⟨q0,q1,q2,q3,q4,q5,q6,q7,q8⟩:=zb (v0:=(0:Int)) (v1:= "") (v2:=()) (v3:=(0:Int)) (v4:=(0:Int)) (v5:=false) (v6:=()) (v7:=(0:Int)) (v8:=false) l.out.zero rfl;refine bodyPost_ret (v:=.tuple #[.agg #[(0:Int),"",(),(0:Int),(0:Int),false,(),(0:Int),false],(5:Int)]) (by simp[results,results98,go_sem,q0,q1,q2,q3,q4,q5,q6,q7,q8]) rfl ?_;obtain⟨z,N,O⟩:=zLz y (by rw[C.out];rfl) M;subst z;exact⟨_,rfl,fun _=>rfl,fun h=>absurd h jd,(zAG l.out.mv (yAC _) hg).grown⟩
   | false=>
    go_wp2_with fail;refine(zAt (j:=0) l.out.mv.rd HN (HA.out.grown l.out.mv.grown hB (Nat.le_of_lt hg)) hk hl jo F).mono ?_;rintro e4 w4 ⟨rfl,m4,L⟩;have f:=zA (show BgS w w4 g A n c k w1.heap.size X p cx by rw[L];exact l.out.drewN hg jo m4);have a4:=zA (show w4.ownsRow (w.heap.size+1) 67 1 (.slice X p cx) (limbs (zw d)).length (zBq (limbs (zw d))) by
     rw[L];exact zJh S m4)
    clear L m4 l S;obtain⟨b0,T⟩:=f.out.zero.2 0 jd;obtain⟨b1,U⟩:=f.out.zero.2 1 jd;obtain⟨a5,V⟩:=f.out.zero.2 2 jd;obtain⟨b3,W⟩:=f.out.zero.2 3 jd;obtain⟨b4,Y⟩:=f.out.zero.2 4 jd;obtain⟨b5,a0⟩:=f.out.zero.2 5 jd;obtain⟨b6,a1⟩:=f.out.zero.2 6 jd;obtain⟨b7,a2⟩:=f.out.zero.2 7 jd;obtain⟨b8,a3⟩:=f.out.zero.2 8 jd;obtain⟨x0,a7⟩:=f.out.box.2 0 js;obtain⟨x1,a8⟩:=f.out.box.2 1 js;cases b2 with
    | true=>
     go_wp2_with fail;obtain⟨q0,q1,q2,q3,q4,q5,q6,q7,q8⟩:=zb (v0:=(0:Int)) (v1:= "") (v2:=()) (v3:=(0:Int)) (v4:=(0:Int)) (v5:=false) (v6:=()) (v7:=(0:Int)) (v8:=false) f.out.zero rfl;refine bodyPost_ret (v:=.tuple #[.agg #[(0:Int),"",(),(0:Int),(0:Int),false,(),(0:Int),false],(5:Int)]) (by simp[results,results98,go_sem,q0,q1,q2,q3,q4,q5,q6,q7,q8]) rfl ?_;obtain⟨z,N,O⟩:=zLz y (by rw[C.out,F.out];rfl) M;subst z;exact⟨_,rfl,fun _=>rfl,fun h=>absurd h jd,(zAG f.out.mv (yAC _) hg).grown⟩
    | false=>
     go_wp2_with fail;obtain⟨q0,q1,q2,q3,q4,q5,q6,q7,q8⟩:=zb (v0:=(3:Int)) (v1:= "") (v2:=()) (v3:=(0:Int)) (v4:=(0:Int)) (v5:=false) (v6:=.slice X p cx) (v7:=(0:Int)) (v8:=false) f.out.zero rfl;refine bodyPost_ret (v:=.tuple #[.agg #[(3:Int),"",(),(0:Int),(0:Int),false,.slice X p cx,(0:Int),false],(0:Int)]) (by simp[results,results98,go_sem,q0,q1,q2,q3,q4,q5,q6,q7,q8]) rfl ?_;obtain⟨z,N,O⟩:=zPT y (by rw[C.out,F.out];rfl) M;subst z N O;exact⟨_,rfl,fun h=>absurd rfl h,fun _=>⟨⟨_,_,rfl,yAJ _ _ _ _,zAg (zBG a4 jo) jo⟩,zAG f.out.mv (yAC _) hg,rfl⟩,(zAG f.out.mv (yAC _) hg).grown⟩
 · have r:zGR≤zw d:=by
    rcases G with⟨h,_,_⟩ | ⟨_,h⟩
    · omega
    · exact h
   have e1:((er:Int) !=0)=true:=by rw[bne_iff_ne];omega
   have y:=zA r;clear H G r;obtain⟨b0,T⟩:=o.out.zero.2 0 jd;obtain⟨a9,U⟩:=o.out.zero.2 1 jd;obtain⟨a5,V⟩:=o.out.zero.2 2 jd;obtain⟨b3,W⟩:=o.out.zero.2 3 jd;obtain⟨b4,Y⟩:=o.out.zero.2 4 jd;obtain⟨b5,a0⟩:=o.out.zero.2 5 jd;obtain⟨b6,a1⟩:=o.out.zero.2 6 jd;obtain⟨b7,a2⟩:=o.out.zero.2 7 jd;obtain⟨b8,a3⟩:=o.out.zero.2 8 jd;go_wp2_with fail;obtain⟨q0,q1,q2,q3,q4,q5,q6,q7,q8⟩:=zb (v0:=(0:Int)) (v1:= "") (v2:=()) (v3:=(0:Int)) (v4:=(0:Int)) (v5:=false) (v6:=()) (v7:=(0:Int)) (v8:=false) o.out.zero rfl;refine bodyPost_ret (v:=.tuple #[.agg #[(0:Int),"",(),(0:Int),(0:Int),false,(),(0:Int),false],(6:Int)]) (by simp[results,results98,go_sem,q0,q1,q2,q3,q4,q5,q6,q7,q8]) rfl ?_;obtain⟨z,N,O⟩:=zPS y M;subst z;exact⟨_,rfl,fun _=>rfl,fun h=>absurd h jd,(zAG o.out.mv (yAC _) hg).grown⟩
theorem zPU {w:World} (hB:B≤w.heap.size) (d:xs.length=n) (f:Reads w B 1 A n (zAM xs)) (j:n≤4096) {b:Bool} (h1:zGj xs=s) (g:zCO xs=b):
 Calls prog 102 #[.slice A n c] w fun e w'=>e=.returned (.tuple #[.string s,b])∧Below w.heap.size w w':=by
 subst d h1 g;exact zOn hB f jo
theorem zPV (h:l.length≤n) (d:n≤4):zBj l 4=zBj l (min 4 l.length):=by
 have b:∀k,l.length < k→zA7 l k=0:=by
  intro k hk;unfold zA7;rw[if_neg];rw[yAI (by omega:¬k≤l.length)];simp
 have h1:∀k,l.length≤k→zBj l k=zBj l l.length:=by
  intro k
  induction k with
  | zero=>
   intro hk;have:l.length=0:=by omega
   rw[this]
  | succ k c=>
   intro hk
   by_cases e:l.length=k+1
   · rw[e]
   · rw[zBj,if_neg (by rw[b (k+1) jo];simp)];exact c jo
 rw[h1 4 jo,Nat.min_eq_right jo]
theorem zKj (l:List UInt16):zBj l 4=zBj l (min 4 l.length):=by
 by_cases h:l.length≤4
 · exact zPV h (yAC _)
 · rw[Nat.min_eq_left jo]
theorem zFo (h:zA7 l (n+1)=0):zBj l (n+1)=zBj l n:=by
 rw[zBj,if_neg (by rw[h];simp)]
theorem zJi (h:zA7 l (n+1)≠0):zBj l (n+1)=some (n+1):=by
 rw[zBj,if_pos h]
theorem zPW (b:n≤l.length):zA7 l n=if(zCO (l.take n)&& !(decide (asc (l.take n)=[63,46])&&zBN 2 zM l))=true then zCE (asc (l.take n))else 0:=by
 unfold zA7 zCO;rw[decide_eq_true b,Bool.true_and]
theorem zPX (h:zCO l=true):zGj l=⟨(asc l).toArray⟩:=by
 unfold zGj;rw[if_pos h];rfl
theorem zEP {l:List UInt8} (hs:s=⟨l.toArray⟩) (h:zCE l=n) (w:World):Calls prog 103 #[.string s] w fun e w'=>e=.returned n∧w=w':=by
 subst hs h;exact zPL ⟨l.toArray⟩ w
theorem zPY (l:List UInt8):zCE l=0∨zCE l=1∨zCE l=2:=by
 unfold zCE;split
 · simp
 · split<;>simp
theorem zL0 (h1:zBj l 4=zBj l (j+1)) (c:zA7 l (j+1)=2) (b:zCL z l=(e,t,m)):6=e∧zq=t∧0=m:=by
 unfold zCL at b;rw[h1,zJi (by rw[c];decide)]at b;simp only at b;rw[if_pos c]at b;exact zCP b
theorem zWI (h1:zBj l 4=zBj l (j+1)) (c:zA7 l (j+1)=1) (b:zCL z l=(e,t,m)):0=e∧{zq with kind:=5,text:=asc (l.take (j+1))}=t∧j+1=m:=by
 unfold zCL at b;rw[h1,zJi (by rw[c];decide)]at b;simp only at b;rw[if_neg (by rw[c];decide)]at b;exact zGq b
theorem zPZ (h1:zBj l 4=none) (b:zCL z l=(e,t,m)):(if(zBN 0 (fun x=>decide (128≤x.toNat) || x.toNat==96 || x.toNat==92) l || (z&&zp [35,33] l))=true then 6 else 5)=e:=by
 unfold zCL at b;rw[h1]at b;simp only at b;split at b
 · rename_i h;rw[if_pos h];exact(zCP b).1
 · rename_i h;rw[if_neg h];exact(zCP b).1
structure SgS (w wr:World) (g:Nat) (A:Option Addr) (n c k:Nat):Prop where
 mv:Mv w wr g A n c k
 zero:Blk wr w.heap.size zBY
theorem SgS.below {w:World} (h:SgS w wr g A n c k) (_b:g < w.heap.size) (hb:Below wr.heap.size wr w'):SgS w w' g A n c k:=
 ⟨h.mv.below hb,h.zero.below hb h.zero.1⟩
theorem SgS.drewN {w:World} (h:SgS w wr g A n c k) (hg:g < w.heap.size) (m:Nat):SgS w (wr.drewN m) g A n c k:=
 ⟨h.mv.drewN m,h.zero.grown (zAE wr (some g) m) jo⟩
theorem SgS.drew {w:World} (h:SgS w wr g A n c k) (hg:g < w.heap.size):SgS w wr.drew g A n c k:=
 ⟨h.mv.drew,h.zero.grown (zBT wr (some g)) jo⟩
theorem zHw {w:World} (hr:Rd w g A n c k) (hn:u.length=n) (ha:Reads w B 1 A n (zAM u)) (hB:B≤g) (hk:k < u.length) (hl:n≤4096) (hc:n≤c) (hq:zCL (k==0) (u.drop k)=(e,t,m)):
 Calls prog 66 #[.pointer (some g)] w fun ev w'=>∃v,ev=.returned (.tuple #[v,e])∧(e≠0→v=noV)∧(e=0→zXd w' w.heap.size t v∧Mv w w' g A n c (k+m))∧w.grownBy w' (some g):=by
 subst hn;have hg:=hr.lt;have HA:=zA ha;have HQ:=zA hq;have a9:=zA (show SgS w (w.alloc (.cells zBY.toArray 80)) g A u.length c k from⟨⟨hr.alloc _,zF w _ _⟩,Blk.new w zBY 80⟩);have a0:=hr.c0;have a1:=hr.c1;clear hq ha hr;go_enter func66,ntmps66;go_upto_region 1 with(fail)
 go_cut [4] (fun v wx=>v=.int .i64 ((min 4 (u.length - k):Nat):Int)∧Hid (SgS w wx g A u.length c k))
 case first=>
  go_region
  all_goals go_wp2_with fail
  all_goals go_meet
  all_goals first | exact⟨congrArg (Value.int .i64) jo,a9.out.drew hg⟩ | exact⟨congrArg (Value.int .i64) jo,a9⟩
 case rest=>
  obtain⟨hv,o⟩:=hcut;subst hv;clear a0 a1 a9;go_wp2
  go_loopg [4] (min 4 (u.length - k)) (fun r v wr=>v=.int .i64 (r:Int)∧r≤4∧k+r≤u.length∧Hid (SgS w wr g A u.length c k)∧Hid (zBj (u.drop k) 4=zBj (u.drop k) r))
  case atStart=>exact⟨rfl,by omega,by omega,o,by have:=zKj (u.drop k);rwa[List.length_drop]at this⟩
  case round=>
   obtain⟨rfl,h4,f3,o,H⟩:=hrel;have a0:=o.out.mv.rd.c0;have a1:=o.out.mv.rd.c1;have c8:=o.out.mv.rd.f1;have C:=zA (HA.out.grown o.out.mv.grown hB (Nat.le_of_lt hg))
   by_cases f4:0 < gk
   · obtain⟨j,rfl⟩:∃j,gk=j+1:=⟨gk - 1,by omega⟩;obtain⟨blk,off,hA,_,G⟩:=C.out.spotL jo;subst hA;clear G;have E:=C.out.cut16 (k:=k) jo hc;rw[jn]at E;have E:=E.take16 (k:=j+1) (by rw[List.length_drop];omega);obtain⟨xs,a2⟩:=jx ((u.drop k).take (j+1));have b9:xs.length=j+1:=by rw[←a2,List.length_take,List.length_drop];omega
     rw[a2,b9]at E;have E:Reads wr B 1 (some ⟨blk,off+k,none⟩) (j+1) (zAM xs):=by
      have e:Option.map (fun x:Addr=>x.add k) (some ⟨blk,off,none⟩)=some ⟨blk,off+k,none⟩:=congrArg some (Addr.add_lit _ _ _);rw[←e];exact E
     obtain⟨sv,c2⟩:=jx (zGj xs);obtain⟨ok,a6⟩:=jx (zCO xs);obtain⟨d,hd⟩:=jx (zBN 2 zM (u.drop k));have c9:zA7 (u.drop k) (j+1)=if(ok&& !(decide (asc xs=[63,46])&&d))=true then zCE (asc xs)else 0:=by
      rw[zPW (by rw[List.length_drop];omega),a2,a6,hd]
     have d0:ok=true→sv=⟨(asc xs).toArray⟩:=fun h=>by rw[←c2];exact zPX (by rw[a6,h])
     have d5:=zA E;have d6:=zA b9;have d7:=zA a2;have HP:=zA (And.intro c2 a6);have HD:=zA hd;have a7:=zA c9;have d8:=zA d0;have d9:B≤wr.heap.size:=by have:=o.out.mv.grown.size;omega
     obtain⟨h,hh⟩:=jx (k+(j+1));have e5:IntKind.i64.wrap ((k:Int)+((j:Int)+1))=(h:Int):=by rw[IntKind.wrap_i64];omega
     have g1:0≤(h:Int):=by omega
     have g2:(h:Int)≤(c:Int):=by omega
     have g3:k≤h:=by omega
     have g4:¬c=k:=by omega
     have g5:h - k=j+1:=by omega
     have HH:=zA hh;clear hh;clear E b9 a2 c2 a6 hd c9 d0;go_upto_region 4 with(fail)
     go_cut [5,6] (fun v5 v6 wx=>v5=.string sv∧v6=.bool ok∧Hid (SgS w wx g (some ⟨blk,off,none⟩) u.length c k))
     case first=>
      have c3:=zA (o.out.mv.rd.drew);have d1:g < wr.drew.heap.size:=o.out.mv.rd.lt;go_region_held3 (fun w'=>w'.cell? g=some (.slice (some ⟨blk,off,none⟩) u.length c)∧w'.cell? ⟨g,1,none⟩=some (.int .i64 (k:Int)))
       (first | (exact⟨a0,a1⟩) | (exact⟨(c3.out.below c4 d1).c0,(c3.out.below c4 d1).c1⟩) | go_keep)
       (first | (go_at_call 102;go_split_ands;refine(zPU (w:=wr.drew) d9 d6.out (by exact d5.out) jo HP.out.1 HP.out.2).mono ?_;rintro e4 w4 ⟨rfl,c4⟩))
      all_goals go_wp2_with fail
      all_goals go_meet
      all_goals exact⟨rfl,rfl,(o.out.drew hg).below hg c4⟩
     case rest=>
      obtain⟨h5,h6,s⟩:=hcut;subst h5 h6;clear a0 a1 c8 e5 o C;have a0:=s.out.mv.rd.c0;have a1:=s.out.mv.rd.c1;have c8:=s.out.mv.rd.f1;have C:=zA (HA.out.grown s.out.mv.grown hB (Nat.le_of_lt hg));cases ok with
      | false=>
       have y:=zA (show zA7 (u.drop k) (j+1)=0 by rw[a7.out];simp);go_wp2_with fail
       go_roundg j
       case measure=>omega
       case rel=>exact⟨congrArg (Value.int .i64) jo,by omega,by omega,s,H.out.trans (zFo y)⟩
      | true=>
       have X:=zA (d8.out rfl);obtain⟨I,c5⟩:=jx (zCE (asc xs));have a8:I=0∨I=1∨I=2:=by rw[←c5];exact zPY _
       have J:=zA c5;clear c5
       by_cases h0:I=0
       · subst h0;have y:=zA (show zA7 (u.drop k) (j+1)=0 by rw[a7.out,J.out];simp);clear a8;go_wp2_with (go_at_call 103;refine(zEP X.out J.out _).mono ?_;rintro e3 w3 ⟨rfl,rfl⟩)
         go_roundg j
         case measure=>omega
         case rel=>exact⟨congrArg (Value.int .i64) jo,by omega,by omega,s,H.out.trans (zFo y)⟩
       · have e6:((I:Int)==0)=false:=yA.2 jo
         by_cases F:asc xs=[63,46]
         · have h2:I=2:=by rw[←J.out,F];decide
           subst h2;have L:=zA (show zA7 (u.drop k) (j+1)=if d=true then 0 else 2 by rw[a7.out,J.out,F];cases d<;>rfl);obtain rfl:sv=⟨#[63,46]⟩:=by rw[X.out,F]
           have f5:=zA F;clear F e6 h0 a8;have c6:=zA (show zCE [63,46]=2 by decide);cases d with
           | true=>
            have y:=zA (show zA7 (u.drop k) (j+1)=0 by rw[L.out];rfl);go_wp2_with (go_at_call 103;refine(zEP (l:=[63,46]) rfl c6.out _).mono ?_;rintro e3 w3 ⟨rfl,rfl⟩);refine(zAt (j:=2) s.out.mv.rd rfl C jo hl jo HD).mono ?_;rintro e4 w4 ⟨rfl,W,D⟩;subst D;go_wp2_with fail
            go_roundg j
            case measure=>omega
            case rel=>exact⟨congrArg (Value.int .i64) jo,by omega,by omega,s.out.drewN hg W,H.out.trans (zFo y)⟩
           | false=>
            have y:=zA (show zA7 (u.drop k) (j+1)=2 by rw[L.out];rfl);go_wp2_with (go_at_call 103;refine(zEP (l:=[63,46]) rfl c6.out _).mono ?_;rintro e3 w3 ⟨rfl,rfl⟩);refine(zAt (j:=2) s.out.mv.rd rfl C jo hl jo HD).mono ?_;rintro e4 w4 ⟨rfl,W,D⟩;subst D;have f:=zA (s.out.drewN hg W).zero;obtain⟨b0,M⟩:=f.out.2 0 jd;obtain⟨b1,N⟩:=f.out.2 1 jd;obtain⟨b2,O⟩:=f.out.2 2 jd;obtain⟨b3,P⟩:=f.out.2 3 jd;obtain⟨b4,Q⟩:=f.out.2 4 jd;obtain⟨b5,R⟩:=f.out.2 5 jd;obtain⟨b6,T⟩:=f.out.2 6 jd;obtain⟨b7,U⟩:=f.out.2 7 jd;obtain⟨b8,V⟩:=f.out.2 8 jd;go_wp2_with (go_at_call 103;refine(zEP (l:=[63,46]) rfl c6.out _).mono ?_;rintro e3 w3 ⟨rfl,rfl⟩);obtain⟨q0,q1,q2,q3,q4,q5,q6,q7,q8⟩:=zb (v0:=(0:Int)) (v1:= "") (v2:=()) (v3:=(0:Int)) (v4:=(0:Int)) (v5:=false) (v6:=()) (v7:=(0:Int)) (v8:=false) f rfl;refine bodyPost_ret (v:=.tuple #[.agg #[(0:Int),"",(),(0:Int),(0:Int),false,(),(0:Int),false],(6:Int)]) (by simp[results,results66,go_sem,q0,q1,q2,q3,q4,q5,q6,q7,q8]) rfl ?_;obtain⟨z1,z2,z3⟩:=zL0 H y HQ;subst z1;exact⟨_,rfl,fun _=>rfl,fun h=>absurd h jd,(zAG (s.out.drewN hg W).mv (yAC _) hg).grown⟩
         · have L:=zA (show zA7 (u.drop k) (j+1)=I by rw[a7.out,J.out,yAI F];rfl);have f6:(sv.toList==[63,46])=false:=by rw[zPK,X.out];exact yAI F
           clear F;have f:=zA s.out.zero;obtain⟨b0,M⟩:=f.out.2 0 jd;obtain⟨b1,N⟩:=f.out.2 1 jd;obtain⟨b2,O⟩:=f.out.2 2 jd;obtain⟨b3,P⟩:=f.out.2 3 jd;obtain⟨b4,Q⟩:=f.out.2 4 jd;obtain⟨b5,R⟩:=f.out.2 5 jd;obtain⟨b6,T⟩:=f.out.2 6 jd;obtain⟨b7,U⟩:=f.out.2 7 jd;obtain⟨b8,V⟩:=f.out.2 8 jd
           by_cases h2:I=2
           · subst h2;clear a8 h0;go_wp2_with (go_at_call 103;refine(zEP X.out J.out _).mono ?_;rintro e3 w3 ⟨rfl,rfl⟩);obtain⟨q0,q1,q2,q3,q4,q5,q6,q7,q8⟩:=zb (v0:=(0:Int)) (v1:= "") (v2:=()) (v3:=(0:Int)) (v4:=(0:Int)) (v5:=false) (v6:=()) (v7:=(0:Int)) (v8:=false) f rfl;refine bodyPost_ret (v:=.tuple #[.agg #[(0:Int),"",(),(0:Int),(0:Int),false,(),(0:Int),false],(6:Int)]) (by simp[results,results66,go_sem,q0,q1,q2,q3,q4,q5,q6,q7,q8]) rfl ?_;obtain⟨z1,z2,z3⟩:=zL0 H L HQ;subst z1;exact⟨_,rfl,fun _=>rfl,fun h=>absurd h jd,(zAG s.out.mv (yAC _) hg).grown⟩
           · obtain rfl:I=1:=by omega
             clear a8 h0 h2;have d2:=zA (Mv.step s.out.mv (k':=k+(j+1)) (z:=(k:Int)+((j:Int)+1)) jo);go_wp2_with (go_at_call 103;refine(zEP X.out J.out _).mono ?_;rintro e3 w3 ⟨rfl,rfl⟩);have d4:=zA (f.out.setOther (S:=g) (i:=1) jo (.int .i64 ((k:Int)+((j:Int)+1))));obtain⟨q0,q1,q2,q3,q4,q5,q6,q7,q8⟩:=zb (v0:=(5:Int)) (v1:=.string sv) (v2:=()) (v3:=(0:Int)) (v4:=(0:Int)) (v5:=false) (v6:=()) (v7:=(0:Int)) (v8:=false) d4 rfl;refine bodyPost_ret (v:=.tuple #[.agg #[(5:Int),.string sv,(),(0:Int),(0:Int),false,(),(0:Int),false],(0:Int)]) (by simp[results,results66,go_sem,q0,q1,q2,q3,q4,q5,q6,q7,q8]) rfl ?_;obtain⟨z1,z2,z3⟩:=zWI H L HQ;subst z1 z2 z3;exact⟨_,rfl,fun h=>absurd rfl h,fun _=>⟨⟨_,_,by rw[X.out,d7.out];rfl,yAJ _ _ _ _,yAJ _ _ _ _⟩,zAG d2 (yAC _) hg⟩,(zAG d2 (yAC _) hg).grown⟩
   · have e7:=zA (show zBj (u.drop k) 4=none by rw[H.out,show gk=0 by omega];rfl);obtain⟨blk,off,rfl,_,G⟩:=C.out.spotL jo;have e8:=G k hk;have HX:=zA (fun p=>zPJ (q:=p) hk);obtain⟨x,hx⟩:=jx (u[k]);rw[hx]at e8 HX;have HE:=zA (zPZ e7 HQ);rw[HX.out]at HE;clear G hx;have f2:=x.toNat_lt
     by_cases c7:128≤x.toNat
     · have e0:((x.toNat:Int)≥128):=by omega
       have y:=zA (show 6=e by rw[←HE.out];simp[c7]);go_wp2_with fail
       go_quiet (fail)
       have f:=zA (o.out.drewN hg nq).zero;obtain⟨b0,M⟩:=f.out.2 0 jd;obtain⟨b1,N⟩:=f.out.2 1 jd;obtain⟨b2,O⟩:=f.out.2 2 jd;obtain⟨b3,P⟩:=f.out.2 3 jd;obtain⟨b4,Q⟩:=f.out.2 4 jd;obtain⟨b5,R⟩:=f.out.2 5 jd;obtain⟨b6,T⟩:=f.out.2 6 jd;obtain⟨b7,U⟩:=f.out.2 7 jd;obtain⟨b8,V⟩:=f.out.2 8 jd;go_wp2;obtain⟨q0,q1,q2,q3,q4,q5,q6,q7,q8⟩:=zb (v0:=(0:Int)) (v1:= "") (v2:=()) (v3:=(0:Int)) (v4:=(0:Int)) (v5:=false) (v6:=()) (v7:=(0:Int)) (v8:=false) f rfl;refine bodyPost_ret (v:=.tuple #[.agg #[(0:Int),"",(),(0:Int),(0:Int),false,(),(0:Int),false],(6:Int)]) (by simp[results,results66,go_sem,q0,q1,q2,q3,q4,q5,q6,q7,q8]) rfl ?_;obtain rfl:=y.out;exact⟨_,rfl,fun _=>rfl,fun h=>absurd h jd,(zAG (o.out.drewN hg nq).mv (yAC _) hg).grown⟩
     · by_cases Y:x.toNat=96
       · have e1:((x.toNat:Int)==96)=true:=by rw[Y];rfl
         have e9:=zA Y;clear Y;have y:=zA (show 6=e by rw[←HE.out];simp[e9.out]);go_wp2_with fail
         go_quiet (fail)
         have f:=zA (o.out.drewN hg nq).zero;obtain⟨b0,M⟩:=f.out.2 0 jd;obtain⟨b1,N⟩:=f.out.2 1 jd;obtain⟨b2,O⟩:=f.out.2 2 jd;obtain⟨b3,P⟩:=f.out.2 3 jd;obtain⟨b4,Q⟩:=f.out.2 4 jd;obtain⟨b5,R⟩:=f.out.2 5 jd;obtain⟨b6,T⟩:=f.out.2 6 jd;obtain⟨b7,U⟩:=f.out.2 7 jd;obtain⟨b8,V⟩:=f.out.2 8 jd;go_wp2;obtain⟨q0,q1,q2,q3,q4,q5,q6,q7,q8⟩:=zb (v0:=(0:Int)) (v1:= "") (v2:=()) (v3:=(0:Int)) (v4:=(0:Int)) (v5:=false) (v6:=()) (v7:=(0:Int)) (v8:=false) f rfl;refine bodyPost_ret (v:=.tuple #[.agg #[(0:Int),"",(),(0:Int),(0:Int),false,(),(0:Int),false],(6:Int)]) (by simp[results,results66,go_sem,q0,q1,q2,q3,q4,q5,q6,q7,q8]) rfl ?_;obtain rfl:=y.out;exact⟨_,rfl,fun _=>rfl,fun h=>absurd h jd,(zAG (o.out.drewN hg nq).mv (yAC _) hg).grown⟩
       · have e1:((x.toNat:Int)==96)=false:=yA.2 jo
         by_cases a3:x.toNat=92
         · have e2:((x.toNat:Int)==92)=true:=by rw[a3];rfl
           have f0:=zA a3;clear a3 Y;have y:=zA (show 6=e by rw[←HE.out];simp[f0.out]);go_wp2_with fail
           go_quiet (fail)
           have f:=zA (o.out.drewN hg nq).zero;obtain⟨b0,M⟩:=f.out.2 0 jd;obtain⟨b1,N⟩:=f.out.2 1 jd;obtain⟨b2,O⟩:=f.out.2 2 jd;obtain⟨b3,P⟩:=f.out.2 3 jd;obtain⟨b4,Q⟩:=f.out.2 4 jd;obtain⟨b5,R⟩:=f.out.2 5 jd;obtain⟨b6,T⟩:=f.out.2 6 jd;obtain⟨b7,U⟩:=f.out.2 7 jd;obtain⟨b8,V⟩:=f.out.2 8 jd;go_wp2;obtain⟨q0,q1,q2,q3,q4,q5,q6,q7,q8⟩:=zb (v0:=(0:Int)) (v1:= "") (v2:=()) (v3:=(0:Int)) (v4:=(0:Int)) (v5:=false) (v6:=()) (v7:=(0:Int)) (v8:=false) f rfl;refine bodyPost_ret (v:=.tuple #[.agg #[(0:Int),"",(),(0:Int),(0:Int),false,(),(0:Int),false],(6:Int)]) (by simp[results,results66,go_sem,q0,q1,q2,q3,q4,q5,q6,q7,q8]) rfl ?_;obtain rfl:=y.out;exact⟨_,rfl,fun _=>rfl,fun h=>absurd h jd,(zAG (o.out.drewN hg nq).mv (yAC _) hg).grown⟩
         · have e2:((x.toNat:Int)==92)=false:=yA.2 jo;have d3:=zA (And.intro c7 (And.intro Y a3));clear Y a3
           by_cases a4:k=0
           · have e3:((k:Int)==0)=true:=by rw[a4];rfl
             have HK:=zA (show(k==0)=true by rw[a4];rfl);clear a4;obtain⟨b,hb⟩:=jx (zp [35,33] (u.drop k));have HB:=zA hb;clear hb;cases b with
             | true=>
              have y:=zA (show 6=e by rw[←HE.out];rw[HB.out,HK.out];simp);go_wp2_with fail
              go_quiet (fail)
              go_wp2_with fail;refine(zAw ⟨#[35,33]⟩ (o.out.drewN hg nq).mv.rd rfl (C.out.drewN _) (Nat.le_of_lt hk) hl jd HB).mono ?_;rintro e4 w4 ⟨rfl,W,D⟩;have a5:=zA (show SgS w w4 g (some ⟨blk,off,none⟩) u.length c k by rw[D];exact(o.out.drewN hg nq).drewN hg W);clear D W;have f:=zA a5.out.zero;obtain⟨b0,M⟩:=f.out.2 0 jd;obtain⟨b1,N⟩:=f.out.2 1 jd;obtain⟨b2,O⟩:=f.out.2 2 jd;obtain⟨b3,P⟩:=f.out.2 3 jd;obtain⟨b4,Q⟩:=f.out.2 4 jd;obtain⟨b5,R⟩:=f.out.2 5 jd;obtain⟨b6,T⟩:=f.out.2 6 jd;obtain⟨b7,U⟩:=f.out.2 7 jd;obtain⟨b8,V⟩:=f.out.2 8 jd;go_wp2;obtain⟨q0,q1,q2,q3,q4,q5,q6,q7,q8⟩:=zb (v0:=(0:Int)) (v1:= "") (v2:=()) (v3:=(0:Int)) (v4:=(0:Int)) (v5:=false) (v6:=()) (v7:=(0:Int)) (v8:=false) f rfl;refine bodyPost_ret (v:=.tuple #[.agg #[(0:Int),"",(),(0:Int),(0:Int),false,(),(0:Int),false],(6:Int)]) (by simp[results,results66,go_sem,q0,q1,q2,q3,q4,q5,q6,q7,q8]) rfl ?_;obtain rfl:=y.out;exact⟨_,rfl,fun _=>rfl,fun h=>absurd h jd,(zAG a5.out.mv (yAC _) hg).grown⟩
             | false=>
              have y:=zA (show 5=e by rw[←HE.out];have:=d3.out;rw[HB.out,HK.out];simp[this]);go_wp2_with fail
              go_quiet (fail)
              go_wp2_with fail;refine(zAw ⟨#[35,33]⟩ (o.out.drewN hg nq).mv.rd rfl (C.out.drewN _) (Nat.le_of_lt hk) hl jd HB).mono ?_;rintro e4 w4 ⟨rfl,W,D⟩;have a5:=zA (show SgS w w4 g (some ⟨blk,off,none⟩) u.length c k by rw[D];exact(o.out.drewN hg nq).drewN hg W);clear D W;have f:=zA a5.out.zero;obtain⟨b0,M⟩:=f.out.2 0 jd;obtain⟨b1,N⟩:=f.out.2 1 jd;obtain⟨b2,O⟩:=f.out.2 2 jd;obtain⟨b3,P⟩:=f.out.2 3 jd;obtain⟨b4,Q⟩:=f.out.2 4 jd;obtain⟨b5,R⟩:=f.out.2 5 jd;obtain⟨b6,T⟩:=f.out.2 6 jd;obtain⟨b7,U⟩:=f.out.2 7 jd;obtain⟨b8,V⟩:=f.out.2 8 jd;go_wp2;obtain⟨q0,q1,q2,q3,q4,q5,q6,q7,q8⟩:=zb (v0:=(0:Int)) (v1:= "") (v2:=()) (v3:=(0:Int)) (v4:=(0:Int)) (v5:=false) (v6:=()) (v7:=(0:Int)) (v8:=false) f rfl;refine bodyPost_ret (v:=.tuple #[.agg #[(0:Int),"",(),(0:Int),(0:Int),false,(),(0:Int),false],(5:Int)]) (by simp[results,results66,go_sem,q0,q1,q2,q3,q4,q5,q6,q7,q8]) rfl ?_;obtain rfl:=y.out;exact⟨_,rfl,fun _=>rfl,fun h=>absurd h jd,(zAG a5.out.mv (yAC _) hg).grown⟩
           · have e3:((k:Int)==0)=false:=yA.2 jo;have HK:=zA (show(k==0)=false from yA.2 a4);clear a4;have y:=zA (show 5=e by rw[←HE.out];have:=d3.out;simp[HK.out,this]);go_wp2_with fail
             go_quiet (fail)
             have f:=zA (o.out.drewN hg nq).zero;obtain⟨b0,M⟩:=f.out.2 0 jd;obtain⟨b1,N⟩:=f.out.2 1 jd;obtain⟨b2,O⟩:=f.out.2 2 jd;obtain⟨b3,P⟩:=f.out.2 3 jd;obtain⟨b4,Q⟩:=f.out.2 4 jd;obtain⟨b5,R⟩:=f.out.2 5 jd;obtain⟨b6,T⟩:=f.out.2 6 jd;obtain⟨b7,U⟩:=f.out.2 7 jd;obtain⟨b8,V⟩:=f.out.2 8 jd;go_wp2;obtain⟨q0,q1,q2,q3,q4,q5,q6,q7,q8⟩:=zb (v0:=(0:Int)) (v1:= "") (v2:=()) (v3:=(0:Int)) (v4:=(0:Int)) (v5:=false) (v6:=()) (v7:=(0:Int)) (v8:=false) f rfl;refine bodyPost_ret (v:=.tuple #[.agg #[(0:Int),"",(),(0:Int),(0:Int),false,(),(0:Int),false],(5:Int)]) (by simp[results,results66,go_sem,q0,q1,q2,q3,q4,q5,q6,q7,q8]) rfl ?_;obtain rfl:=y.out;exact⟨_,rfl,fun _=>rfl,fun h=>absurd h jd,(zAG (o.out.drewN hg nq).mv (yAC _) hg).grown⟩
theorem zIa (x:UInt16) (Z:Nat) (zero:Bool) (w:World) (p:w.cell? Z=some (.bool zero)):Calls prog 120 #[.int .u16 (x.toNat:Int),.pointer (some Z)] w fun e w'=>e=.returned (zAA zero x)∧w=w':=by
 by_cases c:x.toNat=46
 · have e0:((x.toNat:Int)==46)=true:=by rw[c];rfl
   have b:=zA (show zAA zero x=true by unfold zAA;rw[c];cases zero<;>rfl);clear c;go_enter func120,ntmps120;go_wp2;go_ret;exact⟨zJ b.out.symm,rfl⟩
 have e0:((x.toNat:Int)==46)=false:=yA.2 jo
 by_cases h1:x.toNat=101
 · have e1:((x.toNat:Int)==101)=true:=by rw[h1];rfl
   have b:=zA (show zAA zero x=true by unfold zAA;rw[h1];cases zero<;>rfl);clear h1;go_enter func120,ntmps120;go_wp2;go_ret;exact⟨zJ b.out.symm,rfl⟩
 have e1:((x.toNat:Int)==101)=false:=yA.2 jo
 by_cases d:x.toNat=69
 · have e2:((x.toNat:Int)==69)=true:=by rw[d];rfl
   have b:=zA (show zAA zero x=true by unfold zAA;rw[d];cases zero<;>rfl);clear d;go_enter func120,ntmps120;go_wp2;go_ret;exact⟨zJ b.out.symm,rfl⟩
 have e2:((x.toNat:Int)==69)=false:=yA.2 jo
 by_cases f:x.toNat=95
 · have e3:((x.toNat:Int)==95)=true:=by rw[f];rfl
   have b:=zA (show zAA zero x=true by unfold zAA;rw[f];cases zero<;>rfl);clear f;go_enter func120,ntmps120;go_wp2;go_ret;exact⟨zJ b.out.symm,rfl⟩
 have e3:((x.toNat:Int)==95)=false:=yA.2 jo
 by_cases g:x.toNat=120
 · have e4:((x.toNat:Int)==120)=true:=by rw[g];rfl
   have b:=zA (show zAA zero x=zero by unfold zAA;rw[g];cases zero<;>rfl);clear g;go_enter func120,ntmps120;go_wp2;go_ret;exact⟨zJ b.out.symm,rfl⟩
 have e4:((x.toNat:Int)==120)=false:=yA.2 jo
 by_cases j:x.toNat=88
 · have e5:((x.toNat:Int)==88)=true:=by rw[j];rfl
   have b:=zA (show zAA zero x=zero by unfold zAA;rw[j];cases zero<;>rfl);clear j;go_enter func120,ntmps120;go_wp2;go_ret;exact⟨zJ b.out.symm,rfl⟩
 have e5:((x.toNat:Int)==88)=false:=yA.2 jo
 by_cases h6:x.toNat=111
 · have e6:((x.toNat:Int)==111)=true:=by rw[h6];rfl
   have b:=zA (show zAA zero x=zero by unfold zAA;rw[h6];cases zero<;>rfl);clear h6;go_enter func120,ntmps120;go_wp2;go_ret;exact⟨zJ b.out.symm,rfl⟩
 have e6:((x.toNat:Int)==111)=false:=yA.2 jo
 by_cases k:x.toNat=79
 · have e7:((x.toNat:Int)==79)=true:=by rw[k];rfl
   have b:=zA (show zAA zero x=zero by unfold zAA;rw[k];cases zero<;>rfl);clear k;go_enter func120,ntmps120;go_wp2;go_ret;exact⟨zJ b.out.symm,rfl⟩
 have e7:((x.toNat:Int)==79)=false:=yA.2 jo
 by_cases l:x.toNat=98
 · have e8:((x.toNat:Int)==98)=true:=by rw[l];rfl
   have b:=zA (show zAA zero x=zero by unfold zAA;rw[l];cases zero<;>rfl);clear l;go_enter func120,ntmps120;go_wp2;go_ret;exact⟨zJ b.out.symm,rfl⟩
 have e8:((x.toNat:Int)==98)=false:=yA.2 jo
 by_cases m:x.toNat=66
 · have o:((x.toNat:Int)==66)=true:=by rw[m];rfl
   have b:=zA (show zAA zero x=zero by unfold zAA;rw[m];cases zero<;>rfl);clear m;go_enter func120,ntmps120;go_wp2;go_ret;exact⟨zJ b.out.symm,rfl⟩
 have o:((x.toNat:Int)==66)=false:=yA.2 jo;have b:=zA (show zAA zero x=false by
  unfold zAA;rw[show(x.toNat==46)=false from yA.2 c,show(x.toNat==101)=false from yA.2 h1,show(x.toNat==69)=false from yA.2 d,show(x.toNat==95)=false from yA.2 f,show(x.toNat==120)=false from yA.2 g,show(x.toNat==88)=false from yA.2 j,show(x.toNat==111)=false from yA.2 h6,show(x.toNat==79)=false from yA.2 k,show(x.toNat==98)=false from yA.2 l,show(x.toNat==66)=false from yA.2 m];cases zero<;>rfl)
 clear c h1 d f g j h6 k l m;go_enter func120,ntmps120;go_wp2;go_ret;exact⟨zJ b.out.symm,rfl⟩
theorem zKk {Z:Nat} {w:World} (s:w.cell? Z=some (.bool zero)) (o:Rd w g A n c k) (y:u.length=n) (z:Reads w B 1 A n (zAM u)) (hk:k≤n) (G:n≤4096) (H:j≤4096) {q:Bool} (p:zBN j (zAA zero) (u.drop k)=q):
 Calls prog 65 #[.pointer (some g),j,.func (.func 120) #[] #[.pointer (some Z)]] w fun e w'=>e=.returned q∧∃m,w'=w.drewN m:=by
 subst y;have E:=o.c0;have F:=o.c1
 by_cases d:k+j < u.length
 · have l:(k:Int)+(j:Int) < (u.length:Int):=by omega
   have r:=zA (show zAA zero u[k+j]=q by rw[←p,zD5 d]);obtain⟨b,off,rfl,_,f⟩:=z.spotL jo;have t:=f (k+j) d;obtain⟨x,v⟩:=jx (u[k+j]);rw[v]at t r;have C:=zA s;clear f p v o s;go_enter func65,ntmps65;go_wp2_with fail
   go_quiet (first | (go_at_call 120;refine Calls.quiet_of_same ((zIa _ _ _ _ (by exact C.out)).mono fun _ _ h=>zD6 h)))
   go_wp2;go_ret;exact⟨zJ r,_,rfl⟩
 · have l:¬(k:Int)+(j:Int) < (u.length:Int):=by omega
   have D:decide ((k:Int)+(j:Int) < (u.length:Int))=false:=yAI l;have r:=zA (show false=q by rw[←p,zDW d]);clear d p o;go_enter func65,ntmps65;go_wp2_with fail
   go_quiet (fail)
   go_wp2;go_ret;exact⟨zJ r,_,rfl⟩
theorem zJj {w:World} (b:Rd w g A n c k) (o:u.length=n) (d:Reads w B 1 A n (zAM u)) (hB:B≤g) (hk:k≤n) (p:n≤4096) {q:Bool} (f:zBN 0 (zAA zero) (u.drop k)=q):
 Calls prog 99 #[.pointer (some g),zero] w fun e w'=>e=.returned q∧Below w.heap.size w w':=by
 have r:=zA (b.alloc (.cells #[zero] 4));have hg:=b.lt;have s:=zA (d.alloc (yAD hB (Nat.le_of_lt hg)) (.cells #[zero] 4));have t:=zA (show(w.alloc (.cells #[zero] 4)).cell? w.heap.size=some (.bool zero) by go_simp);have v:=zA f;clear b d f;go_enter func99,ntmps99;go_wp2_with fail;refine(zKk (j:=0) t r o s hk p jo v).mono ?_;rintro e1 w1 ⟨rfl,m,l⟩;have hb:Below w.heap.size w w1:=by rw[l];exact zAZ ((Below.refl _ w).alloc (yAC _) _) m
 clear l;go_wp2;go_ret;exact⟨rfl,hb⟩
theorem zM7 {o:Option Addr} {d:Nat} {w:World} (hB:B≤w.heap.size) (q:Reads w B 1 A xs.length (zAM xs)) (hb:Reads w B 1 o b.length (zAM b)) (z:xs.length≤70368744177664) (s:b.length≤70368744177664):
 Calls prog 22 #[.slice A xs.length c,.slice o b.length d] w fun e w'=>e=.returned (decide (xs=b))∧Below w.heap.size w w':=by
 by_cases f:xs.length=b.length
 · have H:=zA f;clear f;have e1:((xs.length:Int)==(b.length:Int))=true:=by rw[H.out];simp
   have e2:((xs.length:Int) !=(b.length:Int))=false:=by rw[H.out];simp
   go_enter func22,ntmps22;go_wp2
   go_loopw [13] (fun i wr=>∃k:Nat,k≤xs.length∧i=.int .i64 k∧xs.take k=b.take k∧Below w.heap.size w wr) (fun i _=>xs.length - (intOf i).toNat)
   case atStart=>exact⟨0,yAE _,rfl,by simp,Below.refl _ _⟩
   case round=>
    obtain⟨k,hk,rfl,l,g⟩:=hrel;have p:=zA l;clear l
    by_cases m:k < xs.length
    · have j:k < b.length:=by have:=H.out;omega
      obtain⟨C,rfl,_,t⟩:=(q.below (g.mono hB)).u16 m;obtain⟨u,rfl,_,v⟩:=(hb.below (g.mono hB)).u16 j;have D:(k:Int) < (xs.length:Int):=by omega
      have E:(k:Int) < (b.length:Int):=by omega
      go_wp2
      go_quiet (fail)
      go_wp2
      · go_ret;refine⟨zJ ?_,zAZ g _⟩;have f:(xs[k].toNat:Int)≠b[k].toNat:=by
         have h:((xs[k].toNat:Int) !=b[k].toNat)=true:=by assumption
         simpa using h
        refine(yAI ?_).symm;rintro rfl;exact f rfl
      · go_roundw
        case rel=>
         have h:((xs[k].toNat:Int) !=b[k].toNat)=false:=by assumption
         have r:xs[k]=b[k]:=by
          apply UInt16.toNat_inj.1;simp at h;omega
         exact⟨k+1,by omega,by go_num,by rw[yAL m,yAL j,p.out,r],zAZ g _⟩
        case measure=>simp[intOf];omega
    · go_wp2;go_ret;refine⟨zJ ?_,g⟩;have y:k=xs.length:=by omega
      refine(decide_eq_true ?_).symm;have h1:=p.out;rw[List.take_of_length_le jo,List.take_of_length_le (by rw[←H.out];omega)]at h1;exact h1
 · have e1:((xs.length:Int) !=(b.length:Int))=true:=by simp;omega
   go_enter func22,ntmps22;go_wp2;go_ret;refine⟨zJ (yAI ?_).symm,Below.refl _ _⟩;rintro rfl;exact f rfl
theorem zFH {f:Option Addr} {d:Nat} {w:World} (hB:B≤w.heap.size) (k:Reads w B 1 A xs.length (zAM xs)) (hb:Reads w B 1 f b.length (zAM b)) (l:xs.length≤70368744177664) (g:b.length≤70368744177664):
 Calls prog 123 #[.slice A xs.length c,.slice f b.length d] w fun e w'=>e=.returned (decide (xs=b))∧Below w.heap.size w w':=by
 go_enter func123,ntmps123;go_wp2_with (go_at_call 22;refine(zM7 hB k hb l g).mono ?_;rintro e w' ⟨rfl,j⟩);go_ret;exact⟨rfl,j⟩
def zXu (p:Prop) (w:World) (e:Ending) (w':World):Prop:=∃k:Int,e=.returned k∧(p↔0≤k)∧w=w'
theorem zM8 (x:UInt16) {w:World} (j:Reads w B 1 A xs.length (zAM xs)) (o:xs.length≤70368744177664):
 Calls prog 158 #[.slice A xs.length c,.int .u16 (x.toNat:Int)] w (zXu (x∈xs) w):=by
 go_enter func158,ntmps158;go_wp2
 go_loop [8] (fun i=>∃k:Nat,k≤xs.length∧i=.int .i64 k∧x∉xs.take k) (fun i=>xs.length - (intOf i).toNat)
 case atStart=>exact⟨0,yAE _,rfl,by simp⟩
 case round=>
  obtain⟨k,hk,rfl,e⟩:=hrel;have g:=zA e;clear e
  by_cases f:k < xs.length
  · obtain⟨p,rfl,_,m⟩:=j.u16 f;have q:(k:Int) < (xs.length:Int):=by omega
    by_cases b:x=xs[k]
    · have d:x∈xs:=by rw[b];exact List.getElem_mem _
      have e1:((x.toNat:Int)==(xs[k].toNat:Int))=true:=by rw[←b];simp
      have l:=zA d;clear b d;go_wp2;go_ret;exact⟨k,rfl,⟨fun _=>by omega,fun _=>l.out⟩,rfl⟩
    · have e1:((x.toNat:Int)==(xs[k].toNat:Int))=false:=by
       rw[yA];intro h;exact b (UInt16.toNat_inj.1 jo)
      go_wp2;go_round
      case rel=>exact⟨k+1,by omega,by go_num,by rw[yAL f,List.mem_append];exact fun h=>h.elim g (fun h=>b (by simpa using h))⟩
      case measure=>simp[intOf];omega
  · go_wp2;go_ret;refine⟨-1,rfl,⟨fun h=>absurd h ?_,fun h=>by omega⟩,rfl⟩;have h1:=g.out;rwa [List.take_of_length_le jo]at h1
theorem zFI (x:UInt16) {w:World} (b:Reads w B 1 A xs.length (zAM xs)) (d:xs.length≤70368744177664):
 Calls prog 144 #[.slice A xs.length c,.int .u16 (x.toNat:Int)] w fun e w'=>e=.returned (decide (x∈xs))∧w=w':=by
 go_enter func144,ntmps144;go_wp2_with fail;refine(zM8 x b d).mono ?_;rintro e w' ⟨k,rfl,hk,rfl⟩;have f:=zA hk;clear hk;go_wp2;go_ret;exact⟨zJ (decide_eq_decide.2 f.out.symm),rfl⟩
def zXv (d:List UInt16) (w:World) (e:Ending) (w':World):Prop:=∃n:Int,e=.returned (.tuple #[n,(decide (zw d≤9007199254740991))])∧(zw d≤9007199254740991→n=zw d)∧w=w'
theorem zJk {w:World} (p:Reads w B 1 A xs.length (zAM xs)) (y:xs.length≤70368744177664) (f:∀x∈xs,zM x=true):
 Calls prog 127 #[.slice A xs.length c] w (zXv xs w):=by
 have q:=zA f;clear f;go_enter func127,ntmps127;go_wp2
 go_loop [4,9] (fun n i=>∃k:Nat,k≤xs.length∧i=.int .i64 k∧n=.int .i64 (zw (xs.take k))∧zw (xs.take k) < 9007199254750991) (fun _ i=>xs.length - (intOf i).toNat)
 case atStart=>exact⟨0,yAE _,rfl,rfl,Nat.zero_lt_succ _⟩
 case round=>
  obtain⟨k,hk,rfl,rfl,r⟩:=hrel
  by_cases b:k < xs.length
  · obtain⟨z,rfl,_,t⟩:=p.u16 b;have C:(k:Int) < (xs.length:Int):=by omega
    obtain⟨u,v⟩:=zBB.1 (q.out xs[k] (List.getElem_mem _));have g:=zHL xs k b;have d:=zDb xs k b;have j:=zA d;clear d;obtain⟨m,e⟩:=jx (zw (xs.take k));rw[e]at r g⊢;have l:=zA e;clear e
    by_cases s:900719925474099 < m
    · go_wp2
      go_ret2
      exact⟨0,zU7 rfl (yAI jo).symm,fun h=>by omega,rfl⟩
    · go_wp2;go_round
      case rel=>exact⟨k+1,by omega,by go_num,by rw[j.out,l.out];go_num,by rw[j.out,l.out];omega⟩
      case measure=>simp[intOf];omega
  · go_wp2
    go_ret2
    have o:xs.take k=xs:=List.take_of_length_le jo;rw[o];refine⟨zw xs,zU7 rfl ?_,fun _=>rfl,rfl⟩;exact decide_eq_decide.2 jo
theorem zJl (w:World):Calls prog 11 #[.string ⟨#[120,88,111,79,46,43,45,95]⟩] w fun e w'=>∃A c,e=.returned (.slice A zDP.length c)∧Reads w' w'.heap.size 1 A zDP.length (zAM zDP)∧Below w.heap.size w w':=by
 refine(zDs _ w jd).mono ?_;rintro e w' ⟨v,rfl,d⟩;have b:Made w w' 65 v (zAM zDP):=d;obtain⟨A,c,rfl,_,_,f⟩:=b.u16;exact⟨A,c,rfl,f,b.below⟩
theorem zKl {w:World} (hB:B≤w.heap.size) (F:Reads w B 1 A xs.length (zAM xs)) (L:xs.length≤70368744177664):
 Calls prog 122 #[.slice A xs.length c] w fun e w'=>e=.returned (zBu xs)∧Below w.heap.size w w':=by
 go_enter func122,ntmps122;go_wp2
 go_loopw [3,8] (fun s i wr=>∃k:Nat,k≤xs.length∧i=.int .i64 k∧s=.bool ((xs.take k).any zM)∧Hid ((xs.take k).all zCe=true)∧Below w.heap.size w wr) (fun _ i _=>xs.length - (intOf i).toNat)
 case atStart=>exact⟨0,yAE _,rfl,rfl,rfl,Below.refl _ _⟩
 case round=>
  obtain⟨k,hk,rfl,rfl,f,b⟩:=hrel
  by_cases g:k < xs.length
  · obtain⟨M,G,_,J⟩:=(F.below (b.mono hB)).u16 g;subst G;have N:(k:Int) < (xs.length:Int):=by omega
    have O:=xs[k].toNat_lt;have u:(xs.take (k+1)).any zM=((xs.take k).any zM || zM xs[k]):=by rw[yAL g];simp only[List.any_append,List.any_cons,List.any_nil,Bool.or_false]
    have v:(xs.take (k+1)).all zCe=zCe xs[k]:=by rw[yAL g,List.all_append,f.out];simp only[List.all_cons,List.all_nil,Bool.and_true,Bool.true_and]
    have j:zCe xs[k]=false→zBu xs=false:=by
     intro h;have:xs.all zCe=false:=List.all_eq_false.2 ⟨xs[k],List.getElem_mem _,by simp[h]⟩;simp[zBu,this]
    have p:=zA u;have q:=zA v;have H:=zA j;clear u v j;obtain⟨s,hs⟩:=jx ((xs.take k).any zM);rw[hs];have r:=zA hs;clear hs;cases hd:zM xs[k]with
    | true=>
     have z:=zI3 hd;have d:=zA z;clear z;cases s
     all_goals
      go_wp2_with (go_at_call 126;refine(zDC _ _).mono ?_;rintro e w' ⟨rfl,rfl⟩)
      go_roundw
      case rel=>exact⟨k+1,by omega,by go_num,by rw[p.out,r.out,hd];rfl,q.out.trans d,b⟩
      case measure=>simp[intOf];omega
    | false=>
     by_cases r1:97≤xs[k].toNat∧xs[k].toNat≤102
     · have d:Hid (zCe xs[k]=true):=by simp[zCe,r1.1,r1.2,Hid]
       obtain⟨r1,r2⟩:=r1;cases s
       all_goals
        go_wp2_with (go_at_call 126;refine(zDC _ _).mono ?_;rintro e w' ⟨rfl,rfl⟩)
        go_roundw
        case rel=>exact⟨k+1,by omega,by go_num,by rw[p.out,r.out,hd];rfl,q.out.trans d,b⟩
        case measure=>simp[intOf];omega
     by_cases r2:65≤xs[k].toNat∧xs[k].toNat≤70
     · have d:Hid (zCe xs[k]=true):=by simp[zCe,r2.1,r2.2,Hid]
       obtain⟨r2,r3⟩:=r2;clear r1;have r4:¬(97:Int)≤xs[k].toNat:=by omega
       cases s
       all_goals
        go_wp2_with (go_at_call 126;refine(zDC _ _).mono ?_;rintro e w' ⟨rfl,rfl⟩)
        go_roundw
        case rel=>exact⟨k+1,by omega,by go_num,by rw[p.out,r.out,hd];rfl,q.out.trans d,b⟩
        case measure=>simp[intOf];omega
     have y:zCe xs[k]=decide (xs[k]∈zDP):=by
      have e1:(decide (97≤xs[k].toNat)&&decide (xs[k].toNat≤102))=false:=by simpa using r1
      have e2:(decide (65≤xs[k].toNat)&&decide (xs[k].toNat≤70))=false:=by simpa using r2
      rw[zCe,hd,e1,e2];rfl
     have d:=zA y;clear y;obtain⟨m,C⟩:=jx (decide (xs[k]∈zDP));have t:=zA C;clear C;cases m with
     | true=>
      cases s
      all_goals
       go_wp2_with (first | (go_at_call 126;refine(zDC _ _).mono ?_;rintro e w' ⟨rfl,rfl⟩) | (go_at_call 11;refine(zJl _).mono ?_;rintro e w1 ⟨I,c1,rfl,l,o⟩) | (go_at_call 144;refine(zFI _ l jd).mono ?_;rintro e w2 ⟨rfl,rfl⟩;rw[t.out]))
       all_goals go_roundw
       all_goals first | exact⟨k+1,by omega,by go_num,by rw[p.out,r.out,hd];rfl,q.out.trans (d.out.trans t),b.trans (o.mono b.size)⟩ | (simp[intOf];omega)
     | false=>
      have D:=zA (H.out (d.out.trans t));cases s
      all_goals
       go_wp2_with (first | (go_at_call 126;refine(zDC _ _).mono ?_;rintro e w' ⟨rfl,rfl⟩) | (go_at_call 11;refine(zJl _).mono ?_;rintro e w1 ⟨I,c1,rfl,l,o⟩) | (go_at_call 144;refine(zFI _ l jd).mono ?_;rintro e w2 ⟨rfl,rfl⟩;rw[t.out]))
       all_goals go_ret
       all_goals exact⟨zJ D.out.symm,b.trans (o.mono b.size)⟩
  · go_wp2;go_ret;have E:xs.take k=xs:=List.take_of_length_le jo;rw[E]at f⊢;exact⟨zJ (by rw[zBu,f.out];rfl),b⟩
theorem zGw (x:UInt16) (w:World):Calls prog 125 #[.int .u16 (x.toNat:Int)] w fun e w'=>e=.returned (!zM x)∧w=w':=by
 go_enter func125,ntmps125;go_wp2_with (go_at_call 126;refine(zDC _ _).mono ?_;rintro e w' ⟨rfl,rfl⟩);go_ret;exact⟨rfl,rfl⟩
def zL1 (xs:List UInt16):Prop:=xs.any (fun x=> !zM x)=true
theorem zHQ {w:World} (g:Reads w B 1 A xs.length (zAM xs)) (m:xs.length≤70368744177664):
 Calls prog 145 #[.slice A xs.length c,.func (.func 125) #[] #[]] w (zXu (zL1 xs) w):=by
 go_enter func145,ntmps145;go_wp2
 go_loop [8] (fun i=>∃k:Nat,k≤xs.length∧i=.int .i64 k∧Hid ((xs.take k).any (fun x=> !zM x)=false)) (fun i=>xs.length - (intOf i).toNat)
 case atStart=>exact⟨0,yAE _,rfl,rfl⟩
 case round=>
  obtain⟨k,hk,rfl,b⟩:=hrel
  by_cases d:k < xs.length
  · obtain⟨o,j,_,l⟩:=g.u16 d;subst j;have p:(k:Int) < (xs.length:Int):=by omega
    cases hd:zM xs[k]with
    | false=>
     have f:=zA (show zL1 xs from List.any_eq_true.2 ⟨xs[k],List.getElem_mem _,by rw[hd];rfl⟩);go_wp2_with (go_at_call 125;refine(zGw _ _).mono ?_;rintro e w' ⟨rfl,rfl⟩);go_ret;exact⟨k,rfl,⟨fun _=>by omega,fun _=>f.out⟩,rfl⟩
    | true=>
     have f:=zA hd;go_wp2_with (go_at_call 125;refine(zGw _ _).mono ?_;rintro e w' ⟨rfl,rfl⟩);go_round
     case rel=>exact⟨k+1,by omega,by go_num,by rw[yAL d,List.any_append,b.out];simp[Hid,f.out]⟩
     case measure=>simp[intOf];omega
  · go_wp2;go_ret;refine⟨-1,rfl,⟨fun h=>absurd h ?_,fun h=>by omega⟩,rfl⟩;have h1:=b.out;rw[List.take_of_length_le jo]at h1;rw[zL1,h1];simp
theorem zCB {w:World} (b:Reads w B 1 A xs.length (zAM xs)) (d:xs.length≤70368744177664):
 Calls prog 124 #[.slice A xs.length c,.func (.func 125) #[] #[]] w fun e w'=>e=.returned (!xs.all zM)∧w=w':=by
 go_enter func124,ntmps124;go_wp2_with fail;refine(zHQ b d).mono ?_;rintro e w' ⟨k,rfl,hk,rfl⟩;have f:=zA hk;clear hk;go_wp2;go_ret;refine⟨zJ ?_,rfl⟩;have h1:=f.out;rw[Bool.eq_iff_iff,decide_eq_true_eq,←h1,zL1];simp
def Sl (w:World) (B:Nat) (v:Value) (ys:List UInt16):Prop:=∃A c,v=.slice A ys.length c∧ys.length≤c∧c≤maxLen∧Reads w B 1 A ys.length (zAM ys)
def lenOf:Value→Nat | .slice _ n _=>n | _=>0
theorem Sl.cut1 {w:World} {d:Addr} (f:Reads w B 1 (some d) b.length (zAM b)) (g:0 < b.length) (j:b.length≤c) (l:c≤maxLen):
 Sl w B (.slice (if c=1 then some d else some ⟨d.block,d.off+1,none⟩) (b.length - 1) (c - 1)) (b.drop 1):=by
 have e:(b.drop 1).length=b.length - 1:=List.length_drop;refine⟨_,c - 1,by rw[e],by rw[e];omega,by omega,?_⟩;exact f.cut16 (k:=1) g j
theorem Sl.less1 {w:World} (f:Reads w B 1 A b.length (zAM b)) (g:b.length≤c) (d:c≤maxLen):
 Sl w B (.slice A (b.length - 1) c) (b.take (b.length - 1)):=by
 have e:(b.take (b.length - 1)).length=b.length - 1:=by rw[List.length_take];omega
 exact⟨A,c,by rw[e],by rw[e];omega,d,f.take16 jo⟩
theorem zPa (h:0 < ts.length):zCf ts=((ts[0].toNat:Int)==45):=by
 cases ts with
 | nil=>simp at h
 | cons x r=>
  rw[Bool.eq_iff_iff,zCf];simp only[List.headD_cons,beq_iff_eq,List.getElem_cons_zero,←UInt16.toNat_inj];simp;omega
def zFJ (ts:List UInt16):Bool:=zCf ts || ts.headD 0==43
theorem zKm (h:0 < ts.length):zFJ ts=(zCf ts || ((ts[0].toNat:Int)==43)):=by
 cases ts with
 | nil=>simp at h
 | cons x r=>
  rw[zFJ];congr 1;rw[Bool.eq_iff_iff];simp only[List.headD_cons,beq_iff_eq,List.getElem_cons_zero,←UInt16.toNat_inj];simp;omega
theorem zJm (ts:List UInt16):zAX ts=if zFJ ts=true then ts.drop 1 else ts:=by
 simp[zAX,zFJ,zCf]
theorem zKn (h:0 < b.length) (hb:zAy (b[b.length - 1]' jo)=true):zGQ b=zGQ (b.take (b.length - 1)):=by
 have e:b=b.take (b.length - 1)++[b[b.length - 1]' jo]:=by
  rw[←yAL jo,List.take_of_length_le jo]
 conv=>lhs;rw[e]
 rw[zGQ,List.reverse_append];show(List.dropWhile zAy (_::(b.take (b.length - 1)).reverse)).reverse=_;rw[List.dropWhile_cons_of_pos hb];rfl
theorem zM9 (h:0 < b.length) (hb:zAy (b[b.length - 1]' jo)=false):zGQ b=b:=by
 have e:b=b.take (b.length - 1)++[b[b.length - 1]' jo]:=by
  rw[←yAL jo,List.take_of_length_le jo]
 have e2:zGQ (b.take (b.length - 1)++[b[b.length - 1]' jo])=b.take (b.length - 1)++[b[b.length - 1]' jo]:=by
  rw[zGQ,List.reverse_append];show(List.dropWhile zAy (_::(b.take (b.length - 1)).reverse)).reverse=_;rw[List.dropWhile_cons_of_neg (by simp[hb])];simp only[List.reverse_cons,List.reverse_reverse]
 rw[←e]at e2;exact e2
theorem zYq (h:0 < b.length) (hb:zAy b[0]=true):b.dropWhile zAy=(b.drop 1).dropWhile zAy:=by
 cases b with
 | nil=>simp at h
 | cons y b=>simp only[List.getElem_cons_zero]at hb;rw[List.dropWhile_cons_of_pos hb];rfl
theorem zYr (h:0 < b.length) (hb:zAy b[0]=false):b.dropWhile zAy=b:=by
 cases b with
 | nil=>simp at h
 | cons y b=>simp only[List.getElem_cons_zero]at hb;rw[List.dropWhile_cons_of_neg (by simp[hb])]
theorem zNA {w:World} (hb:Below D W w) (d:B≤D) (j:D≤W.heap.size) (f:Reads W B 1 A xs.length (zAM xs)) (g:xs.length≤70368744177664):
 Calls prog 122 #[.slice A xs.length c] w fun e w'=>e=.returned (zBu xs)∧Below w.heap.size w w'∧Below D W w':=by
 have hs:=hb.size;refine(zKl (B:=B) jo (f.below (hb.mono d)) g).mono ?_;rintro e w' ⟨rfl,b⟩;exact⟨rfl,b,hb.trans (b.mono jo)⟩
def NumAt (w:World) (g:Nat) (k n:Int):Prop:=
 w.cell? g=some (.int .i64 k)∧w.cell? ⟨g,1,none⟩=some (.int .i64 n)∧w.frozen? g=false∧w.frozen? ⟨g,1,none⟩=false
theorem NumAt.below {k n:Int} {w:World} (h:NumAt w g k n) (hb:Below D w w') (hg:g < D):NumAt w' g k n:=
 ⟨(hb.cell (p:=g) hg).trans h.1,(hb.cell (p:=⟨g,1,none⟩) hg).trans h.2.1,(hb.frozen (p:=g) hg).trans h.2.2.1,(hb.frozen (p:=⟨g,1,none⟩) hg).trans h.2.2.2⟩
theorem zPb {w2:World} {a b:Value} {T:TypeId} (hb:Below (W.drew.alloc (.cells #[a,b] T)).heap.size (W.drew.alloc (.cells #[a,b] T)) w2):
 w2.cell? W.heap.size=some a∧w2.cell? ⟨W.heap.size,1,none⟩=some b∧w2.frozen? W.heap.size=false∧w2.frozen? ⟨W.heap.size,1,none⟩=false:=by
 have h:W.heap.size < (W.drew.alloc (.cells #[a,b] T)).heap.size:=by simp
 refine⟨(hb.cell (p:=W.heap.size) h).trans ?_,(hb.cell (p:=⟨W.heap.size,1,none⟩) h).trans ?_,(hb.frozen (p:=W.heap.size) h).trans ?_,(hb.frozen (p:=⟨W.heap.size,1,none⟩) h).trans ?_⟩
 all_goals go_simp
theorem zCz (b:D≤W.heap.size) (hb:Below D W w') (o:Obj):Below D W (w'.alloc o):=hb.alloc (yAD b hb.size) o
theorem zHx (c:D≤W.heap.size) (hb:Below D W w') (a b:Value):Below D W ((w'.setCell W.heap.size a).setCell ⟨W.heap.size,1,none⟩ b):=
 (hb.setCell (p:=W.heap.size) c a).setCell (p:=⟨W.heap.size,1,none⟩) c b
theorem NumAt.new (w:World) (k n:Int) (T:TypeId):NumAt (w.alloc (.cells #[k,n] T)) w.heap.size k n:=⟨by go_simp,by go_simp,by go_simp,by go_simp⟩
theorem NumAt.set {w:World} {a b:Value} (c:w.cell? g=some a) (h1:w.cell? ⟨g,1,none⟩=some b) (d:w.frozen? g=false) (f1:w.frozen? ⟨g,1,none⟩=false) (k n:Int):
 NumAt ((w.setCell g (.int .i64 k)).setCell ⟨g,1,none⟩ (.int .i64 n)) g k n:=⟨by go_simp,by go_simp,by go_simp,by go_simp⟩
theorem zJn (w:World) (a b:Addr) (x y:Value):((w.setCell a x).setCell b y).heap.size=w.heap.size:=by simp
theorem zGx {k n:Int} (h:NumAt W g k n) (hg:g < D) (hb:Below D W w'):w'.cell? g=some (.int .i64 k)∧w'.cell? ⟨g,1,none⟩=some (.int .i64 n)∧Below D W w':=
 ⟨(h.below hb hg).1,(h.below hb hg).2.1,hb⟩
theorem zD8 (w:World):Calls prog 11 #[.string ⟨#[73,110,102,105,110,105,116,121]⟩] w fun e w'=>∃A c,e=.returned (.slice A zBc.length c)∧Reads w' w'.heap.size 1 A zBc.length (zAM zBc)∧Below w.heap.size w w':=by
 refine(zDs _ w jd).mono ?_;rintro e w' ⟨v,rfl,d⟩;have b:Made w w' 65 v (zAM zBc):=d;obtain⟨A,c,rfl,_,_,f⟩:=b.u16;exact⟨A,c,rfl,f,b.below⟩
def BaseOk (ts:List UInt16) (k n:Int) (ok:Bool):Prop:=zFU ts=(⟨k,n⟩,ok)∧((k=2∧n=0)∨(k=3∧n=0)∨(k=0∧0≤n∧n≤9007199254740991))
theorem BaseOk.inf (h:zAX ts=zBc):BaseOk ts 3 0 (!zBu ts):=by
 refine⟨?_,Or.inr (Or.inl ⟨rfl,rfl⟩)⟩;rw[zKR h,zFU,if_pos h];rfl
theorem BaseOk.dig (h:¬zAX ts=zBc) (b:zAX ts≠[]∧(zAX ts).all zM=true) (c:zw (zAX ts)≤9007199254740991):BaseOk ts 0 (zw (zAX ts)) true:=
 ⟨by rw[zFU,if_neg h,if_pos b,if_pos c],Or.inr (Or.inr ⟨rfl,by omega,by omega⟩)⟩
theorem BaseOk.odd (h:¬zAX ts=zBc) (b:¬(zAX ts≠[]∧(zAX ts).all zM=true)):BaseOk ts 2 0 (!zBu ts):=
 ⟨by rw[zFU,if_neg h,if_neg b],Or.inl ⟨rfl,rfl⟩⟩
theorem zKo (b:0 < ts.length):zRf ts=(if zCf ts=true then zFV (zFU ts).1 else(zFU ts).1,(zFU ts).2):=by
 rw[zRf,if_neg (List.ne_nil_of_length_pos b)]
theorem zSs (b:0 < ts.length) (h:¬zAX ts=zBc) (c:zAX ts≠[]∧(zAX ts).all zM=true) (d:¬zw (zAX ts)≤9007199254740991):zRf ts=(⟨2,0⟩,false):=by
 rw[zKo b,zFU,if_neg h,if_pos c,if_neg d]
 by_cases hs:zCf ts=true
 · rw[if_pos hs];rfl
 · rw[if_neg hs]
theorem zSt {k n:Int} (b:0 < ts.length) (hs:false=zCf ts) (hb:BaseOk ts k n ok):zRf ts=(⟨k,n⟩,ok):=by
 rw[zKo b,hb.1,if_neg (by rw[←hs];simp)]
theorem zSu {k n:Int} (b:0 < ts.length) (hs:true=zCf ts) (hb:BaseOk ts k n ok):zRf ts=(zFV ⟨k,n⟩,ok):=by
 rw[zKo b,hb.1,if_pos hs.symm]
theorem zSv {k n:Int} (hb:BaseOk ts k n ok) (w:World):
 Calls prog 128 #[.agg #[k,n]] w fun e w'=>e=.returned (.agg #[.int .i64 (zFV ⟨k,n⟩).kind,.int .i64 (zFV ⟨k,n⟩).n])∧Below w.heap.size w w':=by
 rcases hb.2 with⟨rfl,rfl⟩ | ⟨rfl,rfl⟩ | ⟨rfl,h1,c⟩
 · exact zVz w
 · exact zV0 w
 · by_cases b:n=0
   · subst b;exact zMj w
   · have e:zFV ⟨0,n⟩=⟨0, -n⟩:=by simp[zFV,b]
     rw[e];exact zOm n jo c w
theorem zD9 {w3 b:World} (c:Below wc.heap.size wc w3) (e:Below w3.heap.size w3 b) (d:D≤wc.heap.size):Below D wc b:=
 (c.mono d).trans (e.mono (yAD d c.size))
theorem zDJ (c:D≤g) (hb:Below D W w') (a b:Value):Below D W ((w'.setCell g a).setCell ⟨g,1,none⟩ b):=
 (hb.setCell (p:=g) c a).setCell (p:=⟨g,1,none⟩) c b
theorem zPc {b:Nat} {w c:World} {x y:Value} (e:NumAt wc b 0 0) (d:Below b w wc) (hb:Below D wc c) (f:b < D) (j:D≤g)
 (q0:c.cell? g=some x) (q1:c.cell? ⟨g,1,none⟩=some y) (q2:c.frozen? g=false) (q3:c.frozen? ⟨g,1,none⟩=false) (k n:Int) (h:BaseOk ts k n ok):
 NumAt ((c.setCell g (.int .i64 k)).setCell ⟨g,1,none⟩ (.int .i64 n)) g k n∧NumAt ((c.setCell g (.int .i64 k)).setCell ⟨g,1,none⟩ (.int .i64 n)) b 0 0∧
  Below b w ((c.setCell g (.int .i64 k)).setCell ⟨g,1,none⟩ (.int .i64 n))∧g < ((c.setCell g (.int .i64 k)).setCell ⟨g,1,none⟩ (.int .i64 n)).heap.size∧BaseOk ts k n ok:=by
 have h1:=zDJ j hb (.int .i64 k) (.int .i64 n);exact⟨NumAt.set q0 q1 q2 q3 k n,e.below h1 f,d.trans (h1.mono jo),by rw[zJn];exact World.block_lt_of_cell? c _ q0,h⟩
theorem zL2 {b:Nat} {w c:World} (e:NumAt wc b 0 0) (d:Below b w wc) (hb:Below D wc c) (f:b < D)
 {k n:Int} (q:NumAt c g k n) (h:BaseOk ts k n ok):
 NumAt c g k n∧NumAt c b 0 0∧Below b w c∧g < c.heap.size∧BaseOk ts k n ok:=
 ⟨q,e.below hb f,d.trans (hb.mono jo),World.block_lt_of_cell? c _ q.1,h⟩
theorem zNB {w:World} (hB:B≤w.heap.size) (ha:Reads w B 1 A xs.length (zAM xs)) (hc:xs.length≤c) (d9:c≤maxLen) (hl:xs.length≤70368744177664):
 Calls prog 100 #[.slice A xs.length c] w fun e w'=>e=.returned (.tuple #[.agg #[.int .i64 (zOB xs).1.kind,.int .i64 (zOB xs).1.n],.bool (zOB xs).2])∧Below w.heap.size w w':=by
 go_enter func100,ntmps100
 go_upto_block 0 with(fail)
 go_cut [0] (fun v u=>u=w.alloc (.cells #[(0:Int),(0:Int)] 37)∧∃r,Sl w B v r∧Hid (r=xs.dropWhile zAy)∧r.length≤xs.length)
 case first=>
  go_wp2_with fail
  go_loop [0] (fun v=>∃r,Sl w B v r∧Hid (r.dropWhile zAy=xs.dropWhile zAy)∧r.length≤xs.length) (fun v=>lenOf v)
  case atStart=>exact⟨xs,⟨A,c,rfl,hc,d9,ha⟩,rfl,yAC _⟩
  case round=>
   obtain⟨r,⟨A',c',rfl,z,C,y⟩,L,a0⟩:=hrel
   by_cases S:0 < r.length
   · obtain⟨ad,T,e1,a1⟩:=(y.alloc hB (.cells #[(0:Int),(0:Int)] 37)).u16_0 S;subst T;have hz:(0:Int) < (r.length:Int):=by omega
     cases hb:zAy r[0]with
     | true=>
      have U:=zA (zYq S hb);have HC:=zA (Sl.cut1 y S z C);go_wp2_with (go_at_call 121;refine(zE8 _ _).mono ?_;rintro e w' ⟨rfl,rfl⟩);go_round
      case rel=>exact⟨r.drop 1,HC,U.out.symm.trans L,by rw[List.length_drop];omega⟩
      case measure=>simp[lenOf];omega
     | false=>
      have U:=zA (zYr S hb);go_wp2_with (go_at_call 121;refine(zE8 _ _).mono ?_;rintro e w' ⟨rfl,rfl⟩);go_meet;exact⟨rfl,r,⟨some ad,c',rfl,z,C,y⟩,U.out.symm.trans L,a0⟩
   · go_wp2;go_meet;have h1:r=[]:=List.eq_nil_of_length_eq_zero jo;exact⟨rfl,r,⟨A',c',rfl,z,C,y⟩,by have:=L.out;rw[h1]at this⊢;exact this,a0⟩
 case rest=>
  obtain⟨V,r,c4,b6,b7⟩:=hcut;subst V
  go_upto_block 2 with(fail)
  go_cut [0] (fun v u=>u=w.alloc (.cells #[(0:Int),(0:Int)] 37)∧∃ts,Sl w B v ts∧Hid (ts=zOA xs)∧ts.length≤xs.length)
  case first=>
   go_wp2_with fail
   go_loop [0] (fun v=>∃zs,Sl w B v zs∧Hid (zGQ zs=zGQ r)∧zs.length≤xs.length) (fun v=>lenOf v)
   case atStart=>exact⟨r,c4,rfl,b7⟩
   case round=>
    obtain⟨zs,⟨A',c',rfl,z,C,y⟩,L,a0⟩:=hrel
    by_cases S:0 < zs.length
    · obtain⟨ad,T,e1,a1⟩:=(y.alloc hB (.cells #[(0:Int),(0:Int)] 37)).u16 (k:=zs.length - 1) jo;subst T;have hz:(0:Int) < (zs.length:Int):=by omega
      have f3:(w.alloc (.cells #[(0:Int),(0:Int)] 37)).cell? (ad.add ((zs.length:Int) - 1).toNat)=some (.int .u16 ((zs[zs.length - 1]' jo).toNat:Int)):=by
       rw[show((zs.length:Int) - 1).toNat=zs.length - 1 from by omega];exact a1
      cases hb:zAy (zs[zs.length - 1]' jo)with
      | true=>
       have U:=zA (zKn S hb);have HC:=zA (Sl.less1 y z C);go_wp2_with (go_at_call 121;refine(zE8 _ _).mono ?_;rintro e w' ⟨rfl,rfl⟩);go_round
       case rel=>exact⟨zs.take (zs.length - 1),HC,U.out.symm.trans L,by rw[List.length_take];omega⟩
       case measure=>simp[lenOf];omega
      | false=>
       have U:=zA (zM9 S hb);go_wp2_with (go_at_call 121;refine(zE8 _ _).mono ?_;rintro e w' ⟨rfl,rfl⟩);go_meet;exact⟨rfl,zs,⟨some ad,c',rfl,z,C,y⟩,U.out.symm.trans (L.out.trans (by rw[b6.out];rfl)),a0⟩
    · go_wp2;go_meet;have h1:zs=[]:=List.eq_nil_of_length_eq_zero jo;have h2:zGQ zs=zOA xs:=L.out.trans (by rw[b6.out];rfl);exact⟨rfl,zs,⟨A',c',rfl,z,C,y⟩,by rw[h1]at h2⊢;exact h2,a0⟩
  case rest=>
   obtain⟨V,ts,⟨A1,c1,hv,z,C,y⟩,c5,f4⟩:=hcut;subst V;subst hv;clear b6 c4 b7 r;have hN:=zA (show zOB xs=zRf ts by rw[zOB,c5.out]);clear c5
   by_cases S:ts.length=0
   · have h1:ts=[]:=List.eq_nil_of_length_eq_zero S;have e2:=zA (show zOB xs=(⟨0,0⟩,true) by rw[hN.out,h1];rfl);clear hN;subst h1;go_wp2
     go_returns
     rw[e2.out];exact⟨rfl,by go_grown⟩
   have e0:((ts.length:Int)==0)=false:=yA.2 jo;have q:0 < ts.length:=by omega
   clear S;have hz:(0:Int) < (ts.length:Int):=by omega
   have f6:=zA (y.u16_0 q);go_upto_region 8 with(fail)
   go_cut [5,6] (fun d s u=>d=.slice A1 ts.length c1∧(∃sg,s=.bool sg∧Hid (sg=zCf ts))∧∃n,u=((w.alloc (.cells #[(0:Int),(0:Int)] 37)).alloc (.cells #[(2:Int),(0:Int)] 37)).drewN n)
   case first=>
    obtain⟨ad,T,_,a1⟩:=((y.alloc hB (.cells #[(0:Int),(0:Int)] 37)).alloc (yAD hB js) (.cells #[(2:Int),(0:Int)] 37)).u16_0 q;subst T
    go_quiet (fail)
    go_wp2_with fail;go_meet;exact⟨rfl,⟨_,rfl,(zPa q).symm⟩,_,rfl⟩
   case rest=>
    obtain⟨hd,⟨sg,hs,b1⟩,n,V⟩:=hcut;subst hd hs V;go_upto_region 9 with(fail)
    go_cut [55] (fun s u=>(∃si,s=.bool si∧Hid (si=zFJ ts))∧u=((w.alloc (.cells #[(0:Int),(0:Int)] 37)).alloc (.cells #[(2:Int),(0:Int)] 37)).drewN n)
    case first=>
     obtain⟨ad,T,_,a1⟩:=(((y.alloc hB (.cells #[(0:Int),(0:Int)] 37)).alloc (yAD hB js) (.cells #[(2:Int),(0:Int)] 37)).drewN n).u16_0 q;subst T;have I:=zA (zKm q);cases sg
     · go_wp2_with fail;go_meet;exact⟨⟨_,rfl,by rw[I.out,←b1.out];rfl⟩,rfl⟩
     · go_wp2_with fail;go_meet;exact⟨⟨_,rfl,by rw[I.out,←b1.out];rfl⟩,rfl⟩
    case rest=>
     obtain⟨⟨si,hs,b2⟩,V⟩:=hcut;subst hs V
     go_upto_if 55 with(fail)
     go_cut [5] (fun d u=>Sl w B d (zAX ts)∧u=((w.alloc (.cells #[(0:Int),(0:Int)] 37)).alloc (.cells #[(2:Int),(0:Int)] 37)).drewN n)
     case first=>
      obtain⟨ad,T,_,a1⟩:=y.u16_0 q;subst T;have HR:=zA (zJm ts);cases si
      · go_wp2_with fail;go_meet;exact⟨by rw[HR.out,if_neg (by rw[←b2.out];simp)];exact⟨_,c1,rfl,z,C,y⟩,rfl⟩
      · have HC:=zA (Sl.cut1 y q z C)
        by_cases c6:c1=1
        · subst c6;go_wp2_with fail;go_meet;have e3:ts.length - 1=0:=by omega
          exact⟨by rw[HR.out,if_pos b2.out.symm];have h:=HC.out;rw[e3]at h;exact h,rfl⟩
        · rw[if_neg c6]at HC;go_wp2_with fail;go_meet;exact⟨by rw[HR.out,if_pos b2.out.symm];exact HC.out,rfl⟩
     case rest=>
      obtain⟨⟨A2,c2,hd,f7,f8,e4⟩,V⟩:=hcut;subst hd V;clear b2;go_upto_region 11 with(fail);have c7:(((w.alloc (.cells #[(0:Int),(0:Int)] 37)).alloc (.cells #[(2:Int),(0:Int)] 37)).drewN n).heap.size=w.heap.size+2:=by simp
      have b3:Below w.heap.size w (((w.alloc (.cells #[(0:Int),(0:Int)] 37)).alloc (.cells #[(2:Int),(0:Int)] 37)).drewN n):=zAZ (by go_grown) n;have c8:NumAt (((w.alloc (.cells #[(0:Int),(0:Int)] 37)).alloc (.cells #[(2:Int),(0:Int)] 37)).drewN n) w.heap.size 0 0:=⟨by go_simp,by go_simp,by go_simp,by go_simp⟩;have F:NumAt (((w.alloc (.cells #[(0:Int),(0:Int)] 37)).alloc (.cells #[(2:Int),(0:Int)] 37)).drewN n) (w.heap.size+1) 2 0:=⟨by go_simp,by go_simp,by go_simp,by go_simp⟩;have e5:Reads (((w.alloc (.cells #[(0:Int),(0:Int)] 37)).alloc (.cells #[(2:Int),(0:Int)] 37)).drewN n) B 1 A1 ts.length (zAM ts):=y.below (b3.mono hB);have b8:Reads (((w.alloc (.cells #[(0:Int),(0:Int)] 37)).alloc (.cells #[(2:Int),(0:Int)] 37)).drewN n) B 1 A2 (zAX ts).length (zAM (zAX ts)):=e4.below (b3.mono hB);have c0:ts.length≤70368744177664:=by omega
      generalize (((w.alloc (.cells #[(0:Int),(0:Int)] 37)).alloc (.cells #[(2:Int),(0:Int)] 37)).drewN n)=W at *;have c9:=e5;have m:w.heap.size+1 < w.heap.size+2:=by omega
      have M:B≤w.heap.size+2:=by omega
      have J:w.heap.size+2≤W.heap.size:=by omega
      have f9:=zA c7;clear c7;have e6:=F.1;have d7:=F.2.1;have e7:Below (w.heap.size+2) W W:=Below.refl _ _;have e8:=zA c9;clear c9
      go_cut [7,8] (fun p s u=>(∃g,p=.pointer (some ⟨g,0,none⟩)∧w.heap.size+2≤g∧NumAt u g 2 0∧g < u.heap.size)∧s=.bool (!zBu ts)∧Below (w.heap.size+2) W u)
      case first=>
       go_region_held3 (fun w'=>w'.cell? ⟨w.heap.size+1,0,none⟩=some (.int .i64 2)∧w'.cell? ⟨w.heap.size+1,1,none⟩=some (.int .i64 0)∧Below (w.heap.size+2) W w')
        (first
         | (exact zGx F m (by assumption))
         | (exact zGx F m (Below.refl _ _).drew)
         | (exact zGx F m (zCz J (by assumption) _))
         | (exact zGx F m (zCz J (Below.refl _ _).drew _))
         | (exact zGx F m (zHx J (by assumption) _ _))
         | go_keep)
        (first
         | (go_at_call 122;go_split_ands;refine(zNA (D:=w.heap.size+2) (W:=W) ?_ M J e8.out c0).mono ?_;(first | assumption | exact(Below.refl _ _).drew | exact zCz J (Below.refl _ _).drew _);rintro e w2 ⟨rfl,e9,f⟩;(try (have N:=zPb e9;have n0:=N.1;have n1:=N.2.1;have n2:=N.2.2.1;have n3:=N.2.2.2;clear N))))
       all_goals have a2:=f.size
       all_goals (go_wp2_with fail;go_meet)
       · exact⟨⟨_,rfl,by omega,NumAt.new _ _ _ _,by simp⟩,rfl,zCz J f _⟩
       · exact⟨⟨_,rfl,J,NumAt.set n0 n1 n2 n3 _ _,by rw[zJn];exact World.block_lt_of_cell? w2 _ n0⟩,rfl,zHx J f _ _⟩
      case rest=>
       obtain⟨⟨g,hp,b4,hg,a3⟩,hs,a4⟩:=hcut;subst hp hs;have O:=zA hg;have G:=zA (c8.below a4 (show w.heap.size < w.heap.size+2 by omega));have a5:=zA (F.below a4 m);have E:=zA (b8.below (a4.mono M));have P:=zA (b3.trans (a4.mono (show w.heap.size≤w.heap.size+2 by omega)));have g0:=a4.size;have a6:w.heap.size+2≤wc.heap.size:=by omega
       have l:w.heap.size < w.heap.size+2:=by omega
       have b4:=b4;clear hg c8 F b8 b3 e6 d7 e7;have j:(zAX ts).length≤70368744177664:=by
        have h:(zAX ts).length≤ts.length:=by
         rw[zJm];split
         · rw[List.length_drop];omega
         · exact yAC _
        omega
       go_upto_block 4 with(fail)
       go_cut [8] (fun ok u=>∃k n a7,ok=.bool a7∧NumAt u g k n∧NumAt u w.heap.size 0 0∧Below w.heap.size w u∧g < u.heap.size∧BaseOk ts k n a7)
       case first=>
        by_cases Q:zAX ts=zBc
        · have U:=zA (BaseOk.inf Q);have I:=zA Q;clear Q;go_wp2_with (first | (go_at_call 11;refine(zD8 _).mono ?_;rintro e w3 ⟨A3,c3,rfl,H,f⟩;have a2:=f.size) | (go_at_call 123;refine(zFH (yAC _) ((E.out.below (f.mono jo)).more jo) H j jd).mono ?_;rintro e w4 ⟨rfl,o⟩;rw[decide_eq_true I.out];have b:=zD9 f o a6;obtain⟨q0,q1,q2,q3⟩:=(O.out.below f a3).below o jo;obtain⟨p0,p1,p2,p3⟩:=G.out.below b l;obtain⟨r0,r1,r2,r3⟩:=a5.out.below b m));go_meet;exact⟨3,0,_,rfl,zPc G P b l b4 q0 q1 q2 q3 3 0 U⟩
        · have I:=zA Q;clear Q
          by_cases t:zAX ts≠[]∧(zAX ts).all zM=true
          · have d0:(0:Int) < ((zAX ts).length:Int):=by have:=List.length_pos_iff.2 t.1;omega
            have HA:=zA t.2;have d1:=zA (List.all_eq_true.1 t.2);have a8:=zA t;clear t
            by_cases X:zw (zAX ts)≤9007199254740991
            · have HF:=zA X;clear X;go_wp2_with (first | (go_at_call 11;refine(zD8 _).mono ?_;rintro e w3 ⟨A3,c3,rfl,H,f⟩;have a2:=f.size) | (go_at_call 123;refine(zFH (yAC _) ((E.out.below (f.mono jo)).more jo) H j jd).mono ?_;rintro e w4 ⟨rfl,o⟩;rw[yAI I.out];have b:=zD9 f o a6;obtain⟨q0,q1,q2,q3⟩:=(O.out.below f a3).below o jo;obtain⟨p0,p1,p2,p3⟩:=G.out.below b l;obtain⟨r0,r1,r2,r3⟩:=a5.out.below b m) | (go_at_call 124;refine(zCB ((E.out.below (b.mono M))) j).mono ?_;rintro e w5 ⟨rfl,rfl⟩;rw[HA.out]) | (go_at_call 127;refine(zJk ((E.out.below (b.mono M))) j d1.out).mono ?_;rintro e w5 ⟨nv,rfl,R,rfl⟩;have d2:=zA R;clear R;rw[decide_eq_true HF.out]));go_meet;have R:=d2.out HF;subst R;exact⟨0,_,_,rfl,zPc G P b l b4 q0 q1 q2 q3 0 _ (BaseOk.dig I a8 HF)⟩
            · have HF:=zA X;clear X;have a9:=zA (hN.out.trans (zSs q I a8 HF));go_wp2_with (first | (go_at_call 11;refine(zD8 _).mono ?_;rintro e w3 ⟨A3,c3,rfl,H,f⟩;have a2:=f.size) | (go_at_call 123;refine(zFH (yAC _) ((E.out.below (f.mono jo)).more jo) H j jd).mono ?_;rintro e w4 ⟨rfl,o⟩;rw[yAI I.out];have b:=zD9 f o a6;obtain⟨q0,q1,q2,q3⟩:=(O.out.below f a3).below o jo;obtain⟨p0,p1,p2,p3⟩:=G.out.below b l;obtain⟨r0,r1,r2,r3⟩:=a5.out.below b m) | (go_at_call 124;refine(zCB ((E.out.below (b.mono M))) j).mono ?_;rintro e w5 ⟨rfl,rfl⟩;rw[HA.out]) | (go_at_call 127;refine(zJk ((E.out.below (b.mono M))) j d1.out).mono ?_;rintro e w5 ⟨nv,rfl,R,rfl⟩;have d2:=zA R;clear R;rw[yAI HF.out]));obtain⟨f0,f1,_,_⟩:=NumAt.set p0 p1 p2 p3 2 0;refine bodyPost_ret (v:=.tuple #[.agg #[(2:Int),(0:Int)],false]) (by simp[results,results100,go_sem,f0,f1]) rfl ?_;rw[a9.out];exact⟨rfl,P.out.trans ((zDJ (yAC _) (b.mono jo) _ _))⟩
          · have a8:=zA t
            by_cases Y:(zAX ts).length=0
            · clear t;have d0:¬(0:Int) < ((zAX ts).length:Int):=by omega
              have f5:=zA Y;clear Y;go_wp2_with (first | (go_at_call 11;refine(zD8 _).mono ?_;rintro e w3 ⟨A3,c3,rfl,H,f⟩;have a2:=f.size) | (go_at_call 123;refine(zFH (yAC _) ((E.out.below (f.mono jo)).more jo) H j jd).mono ?_;rintro e w4 ⟨rfl,o⟩;rw[yAI I.out];have b:=zD9 f o a6;obtain⟨q0,q1,q2,q3⟩:=(O.out.below f a3).below o jo;obtain⟨p0,p1,p2,p3⟩:=G.out.below b l;obtain⟨r0,r1,r2,r3⟩:=a5.out.below b m));go_meet;exact⟨2,0,_,rfl,zL2 G P b l ⟨q0,q1,q2,q3⟩ (BaseOk.odd I a8)⟩
            · have d0:(0:Int) < ((zAX ts).length:Int):=by omega
              have d3:(zAX ts).all zM=false:=by
               cases h:(zAX ts).all zM with
               | false=>rfl
               | true=>exact absurd ⟨fun h2=>Y (by rw[h2];rfl),h⟩ t
              have HA:=zA d3;clear t Y d3;go_wp2_with (first | (go_at_call 11;refine(zD8 _).mono ?_;rintro e w3 ⟨A3,c3,rfl,H,f⟩;have a2:=f.size) | (go_at_call 123;refine(zFH (yAC _) ((E.out.below (f.mono jo)).more jo) H j jd).mono ?_;rintro e w4 ⟨rfl,o⟩;rw[yAI I.out];have b:=zD9 f o a6;obtain⟨q0,q1,q2,q3⟩:=(O.out.below f a3).below o jo;obtain⟨p0,p1,p2,p3⟩:=G.out.below b l;obtain⟨r0,r1,r2,r3⟩:=a5.out.below b m) | (go_at_call 124;refine(zCB ((E.out.below (b.mono M))) j).mono ?_;rintro e w5 ⟨rfl,rfl⟩;rw[HA.out]));go_meet;exact⟨2,0,_,rfl,zL2 G P b l ⟨q0,q1,q2,q3⟩ (BaseOk.odd I a8)⟩
       case rest=>
        obtain⟨k,nn,a7,f2,hg,d4,d5,d8,b5⟩:=hcut;subst f2;have b9:=zA b5;clear b5;have HG:=zA hg;have HZ:=zA d4;obtain⟨q0,q1,q2,q3⟩:=hg;obtain⟨p0,p1,p2,p3⟩:=d4;have g1:w.heap.size < g:=by omega
        cases sg with
        | false=>
         have a9:=zA (hN.out.trans (zSt q b1 b9));go_wp2;obtain⟨f0,f1,_,_⟩:=NumAt.set p0 p1 p2 p3 k nn;refine bodyPost_ret (v:=.tuple #[.agg #[k,nn],a7]) (by simp[results,results100,go_sem,f0,f1]) rfl ?_;rw[a9.out];exact⟨rfl,zDJ (yAC _) d5 _ _⟩
        | true=>
         have a9:=zA (hN.out.trans (zSu q b1 b9));go_wp2_with (go_at_call 128;refine(zSv b9.out _).mono ?_;rintro e w6 ⟨rfl,b0⟩;obtain⟨t0,t1,t2,t3⟩:=HG.out.below b0 d8;obtain⟨s0,s1,s2,s3⟩:=HZ.out.below b0 jo;have g2:=b0.size);have d6:=zDJ (D:=w.heap.size+1) (g:=g) jo (Below.refl _ w6) (.int .i64 (zFV ⟨k,nn⟩).kind) (.int .i64 (zFV ⟨k,nn⟩).n);obtain⟨z0,z1,z2,z3⟩:=(HZ.out.below b0 jo).below d6 jo;obtain⟨f0,f1,_,_⟩:=NumAt.set z0 z1 z2 z3 (zFV ⟨k,nn⟩).kind (zFV ⟨k,nn⟩).n;refine bodyPost_ret (v:=.tuple #[.agg #[.int .i64 (zFV ⟨k,nn⟩).kind,.int .i64 (zFV ⟨k,nn⟩).n],a7]) (by simp[results,results100,go_sem,f0,f1]) rfl ?_;rw[a9.out];exact⟨rfl,zDJ (yAC _) ((d5.trans (b0.mono jo)).trans (d6.mono jo)) _ _⟩
end Go.Proofs.YtlnbbaehihgigaaGreatDoor
