/- Joined for the claim ParseBlocks: the parser, the lexer and the trees as they are walked, made short by a program of mine. -/
import Derived.Deep.CutBlock
import Derived.Deep.DeepCutAuto
import Derived.Test.YtlohaclgbfhijaaGreatDoorS05
import Derived.Deep.LoopGhost
import Derived.Test.YtlohaclgbfhijaaGreatDoorS04
import Derived.Deep.RegionWith
import Derived.Test.YtlohaclgbfhijaaGreatDoorS01
set_option maxHeartbeats 16000000
set_option maxRecDepth 1000000
namespace Go.Proofs.YtlohaclgbfhijaaGreatDoor
open Go.Proofs.Tryz
open Go.RowKit
theorem Blk.grownR {w w':World} {R:Nat} {row:Option Nat} {cs:List Value} (h:Blk w R cs) (hg:w.grownBy w' row) (hne:some R≠row):Blk w' R cs:=
 ⟨yAA h.1 hg.size,fun j hj=>⟨hg.cell (h.2 j hj).1 hne,(World.frozen?_of_block (w:=w) (hg.block R h.1 hne)).trans (h.2 j hj).2⟩⟩
theorem Blk.set {w:World} {R i:Nat} {cs:List Value} (h:Blk w R cs) (hi:i < cs.length) (v:Value):Blk (w.setCell ⟨R,i,none⟩ v) R (cs.set i v):=by
 refine⟨by simp;exact h.1,fun j hj=>?_⟩;rw[List.length_set]at hj;obtain⟨c1,f1⟩:=h.2 j hj;obtain⟨c2,f2⟩:=h.2 i hi
 by_cases e:i=j
 · subst e;refine⟨?_,by go_simp⟩;rw[List.getElem_set_self]
   go_simp
 · refine⟨?_,by go_simp⟩;rw[List.getElem_set_ne e];have:(⟨R,i,none⟩:Addr)≠⟨R,j,none⟩:=fun h=>e (by injection h)
   go_simp
theorem Blk.setOther {w:World} {R S i:Nat} {cs:List Value} (h:Blk w R cs) (hne:S≠R) (v:Value):Blk (w.setCell ⟨S,i,none⟩ v) R cs:=
 h.grownR (zR w S i v) (by intro e;injection e with e;exact hne e.symm)
def zF8 (v:Value):List Value:=[.int .i64 4,.string ⟨#[]⟩,v,.int .i64 0,.int .i64 0,.bool false,.slice none 0 0,.int .i64 0,.bool false]
structure QuoS (w wr:World) (g:Nat) (A:Option Addr) (n c p:Nat) (v:Value) (acc:List UInt16):Prop where
 mv:Mv w wr g A n c p
 zero:Blk wr w.heap.size zBE
 tok:Blk wr (w.heap.size+1) (zF8 v)
 own:wr.ownsRow (w.heap.size+2) 24 1 v acc.length (zAM acc)
theorem QuoS.mov {w wr w':World} {g n c p p':Nat} {A:Option Addr} {v:Value} {acc:List UInt16} (h:QuoS w wr g A n c p v acc) (hg:g < w.heap.size) (hm:Mv wr w' g A n c p'):QuoS w w' g A n c p' v acc:=
 ⟨h.mv.then hm,h.zero.grown hm.grown (by omega),h.tok.grown hm.grown (by omega),zBo h.own hm.grown (by omega)⟩
theorem QuoS.app {w wr w':World} {g n c p:Nat} {A:Option Addr} {v v':Value} {acc acc':List UInt16} (h:QuoS w wr g A n c p v acc) (hg:g < w.heap.size) (hgr:wr.grownBy w' v.ownBlock)
 (ho:w'.ownsRow (w.heap.size+2) 24 1 v' acc'.length (zAM acc')):QuoS w (w'.setCell ⟨w.heap.size+1,2,none⟩ v') g A n c p v' acc':=by
 have hne:∀k,k < w.heap.size+2→some k≠v.ownBlock:=fun k hk e=>by have:=(h.own.lt k e.symm).1;omega
 have hrd:Rd w' g A n c p:=⟨hgr.cell h.mv.rd.c0 (hne g (by omega)),hgr.cell h.mv.rd.c1 (hne g (by omega)),(World.frozen?_of_block (w:=wr) (hgr.block g h.mv.rd.lt (hne g (by omega)))).trans h.mv.rd.f1⟩;have hs:=zR w' (w.heap.size+1) 2 v';refine⟨⟨⟨zBd hs hrd.c0 (show g≠w.heap.size+1 by omega),zBd hs hrd.c1 (show g≠w.heap.size+1 by omega),(zC1 (p:=⟨g,1,none⟩) hs hrd.lt (show g≠w.heap.size+1 by omega)).trans hrd.f1⟩,?_⟩,?_,?_,?_⟩
 · refine⟨hs.os.trans (hgr.os.trans h.mv.grown.os),hs.tape.trans (hgr.tape.trans h.mv.grown.tape),hs.output.trans (hgr.output.trans h.mv.grown.output),yAE h.mv.grown.size (yAE hgr.size hs.size),fun k hk hk2=>?_⟩;have hkr:=yAA hk h.mv.grown.size;exact(hs.block k (yAA hkr hgr.size) (by intro e;injection e with e;omega)).trans ((hgr.block k hkr (hne k (by omega))).trans (h.mv.grown.block k hk hk2))
 · exact(h.zero.grownR hgr (hne _ (by omega))).setOther (by omega) _
 · exact(h.tok.grownR hgr (hne _ (by omega))).set (by simp[zF8]) _
 · exact zBo ho hs (by omega)
section
variable {P:Program} {w:World} {ops:Array Oper} {rest:List Oper} {o:Oper} {a:Act} {Q:Exit→Act→World→Prop}
theorem zFI (hgd:o.guard=none) (s x:Operand) (t:TypeId)
 (ho:o.op=.call {callee:=.builtin .append,args:=#[s,x],argTypes:=#[t,t]})
 (e:TypeId) (i:TypeInfo) (z:Value) (bytes:Nat) (ht:P.underlying t=some (.slice e)) (hi:P.info? e=some i) (hz:i.zero=some z)
 (hsize:i.size=1) (hby:i.bytes=bytes) (hzs:z.cells.size=1) (base:Nat) (hbase:base≤w.heap.size)
 (v:Value) (xs:List Value) (k:Nat) (hk:xs.length=k) (hs:a.eval s=v) (hm:w.ownsRow base e 1 v k xs)
 (cs:List Value) (m c:Nat) (hx:a.eval x=.slice (some ⟨w.heap.size,0,none⟩) m c) (hl:cs.length=m) (h1:(cs.all fun u=>u.oneCell')=true)
 (hsz:xs.length+m≤70368744177664) (hb2:bytes≤2)
 (h:∀v' w',w'.ownsRow base e 1 v' (xs++cs).length (xs++cs)→w.grownBy w' v.ownBlock→wpList P ops Q rest (a.put o.dst v') w'):wpList P ops Q (o::rest) a (w.alloc (.cells cs.toArray e)):=by
 subst hl hk;refine wpList_append_own (w.alloc (.cells cs.toArray e)) hgd s x t ho base e i z 1 bytes ht hi hz hsize hby hzs (by omega) v xs.length xs hs (hm.alloc _) ⟨w.heap.size,0,none⟩ _ c cs hx (by omega) ?_ (fun u hu=>List.all_eq_true.1 h1 u hu) (by unfold maxLen;omega) ?_ (yAE hbase (by simp)) ?_
 · intro j u hu;rw[Addr.add_lit,World.cell?_alloc_at _ _ _ _ rfl];simpa using hu
 · calc (xs.length+cs.length)*bytes≤70368744177664*2:=Nat.mul_le_mul hsz hb2
    _≤140737488355328:=by omega
 · intro v' w' h1 h2 _;exact h v' w' (by rw[List.length_append];exact h1) (zE (zI w _ _) h2)
end
theorem zAO {w0 w:World} {R g:Nat} {v0 v1 v2 v3 v4 v5 v6 v7 v8:Value} (h:w0.grownBy w (some g)) (hR:w0.heap.size≤R):w0.grownBy (((((((((w.setCell ⟨R,0,none⟩ v0).setCell ⟨R,1,none⟩ v1).setCell ⟨R,2,none⟩ v2).setCell ⟨R,3,none⟩ v3).setCell ⟨R,4,none⟩ v4).setCell ⟨R,5,none⟩ v5).setCell ⟨R,6,none⟩ v6).setCell ⟨R,7,none⟩ v7).setCell ⟨R,8,none⟩ v8) (some g):=by
 have hs:=zBV (w:=w) (R:=R) (v0:=v0) (v1:=v1) (v2:=v2) (v3:=v3) (v4:=v4) (v5:=v5) (v6:=v6) (v7:=v7) (v8:=v8);exact⟨hs.os.trans h.os,hs.tape.trans h.tape,hs.output.trans h.output,yAE h.size hs.size,fun i hi hne=>(hs.block i (yAA hi h.size) (fun e=>by injection e with e;omega)).trans (h.block i hi hne)⟩
def zSa (q:UInt16) (u:List UInt16) (k p:Nat) (acc:List UInt16):Prop:=∃i,p=k+1+i∧zES q (u.drop (k+1)) []=zHJ i (zES q (u.drop p) acc)
theorem zIK {q:UInt16} {r:List UInt16} {e e' m:Nat} {t:Tok} (h:zA5 q r=(e,t,m)) (h2:(zES q r []).1=e') (he:e'≠0):e'=e:=by
 subst h2;have hq:zJz q r=zES q r []:=rfl;unfold zA5 at h;rw[hq,if_pos he]at h;exact(zBz h).1
theorem zHK {q:UInt16} {r s:List UInt16} {e m i:Nat} {t:Tok} (h:zA5 q r=(e,t,m)) (h2:zES q r []=(0,s,i)):e=0∧t={zm with kind:=4,str:=s}∧m=1+i:=by
 unfold zA5 at h;have:zJz q r=zES q r []:=rfl;rw[this,h2,if_neg (by simp)]at h;obtain⟨h1,h3,h4⟩:=zFE h;exact⟨h1.symm,h3.symm,h4.symm⟩
theorem zHL (l:List UInt16) (x:UInt16):zAM l++[.int .u16 (x.toNat:Int)]=zAM (l++[x]):=by simp[zAM,zTl]
theorem zFJ {A:Option Addr} {c g B k n:Nat} {u:List UInt16} {w:World} (hr:Rd w g A n c k) (hn:u.length=n) (ha:Reads w B 1 A n (zAM u)) (hB:B≤g) (hk:k < u.length) (hl:n≤4096) {m e:Nat} {t:Tok} (hq:zA5 u[k] (u.drop (k+1))=(e,t,m)):
 Calls prog 70 #[.pointer (some ⟨g,0,none⟩)] w fun ev w'=>∃v,ev=.returned (.tuple #[v,.int .i64 (e:Int)])∧(e≠0→v=noV)∧(e=0→zTk w' w.heap.size t v∧Mv w w' g A n c (k+m))∧w.grownBy w' (some g):=by
 subst hn;obtain⟨i0,hi0,hz0,hz1,hz2⟩:=info_parts Tryz.info_u16;have hg:=hr.lt;have HA:=zD ha;obtain⟨q,hqq⟩:∃q,u[k]=q:=⟨_,rfl⟩;rw[hqq]at hq;have hE:=zD (fun e' h2 he=>zIK (e':=e') hq h2 he);have hGood:=zD (fun s i h2=>zHK (s:=s) (i:=i) hq h2);have hQ0:QuoS w ((w.alloc (.cells zBE.toArray 44)).alloc (.cells (zF8 (.slice none 0 0)).toArray 44)) g A u.length c k (.slice none 0 0) []:=by
  have hW2:Below w.heap.size w ((w.alloc (.cells zBE.toArray 44)).alloc (.cells (zF8 (.slice none 0 0)).toArray 44)):=((Below.refl _ w).alloc (yAD _) _).alloc (by simp) _;refine⟨⟨(hr.alloc _).alloc _,zAT _ hW2⟩,?_,?_,yAK _ _ _ _⟩
  · exact(Blk.new w zBE 44).below ((Below.refl _ _).alloc (yAD _) _) (by simp)
  · have:=Blk.new (w.alloc (.cells zBE.toArray 44)) (zF8 (.slice none 0 0)) 44;rwa [show(w.alloc (.cells zBE.toArray 44)).heap.size=w.heap.size+1 by simp]at this
 have HQ0:=zD hQ0;have hc0:=hr.c0;have hc1:=hr.c1;obtain⟨blk,off,rfl,hblk,hcell⟩:=ha.spotL (by omega);have hca:=hcell k hk;rw[hqq]at hca;have hbw:blk < w.heap.size:=by omega
 have hlt2:(k:Int) < (u.length:Int):=by omega
 clear hq hQ0 ha hr hcell hqq;go_enter func70,ntmps70;go_upto_region 2 with(fail)
 go_cut [5] (fun x wx=>x=.int .u16 (q.toNat:Int)∧Hid (QuoS w wx g (some ⟨blk,off,none⟩) u.length c k (.slice none 0 0) []))
 case first=>
  go_quiet (fail)
  go_wp2_with fail;go_meet;exact⟨rfl,HQ0.out.mov hg ((Mv.refl HQ0.out.mv.rd).drewN _)⟩
 case rest=>
  obtain⟨hx,hS⟩:=hcut;subst hx;clear hc0 hc1 hca HQ0;have hc1:=hS.out.mv.rd.c1;have hf1:=hS.out.mv.rd.f1;go_wp2;have hS1:=zD (hS.out.mov hg (Mv.step (Mv.refl hS.out.mv.rd) (z:=(k:Int)+1) (k':=k+1) (by omega)));clear hc1 hf1 hS
  go_loopg [6] (u.length - (k+1)) (fun r x wr=>∃p acc v,p+r=u.length∧Hid (QuoS w wr g (some ⟨blk,off,none⟩) u.length c p v acc)∧acc.length≤p∧Hid (zSa q u k p acc))
  case atStart=>exact⟨k+1,[],.slice none 0 0,by omega,hS1,yAF _,0,by omega,by simp[zHJ]⟩
  case round=>
   obtain⟨p,acc,v,hpr,hS,hacc,hat⟩:=hrel;have hc0:=hS.out.mv.rd.c0;have hc1:=hS.out.mv.rd.c1;have hf1:=hS.out.mv.rd.f1;have har:=zD (HA.out.grown hS.out.mv.grown hB (Nat.le_of_lt hg))
   by_cases hlt:p < u.length
   · have hlt2:(p:Int) < (u.length:Int):=by omega
     obtain⟨blk2,off2,hA2,_,hcell⟩:=har.out.spotL (by omega);injection hA2 with hA2;injection hA2 with e1 e2;subst e1 e2;have hca:=hcell p hlt;have hdr:=zD (yAI hlt);obtain⟨x,hx⟩:∃x,u[p]=x:=⟨_,rfl⟩;rw[hx]at hca hdr;clear hcell hx;cases hln:zw x with
     | true=>
      have hz:=zD (show(zES q (u.drop (k+1)) []).1=5 by
       obtain⟨i,hi,he⟩:=hat.out;rw[he,hdr.out,zMa hln];rfl)
      have hzr:=zD hS.out.zero;obtain⟨c0,f0⟩:=hzr.out.2 0 (by decide);obtain⟨c1,f1⟩:=hzr.out.2 1 (by decide);obtain⟨c2,f2⟩:=hzr.out.2 2 (by decide);obtain⟨c3,f3⟩:=hzr.out.2 3 (by decide);obtain⟨c4,f4⟩:=hzr.out.2 4 (by decide);obtain⟨c5,f5⟩:=hzr.out.2 5 (by decide);obtain⟨c6,f6⟩:=hzr.out.2 6 (by decide);obtain⟨c7,f7⟩:=hzr.out.2 7 (by decide);obtain⟨c8,f8⟩:=hzr.out.2 8 (by decide);go_wp2_with fail
      go_quiet (first | (go_at_call 63;refine Calls.quiet_of_same ((zAJ _ _).mono fun _ _ h=>zDE h)))
      go_wp2;obtain⟨q0,q1,q2,q3,q4,q5,q6,q7,q8⟩:=zb (v0:=.int .i64 0) (v1:=.string ⟨#[]⟩) (v2:=.slice none 0 0) (v3:=.int .i64 0) (v4:=.int .i64 0) (v5:=.bool false) (v6:=.slice none 0 0) (v7:=.int .i64 0) (v8:=.bool false) (hzr.out.grown (zAB wr (some g) nq) (by omega)) rfl;refine bodyPost_ret (v:=.tuple #[.agg #[.int .i64 0,.string ⟨#[]⟩,.slice none 0 0,.int .i64 0,.int .i64 0,.bool false,.slice none 0 0,.int .i64 0,.bool false],.int .i64 5]) (by simp[results,results70,go_sem,q0,q1,q2,q3,q4,q5,q6,q7,q8]) rfl ?_;obtain rfl:=hE.out _ hz.out (by decide);exact⟨_,rfl,fun _=>rfl,fun h=>absurd h (by first | decide | assumption),(zy (hS.out.mv.drewN _) (yAD _) hg).grown⟩
     | false=>
      have HLN:=zD hln;go_wp2_with fail
      go_quiet (first | (go_at_call 63;refine Calls.quiet_of_same ((zAJ _ _).mono fun _ _ h=>zDE h)))
      go_upto_region 5 with(fail)
      go_cut [6] (fun xx wx=>xx=.int .u16 (x.toNat:Int)∧Hid (QuoS w wx g (some ⟨blk,off,none⟩) u.length c p v acc))
      case first=>
       go_quiet (fail)
       go_wp2_with fail;go_meet;exact⟨rfl,hS.out.mov hg (((Mv.refl hS.out.mv.rd).drewN _).drewN _)⟩
      case rest=>
       obtain⟨hxx,hS5⟩:=hcut;subst hxx;clear hc0 hc1 hf1 hca hS har;have hc1:=hS5.out.mv.rd.c1;have hf1:=hS5.out.mv.rd.f1;go_upto_region 6 with(fail)
       go_cut [5] (fun qq wx=>qq=.int .u16 (q.toNat:Int)∧Hid (QuoS w wx g (some ⟨blk,off,none⟩) u.length c (p+1) v acc))
       case first=>
        go_wp2_with fail;go_meet;exact⟨rfl,hS5.out.mov hg (Mv.step (Mv.refl hS5.out.mv.rd) (by omega))⟩
       case rest=>
        obtain⟨hqx,hS⟩:=hcut;subst hqx;clear hc1 hf1 hS5;have hbase:w.heap.size+2≤wc.heap.size:=hS.out.tok.1;have hneT:some (w.heap.size+1)≠v.ownBlock:=fun e=>by have:=(hS.out.own.lt _ e.symm).1;omega
        by_cases hxq:x=q
        · have e1:((x.toNat:Int)==(q.toNat:Int))=true:=by rw[hxq];simp
          have hz:=zD (show∃i,p=k+1+i∧zES q (u.drop (k+1)) []=(0,acc,i+1) by
           obtain⟨i,hi,he⟩:=hat.out;refine⟨i,hi,?_⟩;rw[he,hdr.out,hxq,zPO (by rw[←hxq];exact HLN.out)];rfl)
          obtain⟨Av,cv,rfl,_,_⟩:=zZ hS.out.own;have htb:=zD hS.out.tok;have hzr:=zD hS.out.zero;have a0:wc.cell? ⟨w.heap.size+1,0,none⟩=some (.int .i64 4):=(htb.out.2 0 (by simp[zF8])).1;have a1:wc.cell? ⟨w.heap.size+1,1,none⟩=some (.string ⟨#[]⟩):=(htb.out.2 1 (by simp[zF8])).1;have a2:wc.cell? ⟨w.heap.size+1,2,none⟩=some (.slice Av acc.length cv):=(htb.out.2 2 (by simp[zF8])).1;have a3:wc.cell? ⟨w.heap.size+1,3,none⟩=some (.int .i64 0):=(htb.out.2 3 (by simp[zF8])).1;have a4:wc.cell? ⟨w.heap.size+1,4,none⟩=some (.int .i64 0):=(htb.out.2 4 (by simp[zF8])).1;have a5:wc.cell? ⟨w.heap.size+1,5,none⟩=some (.bool false):=(htb.out.2 5 (by simp[zF8])).1;have a6:wc.cell? ⟨w.heap.size+1,6,none⟩=some (.slice none 0 0):=(htb.out.2 6 (by simp[zF8])).1;have a7:wc.cell? ⟨w.heap.size+1,7,none⟩=some (.int .i64 0):=(htb.out.2 7 (by simp[zF8])).1;have a8:wc.cell? ⟨w.heap.size+1,8,none⟩=some (.bool false):=(htb.out.2 8 (by simp[zF8])).1;obtain⟨b0,fb0⟩:=hzr.out.2 0 (by decide);obtain⟨b1,fb1⟩:=hzr.out.2 1 (by decide);obtain⟨b2,fb2⟩:=hzr.out.2 2 (by decide);obtain⟨b3,fb3⟩:=hzr.out.2 3 (by decide);obtain⟨b4,fb4⟩:=hzr.out.2 4 (by decide);obtain⟨b5,fb5⟩:=hzr.out.2 5 (by decide);obtain⟨b6,fb6⟩:=hzr.out.2 6 (by decide);obtain⟨b7,fb7⟩:=hzr.out.2 7 (by decide);obtain⟨b8,fb8⟩:=hzr.out.2 8 (by decide);clear hxq;go_wp2;obtain⟨q0,q1,q2,q3,q4,q5,q6,q7,q8⟩:=zb (v0:=.int .i64 4) (v1:=.string ⟨#[]⟩) (v2:=.slice Av acc.length cv) (v3:=.int .i64 0) (v4:=.int .i64 0) (v5:=.bool false) (v6:=.slice none 0 0) (v7:=.int .i64 0) (v8:=.bool false) hzr.out rfl;refine bodyPost_ret (v:=.tuple #[.agg #[.int .i64 4,.string ⟨#[]⟩,.slice Av acc.length cv,.int .i64 0,.int .i64 0,.bool false,.slice none 0 0,.int .i64 0,.bool false],.int .i64 0]) (by simp[results,results70,go_sem,q0,q1,q2,q3,q4,q5,q6,q7,q8]) rfl ?_;obtain⟨i,hi,hz2⟩:=hz.out;obtain⟨z1,z2,z3⟩:=hGood.out _ _ hz2;subst z1 z2 z3;refine⟨_,rfl,fun h=>absurd rfl h,fun _=>⟨⟨.slice Av acc.length cv,_,rfl,zAU (zAu hS.out.own (by omega)) (by omega),yAK _ _ _ _⟩,?_⟩,(zy hS.out.mv (yAD _) hg).grown⟩;rw[show k+(1+(i+1))=p+1 by omega];exact zy hS.out.mv (yAD _) hg
        · have e1:((x.toNat:Int)==(q.toNat:Int))=false:=by
           rw[yA];intro h;exact hxq (UInt16.toNat_inj.1 (by omega))
          have hx16:=x.toNat_lt
          by_cases h92:x.toNat=92
          · have e2:((x.toNat:Int)==92)=true:=by rw[h92];rfl
            have H92:=zD h92;clear h92;obtain⟨⟨ee,y,ne⟩,hesc⟩:∃z,zDb (u.drop (p+1))=z:=⟨_,rfl⟩;have HESC:=zD hesc;have har:=zD (HA.out.grown hS.out.mv.grown hB (Nat.le_of_lt hg))
            by_cases hee:ee=0
            · subst hee;have hlen:=zEO (l:=u.drop (p+1)) (by rw[hesc]);rw[hesc,List.length_drop]at hlen;have hz:=zD (fun i (hi:p=k+1+i) (he:zES q (u.drop (k+1)) []=zHJ i (zES q (u.drop p) acc))=>(by
               refine⟨i+(1+ne),by omega,?_⟩;rw[he,hdr.out,zPQ HLN.out hxq H92.out hesc,List.drop_drop];simp only[zHJ];congr 2;omega:zSa q u k (p+1+ne) (acc++[y])))
              clear hesc hxq;go_wp2_with fail;refine(zFH hS.out.mv.rd rfl har.out hB hlt hl HESC.out).mono ?_;rintro e5 w5 ⟨rfl,hM5,hG5⟩;have hS6:=zD (hS.out.mov hg (hM5 rfl));have hbase6:w.heap.size+2≤w5.heap.size:=hS6.out.tok.1;have a2:w5.cell? ⟨w.heap.size+1,2,none⟩=some v:=(hS6.out.tok.2 2 (by simp[zF8])).1;clear hM5 hG5;go_wp2_with (at_builtin;refine zFI rfl _ _ 22 rfl 24 i0 _ 2 underlying22 hi0 hz0 hz1 hz2 rfl (w.heap.size+2) hbase6 v (zAM acc) acc.length (zCH _) rfl hS6.out.own [.int .u16 (y.toNat:Int)] 1 1 rfl rfl rfl (by rw[zCH];omega) (by omega) ?_;intro v' w' ho hgr;obtain⟨Av,cv,rfl,_,_⟩:=zZ ho;have d2:w'.cell? ⟨w.heap.size+1,2,none⟩=some v:=((hS6.out.tok.grownR hgr hneT).2 2 (by simp[zF8])).1;have fd2:=((hS6.out.tok.grownR hgr hneT).2 2 (by simp[zF8])).2)
              go_roundg (u.length - (p+1+ne))
              case measure=>omega
              case rel=>
               refine⟨p+1+ne,acc++[y],_,by omega,hS6.out.app hg hgr (by rw[zHL,zCH]at ho;rw[show(zAM acc).length+1=(acc++[y]).length by simp[zAM]];exact ho),by simp;omega,?_⟩;obtain⟨i,hi,he⟩:=hat.out;exact hz.out i hi he
            · have hz:=zD (show(zES q (u.drop (k+1)) []).1=ee by
               obtain⟨i,hi,he⟩:=hat.out;rw[he,hdr.out,zPP HLN.out hxq H92.out (by rw[hesc];exact hee),hesc];rfl)
              have he1:((ee:Int) !=0)=true:=by rw[bne_iff_ne];omega
              clear hesc hxq;go_wp2_with fail;refine(zFH hS.out.mv.rd rfl har.out hB hlt hl HESC.out).mono ?_;rintro e5 w5 ⟨rfl,_,hG5⟩;have hzr:=zD (hS.out.zero.grown hG5 (by omega));have hG6:=zD (zE hS.out.mv.grown hG5);clear hG5;obtain⟨b0,fb0⟩:=hzr.out.2 0 (by decide);obtain⟨b1,fb1⟩:=hzr.out.2 1 (by decide);obtain⟨b2,fb2⟩:=hzr.out.2 2 (by decide);obtain⟨b3,fb3⟩:=hzr.out.2 3 (by decide);obtain⟨b4,fb4⟩:=hzr.out.2 4 (by decide);obtain⟨b5,fb5⟩:=hzr.out.2 5 (by decide);obtain⟨b6,fb6⟩:=hzr.out.2 6 (by decide);obtain⟨b7,fb7⟩:=hzr.out.2 7 (by decide);obtain⟨b8,fb8⟩:=hzr.out.2 8 (by decide);go_wp2;obtain⟨q0,q1,q2,q3,q4,q5,q6,q7,q8⟩:=zb (v0:=.int .i64 0) (v1:=.string ⟨#[]⟩) (v2:=.slice none 0 0) (v3:=.int .i64 0) (v4:=.int .i64 0) (v5:=.bool false) (v6:=.slice none 0 0) (v7:=.int .i64 0) (v8:=.bool false) hzr.out rfl;refine bodyPost_ret (v:=.tuple #[.agg #[.int .i64 0,.string ⟨#[]⟩,.slice none 0 0,.int .i64 0,.int .i64 0,.bool false,.slice none 0 0,.int .i64 0,.bool false],.int .i64 (ee:Int)]) (by simp[results,results70,go_sem,q0,q1,q2,q3,q4,q5,q6,q7,q8]) rfl ?_;obtain rfl:=hE.out _ hz.out hee;exact⟨_,rfl,fun _=>rfl,fun h=>absurd h hee,zAO hG6.out (yAD _)⟩
          · have e2:((x.toNat:Int)==92)=false:=yA.2 (by omega);have hz:=zD (fun i (hi:p=k+1+i) (he:zES q (u.drop (k+1)) []=zHJ i (zES q (u.drop p) acc))=>(by
             refine⟨i+1,by omega,?_⟩;rw[he,hdr.out,zKR HLN.out hxq h92];simp only[zHJ];congr 2;omega:zSa q u k (p+1) (acc++[x])))
            clear h92 hxq;have a2:wc.cell? ⟨w.heap.size+1,2,none⟩=some v:=(hS.out.tok.2 2 (by simp[zF8])).1;go_wp2_with (at_builtin;refine zFI rfl _ _ 22 rfl 24 i0 _ 2 underlying22 hi0 hz0 hz1 hz2 rfl (w.heap.size+2) hbase v (zAM acc) acc.length (zCH _) rfl hS.out.own [.int .u16 (x.toNat:Int)] 1 1 rfl rfl rfl (by rw[zCH];omega) (by omega) ?_;intro v' w' ho hgr;obtain⟨Av,cv,rfl,_,_⟩:=zZ ho;have d2:w'.cell? ⟨w.heap.size+1,2,none⟩=some v:=((hS.out.tok.grownR hgr hneT).2 2 (by simp[zF8])).1;have fd2:=((hS.out.tok.grownR hgr hneT).2 2 (by simp[zF8])).2)
            go_roundg (gk - 1)
            case measure=>omega
            case rel=>
             refine⟨p+1,acc++[x],_,by omega,hS.out.app hg hgr (by rw[zHL,zCH]at ho;rw[show(zAM acc).length+1=(acc++[x]).length by simp[zAM]];exact ho),by simp;omega,?_⟩;obtain⟨i,hi,he⟩:=hat.out;exact hz.out i hi he
   · obtain rfl:p=u.length:=by omega
     have hz:=zD (show(zES q (u.drop (k+1)) []).1=5 by
      obtain⟨i,hi,he⟩:=hat.out;rw[he,List.drop_length,zPN];rfl)
     have hzr:=zD hS.out.zero;obtain⟨c0,f0⟩:=hzr.out.2 0 (by decide);obtain⟨c1,f1⟩:=hzr.out.2 1 (by decide);obtain⟨c2,f2⟩:=hzr.out.2 2 (by decide);obtain⟨c3,f3⟩:=hzr.out.2 3 (by decide);obtain⟨c4,f4⟩:=hzr.out.2 4 (by decide);obtain⟨c5,f5⟩:=hzr.out.2 5 (by decide);obtain⟨c6,f6⟩:=hzr.out.2 6 (by decide);obtain⟨c7,f7⟩:=hzr.out.2 7 (by decide);obtain⟨c8,f8⟩:=hzr.out.2 8 (by decide);go_wp2_with fail
     go_quiet (fail)
     go_wp2;obtain⟨q0,q1,q2,q3,q4,q5,q6,q7,q8⟩:=zb (v0:=.int .i64 0) (v1:=.string ⟨#[]⟩) (v2:=.slice none 0 0) (v3:=.int .i64 0) (v4:=.int .i64 0) (v5:=.bool false) (v6:=.slice none 0 0) (v7:=.int .i64 0) (v8:=.bool false) (hzr.out.grown (zAB wr (some g) nq) (by omega)) rfl;refine bodyPost_ret (v:=.tuple #[.agg #[.int .i64 0,.string ⟨#[]⟩,.slice none 0 0,.int .i64 0,.int .i64 0,.bool false,.slice none 0 0,.int .i64 0,.bool false],.int .i64 5]) (by simp[results,results70,go_sem,q0,q1,q2,q3,q4,q5,q6,q7,q8]) rfl ?_;obtain rfl:=hE.out _ hz.out (by decide);exact⟨_,rfl,fun _=>rfl,fun h=>absurd h (by decide),(zy (hS.out.mv.drewN nq) (yAD _) hg).grown⟩
theorem Tryz.info_u32:(prog.info? 87).map (fun i=>(i.zero,i.size,i.bytes))=some (some (.int .u32 0),1,4):=by kernel_rfl
def zMb (v:Nat) (w:World) (e:Ending) (w':World):Prop:=
 ∃(X:Option Addr) (mx cx er:Nat),e=.returned (.tuple #[.agg #[.bool false,.slice X mx cx],.int .i64 (er:Int)])∧Below w.heap.size w w'∧
  (er=0∧v < zFi∧w'.ownsRow w.heap.size 87 1 (.slice X mx cx) (zBL v).length (zCJ (zBL v))∨er=3∧zFi≤v)
def AtMul (ms:List Nat) (d k c:Nat) (outs:List Nat):Prop:=outs.length=k∧zCA ms d=(outs++(zCA (ms.drop k) c).1,(zCA (ms.drop k) c).2)
theorem AtMul.start (ms:List Nat) (d:Nat):AtMul ms d 0 d []:=⟨rfl,rfl⟩
theorem AtMul.step {ms:List Nat} {d k c:Nat} {outs:List Nat} (h:AtMul ms d k c outs) (hk:k < ms.length):AtMul ms d (k+1) ((c+10*ms[k]) / 4294967296) (outs++[(c+10*ms[k]) % 4294967296]):=by
 obtain⟨h1,h2⟩:=h;refine⟨by simp[h1],?_⟩;rw[h2,yAI hk,zCA];simp
theorem AtMul.done {ms:List Nat} {d c:Nat} {outs:List Nat} (h:AtMul ms d ms.length c outs):zCA ms d=(outs,c):=by
 obtain⟨h1,h2⟩:=h;rw[h2,List.drop_length];simp[zCA]
def zCP (ms outs:List Nat):List Nat:=outs++ms.drop outs.length
theorem zHM {ms outs:List Nat} (h:outs.length < ms.length):(zCP ms outs)[outs.length]? =some ms[outs.length]:=by
 unfold zCP;rw[List.getElem?_append_right (yAD _),Nat.sub_self,List.getElem?_drop];simp[yAC h]
theorem zHN {ms outs:List Nat} (h:outs.length < ms.length) (x:Nat):(zCP ms outs).set outs.length x=zCP ms (outs++[x]):=by
 unfold zCP;rw[List.set_append_right _ _ (yAD _),Nat.sub_self,yAI h,List.set_cons_zero];simp
theorem zPR (l:List Nat) (k x:Nat):(zCJ l).set k (.int .u32 (x:Int))=zCJ (l.set k x):=by
 simp[zCJ,List.map_set]
section
variable {P:Program} {w:World} {ops:Array Oper} {rest:List Oper} {o:Oper} {a:Act} {Q:Exit→Act→World→Prop}
theorem zDk (hgd:o.guard=none) (s x:Operand) (t:TypeId)
 (ho:o.op=.call {callee:=.builtin .append,args:=#[s,x],argTypes:=#[t,t]})
 (e:TypeId) (i:TypeInfo) (z:Value) (size bytes:Nat) (ht:P.underlying t=some (.slice e)) (hi:P.info? e=some i) (hz:i.zero=some z)
 (hsize:i.size=size) (hby:i.bytes=bytes) (hzs:z.cells.size=size) (hsz0:0 < size) (base:Nat) (hbase:base≤w.heap.size)
 (v:Value) (xs:List Value) (k:Nat) (hs:a.eval s=v) (hm:w.ownsRow base e size v k xs)
 (cs:List Value) (m c:Nat) (hx:a.eval x=.slice (some ⟨w.heap.size,0,none⟩) m c) (hl:cs.length=m*size) (h1:(cs.all fun u=>u.oneCell')=true)
 (hsz:k+m≤70368744177664) (hb2:(k+m)*bytes≤140737488355328)
 (h:∀v' w',w'.ownsRow base e size v' (k+m) (xs++cs)→w.grownBy w' v.ownBlock→wpList P ops Q rest (a.put o.dst v') w'):wpList P ops Q (o::rest) a (w.alloc (.cells cs.toArray e)):=by
 refine wpList_append_own (w.alloc (.cells cs.toArray e)) hgd s x t ho base e i z size bytes ht hi hz hsize hby hzs hsz0 v k xs hs (hm.alloc _) ⟨w.heap.size,0,none⟩ _ c cs hx hl ?_ (fun u hu=>List.all_eq_true.1 h1 u hu) (by unfold maxLen;omega) hb2 (yAE hbase (by simp)) ?_
 · intro j u hu;rw[Addr.add_lit,World.cell?_alloc_at _ _ _ _ rfl];simpa using hu
 · intro v' w' h1 h2 _;exact h v' w' h1 (zE (zI w _ _) h2)
end
theorem zET {w:World} {R:Nat} {cs:List Value} {v0 v1:Value} (h:Blk w R cs) (hl:cs.length=2):((w.setCell ⟨R,0,none⟩ v0).setCell ⟨R,1,none⟩ v1).cell? ⟨R,0,none⟩=some v0∧((w.setCell ⟨R,0,none⟩ v0).setCell ⟨R,1,none⟩ v1).cell? ⟨R,1,none⟩=some v1:=by
 obtain⟨c0,f0⟩:=h.2 0 (by omega);obtain⟨c1,f1⟩:=h.2 1 (by omega);refine⟨?_,?_⟩
 all_goals go_simp
theorem zEU {w0 w:World} {R:Nat} {v0 v1:Value} (h:Below w0.heap.size w0 w) (hR:w0.heap.size≤R):Below w0.heap.size w0 ((w.setCell ⟨R,0,none⟩ v0).setCell ⟨R,1,none⟩ v1):=(h.setCell hR _).setCell hR _
theorem zPS {w:World} {R base e n:Nat} {v v0 v1:Value} {xs:List Value} (h:w.ownsRow base e 1 v n xs) (hb:R < base):((w.setCell ⟨R,0,none⟩ v0).setCell ⟨R,1,none⟩ v1).ownsRow base e 1 v n xs:=
 zBo (zBo h (zR w R 0 v0) hb) (zR _ R 1 v1) hb
theorem zMc {A:Option Addr} {c B n:Nat} {xs:List Nat} {w:World} (hn:xs.length=n) (ha:Reads w B 1 A n (zCJ xs)) (hB:B≤w.heap.size) (hl:n≤4096) (hc:n≤c) (hc2:c≤maxLen) (hm:zBC xs=xs) (h0:n=0):
 Calls prog 184 #[.slice A n c,.bool false] w fun e w'=>e=.returned (.agg #[.bool false,.slice none 0 0])∧Below w.heap.size w w':=by
 have:=zJI (c:=c) hn ha hB hl hc hc2 (m:=n) (by rw[hm,hn]);unfold zMP at this;rw[if_pos h0]at this;exact this
theorem zMd {A:Option Addr} {c B n:Nat} {xs:List Nat} {w:World} (hn:xs.length=n) (ha:Reads w B 1 A n (zCJ xs)) (hB:B≤w.heap.size) (hl:n≤4096) (hc:n≤c) (hc2:c≤maxLen) (hm:zBC xs=xs) (h0:n≠0):
 Calls prog 184 #[.slice A n c,.bool false] w fun e w'=>e=.returned (.agg #[.bool false,.slice A n c])∧Below w.heap.size w w':=by
 have:=zJI (c:=c) hn ha hB hl hc hc2 (m:=n) (by rw[hm,hn]);unfold zMP at this;rw[if_neg h0]at this;exact this
structure PaS (w wr:World) (v:Value) (n:Nat) (ms:List Nat):Prop where
 own:wr.ownsRow (w.heap.size+1) 87 1 v n (zCJ ms)
 res:Blk wr w.heap.size [.bool false,.slice none 0 0]
 below:Below w.heap.size w wr
theorem PaS.grown {w wr w':World} {v v':Value} {n n':Nat} {ms ms':List Nat} (h:PaS w wr v n ms) (hg:wr.grownBy w' v.ownBlock) (ho:w'.ownsRow (w.heap.size+1) 87 1 v' n' (zCJ ms')):PaS w w' v' n' ms':=
 ⟨ho,h.res.grownR hg (fun e=>by have:=(h.own.lt _ e.symm).1;omega),h.below.grown hg h.below.size (fun k hk=>by have:=(h.own.lt k hk).1;omega)⟩
def AtPar (l:List UInt16) (i:Nat) (ms:List Nat):Prop:=i≤l.length∧zr (l.take i) < zFi∧ms=zBL (zr (l.take i))
theorem PaS.below' {w wr w':World} {v:Value} {n:Nat} {ms:List Nat} (h:PaS w wr v n ms) (hb:Below wr.heap.size wr w'):PaS w w' v n ms:=
 ⟨zDr h.own hb,h.res.below hb h.res.1,h.below.trans (hb.mono h.below.size)⟩
theorem PaS.trimmed {w wr w':World} {A Av:Option Addr} {n cp cv m:Nat} {outs zs:List Nat} {c:Nat} (h:PaS w wr (.slice A n cp) n outs) (hg:wr.grownBy w' (Value.ownBlock (.slice A n cp))) (ho:w'.ownsRow (w.heap.size+1) 87 1 (.slice Av (n+1) cv) (n+1) (zCJ (outs++[c])))
 (hz:zBC (outs++[c])=zs) (hm:zs.length=m) (hn:m≤n+1):PaS w w' (.slice Av m cv) m zs:=by
 refine h.grown hg ?_;have h1:=zOy (j:=m) ho hn;rw[zL0,←hm,←hz,←zFz,hz,hm]at h1;exact h1
theorem AtPar.start (l:List UInt16):AtPar l 0 []:=⟨yAF _,by rw[List.take_zero];exact Nat.pow_pos (by omega),rfl⟩
theorem AtPar.step {l:List UInt16} {k d c:Nat} {ms outs:List Nat} (h:AtPar l k ms) (hk:k < l.length) (hd:l[k].toNat=d+48) (hd9:d≤9) (hm:zCA ms d=(outs,c)):zBC (outs++[c])=zBL (zr (l.take (k+1))):=by
 obtain⟨_,h2,h3⟩:=h;subst h3;have:=zJ5 h2 hd9;rw[hm]at this;rw[this,zCu l k hk,hd];congr 1
theorem AtPar.go {l:List UInt16} {k:Nat} {ms:List Nat} (hk:k < l.length) (hm:ms=zBL (zr (l.take (k+1)))) (h8:ms.length≤8):AtPar l (k+1) ms:=by
 refine⟨hk,?_,hm⟩;rcases Nat.lt_or_ge (zr (l.take (k+1))) zFi with h | h
 · exact h
 · have:=zOw h;rw[←hm]at this;omega
theorem AtPar.over {l:List UInt16} {k:Nat} {ms:List Nat} (hm:ms=zBL (zr (l.take (k+1)))) (h8:¬ms.length≤8):zFi≤zr l:=by
 rcases Nat.lt_or_ge (zr (l.take (k+1))) zFi with h | h
 · have:=zDw h;rw[←hm]at this;omega
 · exact yAE h (zDa l (k+1))
theorem AtPar.done {l:List UInt16} {ms:List Nat} (h:AtPar l l.length ms):zr l < zFi∧ms=zBL (zr l):=by
 obtain⟨_,h2,h3⟩:=h;rw[List.take_length]at h2 h3;exact⟨h2,h3⟩
theorem PaS.drewN {w wr:World} {v:Value} {n:Nat} {ms:List Nat} (h:PaS w wr v n ms) (m:Nat):PaS w (wr.drewN m) v n ms:=
 ⟨h.own.kept (row:=none) ⟨rfl,rfl,rfl,yAD _,fun _ _ _=>rfl⟩ (by cases hv:v.ownBlock<;>simp),h.res.grown (g:=w.heap.size+1) (zAB wr _ m) (by omega),zAa h.below m⟩
theorem zKS {s:ByteArray} {l:List UInt16} (h:s.data.toList=asc l) (hd:∀x∈l,zP x=true) (h0:0 < l.length) (hz:l[0]≠48∨l=[48]) (hl:l.length≤4096) (w:World):
 Calls prog 149 #[.string s] w (zMb (zr l) w):=by
 obtain⟨i0,hi0,hz0,hz1,hz2⟩:=info_parts Tryz.info_u32;obtain⟨hs,hget⟩:=zMQ h hd;have HG:=zD hget;have hs0:0 < s.size:=by omega
 have hs1:s.size≤4096:=by omega
 have HD:=zD (fun w=>zKG h hd h0 hz hl w);have hb0:=(hget 0 hs0 h0).2;have e45:((s[0].toNat:Int)==45)=false:=yA.2 (by omega);have e450:(s.toList==[45,48])=false:=by
  rw[yA,ByteArray.toList_eq];intro h3;have h4:s.data.toList[0]? =some 45:=by rw[h3];rfl
  have h5:s.data.toList[0]? =some s[0]:=by rw[yAC (by simpa using hs0)];rfl
  rw[h5]at h4;have h6:s[0].toNat=45:=by rw[Option.some.inj h4];rfl
  omega
 have HS0:=zD (show PaS w (w.alloc (.cells #[.bool false,.slice none 0 0] 42)) (.slice none 0 0) ([]:List Nat).length []from⟨yAK _ _ _ _,Blk.new w [.bool false,.slice none 0 0] _,(Below.refl _ _).alloc (yAD _) _⟩);have HL:=zD hs;clear hget h hd hz hs;go_enter func149,ntmps149;go_wp2_with fail
 go_quiet (fail)
 go_wp2_with (go_at_call 183;refine(HD.out _).mono ?_;rintro e1 w1 ⟨rfl,rfl⟩)
 go_loopg [6,33] l.length (fun r m i wr=>∃(k:Nat) (ms:List Nat) (n:Nat),k+r=l.length∧i=.int .i64 k∧Hid (ms.length=n)∧Hid (PaS w wr m n ms)∧Hid (AtPar l k ms))
 case atStart=>exact⟨0,[],0,by omega,rfl,rfl,HS0.out.drewN _,AtPar.start l⟩
 case round=>
  obtain⟨k,ms,n,hkr,rfl,hn,hS,hat⟩:=hrel;obtain⟨G,rfl⟩:∃G,G=gk:=⟨_,rfl⟩;obtain⟨wo,rfl⟩:∃wo,wo=wr:=⟨_,rfl⟩;obtain⟨A,cp,rfl,hnc,hcp⟩:=zZ hS.out.own;have hsl:=HL.out;have hlt8:n≤8:=by have:=zDw hat.out.2.1;rw[←hat.out.2.2,hn.out]at this;exact this
  by_cases hlt:k < l.length
  · have hks:k < s.size:=by omega
    have hgk:=(HG.out k hks hlt).2;obtain⟨d,hdd⟩:∃d,s[k].toNat=d+48:=⟨s[k].toNat - 48,by omega⟩;have HDD:=zD hdd;have HDD':l[k].toNat=d+48:=by rw[←(HG.out k hks hlt).1,hdd]
    have HDD':=zD HDD';have hcl:(s[k].toNat:Int)=(d:Int)+48:=by omega
    have hd9:d≤9:=by omega
    clear hdd hsl;go_wp2_with fail
    go_loopg [8,43] n (fun r c8 i43 wi=>∃(j c:Nat) (outs:List Nat),j+r=n∧c8=.int .u64 c∧i43=.int .i64 j∧c≤9∧Hid (PaS w wi (.slice A n cp) n (zCP ms outs))∧Hid (AtMul ms d j c outs))
    case atStart=>exact⟨0,d,[],by omega,rfl,rfl,hd9,hS,AtMul.start ms d⟩
    case round=>
     obtain⟨j,c,outs,hjr,rfl,rfl,hc9,hSi,hatm⟩:=hrel
     by_cases hjn:j < n
     · have hn0:0 < n:=by omega
       obtain⟨g,cap,hv,hgb,hgl⟩:=hSi.out.own.form hn0;injection hv with hA _ hcap;subst hA hcap;have hol:outs.length=j:=hatm.out.1;have hml:ms.length=n:=hn.out;have hjm:j < ms.length:=by omega
       have hxl:=zEo (zr (l.take k)) ms[j] (by rw[←hat.out.2.2];exact List.getElem_mem hjm);have hce:wr.cell? ⟨g,j,none⟩=some (.int .u32 (ms[j]:Int)):=by
        rw[hSi.out.own.cellAt j (by omega)];subst hol;have h1:=zHM hjm;simp only[zCJ,List.getElem?_map,h1];rfl
       have hfr:=hSi.out.own.frozenAt j;have hset:=zD (fun x:Nat=>zHN (ms:=ms) (outs:=outs) (by omega) x);have hstep:=zD (hatm.out.step hjm);obtain⟨x,hx⟩:∃x,ms[j]=x:=⟨_,rfl⟩;rw[hx]at hce hstep hxl;have hxi:(x:Int)≤4294967295:=by omega
       have HOL:=zD hol;clear hx hol hml hxl;go_wp2_with fail
       go_roundg (gk - 1)
       case measure=>omega
       case rel=>
        refine⟨j+1,(c+10*x) / 4294967296,outs++[(c+10*x) % 4294967296],by omega,congrArg (Value.int .u64) (by omega),by go_num,by omega,?_,hstep.out⟩;have hst:=hSi.out.own.stored j (.int .u32 (((c+10*x) % 4294967296:Nat):Int));have h1:=hst.1;rw[zPR,show j=outs.length from HOL.out.symm,hset.out]at h1;have h2:=hSi.out.grown (by rw[show j=outs.length from HOL.out.symm]at hst;exact hst.2) h1;have e:(((c+10*x) % 4294967296:Nat):Int)=((c:Int)+10*(x:Int)) % 4294967296:=by omega
        rw[e,HOL.out]at h2;exact h2
     · obtain rfl:j=n:=by omega
       have hlen:outs.length=ms.length:=by rw[hatm.out.1,hn.out]
       have hmo:zCP ms outs=outs:=by unfold zCP;rw[hlen,List.drop_length,List.append_nil]
       have hdone:=(show AtMul ms d ms.length c outs by have:=hatm.out;rwa [←hn.out]at this).done;have hSo:=zD (show PaS w wr (.slice A j cp) j outs by have:=hSi.out;rwa [hmo]at this);have hst:=hat.out.step hlt HDD'.out hd9 hdone;obtain⟨zs,hzs⟩:∃z,zBC (outs++[c])=z:=⟨_,rfl⟩;obtain⟨m,hm⟩:∃m,zs.length=m:=⟨_,rfl⟩;have hmj:m≤j+1:=by
        have:=zLv (outs++[c]);rw[hzs,hm,List.length_append,hatm.out.1]at this;exact this
       rw[hzs]at hst;have HZS:=zD hzs;have HM:=zD hm;have HST:=zD hst;have HOL:=zD (show outs.length=j from hatm.out.1);have hbase:w.heap.size+1≤wr.heap.size:=hSo.out.res.1;have hlz:∀v:World,v.heap.size=v.heap.size:=fun _=>rfl;clear hlz hzs hm hst hlen hmo hdone hSi hS hatm
       by_cases h8:m≤8
       · go_wp2_with (at_builtin;refine zDk rfl _ _ 40 rfl 87 i0 _ 1 4 underlying40 hi0 hz0 hz1 hz2 rfl (by decide) (w.heap.size+1) hbase (.slice A j cp) (zCJ outs) j rfl hSo.out.own [.int .u32 (c:Int)] 1 1 rfl rfl rfl (by omega) (by omega) ?_;intro v' w' ho hgr;obtain⟨Av,cv,rfl,hcv1,hcv2⟩:=zZ ho);have hrd:=zD (Reads.of_own (by rw[zEp outs [c] |>.symm];exact ho):Reads w' w'.heap.size 1 Av (j+1) (zCJ (outs++[c])));have HP:=zD (hSo.out.trimmed (m:=m) (zs:=zs) hgr (by rw[zEp outs [c] |>.symm];exact ho) HZS.out HM.out hmj);clear ho hgr;refine(zEq (xs:=outs++[c]) (m:=m) (by rw[List.length_append,HOL.out];rfl) hrd.out (by omega) hcv1 hcv2 (by rw[HZS.out,HM.out])).mono ?_;rintro e3 w3 ⟨rfl,rfl⟩;go_wp2_with fail
         go_roundg (G - 1)
         case measure=>omega
         case rel=>exact⟨k+1,zs,m,by omega,by go_num,HM.out,HP.out,AtPar.go hlt HST.out (by rw[HM.out];exact h8)⟩
       · have hov:=zD (AtPar.over HST.out (by rw[HM.out];exact h8));go_wp2_with (at_builtin;refine zDk rfl _ _ 40 rfl 87 i0 _ 1 4 underlying40 hi0 hz0 hz1 hz2 rfl (by decide) (w.heap.size+1) hbase (.slice A j cp) (zCJ outs) j rfl hSo.out.own [.int .u32 (c:Int)] 1 1 rfl rfl rfl (by omega) (by omega) ?_;intro v' w' ho hgr;obtain⟨Av,cv,rfl,hcv1,hcv2⟩:=zZ ho);have hrd:=zD (Reads.of_own (by rw[zEp outs [c] |>.symm];exact ho):Reads w' w'.heap.size 1 Av (j+1) (zCJ (outs++[c])));have HP:=zD (hSo.out.trimmed (m:=m) (zs:=zs) hgr (by rw[zEp outs [c] |>.symm];exact ho) HZS.out HM.out hmj);clear ho hgr;refine(zEq (xs:=outs++[c]) (m:=m) (by rw[List.length_append,HOL.out];rfl) hrd.out (by omega) hcv1 hcv2 (by rw[HZS.out,HM.out])).mono ?_;rintro e3 w3 ⟨rfl,rfl⟩;have hR:=zD HP.out.res;obtain⟨b0,fb0⟩:=hR.out.2 0 (by decide);obtain⟨b1,fb1⟩:=hR.out.2 1 (by decide);go_wp2_with fail;obtain⟨q0,q1⟩:=zET (v0:=.bool false) (v1:=.slice none 0 0) hR.out rfl;refine bodyPost_ret (v:=.tuple #[.agg #[.bool false,.slice none 0 0],.int .i64 3]) (by simp[results,results149,go_sem,q0,q1]) rfl ?_;exact⟨none,0,0,3,rfl,zEU HP.out.below (yAD _),.inr ⟨rfl,hov.out⟩⟩
  · have hke:k=l.length:=by omega
    obtain⟨hv8,hms⟩:=(show AtPar l l.length ms by have:=hat.out;rwa [hke]at this).done;clear hke;have hmt:zBC ms=ms:=by rw[hms];exact zJ6 hv8
    have HMT:=zD hmt;have HV8:=zD hv8;have HMS:=zD hms;have hrd:=zD (Reads.of_own hS.out.own);have hks2:¬k < s.size:=by omega
    clear hmt hv8 hms hat hsl
    by_cases hn0':n=0
    · have hn0:=zD hn0';clear hn0';go_wp2_with fail;refine(zMc hn.out hrd.out (yAD _) (by omega) hnc hcp HMT.out hn0.out).mono ?_;rintro e3 w3 ⟨rfl,hb3⟩;have hP3:=zD (hS.out.below' hb3);clear hb3;obtain⟨b0,fb0⟩:=hP3.out.res.2 0 (by decide);obtain⟨b1,fb1⟩:=hP3.out.res.2 1 (by decide);go_wp2_with fail;obtain⟨q0,q1⟩:=zET (v0:=.bool false) (v1:=.slice none 0 0) hP3.out.res rfl;refine bodyPost_ret (v:=.tuple #[.agg #[.bool false,.slice none 0 0],.int .i64 0]) (by simp[results,results149,go_sem,q0,q1]) rfl ?_;have hnil:zBL (zr l)=[]:=by rw[←HMS.out];exact List.eq_nil_of_length_eq_zero (by rw[hn.out,hn0.out])
      exact⟨none,0,0,0,rfl,zEU hP3.out.below (yAD _),.inl ⟨rfl,HV8.out,by rw[hnil];exact yAK _ _ _ _⟩⟩
    · have hn0:=zD hn0';clear hn0';go_wp2_with fail;refine(zMd hn.out hrd.out (yAD _) (by omega) hnc hcp HMT.out hn0.out).mono ?_;rintro e3 w3 ⟨rfl,hb3⟩;have hP3:=zD (hS.out.below' hb3);clear hb3;obtain⟨b0,fb0⟩:=hP3.out.res.2 0 (by decide);obtain⟨b1,fb1⟩:=hP3.out.res.2 1 (by decide);go_wp2_with fail;obtain⟨q0,q1⟩:=zET (v0:=.bool false) (v1:=.slice A n cp) hP3.out.res rfl;refine bodyPost_ret (v:=.tuple #[.agg #[.bool false,.slice A n cp],.int .i64 0]) (by simp[results,results149,go_sem,q0,q1]) rfl ?_;exact⟨A,n,cp,0,rfl,zEU hP3.out.below (yAD _),.inl ⟨rfl,HV8.out,by rw[←HMS.out,hn.out];exact zAU (zPS hP3.out.own (by omega)) (by omega)⟩⟩
structure BgS (w wr:World) (g:Nat) (A:Option Addr) (n c k R:Nat) (X:Option Addr) (mx cx:Nat):Prop where
 mv:Mv w wr g A n c k
 zero:Blk wr w.heap.size zBE
 box:Blk wr R [.bool false,.slice X mx cx]
theorem BgS.drewN {w wr:World} {g n c k R mx cx:Nat} {A X:Option Addr} (h:BgS w wr g A n c k R X mx cx) (hg:g < w.heap.size) (hR:w.heap.size≤R) (m:Nat):BgS w (wr.drewN m) g A n c k R X mx cx:=
 ⟨h.mv.drewN m,h.zero.grown (zAB wr (some g) m) (by omega),h.box.grown (zAB wr (some g) m) (by omega)⟩
theorem zHO {w:World} {base e n:Nat} {v:Value} {xs:List Value} (h:w.ownsRow base e 1 v n xs) (m:Nat):(w.drewN m).ownsRow base e 1 v n xs:=
 h.kept (row:=none) ⟨rfl,rfl,rfl,yAD _,fun _ _ _=>rfl⟩ (by cases hv:v.ownBlock<;>simp)
theorem zMe {v n e m:Nat} {r:List UInt16} {t:Tok} (h:zFi≤v) (hq:zH6 v n r=(e,t,m)):6=e∧zm=t∧0=m:=by
 unfold zH6 at hq;rw[if_pos h]at hq;exact zBz hq
theorem zJO {v n e m:Nat} {r:List UInt16} {t:Tok} (h:v < zFi) (h2:(zBF 0 zA4 r || zBF 0 zP r)=true) (hq:zH6 v n r=(e,t,m)):5=e∧zm=t∧0=m:=by
 unfold zH6 at hq;rw[if_neg (Nat.not_le.2 h),if_pos h2]at hq;exact zBz hq
theorem zMf {v n e m:Nat} {r:List UInt16} {t:Tok} (h:v < zFi) (h2:(zBF 0 zA4 r || zBF 0 zP r)=false) (hq:zH6 v n r=(e,t,m)):0=e∧{zm with kind:=3,mag:=zBL v}=t∧n+1=m:=by
 unfold zH6 at hq;rw[if_neg (Nat.not_le.2 h),if_neg (by rw[h2];simp)]at hq;exact zFE hq
theorem zIL {A:Option Addr} {c g B k n:Nat} {u:List UInt16} {w:World} {s:ByteArray} {d:List UInt16} (hsd:s.data.toList=asc d) (hd:∀x∈d,zP x=true) (h0:0 < d.length) (hz:d[0]≠48∨d=[48]) (hdl:d.length≤4096)
 (hr:Rd w g A n c k) (hn:u.length=n) (ha:Reads w B 1 A n (zAM u)) (hB:B≤g) (hk:k≤n) (hl:n≤4096) {m e:Nat} {t:Tok} (hq:zH6 (zr d) d.length (u.drop k)=(e,t,m)):
 Calls prog 104 #[.pointer (some ⟨g,0,none⟩),.string s] w fun ev w'=>∃v,ev=.returned (.tuple #[v,.int .i64 (e:Int)])∧(e≠0→v=noV)∧(e=0→zTk w' w.heap.size t v∧Mv w w' g A n c k∧m=d.length+1)∧w.grownBy w' (some g):=by
 have hg:=hr.lt;have HP:=zD (zKS hsd hd h0 hz hdl (w.alloc (.cells zBE.toArray 44)));have HQ:=zD hq;have HA:=zD ha;have HR:=zD hr;obtain⟨b1,hb1⟩:∃b,zBF 0 zA4 (u.drop k)=b:=⟨_,rfl⟩;obtain⟨b2,hb2⟩:∃b,zBF 0 zP (u.drop k)=b:=⟨_,rfl⟩;have HB1:=zD hb1;have HB2:=zD hb2;have HN:=zD hn;clear hq ha hr hsd hd h0 hz hdl hb1 hb2 hn;go_enter func104,ntmps104;go_wp2_with fail;refine HP.out.mono ?_;rintro e1 w1 ⟨X,mx,cx,er,rfl,hbl,hcase⟩;have hsz:w.heap.size+1≤w1.heap.size:=by have:=hbl.size;simpa using this
 have hS:=zD (show BgS w (w1.alloc (.cells #[.bool false,.slice X mx cx] 42)) g A n c k w1.heap.size X mx cx from by
  have hb2:Below w.heap.size w w1:=((Below.refl _ w).alloc (yAD _) _).trans (hbl.mono (by simp));refine⟨⟨(HR.out.below hb2 hg).alloc _,zE (zAT _ hb2) (zI _ _ _)⟩,?_,Blk.new w1 [.bool false,.slice X mx cx] _⟩;exact((Blk.new w zBE 44).below hbl (by simp)).grownR (zI w1 _ none) (by simp))
 have hC:=zD hcase;clear hbl hcase
 by_cases her:er=0
 · have hv8:zr d < zFi:=by
    rcases hC.out with⟨_,h,_⟩ | ⟨h,_⟩
    · exact h
    · omega
   have hown:=zD (show w1.ownsRow (w.alloc (.cells zBE.toArray 44)).heap.size 87 1 (.slice X mx cx) (zBL (zr d)).length (zCJ (zBL (zr d))) by
    rcases hC.out with⟨_,_,h⟩ | ⟨h,_⟩
    · exact h
    · omega)
   have e1:((er:Int) !=0)=false:=by rw[her];rfl
   have HV8:=zD hv8;clear her hC hv8;go_wp2_with fail;refine(zF6 (j:=0) hS.out.mv.rd HN.out (HA.out.grown hS.out.mv.grown hB (Nat.le_of_lt hg)) hk hl (by omega) HB1.out).mono ?_;rintro e3 w3 ⟨rfl,m3,hw3⟩;have hS3:=zD (show BgS w w3 g A n c k w1.heap.size X mx cx by rw[hw3];exact hS.out.drewN hg (by omega) m3);have hO3:=zD (show w3.ownsRow (w.heap.size+1) 87 1 (.slice X mx cx) (zBL (zr d)).length (zCJ (zBL (zr d))) by
    rw[hw3];exact zHO (zAU (hown.out.alloc _) (by simp)) m3)
   clear hw3 m3 hS hown;cases b1 with
   | true=>
    obtain⟨b0,fb0⟩:=hS3.out.zero.2 0 (by decide);obtain⟨b1,fb1⟩:=hS3.out.zero.2 1 (by decide);obtain⟨b2,fb2⟩:=hS3.out.zero.2 2 (by decide);obtain⟨b3,fb3⟩:=hS3.out.zero.2 3 (by decide);obtain⟨b4,fb4⟩:=hS3.out.zero.2 4 (by decide);obtain⟨b5,fb5⟩:=hS3.out.zero.2 5 (by decide);obtain⟨b6,fb6⟩:=hS3.out.zero.2 6 (by decide);obtain⟨b7,fb7⟩:=hS3.out.zero.2 7 (by decide);obtain⟨b8,fb8⟩:=hS3.out.zero.2 8 (by decide);go_wp2_with fail;obtain⟨q0,q1,q2,q3,q4,q5,q6,q7,q8⟩:=zb (v0:=.int .i64 0) (v1:=.string ⟨#[]⟩) (v2:=.slice none 0 0) (v3:=.int .i64 0) (v4:=.int .i64 0) (v5:=.bool false) (v6:=.slice none 0 0) (v7:=.int .i64 0) (v8:=.bool false) hS3.out.zero rfl;refine bodyPost_ret (v:=.tuple #[.agg #[.int .i64 0,.string ⟨#[]⟩,.slice none 0 0,.int .i64 0,.int .i64 0,.bool false,.slice none 0 0,.int .i64 0,.bool false],.int .i64 5]) (by simp[results,results104,go_sem,q0,q1,q2,q3,q4,q5,q6,q7,q8]) rfl ?_;obtain⟨z1,z2,z3⟩:=zJO HV8.out (by rw[HB1.out];rfl) HQ.out;subst z1;exact⟨_,rfl,fun _=>rfl,fun h=>absurd h (by decide),(zy hS3.out.mv (yAD _) hg).grown⟩
   | false=>
    go_wp2_with fail;refine(zAd (j:=0) hS3.out.mv.rd HN.out (HA.out.grown hS3.out.mv.grown hB (Nat.le_of_lt hg)) hk hl (by omega) HB2.out).mono ?_;rintro e4 w4 ⟨rfl,m4,hw4⟩;have hS4:=zD (show BgS w w4 g A n c k w1.heap.size X mx cx by rw[hw4];exact hS3.out.drewN hg (by omega) m4);have hO4:=zD (show w4.ownsRow (w.heap.size+1) 87 1 (.slice X mx cx) (zBL (zr d)).length (zCJ (zBL (zr d))) by
     rw[hw4];exact zHO hO3.out m4)
    clear hw4 m4 hS3 hO3;obtain⟨b0,fb0⟩:=hS4.out.zero.2 0 (by decide);obtain⟨b1,fb1⟩:=hS4.out.zero.2 1 (by decide);obtain⟨b2',fb2⟩:=hS4.out.zero.2 2 (by decide);obtain⟨b3,fb3⟩:=hS4.out.zero.2 3 (by decide);obtain⟨b4,fb4⟩:=hS4.out.zero.2 4 (by decide);obtain⟨b5,fb5⟩:=hS4.out.zero.2 5 (by decide);obtain⟨b6,fb6⟩:=hS4.out.zero.2 6 (by decide);obtain⟨b7,fb7⟩:=hS4.out.zero.2 7 (by decide);obtain⟨b8,fb8⟩:=hS4.out.zero.2 8 (by decide);obtain⟨x0,fx0⟩:=hS4.out.box.2 0 (by simp);obtain⟨x1,fx1⟩:=hS4.out.box.2 1 (by simp);cases b2 with
    | true=>
     go_wp2_with fail;obtain⟨q0,q1,q2,q3,q4,q5,q6,q7,q8⟩:=zb (v0:=.int .i64 0) (v1:=.string ⟨#[]⟩) (v2:=.slice none 0 0) (v3:=.int .i64 0) (v4:=.int .i64 0) (v5:=.bool false) (v6:=.slice none 0 0) (v7:=.int .i64 0) (v8:=.bool false) hS4.out.zero rfl;refine bodyPost_ret (v:=.tuple #[.agg #[.int .i64 0,.string ⟨#[]⟩,.slice none 0 0,.int .i64 0,.int .i64 0,.bool false,.slice none 0 0,.int .i64 0,.bool false],.int .i64 5]) (by simp[results,results104,go_sem,q0,q1,q2,q3,q4,q5,q6,q7,q8]) rfl ?_;obtain⟨z1,z2,z3⟩:=zJO HV8.out (by rw[HB1.out,HB2.out];rfl) HQ.out;subst z1;exact⟨_,rfl,fun _=>rfl,fun h=>absurd h (by decide),(zy hS4.out.mv (yAD _) hg).grown⟩
    | false=>
     go_wp2_with fail;obtain⟨q0,q1,q2,q3,q4,q5,q6,q7,q8⟩:=zb (v0:=.int .i64 3) (v1:=.string ⟨#[]⟩) (v2:=.slice none 0 0) (v3:=.int .i64 0) (v4:=.int .i64 0) (v5:=.bool false) (v6:=.slice X mx cx) (v7:=.int .i64 0) (v8:=.bool false) hS4.out.zero rfl;refine bodyPost_ret (v:=.tuple #[.agg #[.int .i64 3,.string ⟨#[]⟩,.slice none 0 0,.int .i64 0,.int .i64 0,.bool false,.slice X mx cx,.int .i64 0,.bool false],.int .i64 0]) (by simp[results,results104,go_sem,q0,q1,q2,q3,q4,q5,q6,q7,q8]) rfl ?_;obtain⟨z1,z2,z3⟩:=zMf HV8.out (by rw[HB1.out,HB2.out];rfl) HQ.out;subst z1 z2 z3;exact⟨_,rfl,fun h=>absurd rfl h,fun _=>⟨⟨_,_,rfl,yAK _ _ _ _,zAU (zAu hO4.out (by omega)) (by omega)⟩,zy hS4.out.mv (yAD _) hg,rfl⟩,(zy hS4.out.mv (yAD _) hg).grown⟩
 · have hv8:zFi≤zr d:=by
    rcases hC.out with⟨h,_,_⟩ | ⟨_,h⟩
    · omega
    · exact h
   have e1:((er:Int) !=0)=true:=by rw[bne_iff_ne];omega
   have HV8:=zD hv8;clear her hC hv8;obtain⟨b0,fb0⟩:=hS.out.zero.2 0 (by decide);obtain⟨b1',fb1⟩:=hS.out.zero.2 1 (by decide);obtain⟨b2',fb2⟩:=hS.out.zero.2 2 (by decide);obtain⟨b3,fb3⟩:=hS.out.zero.2 3 (by decide);obtain⟨b4,fb4⟩:=hS.out.zero.2 4 (by decide);obtain⟨b5,fb5⟩:=hS.out.zero.2 5 (by decide);obtain⟨b6,fb6⟩:=hS.out.zero.2 6 (by decide);obtain⟨b7,fb7⟩:=hS.out.zero.2 7 (by decide);obtain⟨b8,fb8⟩:=hS.out.zero.2 8 (by decide);go_wp2_with fail;obtain⟨q0,q1,q2,q3,q4,q5,q6,q7,q8⟩:=zb (v0:=.int .i64 0) (v1:=.string ⟨#[]⟩) (v2:=.slice none 0 0) (v3:=.int .i64 0) (v4:=.int .i64 0) (v5:=.bool false) (v6:=.slice none 0 0) (v7:=.int .i64 0) (v8:=.bool false) hS.out.zero rfl;refine bodyPost_ret (v:=.tuple #[.agg #[.int .i64 0,.string ⟨#[]⟩,.slice none 0 0,.int .i64 0,.int .i64 0,.bool false,.slice none 0 0,.int .i64 0,.bool false],.int .i64 6]) (by simp[results,results104,go_sem,q0,q1,q2,q3,q4,q5,q6,q7,q8]) rfl ?_;obtain⟨z1,z2,z3⟩:=zMe HV8.out HQ.out;subst z1;exact⟨_,rfl,fun _=>rfl,fun h=>absurd h (by decide),(zy hS.out.mv (yAD _) hg).grown⟩
theorem zMg {A:Option Addr} {c B n:Nat} {xs:List UInt16} {w:World} (hB:B≤w.heap.size) (hn:xs.length=n) (ha:Reads w B 1 A n (zAM xs)) (hl:n≤4096) {s:ByteArray} {b:Bool} (h1:zFD xs=s) (h2:zBy xs=b):
 Calls prog 108 #[.slice A n c] w fun e w'=>e=.returned (.tuple #[.string s,.bool b])∧Below w.heap.size w w':=by
 subst hn h1 h2;exact zMU hB ha (by omega)
theorem zMh {l:List UInt16} {n:Nat} (h:l.length≤n) (hn:n≤4):zA6 l 4=zA6 l (min 4 l.length):=by
 have hz:∀k,l.length < k→zAc l k=0:=by
  intro k hk;unfold zAc;rw[if_neg];rw[yAJ (by omega:¬k≤l.length)];simp
 have h1:∀k,l.length≤k→zA6 l k=zA6 l l.length:=by
  intro k
  induction k with
  | zero=>
   intro hk;have:l.length=0:=by omega
   rw[this]
  | succ k ih=>
   intro hk
   by_cases e:l.length=k+1
   · rw[e]
   · rw[zA6,if_neg (by rw[hz (k+1) (by omega)];simp)];exact ih (by omega)
 rw[h1 4 (by omega),Nat.min_eq_right (by omega)]
theorem zIM (l:List UInt16):zA6 l 4=zA6 l (min 4 l.length):=by
 by_cases h:l.length≤4
 · exact zMh h (yAD _)
 · rw[Nat.min_eq_left (by omega)]
theorem zEV {l:List UInt16} {n:Nat} (h:zAc l (n+1)=0):zA6 l (n+1)=zA6 l n:=by
 rw[zA6,if_neg (by rw[h];simp)]
theorem zHP {l:List UInt16} {n:Nat} (h:zAc l (n+1)≠0):zA6 l (n+1)=some (n+1):=by
 rw[zA6,if_pos h]
theorem zMi {l:List UInt16} {n:Nat} (hn:n≤l.length):zAc l n=if(zBy (l.take n)&& !(decide (asc (l.take n)=[63,46])&&zBF 2 zP l))=true then zBY (asc (l.take n))else 0:=by
 unfold zAc zBy;rw[decide_eq_true hn,Bool.true_and]
theorem zMj {l:List UInt16} (h:zBy l=true):zFD l=⟨(asc l).toArray⟩:=by
 unfold zFD;rw[if_pos h];rfl
end Go.Proofs.YtlohaclgbfhijaaGreatDoor
