/- Joined for the claim EarlySame: the parser, the lexer and the trees as they are walked, made short by a program of mine. -/
import Derived.Lib.SliceRun
import Derived.Deep.CutBlock
import Derived.Deep.DeepCutAuto
import Derived.Test.YtjlfhidpmdgloaaGreatDoorH01
import Derived.Test.YtjlfhidpmdgloaaGreatDoorH04
import Derived.Test.YtjlfhidpmdgloaaGreatDoorH03
import Derived.Test.YtjlfhidpmdgloaaGreatDoorH13
import Derived.Test.YtjlfhidpmdgloaaGreatDoorH02
import Derived.Laws.OwnMore
import Derived.Deep.LoopGhost
import Derived.Laws.BitsAllLaws
set_option maxHeartbeats 16000000
set_option maxRecDepth 1000000
namespace Go.Proofs.YtjlfhidpmdgloaaGreatDoor
open Go.Proofs.Tryz
open Go.RowKit
variable {Ak A As:jQ} {ck k0 n c B i base size L j:Nat} {ts:List Nd} {a0 a1 t a2:Tr} {xs:List Nat} {ks:List Kd} {e:TypeId} {zs cs:jE} {w':World} {K:Int}
theorem Tryz.info_u32t:(prog.info? 119).map (fun i=>(i.zero,i.size,i.bytes))=some (some (.int .u32 0),1,4):=by kernel_rfl
theorem zVW (l:List Nat):∀u∈zBg l,u.oneCell'=true:=by
 intro u b;obtain⟨n,_,rfl⟩:=List.mem_map.1 b;rfl
theorem zMw {w:World} {b:Nat} {v:Value} {xs:List Value} (h:w.ownsRow base e size v n xs) (hb:b≤base):w.ownsRow b e size v n xs:=by
 refine⟨h.1,?_⟩;rcases h.2 with h1 | ⟨g,cap,c,h1,d,f⟩
 · exact .inl h1
 · exact .inr ⟨g,cap,c,h1,yAD hb d,f⟩
section
variable {P:Program} {w0 w:World} {ops:Array Oper} {rest:List Oper} {o:Oper} {a:Act} {Q:Exit→Act→World→Prop}
theorem zLZ (f:o.guard=none) (s x:Operand) (t:TypeId)
 (g:o.op=.call {callee:=.builtin .append,args:=#[s,x],argTypes:=#[t,t]})
 (e:TypeId) (i:TypeInfo) (z:Value) (bytes:Nat) (ht:P.underlying t=some (.slice e)) (hi:P.info? e=some i) (hz:i.zero=some z)
 (hsize:i.size=1) (hby:i.bytes=bytes) (hzs:z.cells.size=1)
 (v:Value) (xs:List Value) (hs:a.eval s=v) (hm:Made w0 w e v xs)
 (B:Nat) (A:jQ) (m c:Nat) (news:List Value) (hx:a.eval x=.slice A m c) (hr:Reads w B 1 A m news) (h1:∀u∈news,u.oneCell'=true)
 (hsz:xs.length+m≤35184372088832) (hb2:bytes≤4)
 (h:∀v' w',Made w0 w' e v' (xs++news)→wpList P ops Q rest (a.put o.dst v') w'):wpList P ops Q (o::rest) a w:=by
 have j:news.length=m:=by have:=hr.1;omega
 subst j;have b:(xs.length+news.length)*bytes≤140737488355328:=by
  calc (xs.length+news.length)*bytes≤35184372088832*4:=Nat.mul_le_mul hsz hb2
   _≤140737488355328:=by omega
 obtain⟨v',w',d,l,p,_⟩:=zEP (P:=P) w w0.heap.size t o.type e i z 1 bytes ht hi hz hsize hby hzs jo v xs.length xs hm.own B A news.length c news hr h1 (by unfold maxLen;omega) b hm.below.size;refine wpList_plain f fun K q=>?_;unfold Oper.wp execOp;simp only[g,resolve,invoke,builtin,Sem.run_bind,Sem.run_pure,Result.andThen_ok,List.map_toArray,List.map_cons,List.map_nil,hs,hx,d];refine q _ _ (h v' w' ⟨by rw[yAN];exact l,hm.below.grown p hm.below.size (fun k hk=>(hm.own.lt k hk).1)⟩)
end
theorem zOZ {w:World} (k:xs.length=n) (hB:B≤w.heap.size) (f:Reads w B 1 A n (zBg xs)) (z:n≤4096):
 Calls prog 136 #[.slice A n c] w fun e w'=>∃d cp,e=.returned (.slice d n cp)∧w'.ownsRow w.heap.size 119 1 (.slice d n cp) n (zBg xs)∧jY w w':=by
 obtain⟨s,l,m,o,p⟩:=info_parts Tryz.info_u32t;cases A with
 | none=>
  have t:n=0:=by
   rcases yCN n with h | h
   · exact h
   · obtain⟨u,h1,_⟩:=f.2 h;cases h1
  subst t;have v:xs=[]:=yBB k;subst v;refine(Tryz.slices_Clone_nil 0 c w).mono ?_;rintro e w' ⟨rfl,rfl⟩;exact⟨none,0,rfl,yAJ _ _ _ _,Below.refl _ _⟩
 | some u=>
  have q:=zA (f.alloc hB (.cells #[] 119));clear f;have r:=zA (zTN xs);have y:∀(w:World) (a:jQ) (n c g j:Nat),(binOp .eql 53 (.slice a n c) (.slice none g j)).run prog w=.ok (.bool a.isNone) w:=fun w a n c g j=>Lib.run_eql_slice_nil w _ _ a n c g j underlying53;subst k;go_enter func136,ntmps136;go_wp2_with (at_builtin;refine zLZ rfl _ _ 53 rfl 119 s _ 4 underlying53 l m o p rfl _ _ rfl (Made.empty w _) _ _ _ c _ rfl q.out (zVW _) (by simp;omega) jo ?_;intro v' w' b);obtain⟨d,cp,rfl,_,_,_⟩:=b.shape;rw[yAY,r.out];go_ret;exact⟨d,cp,rfl,by have:=b.own;rwa[yAY,r.out]at this,b.below⟩
theorem zMx {w:World} (r:xs.length=n) (q:Reads w B 1 A n (zBg xs)) (hB:B≤w.heap.size) (v:∀y∈xs,y < 4294967296) (j:zBL false xs=true):
 Calls prog 103 #[.agg #[false,.slice A n c]] w fun e w'=>∃k cp,e=.returned (.slice k n cp)∧w'.ownsRow w.heap.size 119 1 (.slice k n cp) n (zBg xs)∧jY w w':=by
 have G:n≤8:=by
  unfold zBL at j;rw[yAQ]at j;have:=yBF j.1;omega
 obtain⟨W,f⟩:=jx (w.alloc (.cells #[false,.slice A n c] 55));have d:jY w W:=jb f;have l:w.heap.size < W.heap.size:=by rw[←f];simp
 have x0:W.cell? w.heap.size=some (.bool false):=jc f;have x1:W.cell? ⟨w.heap.size,1,none⟩=some (.slice A n c):=jc f;have z:=zA (zIR (c:=c) false r (q.below (d.mono hB)) (yAD hB d.size) v j);have m:=zA d;have C:=zA q;obtain⟨X,s⟩:=jx w.heap.size;go_enter func103,ntmps103;go_upto_region 1 with(fail);clear q d f;rw[s]at x0 x1 l;clear s;go_wp2_with fail;refine z.out.mono ?_;rintro e1 w1 ⟨rfl,g⟩;have F:=(g.cell (p:=⟨X,1,none⟩) l).trans x1;have b:=zA (m.out.trans (g.mono m.out.size));have D:=zA (zOZ (c:=c) r (yAD hB b.out.size) (C.out.below (b.out.mono hB)) jo);clear g;go_wp2_with fail;refine D.out.mono ?_;rintro e2 w2 ⟨k,cp,rfl,t,o⟩;have E:=zA (zMw t b.out.size);have u:=zA (b.out.trans (o.mono b.out.size));clear t o;go_wp2_with fail;go_ret;exact⟨k,cp,rfl,E,u⟩
theorem zVX {w:World} (o:xs.length=n) (k:Reads w B 1 A n (zBg xs)) (hB:B≤w.heap.size) (q:∀y∈xs,y < 4294967296) (r:zBL false xs=true):
 Calls prog 105 #[.agg #[false,.slice A n c]] w fun e w'=>e=.returned false∧jY w w':=by
 obtain⟨W,d⟩:=jx (w.alloc (.cells #[false,.slice A n c] 55));have b:jY w W:=jb d;have g:w.heap.size < W.heap.size:=by rw[←d];simp
 have x0:W.cell? w.heap.size=some (.bool false):=jc d;have x1:W.cell? ⟨w.heap.size,1,none⟩=some (.slice A n c):=jc d;have s:=zA (zIR (c:=c) false o (k.below (b.mono hB)) (yAD hB b.size) q r);have j:=zA b;obtain⟨X,l⟩:=jx w.heap.size;go_enter func105,ntmps105;go_upto_region 1 with(fail);clear k b d;rw[l]at x0 x1 g;clear l;go_wp2_with fail;refine s.out.mono ?_;rintro e1 w1 ⟨rfl,f⟩;have t:=(f.cell (p:=X) g).trans x0;have m:=zA (j.out.trans (f.mono j.out.size));clear f;go_wp2_with fail;go_ret;exact⟨rfl,m⟩
def AtRev (zs:jE) (i:Nat) (cs:jE):Prop:=cs.length=zs.length∧2*i≤zs.length∧∀j,j < zs.length→cs[j]? =if j < i∨zs.length≤j+i then zs[zs.length - 1 - j]? else zs[j]?
theorem AtRev.start (zs:jE):AtRev zs 0 zs:=⟨rfl,by omega,fun j b=>by rw[jn]⟩
theorem AtRev.done (h:AtRev zs i cs) (c:zs.length≤2*i+1):cs=zs.reverse:=by
 obtain⟨d,_,hg⟩:=h;apply List.ext_getElem?;intro j
 by_cases b:j < zs.length
 · rw[hg j b,List.getElem?_reverse b];split
   · rfl
   · rw[show zs.length - 1 - j=j by omega]
 · rw[yBC jo,yBC (by simp;omega)]
theorem AtRev.get (h:AtRev zs i cs) (h1:i≤j) (b:j+i < zs.length):cs[j]? =zs[j]? :=by
 rw[h.2.2 j jo,jn]
theorem AtRev.step {a b:UInt8} (h:AtRev zs i cs) (l:i+c+1=zs.length) (g:i < c) (f:cs[i]? =some a) (hb:cs[c]? =some b):AtRev zs (i+1) ((cs.set i b).set c a):=by
 have d:=h.get (yAC i) jo;have e:=h.get (j:=c) jo jo;refine⟨by simp[h.1],by omega,fun k hk=>?_⟩;rw[yCQ,yCQ]
 by_cases e1:c=k
 · subst e1;rw[if_pos rfl,if_pos (by simp;have:=h.1;omega),if_pos jo,show zs.length - 1 - c=i by omega,←d,f]
 · rw[if_neg e1]
   by_cases e2:i=k
   · subst e2;rw[if_pos rfl,if_pos (by have:=h.1;omega),if_pos jo,show zs.length - 1 - i=c by omega,←e,hb]
   · rw[if_neg e2,h.2.2 k hk]
     by_cases e3:k < i∨zs.length≤k+i
     · rw[if_pos e3,if_pos jo]
     · rw[if_neg e3,jn]
theorem zbZ {l:jE} {a:UInt8} (h:l[j]? =some a):(u8s l)[j]? =some (.int .u8 (a.toNat:Int)):=by
 simp[u8s,u8v,h]
theorem zR4 (l:jE) (j:Nat) (a:UInt8):(u8s l).set j (.int .u8 (a.toNat:Int))=u8s (l.set j a):=by
 simp[u8s,u8v,List.map_set]
theorem zVY {g cp:Nat} {w:World} (y:zs.length=n) (D:n≤1000000) (p:w.ownsRow base 5 1 (.slice (some ⟨g,0,none⟩) n cp) n (u8s zs)):
 Calls prog 106 #[.slice (some ⟨g,0,none⟩) n cp] w fun e w'=>e=.returned (.tuple #[])∧w'.ownsRow base 5 1 (.slice (some ⟨g,0,none⟩) n cp) n (u8s zs.reverse)∧w.grownBy w' (some g):=by
 subst y;have z:=zA p;clear p;go_enter func106,ntmps106;go_wp2_with fail
 go_loopg [2,3] zs.length (fun r A B wr=>∃(i:Nat) (f:Int) (cs:jE),A=.int .i64 i∧B=.int .i64 f∧f=(zs.length:Int) - 1 - i∧i+r=zs.length∧Hid (wr.ownsRow base 5 1 (.slice (some ⟨g,0,none⟩) zs.length cp) zs.length (u8s cs))∧Hid (w.grownBy wr (some g))∧Hid (AtRev zs i cs))
 case atStart=>exact⟨0,_,zs,rfl,rfl,by omega,by omega,z,World.grownBy.refl w _,AtRev.start zs⟩
 case round=>
  obtain⟨i,f,cs,rfl,rfl,q,E,c,k,j⟩:=hrel
  by_cases F:(i:Int) < f
  · obtain⟨d,rfl⟩:∃d:Nat,f=(d:Int):=⟨f.toNat,by omega⟩;have s:i+d+1=zs.length:=by omega
    have t:i < d:=by omega
    have u:=j.out.1;obtain⟨a,o⟩:∃a,cs[i]? =some a:=⟨cs[i]' jo,yAB _⟩;obtain⟨b,hb⟩:∃b,cs[d]? =some b:=⟨cs[d]' jo,yAB _⟩;have I:wr.cell? ⟨g,i,none⟩=some (.int .u8 (a.toNat:Int)):=by rw[c.out.cellAt i jo,zbZ o]
    have J:wr.cell? ⟨g,d,none⟩=some (.int .u8 (b.toNat:Int)):=by rw[c.out.cellAt d jo,zbZ hb]
    have L:=c.out.frozenAt i;have M:=c.out.frozenAt d;have v:=zA (j.out.step s t o hb);have G:(i:Int) < (zs.length:Int):=by omega
    have H:(d:Int) < (zs.length:Int):=by omega
    clear q u o hb;go_wp2_with fail;go_region
    all_goals go_wp2
    all_goals go_roundg (gk - 1)
    case measure=>omega
    case rel=>
     have l:=c.out.stored i (.int .u8 (b.toNat:Int));have m:=l.1.stored d (.int .u8 (a.toNat:Int));refine⟨i+1,(d:Int) - 1,(cs.set i b).set d a,by go_num,rfl,by omega,by omega,?_,zC k (zC (zC l.2 m.2) (zAA _ (some g) 1)),v⟩;rw[←zR4,←zR4];exact m.1.drew
  · have C:=j.out.done jo;go_wp2
    go_end0
    exact⟨rfl,by rw[←C];exact c.out,k⟩
theorem zR5 (l:List Nat) (k x:Nat):(zBg l).set k (.int .u32 (x:Int))=zBg (l.set k x):=by
 simp[zBg,List.map_set]
theorem zOa {w:World} {v:Value} {xs:List Value} (h:w.ownsRow base e size v n xs) (hb:jY w w'):w'.ownsRow base e size v n xs:=
 h.kept (row:=none) ⟨hb.os,hb.tape,hb.output,hb.size,fun k hk _=>hb.block k hk⟩ (by cases hv:v.ownBlock<;>simp)
theorem zR6 {w:World} {g:Nat} {xs:List Value} {row:Option Nat} (h:w.ownsRow base e size (.slice (some ⟨g,0,none⟩) n c) n xs) (hg:w.grownBy w' row) (f:some g≠row):w'.ownsRow base e size (.slice (some ⟨g,0,none⟩) n c) n xs:=by
 refine⟨h.1,?_⟩;rcases h.2 with⟨h1,_⟩ | ⟨j,cap,k,h1,hb,b,l⟩
 · cases h1
 · right;refine⟨j,cap,k,h1,hb,?_,l⟩;have e:g=j:=by injection h1 with h1;injection h1 with h1;injection h1
   subst e;rw[hg.block g (by
    rcases yBO g w.heap.size with d | d
    · exact d
    · rw[Array.getElem?_eq_none d]at b;cases b) f]
   exact b
theorem zbH {r x:Nat} (c:r≤9) (b:x < 4294967296):bits .or .u64 (((r*4294967296:Nat)):Int) (x:Int)=((r*4294967296+x:Nat):Int):=by
 have:=u64_or_nat (r*4294967296) x jo jo;rw[this,show r*4294967296=2^32*r by omega,Nat.two_pow_add_eq_or_of_lt b]
theorem zOb {w:World} (hn:xs.length=n) (ha:Reads w B 1 A n (zBg xs)) (hB:B≤w.heap.size) (hl:∀y∈xs,y < 4294967296) (D:zBL false xs=true) (h0:0 < n) (h8:n≤8) (a6:zAe xs=xs) (f5:(zBQ (zB4 xs)).length≤78):
 Calls prog 58 #[.agg #[false,.slice A n c]] w fun e w'=>e=.returned (zBQ (zB4 xs))∧jY w w':=by
 obtain⟨i0,c7,c8,d0,d1⟩:=info_parts Tryz.info_u8;obtain⟨W,N⟩:=jx (w.alloc (.cells #[false,.slice A n c] 55));have j:jY w W:=jb N;have E:w.heap.size < W.heap.size:=by rw[←N];simp
 have x0:W.cell? w.heap.size=some (.bool false):=jc N;have x1:W.cell? ⟨w.heap.size,1,none⟩=some (.slice A n c):=jc N;have CM:=zA (zMx (c:=c) hn (ha.below (j.mono hB)) (yAD hB j.size) hl D);have CG:=zA (fun(w2:World) (hb:jY W w2)=>zVX (c:=c) hn (ha.below ((j.trans (hb.mono j.size)).mono hB)) (yAD hB (j.trans (hb.mono j.size)).size) hl D);have O:=zA j;have HN:=zA hn;have HL:=zA hl;have HT:=zA a6;obtain⟨X,hX⟩:=jx w.heap.size;go_enter func58,ntmps58;go_upto_region 1 with(fail);clear ha j N hl D a6 hn;rw[hX]at x0 x1 E;clear hX;go_wp2_with fail;refine CM.out.mono ?_;rintro e1 w1 ⟨A',cp,rfl,ho,I⟩;obtain⟨g,cap,hv,f7,d2⟩:=ho.form h0;injection hv with hA _ hcap;subst hA hcap;obtain⟨d3,d4⟩:n≤cp∧cp≤maxLen:=by
  obtain⟨_,c9,e9,h1,h2⟩:=zP ho;injection e9 with e91 e92 e93;subst e93;exact⟨h1,h2⟩
 have f8:((n:Int)==0)=false:=yA.2 jo;have y0:=(I.cell (p:=X) E).trans x0;have y1:=(I.cell (p:=⟨X,1,none⟩) E).trans x1;have P:=zA I;have HO:=zA ho;clear I ho;go_wp2_with fail
 go_loopg [3,4] (zB4 xs) (fun r m l wr=>∃(ms:List Nat) (k:Nat) (u:jE),m=.slice (some ⟨g,0,none⟩) k cp∧k≤8∧k≤cp∧Hid (zB4 ms=r)∧Hid (ms.length=k)∧Hid (zAe ms=ms)∧Hid (∀y∈ms,y < 4294967296)∧Hid (wr.ownsRow W.heap.size 119 1 (.slice (some ⟨g,0,none⟩) k cp) k (zBg ms))∧Hid (MadeM w1 wr g 5 l (u8s u))∧Hid (AtTxt (zB4 xs) r u))
 case atStart=>exact⟨xs,n,[],rfl,h8,d3,rfl,HN,HT,HL,HO,MadeM.nil (World.grownBy.refl w1 _) _,AtTxt.start (fun e=>by have h1:=zDn.2 e;rw[HT.out]at h1;have:=HN.out;rw[h1]at this;simp at this;omega)⟩
 case round=>
  obtain⟨ms,k,u,rfl,f9,d5,s,f,a7,Q,R,S,v⟩:=hrel
  by_cases hk:0 < k
  · go_wp2_with fail;obtain⟨G,rfl⟩:∃G,G=gk:=⟨_,rfl⟩;obtain⟨wo,rfl⟩:∃wo,wo=wr:=⟨_,rfl⟩
    go_loopg [5,6] k (fun q rv iv wi=>∃(rr:Nat) (cs:List Nat),rv=.int .u64 rr∧iv=.int .i64 ((q:Int) - 1)∧q≤k∧rr≤9∧Hid (AtDiv ms q rr cs)∧Hid (wi.ownsRow W.heap.size 119 1 (.slice (some ⟨g,0,none⟩) k cp) k (zBg cs))∧Hid (wo.grownBy wi (some g)))
    case atStart=>exact⟨0,ms,rfl,rfl,yAC _,by omega,by rw[←f.out];exact AtDiv.start Q,R,World.grownBy.refl _ _⟩
    case round=>
     obtain⟨rr,cs,rfl,rfl,g0,d6,b,o,T⟩:=hrel
     by_cases g1:0 < gk
     · obtain⟨p,hp⟩:∃p,gk=p+1:=⟨gk - 1,by omega⟩;subst hp;have J:p < ms.length:=by rw[f.out];omega
       have hx:=b.out.get J;have a8:ms[p] < 4294967296:=Q.out _ (yAZ _);have d7:wr.cell? ⟨g,p,none⟩=some (.int .u32 (ms[p]:Int)):=by
        rw[o.out.cellAt p jo,zL6 (by rw[b.out.len];exact J),hx]
       have g3:=o.out.frozenAt p;have L:=zA (b.out.step J);obtain⟨x,a9⟩:=jx (ms[p]);rw[a9]at d7 L a8;obtain⟨t,ht⟩:=jx (rr*4294967296+x);have d8:t < 42949672960:=by omega
       rw[ht]at L;have g4:bits .or .u64 ((rr:Int)*4294967296) (x:Int)=(t:Int):=by
        have:=zbH d6 a8;rw[ht]at this;rw[←this];congr 1
       obtain⟨d,hd⟩:=jx (t / 10);obtain⟨mm,U⟩:=jx (t % 10);have em:(t:Int).tmod 10=(mm:Int):=by rw[←U];rfl
       have g5:(t:Int).tdiv 10=(d:Int):=by rw[←hd];rfl
       have g6:(d:Int)≤4294967295:=by omega
       have d9:mm≤9:=by omega
       rw[hd,U]at L;have ep:((p+1:Nat):Int) - 1=(p:Int):=by omega
       rw[ep];clear hx a9 J ht hd U d8;go_wp2_with fail
       go_roundg p
       case measure=>omega
       case rel=>
        have st:=o.out.stored p (.int .u32 (d:Int));rw[zR5]at st;refine⟨mm,cs.set p d,rfl,rfl,by omega,d9,L,st.1,zC T st.2⟩
     · obtain rfl:gk=0:=by omega
       have e0:=b.out.done;have H:=b.out.len;rw[f.out]at H;have b0:rr=zB4 ms % 10:=by omega
       have b1:zB4 cs=zB4 ms / 10:=by omega
       have V:zB4 ms≠0:=fun e=>by
        have h1:=zDn.2 e;rw[a7.out]at h1;have:=f.out;rw[h1]at this;simp at this;omega
       have Y:=zA (v.out.step (by rw[←s.out];exact V));rw[←s.out]at Y;rw[←b0]at Y;have e2:=zA v.out.len;have g7:(u8s u).length≤78:=by rw[zEU];have:=e2.out;omega
       have b2:=zA (S.out.go d2 T);have e3:some g≠u4.ownBlock:=fun e=>by have:=(b2.out.own.lt g e.symm).1;omega
       have HC:=zA (show u8s [chr (48+rr)]=[.int .u8 (48+(rr:Int))] by
        have:(chr (48+rr)).toNat=48+rr:=zOl jo;simp[u8s,u8v,this])
       have b3:=zA b1;have b4:=zA H;have e4:=zA b.out.lt;have e7:=zA V;clear e0 b0 b1 H V S v b;go_wp2_with (at_builtin;refine zKR rfl _ _ 68 rfl 5 i0 _ 1 underlying68 c7 c8 d0 d1 rfl _ _ rfl b2.out [.int .u8 (48+(rr:Int))] 1 1 rfl rfl rfl jo jo ?_;intro v' w' b5 b6);have a0:=zR6 o b6 e3;obtain⟨m,z⟩:=jx ((zAe cs).length);have e8:m≤k:=by have:=zJI cs;rwa[z,b4.out]at this
       have b7:w'.ownsRow W.heap.size 119 1 (.slice (some ⟨g,0,none⟩) m cp) m (zBg (zAe cs)):=by
        have h1:=zL7 a0 e8;rw[zJK,←z,←zD5]at h1;rw[←z];exact h1
       have CT:=zA (zE3 (xs:=cs) (m:=m) (c:=cp) b4 (Reads.of_own a0) jo d5 d4 z);have f0:=zA b7;have f1:=zA b5;have f2:=zA z;clear a0 b7 b5 b6 z;refine CT.out.mono ?_;rintro e5 w5 ⟨rfl,rfl⟩;go_wp2_with fail
       go_roundg (zB4 (zAe cs))
       case measure=>
        have:=zH8 cs;have h2:=b3.out;have h3:=e7.out;have h4:=s.out;omega
       case rel=>
        refine⟨zAe cs,m,u++[chr (48+rr)],rfl,by omega,by omega,rfl,f2,zOX cs,fun y hy=>e4.out y (zR3 hy),f0,f1.out.cells (by rw[←HC.out];simp[u8s]),?_⟩;have:=Y.out;rwa[←b3.out,←zH8 cs]at this
  · have b8:k=0:=by omega
    have b9:ms=[]:=yBB (by rw[f.out,b8]);have c0:gk=0:=by rw[←s.out,b9];rfl
    rw[c0]at v;have C:=v.out.done;have a1:0 < u.length:=by
     rcases yCN u.length with h | h
     · exfalso;have h1:=congrArg List.length C;rw[List.length_reverse,h]at h1;have h2:0 < (zBQ (zB4 xs)).length:=by
        by_cases c1:zB4 xs < 10
        · rw[zCe c1];simp
        · rw[zDJ c1];simp
       omega
     · exact h
    have a2:u.length≤78:=by have:=congrArg List.length C;rw[List.length_reverse]at this;omega
    have F:=S.out.own;obtain⟨g2,f3,a3,f6,_⟩:=F.form (by rw[zEU];exact a1);rw[zEU]at a3 F;rw[a3]at F;have M:=zA (P.out.grown S.out.grown P.out.size (fun k hk=>by injection hk with hk;omega));have z0:=(M.out.cell (p:=X) E).trans x0;have z1:=(M.out.cell (p:=⟨X,1,none⟩) E).trans x1;have c2:=zA F;have c6:=zA C;have c3:=zA (O.out.trans (M.out.mono O.out.size));have CN:=zA (CG.out wr M);obtain⟨q,D⟩:=jx u.length;subst a3;have HQ:=zA D;rw[D]at a1 a2 c2;subst b8;rw[D];clear b9 c0 C F s f a7 Q R S v D y0 y1 x0 x1;go_wp2_with fail;refine CN.out.mono ?_;rintro e5 w5 ⟨rfl,a4⟩;have CR:=zA (zVY (zs:=u) HQ jo (zOa c2 a4));have c4:=zA (c3.out.trans (a4.mono c3.out.size));clear a4;go_wp2_with fail;refine CR.out.mono ?_;rintro e6 w6 ⟨rfl,a5,c5⟩;rw[c6.out]at a5;have hs:=zEa (c:=f3) (Reads.of_own a5);have f4:=zA (show jY w w6 from c4.out.grown c5 c4.out.size (fun k hk=>by injection hk with hk;have:=P.out.size;have:=O.out.size;omega));clear a5 c5;go_wp2_with fail;go_ret;exact⟨rfl,f4⟩
theorem zOc {w:World} (j:Reads w B 1 A 0 (zBg [])) (hB:B≤w.heap.size):
 Calls prog 58 #[.agg #[false,.slice A 0 c]] w fun e w'=>e=.returned (.string ⟨#[48]⟩)∧jY w w':=by
 obtain⟨W,d⟩:=jx (w.alloc (.cells #[false,.slice A 0 c] 55));have b:jY w W:=jb d;have x0:W.cell? w.heap.size=some (.bool false):=jc d;have x1:W.cell? ⟨w.heap.size,1,none⟩=some (.slice A 0 c):=jc d;have m:=zA (zMx (xs:=[]) (c:=c) rfl (j.below (b.mono hB)) (yAD hB b.size) js (by rfl));have f:=zA b;obtain⟨X,k⟩:=jx w.heap.size;go_enter func58,ntmps58;go_upto_region 1 with(fail);clear j b d;rw[k]at x0 x1;clear k;go_wp2_with fail;refine m.out.mono ?_;rintro e1 w1 ⟨p,cp,rfl,o,g⟩;have l:=zA (f.out.trans (g.mono f.out.size));clear o g;go_wp2_with fail;go_ret;exact⟨rfl,l⟩
theorem zR7 {w:World} (j:xs.length=n) (k:Reads w B 1 A n (zBg xs)) (hB:B≤w.heap.size) (o:∀y∈xs,y < 4294967296) (b:zBL false xs=true) (f:(zBQ (zEW xs)).length≤78):
 Calls prog 58 #[.agg #[false,.slice A n c]] w fun e w'=>e=.returned (zBQ (zEW xs))∧jY w w':=by
 rcases yCN n with g | g
 · subst g;have d:xs=[]:=yBB j;subst d;refine(zOc k hB).mono ?_;rintro e w' ⟨rfl,hb⟩;exact⟨by rw[show zEW []=0 from rfl,zCe jo];rfl,hb⟩
 · have p:n≤8:=by
    unfold zBL at b;rw[yAQ]at b;have:=yBF b.1;omega
   have l:zAe xs=xs:=by
    unfold zBL at b;rw[yAQ]at b;have m:=b.2;cases d:xs.getLast? with
    | none=>rw[List.getLast?_eq_none_iff]at d;subst d;rfl
    | some x=>
     rw[d]at m;exact zOY d (by simpa using m)
   rw[←zR2]at f⊢;exact zOb j k hB o b g p l f
theorem zZi {C:Cx} {us:jH} {v:Value} {w:World} (m:ByteArray) (vs o:Value) (nn:Int) (p:Bool) (z:0≤nn) (h1:nn≤9007199254740991) (q:Pe C us v w) (r:MayPut us ([zBQ nn.toNat])):
 Calls prog 28 #[C,.agg #[(30:Int),.string m,vs,(0:Int),nn,p,o,.slice Ak L ck]] w (PutQ C us v w ([zBQ nn.toNat])):=by
 obtain⟨W,b⟩:=jx (w.alloc (.cells #[(30:Int),.string m,vs,(0:Int),nn,p,o,.slice Ak L ck] 58));have c:jY w W:=jb b;have x0:W.cell? w.heap.size=some (.int .i64 30):=jc b;have A:W.cell? ⟨w.heap.size,3,none⟩=some (.int .i64 0):=jc b;have B:W.cell? ⟨w.heap.size,4,none⟩=some (.int .i64 nn):=jc b;have x7:W.cell? ⟨w.heap.size,7,none⟩=some (.slice Ak L ck):=jc b;have f:=zA (q.below c);have j:=zA c;have D:=zA r;have E:=zA (zI3 nn W z h1 f.out.tab);obtain⟨X,d⟩:=jx w.heap.size;go_enter func28,ntmps28;go_upto_region 1 with(fail);clear q r c;clear b;rw[d]at x0;rw[d]at A;rw[d]at B;rw[d]at x7;clear d;go_wp2_with fail;refine E.out.mono ?_;rintro e1 w1 ⟨rfl,e⟩;have s:=zA (f.out.below e);have t:=zA (j.out.trans (e.mono j.out.size));have F:=zA (zAc s [zBQ nn.toNat] 1 rfl D);clear e;go_wp2_with fail;refine F.out.mono ?_;rintro e2 w2 ⟨rfl,v2,k,l⟩;have u:=zA k;have y:=zA l;clear k l;go_wp2_with fail;exact jr (PutQ.back t ⟨rfl,v2,u,y⟩)
theorem zY0 {C:Cx} {us:jH} {v:Value} {w:World} {d:jE} {b:ByteArray} (h:⟨d.toArray⟩=b) (c:Pe C us v w) (f:MayPut us [d++[110]]):
 Calls prog 52 #[C,.slice (some ⟨w.heap.size,0,none⟩) 1 1] (w.alloc (.cells #[.string (b++⟨#[110]⟩)] 9)) (PutQ C us v w [d++[110]]):=by
 have e:b++⟨#[110]⟩=⟨(d++[110]).toArray⟩:=by
  subst h;apply ByteArray.ext;simp
 rw[e];exact zAc c [d++[110]] 1 rfl f
theorem zZj {C:Cx} {us:jH} {v:Value} {w:World} {cm:Nat} {Am:jQ} {ms:List Nat} (t:ByteArray) (vs:Value) (nk nn:Int) (u:ms.length=j) (p:Reads w C.B 1 Am j (zBg ms)) (z:∀y∈ms,y < 4294967296) (A:zBL false ms=true) (d:(zBQ (zEW ms)).length≤78) (o:Pe C us v w) (D:MayPut us ([zBQ (zEW ms)++[110]])):
 Calls prog 28 #[C,.agg #[(31:Int),.string t,vs,nk,nn,false,.slice Am j cm,.slice Ak L ck]] w (PutQ C us v w ([zBQ (zEW ms)++[110]])):=by
 obtain⟨W,f⟩:=jx (w.alloc (.cells #[(31:Int),.string t,vs,nk,nn,false,.slice Am j cm,.slice Ak L ck] 58));have b:jY w W:=jb f;have x0:W.cell? w.heap.size=some (.int .i64 31):=jc f;have N:W.cell? ⟨w.heap.size,5,none⟩=some (.bool false):=jc f;have O:W.cell? ⟨w.heap.size,6,none⟩=some (.slice Am j cm):=jc f;have x7:W.cell? ⟨w.heap.size,7,none⟩=some (.slice Ak L ck):=jc f;have E:=zA (o.below b);have q:=zA b;have P:=zA D;have F:=zA (zR7 (c:=cm) u (p.below (b.mono (yAM o.blt))) (yAD (yAM o.blt) b.size) z A d);obtain⟨k,e⟩:∃k:ByteArray,⟨(zBQ (zEW ms)).toArray⟩=k:=⟨_,rfl⟩;rw[e]at F;have G:=zA e;have R:k.size≤78:=by rw[←e];simpa [ByteArray.size]using d
 have S:k.toList.length=k.size:=by rw[ByteArray.toList_eq];rfl
 obtain⟨X,l⟩:=jx w.heap.size;go_enter func28,ntmps28;go_upto_region 1 with(fail);clear o D b p u z A d e;clear f;rw[l]at x0;rw[l]at N;rw[l]at O;rw[l]at x7;clear l;go_wp2_with fail;refine F.out.mono ?_;rintro e1 w1 ⟨rfl,m⟩;have H:=zA (E.out.below m);have I:=zA (q.out.trans (m.mono q.out.size));have Q:=zA (zY0 G H P);clear m;go_wp2_with fail;refine Q.out.mono ?_;rintro e2 w2 ⟨rfl,v2,r,s⟩;have J:=zA r;have M:=zA s;clear r s;go_wp2_with fail;exact jr (PutQ.back I ⟨rfl,v2,J,M⟩)
theorem zZk {C:Cx} {us:jH} {v:Value} {w:World} {d cs:Nat} {e:jH} (r:ByteArray) (s:Value) (nk nn:Int) (t:Bool) (u:e.length=d) (y:d≤1000000) (m:Reads w C.B 1 As d (zAC e)) (k:Pe C us v w) (z:MayPut us ([zFq e])):
 Calls prog 28 #[C,.agg #[(32:Int),.string r,.slice As d cs,nk,nn,t,s,.slice Ak L ck]] w (PutQ C us v w ([zFq e])):=by
 obtain⟨W,f⟩:=jx (w.alloc (.cells #[(32:Int),.string r,.slice As d cs,nk,nn,t,s,.slice Ak L ck] 58));have b:jY w W:=jb f;have x0:W.cell? w.heap.size=some (.int .i64 32):=jc f;have H:W.cell? ⟨w.heap.size,2,none⟩=some (.slice As d cs):=jc f;have x7:W.cell? ⟨w.heap.size,7,none⟩=some (.slice Ak L ck):=jc f;have A:=zA (k.below b);have o:=zA b;have I:=zA z;have J:=zA (zH7 (c:=cs) u (yAD (yAM k.blt) b.size) (m.below (b.mono (yAM k.blt))) y);obtain⟨X,l⟩:=jx w.heap.size;go_enter func28,ntmps28;go_upto_region 1 with(fail);clear k z b m u;clear f;rw[l]at x0;rw[l]at H;rw[l]at x7;clear l;go_wp2_with fail;refine J.out.mono ?_;rintro e1 w1 ⟨rfl,j⟩;have D:=zA (A.out.below j);have E:=zA (o.out.trans (j.mono o.out.size));have M:=zA (zAc D [zFq e] 1 rfl I);clear j;go_wp2_with fail;refine M.out.mono ?_;rintro e2 w2 ⟨rfl,v2,p,q⟩;have F:=zA p;have G:=zA q;clear p q;go_wp2_with fail;exact jr (PutQ.back E ⟨rfl,v2,F,G⟩)
theorem zZl {C:Cx} {us:jH} {v:Value} {w:World} {m f cs:Nat} {j:jH} (M:ByteArray) (N:Value) (nk nn:Int) (O:Bool) (hN:zAf C m) (s0:a0.size≤m) (hk:KidsS C w Ak [a0]) (P:j.length=f) (Q:f≤1000000) (t:Reads w C.B 1 As f (zAC j)) (k:Pe C us v w) (R:MayPut us ([zFq j,[58]]++zc (a0.nd.kind,prT a0))):
 Calls prog 28 #[C,.agg #[(40:Int),.string M,.slice As f cs,nk,nn,O,N,.slice Ak 1 ck]] w (PutQ C us v w ([zFq j,[58]]++zc (a0.nd.kind,prT a0))):=by
 obtain⟨b,o,rfl,u⟩:=hk js;obtain⟨W,l⟩:=jx (w.alloc (.cells #[(40:Int),.string M,.slice As f cs,nk,nn,O,N,.slice (some ⟨b,o,none⟩) 1 ck] 58));have d:jY w W:=jb l;have x0:W.cell? w.heap.size=some (.int .i64 40):=jc l;have x2:W.cell? ⟨w.heap.size,2,none⟩=some (.slice As f cs):=jc l;have x7:W.cell? ⟨w.heap.size,7,none⟩=some (.slice (some ⟨b,o,none⟩) 1 ck):=jc l;obtain⟨p0,y,z,A⟩:=(u.below (d.mono (yAM k.blt))) 0 js;have c0:W.cell? ⟨b,o,none⟩=some (.int .i64 (p0:Int)):=A;have S:Hid (At C.ts p0 a0):=y;have HN:=zA hN;have D:=zA (k.below d);have E:=zA d;obtain⟨F,G⟩:=R.two (b:=[zFq j,[58]]) (c:=zc (a0.nd.kind,prT a0)) rfl;have M1:=zA F;have M2:=zA G;have CT:=zA (zH7 (c:=cs) P (yAD (yAM k.blt) d.size) (t.below (d.mono (yAM k.blt))) Q);obtain⟨X,s⟩:=jx w.heap.size;go_enter func28,ntmps28;go_upto_region 1 with(fail);clear k R d t P hN u y A F G;clear l;rw[s]at x0;rw[s]at x2;rw[s]at x7;clear s;go_wp2_with fail;refine CT.out.mono ?_;rintro e1 w1 ⟨rfl,e⟩;have H:=zA (D.out.below e);have T:=zA (E.out.trans (e.mono E.out.size));have L:=((e.mono (yAM D.out.blt)).cell (p:=⟨b,o,none⟩) z).trans c0;have C2:=zA (zAc H [zFq j,[58]] 2 rfl M1);clear e;go_wp2_with fail;refine C2.out.mono ?_;rintro e2 w2 ⟨rfl,v2,q,r⟩;have a2:=zA q;have U:=zA r;have a1:=((H.out.low r).cell (p:=⟨b,o,none⟩) z).trans L;have C3:=zA (zD0 HN s0 S q M2);clear q r;go_wp2_with fail;refine C3.out.mono ?_;rintro e3 w3 ⟨rfl,v3,I,J⟩;have V:=zA I;have Y:=zA (U.out.trans J);clear I J;go_wp2_with fail;refine jr ?_;refine PutQ.back T ⟨rfl,v3,?_,Y⟩;have:=V.out;rwa[←zAZ]at this
def zFK (l:List Tr):Tks:=(prs l).flatMap (·.2)
theorem zIv {l:List Tr} (h:i < l.length):zFK (l.take (i+1))=zFK (l.take i)++prT l[i]:=by
 unfold zFK;rw[yAK h,zCK,zCK,yCR,List.flatMap_append];simp
theorem zVZ (l:List Tr) (i:Nat):∃r,zFK l=zFK (l.take i)++r:=by
 refine⟨zFK (l.drop i),?_⟩;unfold zFK;rw[←List.flatMap_append,zCK,zCK,zCK,←yCR,List.take_append_drop]
theorem MayPut.uptoS {us:jH} {l:List Tr} (h:MayPut us (zFK l)) (hi:i < l.length):MayPut (zC1 us (zFK (l.take i))) (prT l[i]):=by
 obtain⟨r,b⟩:=zVZ l (i+1);rw[zIv hi,yAL]at b;exact((h.of b).app.2).app.1
theorem zbI {C:Cx} {m:Nat} {us:jH} {v:Value} {w:World} (P:ByteArray) (vs Q:Value) (nk nn:Int) (R:Bool) {l:List Tr} (hN:zAf C m) (hs:∀t∈l,t.size≤m) (S:l.length=L) (a5:L≤1000000) (hk:KidsS C w Ak l) (M:Pe C us v w) (T:MayPut us (zFK l)):
 Calls prog 27 #[C,k0,.agg #[(1:Int),.string P,vs,nk,nn,R,Q,.slice Ak L ck]] w (PutQ C us v w (zFK l)):=by
 obtain⟨W,B⟩:=jx (w.alloc (.cells #[(1:Int),.string P,vs,nk,nn,R,Q,.slice Ak L ck] 58));have d:jY w W:=jb B;have x0:W.cell? w.heap.size=some (.int .i64 1):=jc B;have x7:W.cell? ⟨w.heap.size,7,none⟩=some (.slice Ak L ck):=jc B;have D:=zA (hk.below (d.mono (yAM M.blt)));have HS:=zA hs;have HN:=zA hN;have k:=zA S;have q:=zA (M.below d);have E:=zA d;have M2:=zA T;obtain⟨X,U⟩:=jx w.heap.size;go_enter func27,ntmps27;go_upto_region 1 with(fail);clear T M d hN hs hk S;clear B;rw[U]at x0 x7;clear U;go_wp2_with fail
 by_cases N:l=[]
 · subst N;obtain rfl:L=0:=by rw[←k.out];rfl
   go_loopw [23] (fun i wr=>i=.int .i64 0∧wr=W) (fun _ _=>0)
   case atStart=>exact⟨rfl,rfl⟩
   case round=>
    obtain⟨rfl,rfl⟩:=hrel;have r:=zA q;have s:=zA (Pk.refl C.g wr v);have V:=zA (show zFK []=[]from rfl);go_wp2_with fail;refine jr ?_;refine PutQ.back E ⟨rfl,v,?_,s⟩;exact r.out
 obtain⟨b,o,rfl,F⟩:=D.out N;have HK:=zA F;clear F N D
 go_loopw [23] (fun i wr=>∃(j:Nat) (u:Value),j≤L∧i=.int .i64 j∧Hid (Pe C (zC1 us (zFK (l.take j))) u wr)∧Hid (Pk C.g W wr v u)) (fun i _=>L - (intOf i).toNat)
 case atStart=>exact⟨0,v,yAE _,rfl,q,Pk.refl _ _ _⟩
 case round=>
  obtain⟨j,u,hj,rfl,e,f⟩:=hrel
  by_cases Y:j < L
  · have c:j < l.length:=by rw[k.out];exact Y
    obtain⟨p,y,a6,a4⟩:=(HK.out.below (q.out.low f)) j c;have G:=HS.out l[j] (yAZ c);have z:=zA (M2.out.uptoS c);have H:=zA (zIv c);obtain⟨t,ht⟩:=jx (l[j]);rw[ht]at y G z H;have a0:=zA y;obtain⟨O,A⟩:=jx (zC1 us (zFK (l.take j)));rw[A]at e z;have a1:=zA A;clear c y ht A;have C7:=zA (HN.out t p O u wr G a0 e z);go_wp2_with fail;refine C7.out.mono ?_;rintro e3 w3 ⟨rfl,v3,I,J⟩;have a2:=zA I;have a3:=zA (f.out.trans J);clear I J;go_wp2_with fail
    go_roundw
    case rel=>exact⟨j+1,v3,by omega,by go_num,by rw[H.out,zAZ,a1.out];exact a2.out,a3⟩
    case measure=>simp[intOf];omega
  · obtain rfl:L=j:=by omega
    have V:=zA (show zFK (l.take L)=zFK l by rw[yB (by rw[k.out];omega)]);have r:=zA e;have s:=zA f;clear e f;go_wp2_with fail;refine jr ?_;refine PutQ.back E ⟨rfl,u,?_,s⟩;have:=r.out;rwa[V.out]at this
theorem zbJ {C:Cx} {m:Nat} {us:jH} {v:Value} {w:World} (nb:ByteArray) (vs vm:Value) (nk nn:Int) (ng:Bool) {l:List Tr} (hN:zAf C m) (hs:∀t∈l,t.size≤m) (hL:l.length=L) (a9:L≤1000000) (hk:KidsS C w Ak l) (hp:Pe C us v w) (hm:MayPut us ([[123]]++(zFK l++[[125]]))):
 Calls prog 27 #[C,k0,.agg #[(4:Int),.string nb,vs,nk,nn,ng,vm,.slice Ak L ck]] w (PutQ C us v w ([[123]]++(zFK l++[[125]]))):=by
 obtain⟨W,J⟩:=jx (w.alloc (.cells #[(4:Int),.string nb,vs,nk,nn,ng,vm,.slice Ak L ck] 58));have r:jY w W:=jb J;have x0:W.cell? w.heap.size=some (.int .i64 4):=jc J;have x7:W.cell? ⟨w.heap.size,7,none⟩=some (.slice Ak L ck):=jc J;have s:=zA (hk.below (r.mono (yAM hp.blt)));have HS:=zA hs;have HN:=zA hN;have z:=zA hL;have N:=zA (hp.below r);have O:=zA r;obtain⟨P,Q⟩:=hm.two (b:=[[123]]) (c:=zFK l++[[125]]) rfl;obtain⟨R,S⟩:=Q.app;have M1:=zA P;have M2:=zA R;have M3:=zA S;obtain⟨X,hX⟩:=jx w.heap.size;go_enter func27,ntmps27;go_upto_region 1 with(fail);clear hm hp r hN hs hk hL P Q R S;clear J;rw[hX]at x0 x7;clear hX;have C1:=zA (zAc N [[123]] 1 rfl M1);go_wp2_with fail;refine C1.out.mono ?_;rintro e1 w1 ⟨rfl,v1,T,U⟩;have A:=zA T;have B:=zA U;have s:=zA (s.out.below (N.out.low B));clear T U;go_wp2_with fail
 by_cases hl:l=[]
 · subst hl;obtain rfl:L=0:=by rw[←z.out];rfl
   go_loopw [53] (fun i wr=>i=.int .i64 0∧wr=w1) (fun _ _=>0)
   case atStart=>exact⟨rfl,rfl⟩
   case round=>
    obtain⟨rfl,rfl⟩:=hrel;have d:=zA A;have D:=zA (Pk.refl C.g wr v1);have HE:=zA (show zFK []=[]from rfl);have e:=zA M3;have C9:=zA (zAc d [[125]] 1 rfl e);clear d e;go_wp2_with fail;refine C9.out.mono ?_;rintro e9 w9 ⟨rfl,v9,f,k⟩;have E:=zA f;have F:=zA (B.out.trans (D.out.trans k));clear f k;go_wp2_with fail;refine jr ?_;refine PutQ.back O ⟨rfl,v9,?_,F⟩;have:=E.out;rw[show zC1 (zC1 us [[123]]) ([[125]]:Tks)=zC1 (zC1 (zC1 us [[123]]) (zFK [])) [[125]]from rfl]at this;simp only[←zAZ,yAL]at this;exact this
 obtain⟨b,o,rfl,V⟩:=s.out hl;have HK:=zA V;clear V hl s
 go_loopw [53] (fun i wr=>∃(j:Nat) (M:Value),j≤L∧i=.int .i64 j∧Hid (Pe C (zC1 (zC1 us [[123]]) (zFK (l.take j))) M wr)∧Hid (Pk C.g w1 wr v1 M)) (fun i _=>L - (intOf i).toNat)
 case atStart=>exact⟨0,v1,yAE _,rfl,A,Pk.refl _ _ _⟩
 case round=>
  obtain⟨j,M,hj,rfl,u,y⟩:=hrel
  by_cases a3:j < L
  · have q:j < l.length:=by rw[z.out];exact a3
    obtain⟨p,G,b0,a8⟩:=(HK.out.below (A.out.low y)) j q;have Y:=HS.out l[j] (yAZ q);have H:=zA (M2.out.uptoS q);have a0:=zA (zIv q);obtain⟨t,ht⟩:=jx (l[j]);rw[ht]at G Y H a0;have a4:=zA G;obtain⟨ur,I⟩:=jx (zC1 (zC1 us [[123]]) (zFK (l.take j)));rw[I]at u H;have a5:=zA I;clear q G ht I;have C7:=zA (HN.out t p ur M wr Y a4 u H);go_wp2_with fail;refine C7.out.mono ?_;rintro e3 w3 ⟨rfl,v3,a1,a2⟩;have a6:=zA a1;have a7:=zA (y.out.trans a2);clear a1 a2;go_wp2_with fail
    go_roundw
    case rel=>exact⟨j+1,v3,by omega,by go_num,by rw[a0.out,zAZ,a5.out];exact a6.out,a7⟩
    case measure=>simp[intOf];omega
  · obtain rfl:L=j:=by omega
    have HE:=zA (show zFK (l.take L)=zFK l by rw[yB (by rw[z.out];omega)]);have d:=zA u;have D:=zA y;clear u y;have e:=zA (show MayPut (zC1 (zC1 us [[123]]) (zFK (l.take L))) [[125]]from by rw[HE.out];exact M3.out);have C9:=zA (zAc d [[125]] 1 rfl e);clear d e;go_wp2_with fail;refine C9.out.mono ?_;rintro e9 w9 ⟨rfl,v9,f,k⟩;have E:=zA f;have F:=zA (B.out.trans (D.out.trans k));clear f k;go_wp2_with fail;refine jr ?_;refine PutQ.back O ⟨rfl,v9,?_,F⟩;have:=E.out;rw[HE.out]at this;simp only[←zAZ,yAL]at this;exact this
theorem zZm {C:Cx} {us:jH} {v:Value} {w:World} (c:ByteArray) (vs d vk:Value) (nk nn:Int) (e:Bool) (b:Pe C us v w):
 Calls prog 56 #[C,.agg #[(11:Int),.string c,vs,nk,nn,e,d,vk]] w (PutQ C us v w []):=by
 have f:=zA b;clear b;go_enter func56,ntmps56;go_wp2_with fail;exact jr (PutQ.back (ja) (PutQ.nil (f.out.alloc _)))
theorem zZn {C:Cx} {us:jH} {v:Value} {w:World} (d:ByteArray) (vs e vk:Value) (nk nn:Int) (f:Bool) (j:Pe C us v w):
 Calls prog 27 #[C,k0,.agg #[(11:Int),.string d,vs,nk,nn,f,e,vk]] w (PutQ C us v w []):=by
 have m:=zA j;clear j;have o:=zA (fun(W:World) (hb:jY w W)=>zZm d vs e vk nk nn f (m.out.below hb));go_enter func27,ntmps27;go_wp2_with fail;refine(o.out _ (ja)).mono ?_;rintro e1 w1 ⟨rfl,v1,b,c⟩;have k:=zA b;have l:=zA c;clear b c;go_wp2_with fail;exact jr (PutQ.back (ja) ⟨rfl,v1,k,l⟩)
theorem zbK {C:Cx} {m:Nat} {us:jH} {v:Value} {w:World} (nm:jE) (vs d:Value) (nk nn:Int) (e:Bool) (hN:zAf C m) (f:Pe C us v w) (j:MayPut us ([[59]])):
 Calls prog 27 #[C,k0,.agg #[(2:Int),nm,vs,nk,nn,e,d,.slice Ak 0 ck]] w (PutQ C us v w ([[59]])):=by
 obtain⟨W,X,p,q,r,ps,s,c⟩:=PF.new 2 (.string ⟨nm.toArray⟩) vs (.int .i64 nk) (.int .i64 nn) (.bool e) d (.slice Ak 0 ck) (b:=0) (o:=0) (l:=[]) (rs:=_++[]) hN (fun i hi=>absurd hi (Nat.not_lt_zero _)) f (by rw[yAS];exact j)
 try simp only[yAL]at c
 go_enter func27,ntmps27;go_upto_region 1 with(fail);clear hN f j s p q;have:=c.out.x;go_wp2_with fail;refine(c.out.lit (a:=[[59]]) rfl).mono ?_;rintro e1 w1 ⟨rfl,v1,k⟩;have:=k.out.x;go_wp2_with fail;exact jr (k.out.fin r js)
theorem zbL {C:Cx} {m:Nat} {us:jH} {v:Value} {w:World} (nm:jE) (vs f:Value) (nk nn:Int) (j:Bool) (hN:zAf C m) (s0:a0.size≤m) (hk:KidsS C w Ak [a0]) (k:Pe C us v w) (e:MayPut us ((inP (prT a0))++([[59]]))):
 Calls prog 27 #[C,k0,.agg #[(3:Int),nm,vs,nk,nn,j,f,.slice Ak 1 ck]] w (PutQ C us v w ((inP (prT a0))++([[59]]))):=by
 obtain⟨b,o,rfl,d⟩:=hk js;obtain⟨W,X,r,s,t,ps,l,c⟩:=PF.new 3 (.string ⟨nm.toArray⟩) vs (.int .i64 nk) (.int .i64 nn) (.bool j) f (.slice (some ⟨b,o,none⟩) 1 ck) hN d k (by rw[←yAS (_++_)]at e;exact e);obtain⟨p0,rfl⟩:=ps1 l;simp only[yAL]at c;go_enter func27,ntmps27;go_upto_region 1 with(fail);clear hN d hk k e l r s;have:=c.out.x;have:=c.out.c0;go_wp2_with fail;refine(c.out.pin 0 s0 rfl rfl).mono ?_;rintro e1 w1 ⟨rfl,v1,p⟩;have:=p.out.x;go_wp2_with fail;refine(p.out.lit (a:=[[59]]) rfl).mono ?_;rintro e2 w2 ⟨rfl,v2,q⟩;have:=q.out.x;go_wp2_with fail;exact jr (q.out.fin t js)
theorem zX0 {C:Cx} {m:Nat} {us:jH} {v:Value} {w:World} (nm:jE) (vs d:Value) (nk nn:Int) (e:Bool) (hN:zAf C m) (f:Pe C us v w) (j:MayPut us ([nm])):
 Calls prog 27 #[C,k0,.agg #[(7:Int),nm,vs,nk,nn,e,d,.slice Ak 0 ck]] w (PutQ C us v w ([nm])):=by
 obtain⟨W,X,p,q,r,ps,s,c⟩:=PF.new 7 (.string ⟨nm.toArray⟩) vs (.int .i64 nk) (.int .i64 nn) (.bool e) d (.slice Ak 0 ck) (b:=0) (o:=0) (l:=[]) (rs:=_++[]) hN (fun i hi=>absurd hi (Nat.not_lt_zero _)) f (by rw[yAS];exact j)
 try simp only[yAL]at c
 go_enter func27,ntmps27;go_upto_region 1 with(fail);clear hN f j s p q;have:=c.out.x;go_wp2_with fail;refine(c.out.lit (a:=[nm]) rfl).mono ?_;rintro e1 w1 ⟨rfl,v1,k⟩;have:=k.out.x;go_wp2_with fail;exact jr (k.out.fin r js)
theorem zVa {C:Cx} {m:Nat} {us:jH} {v:Value} {w:World} (nm:jE) (vs j:Value) (nk nn:Int) (k:Bool) (hN:zAf C m) (s0:a0.size≤m) (hk:KidsS C w Ak [a0]) (l:Pe C us v w) (d:MayPut us ([nm]++([[61]]++(inP (prT a0))))):
 Calls prog 27 #[C,k0,.agg #[(7:Int),nm,vs,nk,nn,k,j,.slice Ak 1 ck]] w (PutQ C us v w ([nm]++([[61]]++(inP (prT a0))))):=by
 obtain⟨b,o,rfl,c⟩:=hk js;obtain⟨W,X,s,t,u,ps,p,e⟩:=PF.new 7 (.string ⟨nm.toArray⟩) vs (.int .i64 nk) (.int .i64 nn) (.bool k) j (.slice (some ⟨b,o,none⟩) 1 ck) hN c l (by rw[←yAS (_++_)]at d;exact d);obtain⟨p0,rfl⟩:=ps1 p;simp only[yAL]at e;go_enter func27,ntmps27;go_upto_region 1 with(fail);clear hN c hk l d p s t;have:=e.out.x;go_wp2_with fail;refine(e.out.lit (a:=[nm]) rfl).mono ?_;rintro e1 w1 ⟨rfl,v1,q⟩;have:=q.out.x;go_wp2_with fail;refine(q.out.lit (a:=[[61]]) rfl).mono ?_;rintro e2 w2 ⟨rfl,v2,f⟩;have:=f.out.x;have:=f.out.c0;go_wp2_with fail;refine(f.out.pin 0 s0 rfl rfl).mono ?_;rintro e3 w3 ⟨rfl,v3,r⟩;have:=r.out.x;go_wp2_with fail;exact jr (r.out.fin u js)
theorem zV1 {C:Cx} {q:jE} (S:(K=12∧q=[98,114,101,97,107])∨(K=13∧q=[99,111,110,116,105,110,117,101])) {m:Nat} {us:jH} {v:Value} {w:World} (nm:jE) (vs J:Value) (nk nn:Int) (L:Bool) (hN:zAf C m) (u:Pe C us v w) (M:MayPut us ([q]++((zAl nm)++([[59]])))):
 Calls prog 27 #[C,k0,.agg #[K,nm,vs,nk,nn,L,J,.slice Ak 0 ck]] w (PutQ C us v w ([q]++((zAl nm)++([[59]])))):=by
 obtain⟨W,r⟩:=jx (w.alloc (.cells #[K,nm,vs,nk,nn,L,J,.slice Ak 0 ck] 58));have s:jY w W:=jb r;have d:w.heap.size < W.heap.size:=by rw[←r];simp
 have f:w.heap.size≠C.g:=fun e=>by have:=u.pn.lt;omega
 have j:v.ownBlock≠some w.heap.size:=fun e=>by have:=(u.pn.own.lt _ e).2;omega
 have x0:W.cell? w.heap.size=some (.int .i64 K):=jc r;have x7:W.cell? ⟨w.heap.size,7,none⟩=some (.slice Ak 0 ck):=jc r;have x1:W.cell? ⟨w.heap.size,1,none⟩=some (.string ⟨nm.toArray⟩):=jc r;have N:=zA (u.below s);have O:=zA s;have HN:=zA hN;obtain⟨y,z⟩:=M.two (b:=[q]) (c:=(zAl nm)++([[59]])) rfl;have T:=zA y;obtain⟨A,B⟩:=z.two (b:=zAl nm) (c:=[[59]]) rfl;have U:=zA A;have V:=zA B;obtain⟨X,t⟩:=jx w.heap.size;have Y:=zA (zAc N [q] 1 rfl T);rcases S with⟨rfl,rfl⟩ | ⟨rfl,rfl⟩
 all_goals
  go_enter func27,ntmps27;go_upto_region 1 with(fail);clear M u s hN y z A B;clear r;rw[t]at x0;rw[t]at x7;rw[t]at x1;rw[t]at d f j;clear t;go_wp2_with fail;refine Y.out.mono ?_;rintro e1 w1 ⟨rfl,v1,D,E⟩;have P:=zA D;have k:=zA (E);have a0:=(k.out.cell (p:=X) d f j).trans x0;have a1:=(k.out.cell (p:=⟨X,7,none⟩) d f j).trans x7;have a2:=(k.out.cell (p:=⟨X,1,none⟩) d f j).trans x1;clear D E;have C2:=zA (zH5 P U);go_wp2_with fail;refine C2.out.mono ?_;rintro e2 w2 ⟨rfl,v2,F,G⟩;have Q:=zA F;have l:=zA (k.out.trans G);have a3:=(l.out.cell (p:=X) d f j).trans x0;have a4:=(l.out.cell (p:=⟨X,7,none⟩) d f j).trans x7;have a5:=(l.out.cell (p:=⟨X,1,none⟩) d f j).trans x1;clear F G;have C3:=zA (zAc Q [[59]] 1 rfl V);go_wp2_with fail;refine C3.out.mono ?_;rintro e3 w3 ⟨rfl,v3,H,I⟩;have R:=zA H;have o:=zA (l.out.trans I);have a6:=(o.out.cell (p:=X) d f j).trans x0;have a7:=(o.out.cell (p:=⟨X,7,none⟩) d f j).trans x7;have a8:=(o.out.cell (p:=⟨X,1,none⟩) d f j).trans x1;clear H I;go_wp2_with fail;refine jr ?_;refine PutQ.back O ⟨rfl,v3,?_,o⟩;have:=R.out;simp only[←zAZ,yAL]at this;exact this
theorem zVb {C:Cx} {m:Nat} {us:jH} {v:Value} {w:World} (nm:jE) (vs d:Value) (nk nn:Int) (e:Bool) (hN:zAf C m) (f:Pe C us v w) (j:MayPut us ([[114,101,116,117,114,110]]++([[59]]))):
 Calls prog 27 #[C,k0,.agg #[(14:Int),nm,vs,nk,nn,e,d,.slice Ak 0 ck]] w (PutQ C us v w ([[114,101,116,117,114,110]]++([[59]]))):=by
 obtain⟨W,X,q,r,s,ps,t,c⟩:=PF.new 14 (.string ⟨nm.toArray⟩) vs (.int .i64 nk) (.int .i64 nn) (.bool e) d (.slice Ak 0 ck) (b:=0) (o:=0) (l:=[]) (rs:=_++[]) hN (fun i hi=>absurd hi (Nat.not_lt_zero _)) f (by rw[yAS];exact j)
 try simp only[yAL]at c
 go_enter func27,ntmps27;go_upto_region 1 with(fail);clear hN f j t q r;have:=c.out.x;go_wp2_with fail;refine(c.out.lit (a:=[[114,101,116,117,114,110]]) rfl).mono ?_;rintro e1 w1 ⟨rfl,v1,k⟩;have:=k.out.x;go_wp2_with fail;refine(k.out.lit (a:=[[59]]) rfl).mono ?_;rintro e2 w2 ⟨rfl,v2,p⟩;have:=p.out.x;go_wp2_with fail;exact jr (p.out.fin s js)
theorem zR8 {C:Cx} {m:Nat} {us:jH} {v:Value} {w:World} (nm:jE) (vs j:Value) (nk nn:Int) (k:Bool) (hN:zAf C m) (s0:a0.size≤m) (hk:KidsS C w Ak [a0]) (l:Pe C us v w) (d:MayPut us ([[114,101,116,117,114,110]]++((inP (prT a0))++([[59]])))):
 Calls prog 27 #[C,k0,.agg #[(14:Int),nm,vs,nk,nn,k,j,.slice Ak 1 ck]] w (PutQ C us v w ([[114,101,116,117,114,110]]++((inP (prT a0))++([[59]])))):=by
 obtain⟨b,o,rfl,c⟩:=hk js;obtain⟨W,X,s,t,u,ps,p,e⟩:=PF.new 14 (.string ⟨nm.toArray⟩) vs (.int .i64 nk) (.int .i64 nn) (.bool k) j (.slice (some ⟨b,o,none⟩) 1 ck) hN c l (by rw[←yAS (_++_)]at d;exact d);obtain⟨p0,rfl⟩:=ps1 p;simp only[yAL]at e;go_enter func27,ntmps27;go_upto_region 1 with(fail);clear hN c hk l d p s t;have:=e.out.x;go_wp2_with fail;refine(e.out.lit (a:=[[114,101,116,117,114,110]]) rfl).mono ?_;rintro e1 w1 ⟨rfl,v1,f⟩;have:=f.out.x;have:=f.out.c0;go_wp2_with fail;refine(f.out.pin 0 s0 rfl rfl).mono ?_;rintro e2 w2 ⟨rfl,v2,q⟩;have:=q.out.x;go_wp2_with fail;refine(q.out.lit (a:=[[59]]) rfl).mono ?_;rintro e3 w3 ⟨rfl,v3,r⟩;have:=r.out.x;go_wp2_with fail;exact jr (r.out.fin u js)
theorem zZo {C:Cx} {m:Nat} {us:jH} {v:Value} {w:World} (nm:jE) (vs j:Value) (nk nn:Int) (k:Bool) (hN:zAf C m) (s0:a0.size≤m) (hk:KidsS C w Ak [a0]) (l:Pe C us v w) (d:MayPut us ([[116,104,114,111,119]]++((inP (prT a0))++([[59]])))):
 Calls prog 27 #[C,k0,.agg #[(15:Int),nm,vs,nk,nn,k,j,.slice Ak 1 ck]] w (PutQ C us v w ([[116,104,114,111,119]]++((inP (prT a0))++([[59]])))):=by
 obtain⟨b,o,rfl,c⟩:=hk js;obtain⟨W,X,s,t,u,ps,p,e⟩:=PF.new 15 (.string ⟨nm.toArray⟩) vs (.int .i64 nk) (.int .i64 nn) (.bool k) j (.slice (some ⟨b,o,none⟩) 1 ck) hN c l (by rw[←yAS (_++_)]at d;exact d);obtain⟨p0,rfl⟩:=ps1 p;simp only[yAL]at e;go_enter func27,ntmps27;go_upto_region 1 with(fail);clear hN c hk l d p s t;have:=e.out.x;go_wp2_with fail;refine(e.out.lit (a:=[[116,104,114,111,119]]) rfl).mono ?_;rintro e1 w1 ⟨rfl,v1,f⟩;have:=f.out.x;have:=f.out.c0;go_wp2_with fail;refine(f.out.pin 0 s0 rfl rfl).mono ?_;rintro e2 w2 ⟨rfl,v2,q⟩;have:=q.out.x;go_wp2_with fail;refine(q.out.lit (a:=[[59]]) rfl).mono ?_;rintro e3 w3 ⟨rfl,v3,r⟩;have:=r.out.x;go_wp2_with fail;exact jr (r.out.fin u js)
theorem zZp {C:Cx} {m:Nat} {us:jH} {v:Value} {w:World} (nm:jE) (vs j:Value) (nk nn:Int) (k:Bool) (hN:zAf C m) (s0:a0.size≤m) (hk:KidsS C w Ak [a0]) (l:Pe C us v w) (d:MayPut us ([nm,[58]]++(prT a0))):
 Calls prog 27 #[C,k0,.agg #[(18:Int),nm,vs,nk,nn,k,j,.slice Ak 1 ck]] w (PutQ C us v w ([nm,[58]]++(prT a0))):=by
 obtain⟨b,o,rfl,c⟩:=hk js;obtain⟨W,X,r,s,t,ps,p,e⟩:=PF.new 18 (.string ⟨nm.toArray⟩) vs (.int .i64 nk) (.int .i64 nn) (.bool k) j (.slice (some ⟨b,o,none⟩) 1 ck) hN c l (by rw[←yAS (_++_)]at d;exact d);obtain⟨p0,rfl⟩:=ps1 p;simp only[yAL]at e;go_enter func27,ntmps27;go_upto_region 1 with(fail);clear hN c hk l d p r s;have:=e.out.x;go_wp2_with fail;refine(e.out.lit (a:=[nm,[58]]) rfl).mono ?_;rintro e1 w1 ⟨rfl,v1,f⟩;have:=f.out.x;have:=f.out.c0;go_wp2_with fail;refine(f.out.node 0 s0 rfl rfl).mono ?_;rintro e2 w2 ⟨rfl,v2,q⟩;have:=q.out.x;go_wp2_with fail;exact jr (q.out.fin t js)
theorem zZq {C:Cx} {m:Nat} {us:jH} {v:Value} {w:World} (nm:jE) (vs d:Value) (nk nn:Int) (e:Bool) (hN:zAf C m) (f:Pe C us v w) (j:MayPut us ([nm])):
 Calls prog 27 #[C,k0,.agg #[(20:Int),nm,vs,nk,nn,e,d,.slice Ak 0 ck]] w (PutQ C us v w ([nm])):=by
 obtain⟨W,X,p,q,r,ps,s,c⟩:=PF.new 20 (.string ⟨nm.toArray⟩) vs (.int .i64 nk) (.int .i64 nn) (.bool e) d (.slice Ak 0 ck) (b:=0) (o:=0) (l:=[]) (rs:=_++[]) hN (fun i hi=>absurd hi (Nat.not_lt_zero _)) f (by rw[yAS];exact j)
 try simp only[yAL]at c
 go_enter func27,ntmps27;go_upto_region 1 with(fail);clear hN f j s p q;have:=c.out.x;go_wp2_with fail;refine(c.out.lit (a:=[nm]) rfl).mono ?_;rintro e1 w1 ⟨rfl,v1,k⟩;have:=k.out.x;go_wp2_with fail;exact jr (k.out.fin r js)
theorem PF.clause {C:Cx} {m X b o:Nat} {us:jH} {v0 v u1 vk:Value} {W w:World} {l:List Tr} {ps:List Nat} {dn rs:Tks} (i:Nat) {p:Nat} (F:PF C m us v0 W X b o K u1 vk l ps dn (zr (t.nd.kind,prT t)++rs) v w) (hs:t.size≤m) (c:m≤1000000) (d:ps[i]? =some p) (e:l[i]? =some t):
 Calls prog 99 #[C,p] w (PFq C m us v0 W X b o K u1 vk l ps (dn++zr (t.nd.kind,prT t)) rs):=
 (zLY F.N hs c (F.kids i p t d e).1 F.pe F.put.app.1).mono fun _ _ h=>F.then h
theorem zVc {C:Cx} {m:Nat} {us:jH} {v:Value} {w:World} (nm:jE) (vs l:Value) (nk nn:Int) (p:Bool) (hN:zAf C m) (s0:a0.size≤m) (s1:a1.size≤m) (hk:KidsS C w Ak [a0,a1]) (q:Pe C us v w) (e:MayPut us ([[105,102]]++((inP (prT a0))++(prT a1)))):
 Calls prog 56 #[C,.agg #[(8:Int),nm,vs,nk,nn,p,l,.slice Ak 2 ck]] w (PutQ C us v w ([[105,102]]++((inP (prT a0))++(prT a1)))):=by
 obtain⟨b,o,rfl,d⟩:=hk js;obtain⟨W,X,t,u,y,ps,r,f⟩:=PF.new 8 (.string ⟨nm.toArray⟩) vs (.int .i64 nk) (.int .i64 nn) (.bool p) l (.slice (some ⟨b,o,none⟩) 2 ck) hN d q (by rw[←yAS (_++_)]at e;exact e);obtain⟨p0,p1,rfl⟩:=ps2 r;simp only[yAL]at f;go_enter func56,ntmps56;go_upto_region 1 with(fail);clear hN d hk q e r t u;have:=f.out.x;go_wp2_with fail;refine(f.out.lit (a:=[[105,102]]) rfl).mono ?_;rintro e1 w1 ⟨rfl,v1,j⟩;have:=j.out.x;have:=j.out.c0;go_wp2_with fail;refine(j.out.pin 0 s0 rfl rfl).mono ?_;rintro e2 w2 ⟨rfl,v2,k⟩;have:=k.out.x;have:=k.out.c 1;go_wp2_with fail;refine(k.out.node 1 s1 rfl rfl).mono ?_;rintro e3 w3 ⟨rfl,v3,s⟩;have:=s.out.x;go_wp2_with fail;exact jr (s.out.fin y js)
theorem zOd {C:Cx} {m:Nat} {us:jH} {v:Value} {w:World} (nm:jE) (vs p:Value) (nk nn:Int) (q:Bool) (hN:zAf C m) (s0:a0.size≤m) (s1:a1.size≤m) (y:a2.size≤m) (hk:KidsS C w Ak [a0,a1,a2]) (r:Pe C us v w) (e:MayPut us ([[105,102]]++((inP (prT a0))++((prT a1)++([[101,108,115,101]]++(prT a2)))))):
 Calls prog 56 #[C,.agg #[(8:Int),nm,vs,nk,nn,q,p,.slice Ak 3 ck]] w (PutQ C us v w ([[105,102]]++((inP (prT a0))++((prT a1)++([[101,108,115,101]]++(prT a2)))))):=by
 obtain⟨b,o,rfl,d⟩:=hk js;obtain⟨W,X,z,A,B,ps,s,f⟩:=PF.new 8 (.string ⟨nm.toArray⟩) vs (.int .i64 nk) (.int .i64 nn) (.bool q) p (.slice (some ⟨b,o,none⟩) 3 ck) hN d r (by rw[←yAS (_++_)]at e;exact e);obtain⟨p0,p1,p2,rfl⟩:=ps3 s;simp only[yAL]at f;go_enter func56,ntmps56;go_upto_region 1 with(fail);clear hN d hk r e s z A;have:=f.out.x;go_wp2_with fail;refine(f.out.lit (a:=[[105,102]]) rfl).mono ?_;rintro e1 w1 ⟨rfl,v1,j⟩;have:=j.out.x;have:=j.out.c0;go_wp2_with fail;refine(j.out.pin 0 s0 rfl rfl).mono ?_;rintro e2 w2 ⟨rfl,v2,k⟩;have:=k.out.x;have:=k.out.c 1;go_wp2_with fail;refine(k.out.node 1 s1 rfl rfl).mono ?_;rintro e3 w3 ⟨rfl,v3,t⟩;have:=t.out.x;go_wp2_with fail;refine(t.out.lit (a:=[[101,108,115,101]]) rfl).mono ?_;rintro e4 D ⟨rfl,v4,l⟩;have:=l.out.x;have:=l.out.c 2;go_wp2_with fail;refine(l.out.node 2 y rfl rfl).mono ?_;rintro e5 E ⟨rfl,v5,u⟩;have:=u.out.x;go_wp2_with fail;exact jr (u.out.fin B js)
theorem zbM {C:Cx} {m:Nat} {us:jH} {v:Value} {w:World} (nm:jE) (vs l:Value) (nk nn:Int) (p:Bool) (hN:zAf C m) (s0:a0.size≤m) (s1:a1.size≤m) (hk:KidsS C w Ak [a0,a1]) (q:Pe C us v w) (e:MayPut us ([[119,104,105,108,101]]++((inP (prT a0))++(prT a1)))):
 Calls prog 56 #[C,.agg #[(9:Int),nm,vs,nk,nn,p,l,.slice Ak 2 ck]] w (PutQ C us v w ([[119,104,105,108,101]]++((inP (prT a0))++(prT a1)))):=by
 obtain⟨b,o,rfl,d⟩:=hk js;obtain⟨W,X,t,u,y,ps,r,f⟩:=PF.new 9 (.string ⟨nm.toArray⟩) vs (.int .i64 nk) (.int .i64 nn) (.bool p) l (.slice (some ⟨b,o,none⟩) 2 ck) hN d q (by rw[←yAS (_++_)]at e;exact e);obtain⟨p0,p1,rfl⟩:=ps2 r;simp only[yAL]at f;go_enter func56,ntmps56;go_upto_region 1 with(fail);clear hN d hk q e r t u;have:=f.out.x;go_wp2_with fail;refine(f.out.lit (a:=[[119,104,105,108,101]]) rfl).mono ?_;rintro e1 w1 ⟨rfl,v1,j⟩;have:=j.out.x;have:=j.out.c0;go_wp2_with fail;refine(j.out.pin 0 s0 rfl rfl).mono ?_;rintro e2 w2 ⟨rfl,v2,k⟩;have:=k.out.x;have:=k.out.c 1;go_wp2_with fail;refine(k.out.node 1 s1 rfl rfl).mono ?_;rintro e3 w3 ⟨rfl,v3,s⟩;have:=s.out.x;go_wp2_with fail;exact jr (s.out.fin y js)
theorem zZr {C:Cx} {m:Nat} {us:jH} {v:Value} {w:World} (nm:jE) (vs r:Value) (nk nn:Int) (s:Bool) {a3:Tr} (hN:zAf C m) (s0:a0.size≤m) (s1:a1.size≤m) (D:a2.size≤m) (E:a3.size≤m) (hk:KidsS C w Ak [a0,a1,a2,a3]) (t:Pe C us v w) (d:m≤1000000) (f:MayPut us ([[102,111,114],[40]]++((zr (a0.nd.kind,prT a0))++([[59]]++((zr (a1.nd.kind,prT a1))++([[59]]++((zr (a2.nd.kind,prT a2))++([[41]]++(prT a3))))))))):
 Calls prog 56 #[C,.agg #[(10:Int),nm,vs,nk,nn,s,r,.slice Ak 4 ck]] w (PutQ C us v w ([[102,111,114],[40]]++((zr (a0.nd.kind,prT a0))++([[59]]++((zr (a1.nd.kind,prT a1))++([[59]]++((zr (a2.nd.kind,prT a2))++([[41]]++(prT a3))))))))):=by
 obtain⟨b,o,rfl,e⟩:=hk js;obtain⟨W,X,F,G,H,ps,u,j⟩:=PF.new 10 (.string ⟨nm.toArray⟩) vs (.int .i64 nk) (.int .i64 nn) (.bool s) r (.slice (some ⟨b,o,none⟩) 4 ck) hN e t (by rw[←yAS (_++_)]at f;exact f);obtain⟨p0,p1,p2,p3,rfl⟩:=ps4 u;simp only[yAL]at j;go_enter func56,ntmps56;go_upto_region 1 with(fail);clear hN e hk t f u F G;have:=j.out.x;go_wp2_with fail;refine(j.out.lit (a:=[[102,111,114],[40]]) rfl).mono ?_;rintro e1 w1 ⟨rfl,v1,k⟩;have:=k.out.x;have:=k.out.c0;go_wp2_with fail;refine(k.out.clause 0 s0 d rfl rfl).mono ?_;rintro e2 w2 ⟨rfl,v2,y⟩;have:=y.out.x;go_wp2_with fail;refine(y.out.lit (a:=[[59]]) rfl).mono ?_;rintro e3 w3 ⟨rfl,v3,l⟩;have:=l.out.x;have:=l.out.c 1;go_wp2_with fail;refine(l.out.clause 1 s1 d rfl rfl).mono ?_;rintro e4 I ⟨rfl,v4,z⟩;have:=z.out.x;go_wp2_with fail;refine(z.out.lit (a:=[[59]]) rfl).mono ?_;rintro e5 J ⟨rfl,v5,p⟩;have:=p.out.x;have:=p.out.c 2;go_wp2_with fail;refine(p.out.clause 2 D d rfl rfl).mono ?_;rintro e6 L ⟨rfl,v6,A⟩;have:=A.out.x;go_wp2_with fail;refine(A.out.lit (a:=[[41]]) rfl).mono ?_;rintro e7 M ⟨rfl,v7,q⟩;have:=q.out.x;have:=q.out.c 3;go_wp2_with fail;refine(q.out.node 3 E rfl rfl).mono ?_;rintro e8 N ⟨rfl,v8,B⟩;have:=B.out.x;go_wp2_with fail;exact jr (B.out.fin H js)
theorem zR9 {C:Cx} {m:Nat} {us:jH} {v:Value} {w:World} (nm:jE) (vs q:Value) (nk nn:Int) (r:Bool) (hN:zAf C m) (s0:a0.size≤m) (s1:a1.size≤m) (A:a2.size≤m) (hk:KidsS C w Ak [a0,a1,a2]) (s:Pe C us v w) (t:a2.nd.kind=4) (f:MayPut us ([[116,114,121]]++((prT a0)++((prT a1)++([[102,105,110,97,108,108,121]]++(prT a2)))))):
 Calls prog 56 #[C,.agg #[(16:Int),nm,vs,nk,nn,r,q,.slice Ak 3 ck]] w (PutQ C us v w ([[116,114,121]]++((prT a0)++((prT a1)++([[102,105,110,97,108,108,121]]++(prT a2)))))):=by
 obtain⟨b,o,rfl,e⟩:=hk js;obtain⟨W,X,B,D,E,ps,u,j⟩:=PF.new 16 (.string ⟨nm.toArray⟩) vs (.int .i64 nk) (.int .i64 nn) (.bool r) q (.slice (some ⟨b,o,none⟩) 3 ck) hN e s (by rw[←yAS (_++_)]at f;exact f);obtain⟨p0,p1,p2,rfl⟩:=ps3 u;simp only[yAL]at j;have y:=zA t;go_enter func56,ntmps56;go_upto_region 1 with(fail);clear hN e hk s f u B D t;have:=j.out.x;go_wp2_with fail;refine(j.out.lit (a:=[[116,114,121]]) rfl).mono ?_;rintro e1 w1 ⟨rfl,v1,k⟩;have:=k.out.x;have:=k.out.c0;go_wp2_with fail;refine(k.out.node 0 s0 rfl rfl).mono ?_;rintro e2 w2 ⟨rfl,v2,l⟩;have:=l.out.x;have:=l.out.c 1;go_wp2_with fail;refine(l.out.node 1 s1 rfl rfl).mono ?_;rintro e3 w3 ⟨rfl,v3,d⟩;have:=d.out.x;have:=d.out.c 2;go_wp2_with fail;refine(d.out.kind 2 y rfl rfl).mono ?_;rintro F G ⟨rfl,rfl⟩;have:=d.out.x;go_wp2_with fail;refine(d.out.lit (a:=[[102,105,110,97,108,108,121]]) rfl).mono ?_;rintro e4 H ⟨rfl,v4,p⟩;have:=p.out.x;have:=p.out.c 2;go_wp2_with fail;refine(p.out.node 2 A rfl rfl).mono ?_;rintro e5 I ⟨rfl,v5,z⟩;have:=z.out.x;go_wp2_with fail;exact jr (z.out.fin E js)
theorem zVd {C:Cx} {m:Nat} {us:jH} {v:Value} {w:World} (nm:jE) (vs r:Value) (nk nn:Int) (s:Bool) (hN:zAf C m) (s0:a0.size≤m) (s1:a1.size≤m) (_b:a2.size≤m) (hk:KidsS C w Ak [a0,a1,a2]) (t:Pe C us v w) {j:Int} (u:a2.nd.kind=j) (e:j≠4) (k:MayPut us ([[116,114,121]]++((prT a0)++(prT a1)))):
 Calls prog 56 #[C,.agg #[(16:Int),nm,vs,nk,nn,s,r,.slice Ak 3 ck]] w (PutQ C us v w ([[116,114,121]]++((prT a0)++(prT a1)))):=by
 obtain⟨b,o,rfl,f⟩:=hk js;obtain⟨W,X,A,B,D,ps,y,l⟩:=PF.new 16 (.string ⟨nm.toArray⟩) vs (.int .i64 nk) (.int .i64 nn) (.bool s) r (.slice (some ⟨b,o,none⟩) 3 ck) hN f t (by rw[←yAS (_++_)]at k;exact k);obtain⟨p0,p1,p2,rfl⟩:=ps3 y;simp only[yAL]at l;have z:=zA u;have e4:(j==4)=false:=yA.2 e;go_enter func56,ntmps56;go_upto_region 1 with(fail);clear hN f hk t k y A B u e;have:=l.out.x;go_wp2_with fail;refine(l.out.lit (a:=[[116,114,121]]) rfl).mono ?_;rintro e1 w1 ⟨rfl,v1,p⟩;have:=p.out.x;have:=p.out.c0;go_wp2_with fail;refine(p.out.node 0 s0 rfl rfl).mono ?_;rintro e2 w2 ⟨rfl,v2,q⟩;have:=q.out.x;have:=q.out.c 1;go_wp2_with fail;refine(q.out.node 1 s1 rfl rfl).mono ?_;rintro e3 w3 ⟨rfl,v3,d⟩;have:=d.out.x;have:=d.out.c 2;go_wp2_with fail;refine(d.out.kind 2 z rfl rfl).mono ?_;rintro E F ⟨rfl,rfl⟩;have:=d.out.x;go_wp2_with fail;exact jr (d.out.fin D js)
theorem zVe {C:Cx} {m:Nat} {us:jH} {v:Value} {w:World} (vs j:Value) (nk nn:Int) (k:Bool) (hN:zAf C m) (s0:a0.size≤m) (hk:KidsS C w Ak [a0]) (l:Pe C us v w) (d:MayPut us ([[99,97,116,99,104]]++(prT a0))):
 Calls prog 56 #[C,.agg #[(17:Int),"",vs,nk,nn,k,j,.slice Ak 1 ck]] w (PutQ C us v w ([[99,97,116,99,104]]++(prT a0))):=by
 obtain⟨b,o,rfl,c⟩:=hk js;obtain⟨W,X,r,s,t,ps,p,e⟩:=PF.new 17 (.string ⟨#[]⟩) vs (.int .i64 nk) (.int .i64 nn) (.bool k) j (.slice (some ⟨b,o,none⟩) 1 ck) hN c l (by rw[←yAS (_++_)]at d;exact d);obtain⟨p0,rfl⟩:=ps1 p;simp only[yAL]at e;go_enter func56,ntmps56;go_upto_region 1 with(fail);clear hN c hk l d p r s;have:=e.out.x;go_wp2_with fail;refine(e.out.lit (a:=[[99,97,116,99,104]]) rfl).mono ?_;rintro e1 w1 ⟨rfl,v1,f⟩;have:=f.out.x;have:=f.out.c0;go_wp2_with fail;refine(f.out.node 0 s0 rfl rfl).mono ?_;rintro e2 w2 ⟨rfl,v2,q⟩;have:=q.out.x;go_wp2_with fail;exact jr (q.out.fin t js)
theorem zCy (l:List Tr) (a:Tr):(prs (l++[a])).dropLast=prs l∧kd (prs (l++[a])) ((prs (l++[a])).length - 1)=(a.nd.kind,prT a):=by
 have e:prs (l++[a])=prs l++[(a.nd.kind,prT a)]:=by rw[zCK,zCK,yCR];rfl
 rw[e];refine⟨by simp,?_⟩;unfold kd;simp
structure Nx (C:Cx) (m k:Nat) (x:Nd) (l:List Tr) (s:NdSl) (w:World):Prop where
 hN:zAf C m
 at_:At C.ts k (.mk x l)
 hs:∀t∈l,t.size≤m
 cnt:Cnt x.kind l.length
 fields:zL x=true
 h6:l.length≤1000000
 m6:m≤1000000
 hk:KidsS C w s.Ak l
 ck:l.length≤s.ck
 kin:1≤x.kind
def ndA (x:Nd) (l:List Tr) (s:NdSl):Value:=.agg #[x.kind,x.name,.slice s.As x.str.length s.cs,x.nk,x.nn,x.neg,.slice s.Am x.mag.length s.cm,.slice s.Ak l.length s.ck]
def StQ (C:Cx) (m k:Nat) (x:Nd) (l:List Tr) (s:NdSl) (us:jH) (v:Value) (w:World) (K:Int):Prop:=Nx C m k x l s w→x.kind=K→Pe C us v w→MayPut us (zt x (prs l))→Calls prog 27 #[C,k,ndA x l s] w (PutQ C us v w (zt x (prs l)))
section
variable {C:Cx} {m k:Nat} {x:Nd} {l:List Tr} {s:NdSl} {us:jH} {v:Value} {w:World}
theorem Nx.below (h:Nx C m k x l s w) (hb:Below C.B w w'):Nx C m k x l s w':={h with hk:=h.hk.below hb}
theorem zHI (h:l.length=0):l=[]:=yCT.1 h
theorem zHJ (h:l.length=1):∃a,l=[a]:=List.length_eq_one_iff.1 h
theorem zOe (h:l.length=2):∃a b,l=[a,b]:=by
 match l,h with
 | [a,b],_=>exact⟨a,b,rfl⟩
theorem zX1 (h:l.length=3):∃a b c,l=[a,b,c]:=by
 match l,h with
 | [a,b,c],_=>exact⟨a,b,c,rfl⟩
theorem zZs (h:l.length=4):∃a b c d,l=[a,b,c,d]:=by
 match l,h with
 | [a,b,c,d],_=>exact⟨a,b,c,d,rfl⟩
theorem zX2 (h:1≤l.length):∃r a,l=r++[a]:=⟨l.dropLast,l.getLast (by intro e;subst e;simp at h),(List.dropLast_concat_getLast _).symm⟩
end
theorem zbN {C:Cx} {m k:Nat} {x:Nd} {l:List Tr} {s:NdSl} {us:jH} {v:Value} {w:World}:StQ C m k x l s us v w 1:=fun h b d c=>by
 have e:zt x (prs l)=zFK l:=by unfold zt;rw[b];rfl
 rw[e]at c⊢;unfold ndA;rw[b];exact zbI _ _ _ _ _ _ h.hN h.hs rfl h.h6 h.hk d c
theorem zbO {C:Cx} {m k:Nat} {x:Nd} {l:List Tr} {s:NdSl} {us:jH} {v:Value} {w:World}:StQ C m k x l s us v w 2:=fun h b d c=>by
 obtain rfl:=zHI (h.cnt.none_ jo);have e:zt x (prs [])=[[59]]:=by unfold zt;rw[b,zU];rfl
 rw[e]at c⊢;unfold ndA;rw[b];exact zbK x.name _ _ _ _ _ h.hN d c
theorem zbP {C:Cx} {m k:Nat} {x:Nd} {l:List Tr} {s:NdSl} {us:jH} {v:Value} {w:World}:StQ C m k x l s us v w 3:=fun h b d c=>by
 obtain⟨a0,rfl⟩:=zHJ (h.cnt.one jo);have e:zt x (prs [a0])=(inP (prT a0))++([[59]]):=by unfold zt;rw[b,zI,zU];rfl
 rw[e]at c⊢;unfold ndA;rw[b];exact zbL x.name _ _ _ _ _ h.hN (h.hs a0 js) h.hk d c
theorem zbQ {C:Cx} {m k:Nat} {x:Nd} {l:List Tr} {s:NdSl} {us:jH} {v:Value} {w:World}:StQ C m k x l s us v w 4:=fun h b d c=>by
 have e:zt x (prs l)=[[123]]++(zFK l++[[125]]):=by unfold zt;rw[b];rfl
 rw[e]at c⊢;unfold ndA;rw[b];exact zbJ _ _ _ _ _ _ h.hN h.hs rfl h.h6 h.hk d c
theorem zbR {C:Cx} {m k:Nat} {x:Nd} {l:List Tr} {s:NdSl} {us:jH} {v:Value} {w:World}:StQ C m k x l s us v w 5:=fun h b d c=>by
 have e:zt x (prs l)=zBI x (prs l)++[[59]]:=by unfold zt;rw[b];rfl
 rw[e]at c⊢;unfold ndA;rw[b];exact zYz (K:=5) jd _ _ _ _ _ _ h.hN h.hs h.at_ jo rfl h.h6 h.hk d c
theorem zbS {C:Cx} {m k:Nat} {x:Nd} {l:List Tr} {s:NdSl} {us:jH} {v:Value} {w:World}:StQ C m k x l s us v w 6:=fun h b d c=>by
 have e:zt x (prs l)=zBI x (prs l)++[[59]]:=by unfold zt;rw[b];rfl
 rw[e]at c⊢;unfold ndA;rw[b];exact zYz (K:=6) jd _ _ _ _ _ _ h.hN h.hs h.at_ jo rfl h.h6 h.hk d c
theorem zbT {C:Cx} {m k:Nat} {x:Nd} {l:List Tr} {s:NdSl} {us:jH} {v:Value} {w:World}:StQ C m k x l s us v w 7:=fun h b d c=>by
 have h1:=h.cnt.opt jo
 by_cases f:l.length=0
 · obtain rfl:=zHI f;have e:zt x (prs [])=[x.name]:=by unfold zt;rw[b,zU];rfl
   rw[e]at c⊢;unfold ndA;rw[b];exact zX0 x.name _ _ _ _ _ h.hN d c
 · obtain⟨a0,rfl⟩:=zHJ (show l.length=1 by omega);have e:zt x (prs [a0])=[x.name]++([[61]]++(inP (prT a0))):=by unfold zt;rw[b,zI,zU];rfl
   rw[e]at c⊢;unfold ndA;rw[b];exact zVa x.name _ _ _ _ _ h.hN (h.hs a0 js) h.hk d c
theorem zbU {C:Cx} {m k:Nat} {x:Nd} {l:List Tr} {s:NdSl} {us:jH} {v:Value} {w:World}:StQ C m k x l s us v w 8:=fun h b c d=>by
 rcases h.cnt.if_ b with h1 | h1
 · obtain⟨a0,a1,rfl⟩:=zOe h1;have e:zt x (prs [a0,a1])=[[105,102]]++((inP (prT a0))++(prT a1)):=by unfold zt;rw[b,zI,zI,zU];simp[kd,inP]
   rw[e]at d⊢;unfold ndA;rw[b];exact zIt (K:=8) jd _ _ _ _ _ _ _ fun W hb=>zVc x.name _ _ _ _ _ h.hN (h.hs a0 js) (h.hs a1 js) (h.below (hb.mono (yAM c.blt))).hk (c.below hb) d
 · obtain⟨a0,a1,a2,rfl⟩:=zX1 h1;have e:zt x (prs [a0,a1,a2])=[[105,102]]++((inP (prT a0))++((prT a1)++([[101,108,115,101]]++(prT a2)))):=by unfold zt;rw[b,zI,zI,zI,zU];rfl
   rw[e]at d⊢;unfold ndA;rw[b];exact zIt (K:=8) jd _ _ _ _ _ _ _ fun W hb=>zOd x.name _ _ _ _ _ h.hN (h.hs a0 js) (h.hs a1 js) (h.hs a2 js) (h.below (hb.mono (yAM c.blt))).hk (c.below hb) d
theorem zbV {C:Cx} {m k:Nat} {x:Nd} {l:List Tr} {s:NdSl} {us:jH} {v:Value} {w:World}:StQ C m k x l s us v w 9:=fun h b c d=>by
 obtain⟨a0,a1,rfl⟩:=zOe (h.cnt.two jo);have e:zt x (prs [a0,a1])=[[119,104,105,108,101]]++((inP (prT a0))++(prT a1)):=by unfold zt;rw[b,zI,zI,zU];rfl
 rw[e]at d⊢;unfold ndA;rw[b];exact zIt (K:=9) jd _ _ _ _ _ _ _ fun W hb=>zbM x.name _ _ _ _ _ h.hN (h.hs a0 js) (h.hs a1 js) (h.below (hb.mono (yAM c.blt))).hk (c.below hb) d
theorem zZt {C:Cx} {m k:Nat} {x:Nd} {l:List Tr} {s:NdSl} {us:jH} {v:Value} {w:World}:StQ C m k x l s us v w 10:=fun h b c d=>by
 obtain⟨a0,a1,a2,a3,rfl⟩:=zZs (h.cnt.four jo);have e:zt x (prs [a0,a1,a2,a3])=[[102,111,114],[40]]++((zr (a0.nd.kind,prT a0))++([[59]]++((zr (a1.nd.kind,prT a1))++([[59]]++((zr (a2.nd.kind,prT a2))++([[41]]++(prT a3))))))):=by unfold zt;rw[b,zI,zI,zI,zI,zU];rfl
 rw[e]at d⊢;unfold ndA;rw[b];exact zIt (K:=10) jd _ _ _ _ _ _ _ fun W hb=>zZr x.name _ _ _ _ _ h.hN (h.hs a0 js) (h.hs a1 js) (h.hs a2 js) (h.hs a3 js) (h.below (hb.mono (yAM c.blt))).hk (c.below hb) h.m6 d
theorem zZu {C:Cx} {m k:Nat} {x:Nd} {l:List Tr} {s:NdSl} {us:jH} {v:Value} {w:World} (_h:Nx C m k x l s w) (b:x.kind=11) (c:Pe C us v w) (_b:MayPut us (zt x (prs l))):
 Calls prog 27 #[C,k,ndA x l s] w (PutQ C us v w (zt x (prs l))):=by
 have e:zt x (prs l)=[]:=by unfold zt;rw[b];rfl
 rw[e];unfold ndA;rw[b];exact zZn _ _ _ _ _ _ _ c
theorem zZv {C:Cx} {m k:Nat} {x:Nd} {l:List Tr} {s:NdSl} {us:jH} {v:Value} {w:World}:StQ C m k x l s us v w 12:=fun h b d c=>by
 obtain rfl:=zHI (h.cnt.none_ jo);have e:zt x (prs [])=[[98,114,101,97,107]]++((zAl x.name)++([[59]])):=by unfold zt;rw[b,zU];rfl
 rw[e]at c⊢;unfold ndA;rw[b];exact zV1 (K:=12) jd x.name _ _ _ _ _ h.hN d c
theorem zZw {C:Cx} {m k:Nat} {x:Nd} {l:List Tr} {s:NdSl} {us:jH} {v:Value} {w:World}:StQ C m k x l s us v w 13:=fun h b d c=>by
 obtain rfl:=zHI (h.cnt.none_ jo);have e:zt x (prs [])=[[99,111,110,116,105,110,117,101]]++((zAl x.name)++([[59]])):=by unfold zt;rw[b,zU];rfl
 rw[e]at c⊢;unfold ndA;rw[b];exact zV1 (K:=13) jd x.name _ _ _ _ _ h.hN d c
theorem zZx {C:Cx} {m k:Nat} {x:Nd} {l:List Tr} {s:NdSl} {us:jH} {v:Value} {w:World}:StQ C m k x l s us v w 14:=fun h b d c=>by
 have h1:=h.cnt.opt jo
 by_cases f:l.length=0
 · obtain rfl:=zHI f;have e:zt x (prs [])=[[114,101,116,117,114,110]]++([[59]]):=by unfold zt;rw[b,zU];rfl
   rw[e]at c⊢;unfold ndA;rw[b];exact zVb x.name _ _ _ _ _ h.hN d c
 · obtain⟨a0,rfl⟩:=zHJ (show l.length=1 by omega);have e:zt x (prs [a0])=[[114,101,116,117,114,110]]++((inP (prT a0))++([[59]])):=by unfold zt;rw[b,zI,zU];rfl
   rw[e]at c⊢;unfold ndA;rw[b];exact zR8 x.name _ _ _ _ _ h.hN (h.hs a0 js) h.hk d c
theorem zZy {C:Cx} {m k:Nat} {x:Nd} {l:List Tr} {s:NdSl} {us:jH} {v:Value} {w:World}:StQ C m k x l s us v w 15:=fun h b d c=>by
 obtain⟨a0,rfl⟩:=zHJ (h.cnt.one jo);have e:zt x (prs [a0])=[[116,104,114,111,119]]++((inP (prT a0))++([[59]])):=by unfold zt;rw[b,zI,zU];rfl
 rw[e]at c⊢;unfold ndA;rw[b];exact zZo x.name _ _ _ _ _ h.hN (h.hs a0 js) h.hk d c
theorem zZz {C:Cx} {m k:Nat} {x:Nd} {l:List Tr} {s:NdSl} {us:jH} {v:Value} {w:World}:StQ C m k x l s us v w 16:=fun h b c d=>by
 obtain⟨a0,a1,a2,rfl⟩:=zX1 (h.cnt.three jo)
 by_cases f:a2.nd.kind=4
 · have e:zt x (prs [a0,a1,a2])=[[116,114,121]]++((prT a0)++((prT a1)++([[102,105,110,97,108,108,121]]++(prT a2)))):=by unfold zt;rw[b,zI,zI,zI,zU];simp[kd,f]
   rw[e]at d⊢;unfold ndA;rw[b];exact zIt (K:=16) jd _ _ _ _ _ _ _ fun W hb=>zR9 x.name _ _ _ _ _ h.hN (h.hs a0 js) (h.hs a1 js) (h.hs a2 js) (h.below (hb.mono (yAM c.blt))).hk (c.below hb) f d
 · have e:zt x (prs [a0,a1,a2])=[[116,114,121]]++((prT a0)++(prT a1)):=by unfold zt;rw[b,zI,zI,zI,zU];simp[kd,f]
   rw[e]at d⊢;unfold ndA;rw[b];exact zIt (K:=16) jd _ _ _ _ _ _ _ fun W hb=>zVd x.name _ _ _ _ _ h.hN (h.hs a0 js) (h.hs a1 js) (h.hs a2 js) (h.below (hb.mono (yAM c.blt))).hk (c.below hb) rfl f d
theorem zZ0 {C:Cx} {m k:Nat} {x:Nd} {l:List Tr} {s:NdSl} {us:jH} {v:Value} {w:World}:StQ C m k x l s us v w 17:=fun h b c d=>by
 obtain⟨a0,rfl⟩:=zHJ (h.cnt.one jo)
 by_cases f:x.name=[]
 · have e:zt x (prs [a0])=[[99,97,116,99,104]]++(prT a0):=by unfold zt;rw[b,zI,zU];simp[kd,f]
   rw[e]at d⊢;unfold ndA;rw[b];rw[f];exact zIt (K:=17) jd _ _ _ _ _ _ _ fun W hb=>zVe _ _ _ _ _ h.hN (h.hs a0 js) (h.below (hb.mono (yAM c.blt))).hk (c.below hb) d
 · have e:zt x (prs [a0])=[[99,97,116,99,104]]++([[40],x.name,[41]]++(prT a0)):=by unfold zt;rw[b,zI,zU];simp[kd,f]
   rw[e]at d⊢;unfold ndA;rw[b];exact zIt (K:=17) jd _ _ _ _ _ _ _ fun W hb=>zRy _ _ _ _ _ h.hN (h.hs a0 js) (h.below (hb.mono (yAM c.blt))).hk (c.below hb) rfl f d
theorem zZ1 {C:Cx} {m k:Nat} {x:Nd} {l:List Tr} {s:NdSl} {us:jH} {v:Value} {w:World}:StQ C m k x l s us v w 18:=fun h b d c=>by
 obtain⟨a0,rfl⟩:=zHJ (h.cnt.one jo);have e:zt x (prs [a0])=[x.name,[58]]++(prT a0):=by unfold zt;rw[b,zI,zU];rfl
 rw[e]at c⊢;unfold ndA;rw[b];exact zZp x.name _ _ _ _ _ h.hN (h.hs a0 js) h.hk d c
theorem zZ2 {C:Cx} {m k:Nat} {x:Nd} {l:List Tr} {s:NdSl} {us:jH} {v:Value} {w:World}:StQ C m k x l s us v w 19:=fun h g f j=>by
 obtain⟨r,a,rfl⟩:=zX2 (h.cnt.some_ jo);have e:zt x (prs (r++[a]))=[[102,117,110,99,116,105,111,110]]++(zAl x.name++(zp (prs r)++prT a)):=by
  have e1:zt x (prs (r++[a]))=zFS x (prs (r++[a])):=by unfold zt;rw[g];rfl
  rw[e1];unfold zFS;rw[(zCy r a).1,(zCy r a).2];rfl
 have b:(r++[a]).length=r.length+1:=by simp
 have h6:=h.h6;have c:=h.ck;rw[b]at h6 c;rw[e]at j⊢;unfold ndA;rw[g,b];exact zIt (K:=19) jd _ _ _ _ _ _ _ fun W hb=>zVS _ _ _ _ _ _ _ fun p d=>zKI 19 x.name _ _ _ _ _ h.hN (fun t o=>h.hs t (by simp[o])) (h.hs a js) rfl h6 c (((h.below (hb.mono (yAM f.blt))).below (d.mono (yAM (f.below hb).blt))).hk) ((f.below hb).below d) j
theorem zZ3 {C:Cx} {m k:Nat} {x:Nd} {l:List Tr} {s:NdSl} {us:jH} {v:Value} {w:World}:StQ C m k x l s us v w 20:=fun h b d c=>by
 obtain rfl:=zHI (h.cnt.none_ jo);have e:zt x (prs [])=[x.name]:=by unfold zt;rw[b,zU];rfl
 rw[e]at c⊢;unfold ndA;rw[b];exact zZq x.name _ _ _ _ _ h.hN d c
theorem zIw {C:Cx} {m k:Nat} {x:Nd} {l:List Tr} {s:NdSl} {us:jH} {v:Value} {w:World} (h:Nx C m k x l s w) (f:x.kind≤20) (b:Pe C us v w) (d:MayPut us (zt x (prs l))):
 Calls prog 27 #[C,k,ndA x l s] w (PutQ C us v w (zt x (prs l))):=by
 have h1:=h.kin;have e:x.kind=1∨x.kind=2∨x.kind=3∨x.kind=4∨x.kind=5∨x.kind=6∨x.kind=7∨x.kind=8∨x.kind=9∨x.kind=10∨x.kind=11∨x.kind=12∨x.kind=13∨x.kind=14∨x.kind=15∨x.kind=16∨x.kind=17∨x.kind=18∨x.kind=19∨x.kind=20:=by omega
 rcases e with c | c | c | c | c | c | c | c | c | c | c | c | c | c | c | c | c | c | c | c
 · exact zbN h c b d
 · exact zbO h c b d
 · exact zbP h c b d
 · exact zbQ h c b d
 · exact zbR h c b d
 · exact zbS h c b d
 · exact zbT h c b d
 · exact zbU h c b d
 · exact zbV h c b d
 · exact zZt h c b d
 · exact zZu h c b d
 · exact zZv h c b d
 · exact zZw h c b d
 · exact zZx h c b d
 · exact zZy h c b d
 · exact zZz h c b d
 · exact zZ0 h c b d
 · exact zZ1 h c b d
 · exact zZ2 h c b d
 · exact zZ3 h c b d
theorem zZ4 {C:Cx} {m:Nat} {us:jH} {v:Value} {w:World} (nm:jE) (vs j:Value) (nk nn:Int) (k:Bool) (hN:zAf C m) (s0:a0.size≤m) (hk:KidsS C w Ak [a0]) (l:Pe C us v w) (d:MayPut us ([nm]++(zc (a0.nd.kind,prT a0)))):
 Calls prog 64 #[C,.agg #[(43:Int),nm,vs,nk,nn,k,j,.slice Ak 1 ck]] w (PutQ C us v w ([nm]++(zc (a0.nd.kind,prT a0)))):=by
 obtain⟨b,o,rfl,c⟩:=hk js;obtain⟨W,X,r,s,t,ps,p,e⟩:=PF.new 43 (.string ⟨nm.toArray⟩) vs (.int .i64 nk) (.int .i64 nn) (.bool k) j (.slice (some ⟨b,o,none⟩) 1 ck) hN c l (by rw[←yAS (_++_)]at d;exact d);obtain⟨p0,rfl⟩:=ps1 p;simp only[yAL]at e;go_enter func64,ntmps64;go_upto_region 1 with(fail);clear hN c hk l d p r s;have:=e.out.x;go_wp2_with fail;refine(e.out.lit (a:=[nm]) rfl).mono ?_;rintro e1 w1 ⟨rfl,v1,f⟩;have:=f.out.x;have:=f.out.c0;go_wp2_with fail;refine(f.out.part 0 s0 rfl rfl).mono ?_;rintro e2 w2 ⟨rfl,v2,q⟩;have:=q.out.x;go_wp2_with fail;exact jr (q.out.fin t js)
theorem zZ5 {C:Cx} {m:Nat} {us:jH} {v:Value} {w:World} (nm:jE) (vs j:Value) (nk nn:Int) (k:Bool) (hN:zAf C m) (s0:a0.size≤m) (hk:KidsS C w Ak [a0]) (l:Pe C us v w) (d:MayPut us ([nm]++(prT a0))):
 Calls prog 64 #[C,.agg #[(44:Int),nm,vs,nk,nn,k,j,.slice Ak 1 ck]] w (PutQ C us v w ([nm]++(prT a0))):=by
 obtain⟨b,o,rfl,c⟩:=hk js;obtain⟨W,X,r,s,t,ps,p,e⟩:=PF.new 44 (.string ⟨nm.toArray⟩) vs (.int .i64 nk) (.int .i64 nn) (.bool k) j (.slice (some ⟨b,o,none⟩) 1 ck) hN c l (by rw[←yAS (_++_)]at d;exact d);obtain⟨p0,rfl⟩:=ps1 p;simp only[yAL]at e;go_enter func64,ntmps64;go_upto_region 1 with(fail);clear hN c hk l d p r s;have:=e.out.x;go_wp2_with fail;refine(e.out.lit (a:=[nm]) rfl).mono ?_;rintro e1 w1 ⟨rfl,v1,f⟩;have:=f.out.x;have:=f.out.c0;go_wp2_with fail;refine(f.out.node 0 s0 rfl rfl).mono ?_;rintro e2 w2 ⟨rfl,v2,q⟩;have:=q.out.x;go_wp2_with fail;exact jr (q.out.fin t js)
theorem zZ6 {C:Cx} {m:Nat} {us:jH} {v:Value} {w:World} (nm:jE) (vs f:Value) (nk nn:Int) (j:Bool) (hN:zAf C m) (s0:a0.size≤m) (hk:KidsS C w Ak [a0]) (k:Pe C us v w) (e:MayPut us ((prT a0)++([nm]))):
 Calls prog 64 #[C,.agg #[(45:Int),nm,vs,nk,nn,j,f,.slice Ak 1 ck]] w (PutQ C us v w ((prT a0)++([nm]))):=by
 obtain⟨b,o,rfl,d⟩:=hk js;obtain⟨W,X,r,s,t,ps,l,c⟩:=PF.new 45 (.string ⟨nm.toArray⟩) vs (.int .i64 nk) (.int .i64 nn) (.bool j) f (.slice (some ⟨b,o,none⟩) 1 ck) hN d k (by rw[←yAS (_++_)]at e;exact e);obtain⟨p0,rfl⟩:=ps1 l;simp only[yAL]at c;go_enter func64,ntmps64;go_upto_region 1 with(fail);clear hN d hk k e l r s;have:=c.out.x;have:=c.out.c0;go_wp2_with fail;refine(c.out.node 0 s0 rfl rfl).mono ?_;rintro e1 w1 ⟨rfl,v1,p⟩;have:=p.out.x;go_wp2_with fail;refine(p.out.lit (a:=[nm]) rfl).mono ?_;rintro e2 w2 ⟨rfl,v2,q⟩;have:=q.out.x;go_wp2_with fail;exact jr (q.out.fin t js)
theorem zV2 {C:Cx} (t:K=46∨K=47) {m:Nat} {us:jH} {v:Value} {w:World} (nm:jE) (vs k:Value) (nk nn:Int) (l:Bool) (hN:zAf C m) (s0:a0.size≤m) (s1:a1.size≤m) (hk:KidsS C w Ak [a0,a1]) (p:Pe C us v w) (f:MayPut us ((zc (a0.nd.kind,prT a0))++([nm]++(zc (a1.nd.kind,prT a1))))):
 Calls prog 64 #[C,.agg #[K,nm,vs,nk,nn,l,k,.slice Ak 2 ck]] w (PutQ C us v w ((zc (a0.nd.kind,prT a0))++([nm]++(zc (a1.nd.kind,prT a1))))):=by
 obtain⟨b,o,rfl,e⟩:=hk js;obtain⟨W,X,u,y,z,ps,q,d⟩:=PF.new K (.string ⟨nm.toArray⟩) vs (.int .i64 nk) (.int .i64 nn) (.bool l) k (.slice (some ⟨b,o,none⟩) 2 ck) hN e p (by rw[←yAS (_++_)]at f;exact f);obtain⟨p0,p1,rfl⟩:=ps2 q;simp only[yAL]at d;rcases t with rfl | rfl
 all_goals
  go_enter func64,ntmps64;go_upto_region 1 with(fail);clear hN e hk p f q u y;have:=d.out.x;have:=d.out.c0;go_wp2_with fail;refine(d.out.part 0 s0 rfl rfl).mono ?_;rintro e1 w1 ⟨rfl,v1,r⟩;have:=r.out.x;go_wp2_with fail;refine(r.out.lit (a:=[nm]) rfl).mono ?_;rintro e2 w2 ⟨rfl,v2,j⟩;have:=j.out.x;have:=j.out.c 1;go_wp2_with fail;refine(j.out.part 1 s1 rfl rfl).mono ?_;rintro e3 w3 ⟨rfl,v3,s⟩;have:=s.out.x;go_wp2_with fail;exact jr (s.out.fin z js)
theorem zZ7 {C:Cx} {m:Nat} {us:jH} {v:Value} {w:World} (nm:jE) (vs l:Value) (nk nn:Int) (p:Bool) (hN:zAf C m) (s0:a0.size≤m) (s1:a1.size≤m) (y:a2.size≤m) (hk:KidsS C w Ak [a0,a1,a2]) (q:Pe C us v w) (f:MayPut us ((zc (a0.nd.kind,prT a0))++([[63]]++((zc (a1.nd.kind,prT a1))++([[58]]++(zc (a2.nd.kind,prT a2))))))):
 Calls prog 64 #[C,.agg #[(48:Int),nm,vs,nk,nn,p,l,.slice Ak 3 ck]] w (PutQ C us v w ((zc (a0.nd.kind,prT a0))++([[63]]++((zc (a1.nd.kind,prT a1))++([[58]]++(zc (a2.nd.kind,prT a2))))))):=by
 obtain⟨b,o,rfl,e⟩:=hk js;obtain⟨W,X,z,A,B,ps,r,d⟩:=PF.new 48 (.string ⟨nm.toArray⟩) vs (.int .i64 nk) (.int .i64 nn) (.bool p) l (.slice (some ⟨b,o,none⟩) 3 ck) hN e q (by rw[←yAS (_++_)]at f;exact f);obtain⟨p0,p1,p2,rfl⟩:=ps3 r;simp only[yAL]at d;go_enter func64,ntmps64;go_upto_region 1 with(fail);clear hN e hk q f r z A;have:=d.out.x;have:=d.out.c0;go_wp2_with fail;refine(d.out.part 0 s0 rfl rfl).mono ?_;rintro e1 w1 ⟨rfl,v1,s⟩;have:=s.out.x;go_wp2_with fail;refine(s.out.lit (a:=[[63]]) rfl).mono ?_;rintro e2 w2 ⟨rfl,v2,j⟩;have:=j.out.x;have:=j.out.c 1;go_wp2_with fail;refine(j.out.part 1 s1 rfl rfl).mono ?_;rintro e3 w3 ⟨rfl,v3,t⟩;have:=t.out.x;go_wp2_with fail;refine(t.out.lit (a:=[[58]]) rfl).mono ?_;rintro e4 D ⟨rfl,v4,k⟩;have:=k.out.x;have:=k.out.c 2;go_wp2_with fail;refine(k.out.part 2 y rfl rfl).mono ?_;rintro e5 E ⟨rfl,v5,u⟩;have:=u.out.x;go_wp2_with fail;exact jr (u.out.fin B js)
theorem zZ8 {C:Cx} {m:Nat} {us:jH} {v:Value} {w:World} (nm:jE) (vs k:Value) (nk nn:Int) (l:Bool) (hN:zAf C m) (s0:a0.size≤m) (s1:a1.size≤m) (hk:KidsS C w Ak [a0,a1]) (p:Pe C us v w) (f:MayPut us ((prT a0)++([nm]++(zc (a1.nd.kind,prT a1))))):
 Calls prog 64 #[C,.agg #[(49:Int),nm,vs,nk,nn,l,k,.slice Ak 2 ck]] w (PutQ C us v w ((prT a0)++([nm]++(zc (a1.nd.kind,prT a1))))):=by
 obtain⟨b,o,rfl,e⟩:=hk js;obtain⟨W,X,t,u,y,ps,q,d⟩:=PF.new 49 (.string ⟨nm.toArray⟩) vs (.int .i64 nk) (.int .i64 nn) (.bool l) k (.slice (some ⟨b,o,none⟩) 2 ck) hN e p (by rw[←yAS (_++_)]at f;exact f);obtain⟨p0,p1,rfl⟩:=ps2 q;simp only[yAL]at d;go_enter func64,ntmps64;go_upto_region 1 with(fail);clear hN e hk p f q t u;have:=d.out.x;have:=d.out.c0;go_wp2_with fail;refine(d.out.node 0 s0 rfl rfl).mono ?_;rintro e1 w1 ⟨rfl,v1,r⟩;have:=r.out.x;go_wp2_with fail;refine(r.out.lit (a:=[nm]) rfl).mono ?_;rintro e2 w2 ⟨rfl,v2,j⟩;have:=j.out.x;have:=j.out.c 1;go_wp2_with fail;refine(j.out.part 1 s1 rfl rfl).mono ?_;rintro e3 w3 ⟨rfl,v3,s⟩;have:=s.out.x;go_wp2_with fail;exact jr (s.out.fin y js)
theorem zZ9 {C:Cx} {m:Nat} {us:jH} {v:Value} {w:World} (nm:jE) (vs f:Value) (nk nn:Int) (j:Bool) (hN:zAf C m) (s0:a0.size≤m) (hk:KidsS C w Ak [a0]) (k:Pe C us v w) (e:MayPut us ((zc (a0.nd.kind,prT a0))++([[46],nm]))):
 Calls prog 64 #[C,.agg #[(52:Int),nm,vs,nk,nn,j,f,.slice Ak 1 ck]] w (PutQ C us v w ((zc (a0.nd.kind,prT a0))++([[46],nm]))):=by
 obtain⟨b,o,rfl,d⟩:=hk js;obtain⟨W,X,r,s,t,ps,l,c⟩:=PF.new 52 (.string ⟨nm.toArray⟩) vs (.int .i64 nk) (.int .i64 nn) (.bool j) f (.slice (some ⟨b,o,none⟩) 1 ck) hN d k (by rw[←yAS (_++_)]at e;exact e);obtain⟨p0,rfl⟩:=ps1 l;simp only[yAL]at c;go_enter func64,ntmps64;go_upto_region 1 with(fail);clear hN d hk k e l r s;have:=c.out.x;have:=c.out.c0;go_wp2_with fail;refine(c.out.part 0 s0 rfl rfl).mono ?_;rintro e1 w1 ⟨rfl,v1,p⟩;have:=p.out.x;go_wp2_with fail;refine(p.out.lit (a:=[[46],nm]) rfl).mono ?_;rintro e2 w2 ⟨rfl,v2,q⟩;have:=q.out.x;go_wp2_with fail;exact jr (q.out.fin t js)
theorem zaA {C:Cx} {m:Nat} {us:jH} {v:Value} {w:World} (nm:jE) (vs k:Value) (nk nn:Int) (l:Bool) (hN:zAf C m) (s0:a0.size≤m) (s1:a1.size≤m) (hk:KidsS C w Ak [a0,a1]) (p:Pe C us v w) (f:MayPut us ((zc (a0.nd.kind,prT a0))++([[91]]++((zc (a1.nd.kind,prT a1))++([[93]]))))):
 Calls prog 64 #[C,.agg #[(53:Int),nm,vs,nk,nn,l,k,.slice Ak 2 ck]] w (PutQ C us v w ((zc (a0.nd.kind,prT a0))++([[91]]++((zc (a1.nd.kind,prT a1))++([[93]]))))):=by
 obtain⟨b,o,rfl,e⟩:=hk js;obtain⟨W,X,u,y,z,ps,q,d⟩:=PF.new 53 (.string ⟨nm.toArray⟩) vs (.int .i64 nk) (.int .i64 nn) (.bool l) k (.slice (some ⟨b,o,none⟩) 2 ck) hN e p (by rw[←yAS (_++_)]at f;exact f);obtain⟨p0,p1,rfl⟩:=ps2 q;simp only[yAL]at d;go_enter func64,ntmps64;go_upto_region 1 with(fail);clear hN e hk p f q u y;have:=d.out.x;have:=d.out.c0;go_wp2_with fail;refine(d.out.part 0 s0 rfl rfl).mono ?_;rintro e1 w1 ⟨rfl,v1,r⟩;have:=r.out.x;go_wp2_with fail;refine(r.out.lit (a:=[[91]]) rfl).mono ?_;rintro e2 w2 ⟨rfl,v2,j⟩;have:=j.out.x;have:=j.out.c 1;go_wp2_with fail;refine(j.out.part 1 s1 rfl rfl).mono ?_;rintro e3 w3 ⟨rfl,v3,s⟩;have:=s.out.x;go_wp2_with fail;refine(s.out.lit (a:=[[93]]) rfl).mono ?_;rintro e4 A ⟨rfl,v4,t⟩;have:=t.out.x;go_wp2_with fail;exact jr (t.out.fin z js)
def ExQ (C:Cx) (m k:Nat) (x:Nd) (l:List Tr) (s:NdSl) (us:jH) (v:Value) (w:World) (K:Int):Prop:=Nx C m k x l s w→x.kind=K→Pe C us v w→MayPut us (zq x (prs l))→Calls prog 28 #[C,ndA x l s] w (PutQ C us v w (zq x (prs l)))
theorem zVf {x:Nd} (h:zL x=true) (c:x.kind=30):x.nk=0∧0≤x.nn∧x.nn≤9007199254740991:=by
 unfold zL at h;rw[c]at h;split at h
 · cases h
 · split at h
   · cases h
   · split at h
     · cases h
     · split at h
       · cases h
       · rw[jn,if_pos rfl]at h;simp only[yAQ,yBL,yBG]at h;obtain⟨⟨⟨_,h1⟩,b⟩,d⟩:=h;refine⟨h1,d,?_⟩;unfold zDg at b;rw[if_pos h1,yAQ]at b;exact yBF b.2
theorem zVg {x:Nd} (h:zL x=true) (d:x.kind=31):x.neg=false∧zBL false x.mag=true:=by
 unfold zL at h;rw[d]at h;split at h
 · cases h
 · split at h
   · cases h
   · split at h
     · cases h
     · split at h
       · cases h
       · rw[jn,jn,if_pos rfl]at h;simp only[yAQ,Bool.not_eq_true',yBG]at h;obtain⟨⟨_,b⟩,c⟩:=h;rw[c]at b;exact⟨c,b⟩
theorem zaB {C:Cx} {m k:Nat} {x:Nd} {l:List Tr} {s:NdSl} {us:jH} {v:Value} {w:World}:ExQ C m k x l s us v w 30:=fun h b d c=>by
 obtain⟨f1,f,f3⟩:=zVf h.fields b;have e:zq x (prs l)=[zBQ x.nn.toNat]:=by unfold zq;rw[b];rfl
 rw[e]at c⊢;unfold ndA;rw[b,f1];exact zZi _ _ _ _ _ f f3 d c
theorem zaC {C:Cx} {m k:Nat} {x:Nd} {l:List Tr} {s:NdSl} {us:jH} {v:Value} {w:World} (h:Nx C m k x l s w) (c:x.kind=31) (d:Reads w C.B 1 s.Am x.mag.length (zSM x.mag)) (b:∀y∈x.mag,y < 4294967296) (j:Pe C us v w) (f:MayPut us (zq x (prs l))):
 Calls prog 28 #[C,ndA x l s] w (PutQ C us v w (zq x (prs l))):=by
 obtain⟨f1,o⟩:=zVg h.fields c;have e:zq x (prs l)=[zBQ (zEW x.mag)++[110]]:=by unfold zq;rw[c];rfl
 rw[e]at f⊢;unfold ndA;rw[c,f1];exact zZj _ _ _ _ rfl d b o (zCq h.fields b).big j f
theorem zaD {C:Cx} {m k:Nat} {x:Nd} {l:List Tr} {s:NdSl} {us:jH} {v:Value} {w:World} (h:Nx C m k x l s w) (b:x.kind=32) (c:Reads w C.B 1 s.As x.str.length (zAC x.str)) (d:∀y∈x.mag,y < 4294967296) (j:Pe C us v w) (f:MayPut us (zq x (prs l))):
 Calls prog 28 #[C,ndA x l s] w (PutQ C us v w (zq x (prs l))):=by
 have e:zq x (prs l)=[zFq x.str]:=by unfold zq;rw[b];rfl
 rw[e]at f⊢;unfold ndA;rw[b];exact zZk _ _ _ _ _ rfl (by have:=(zCq h.fields d).str;omega) c j f
theorem zaE {C:Cx} {m k:Nat} {x:Nd} {l:List Tr} {s:NdSl} {us:jH} {v:Value} {w:World}:ExQ C m k x l s us v w 33:=fun h b d c=>by
 obtain rfl:=zHI (h.cnt.none_ jo);have e:zq x (prs [])=[x.name]:=by unfold zq;rw[b,zU];rfl
 rw[e]at c⊢;unfold ndA;rw[b];exact zZh x.name _ _ _ _ _ h.hN d c
theorem zaF {C:Cx} {m k:Nat} {x:Nd} {l:List Tr} {s:NdSl} {us:jH} {v:Value} {w:World}:ExQ C m k x l s us v w 34:=fun h b d c=>by
 obtain rfl:=zHI (h.cnt.none_ jo);have e:zq x (prs [])=[[116,114,117,101]]:=by unfold zq;rw[b,zU];rfl
 rw[e]at c⊢;unfold ndA;rw[b];exact zZD (K:=34) jd x.name _ _ _ _ _ h.hN d c
theorem zaG {C:Cx} {m k:Nat} {x:Nd} {l:List Tr} {s:NdSl} {us:jH} {v:Value} {w:World}:ExQ C m k x l s us v w 35:=fun h b d c=>by
 obtain rfl:=zHI (h.cnt.none_ jo);have e:zq x (prs [])=[[102,97,108,115,101]]:=by unfold zq;rw[b,zU];rfl
 rw[e]at c⊢;unfold ndA;rw[b];exact zZD (K:=35) jd x.name _ _ _ _ _ h.hN d c
theorem zaH {C:Cx} {m k:Nat} {x:Nd} {l:List Tr} {s:NdSl} {us:jH} {v:Value} {w:World}:ExQ C m k x l s us v w 36:=fun h b d c=>by
 obtain rfl:=zHI (h.cnt.none_ jo);have e:zq x (prs [])=[[110,117,108,108]]:=by unfold zq;rw[b,zU];rfl
 rw[e]at c⊢;unfold ndA;rw[b];exact zZD (K:=36) jd x.name _ _ _ _ _ h.hN d c
theorem zaI {C:Cx} {m k:Nat} {x:Nd} {l:List Tr} {s:NdSl} {us:jH} {v:Value} {w:World}:ExQ C m k x l s us v w 37:=fun h b d c=>by
 obtain rfl:=zHI (h.cnt.none_ jo);have e:zq x (prs [])=[[116,104,105,115]]:=by unfold zq;rw[b,zU];rfl
 rw[e]at c⊢;unfold ndA;rw[b];exact zZD (K:=37) jd x.name _ _ _ _ _ h.hN d c
theorem zaJ {C:Cx} {m k:Nat} {x:Nd} {l:List Tr} {s:NdSl} {us:jH} {v:Value} {w:World}:ExQ C m k x l s us v w 38:=fun h b d c=>by
 have e:zq x (prs l)=[[91]]++(zAS zc (prs l)++[[93]]):=by unfold zq;rw[b];rfl
 rw[e]at c⊢;unfold ndA;rw[b];exact zZd _ _ _ _ _ _ h.hN h.hs rfl h.h6 h.hk d c
theorem zaK {C:Cx} {m k:Nat} {x:Nd} {l:List Tr} {s:NdSl} {us:jH} {v:Value} {w:World}:ExQ C m k x l s us v w 39:=fun h b d c=>by
 have e:zq x (prs l)=[[123]]++(zAS (·.2) (prs l)++[[125]]):=by unfold zq;rw[b];rfl
 rw[e]at c⊢;unfold ndA;rw[b];exact zZe _ _ _ _ _ _ h.hN h.hs rfl h.h6 h.hk d c
theorem zaL {C:Cx} {m k:Nat} {x:Nd} {l:List Tr} {s:NdSl} {us:jH} {v:Value} {w:World} (h:Nx C m k x l s w) (b:x.kind=40) (c:Reads w C.B 1 s.As x.str.length (zAC x.str)) (d:∀y∈x.mag,y < 4294967296) (j:Pe C us v w) (f:MayPut us (zq x (prs l))):
 Calls prog 28 #[C,ndA x l s] w (PutQ C us v w (zq x (prs l))):=by
 obtain⟨a0,rfl⟩:=zHJ (h.cnt.one jo);have e:zq x (prs [a0])=[zFq x.str,[58]]++zc (a0.nd.kind,prT a0):=by unfold zq;rw[b,zI,zU];rfl
 rw[e]at f⊢;unfold ndA;rw[b];exact zZl _ _ _ _ _ h.hN (h.hs a0 js) h.hk rfl (by have:=(zCq h.fields d).str;omega) c j f
theorem zaM {C:Cx} {m k:Nat} {x:Nd} {l:List Tr} {s:NdSl} {us:jH} {v:Value} {w:World}:ExQ C m k x l s us v w 41:=fun h d f g=>by
 obtain⟨r,a,rfl⟩:=zX2 (h.cnt.some_ jo);have e:zq x (prs (r++[a]))=[[102,117,110,99,116,105,111,110]]++(zAl x.name++(zp (prs r)++prT a)):=by
  have e1:zq x (prs (r++[a]))=zFS x (prs (r++[a])):=by unfold zq;rw[d];rfl
  rw[e1];unfold zFS;rw[(zCy r a).1,(zCy r a).2];rfl
 have b:(r++[a]).length=r.length+1:=by simp
 have h6:=h.h6;have c:=h.ck;rw[b]at h6 c;rw[e]at g⊢;unfold ndA;rw[d,b];exact zVT _ _ _ _ _ _ _ fun W hb=>zKI 41 x.name _ _ _ _ _ h.hN (fun t j=>h.hs t (by simp[j])) (h.hs a js) rfl h6 c (h.below (hb.mono (yAM f.blt))).hk (f.below hb) g
theorem zaN {C:Cx} {m k:Nat} {x:Nd} {l:List Tr} {s:NdSl} {us:jH} {v:Value} {w:World}:ExQ C m k x l s us v w 42:=fun h d f g=>by
 obtain⟨r,a,rfl⟩:=zX2 (h.cnt.some_ jo);have b:(r++[a]).length=r.length+1:=by simp
 have h6:=h.h6;have c:=h.ck;rw[b]at h6 c
 by_cases j:a.nd.kind=4
 · have e:zq x (prs (r++[a]))=zp (prs r)++([[61,62]]++prT a):=by
    have e1:zq x (prs (r++[a]))=zEo (prs (r++[a])):=by unfold zq;rw[d];rfl
    rw[e1];unfold zEo;rw[(zCy r a).1,(zCy r a).2];rw[if_pos j];rfl
   rw[e]at g⊢;unfold ndA;rw[d,b];exact zMv _ _ _ _ _ _ _ fun W hb=>zKJ 42 x.name _ _ _ _ _ h.hN (fun t o=>h.hs t (by simp[o])) (h.hs a js) rfl h6 c (h.below (hb.mono (yAM f.blt))).hk (f.below hb) j g
 · have e:zq x (prs (r++[a]))=zp (prs r)++([[61,62]]++inP (prT a)):=by
    have e1:zq x (prs (r++[a]))=zEo (prs (r++[a])):=by unfold zq;rw[d];rfl
    rw[e1];unfold zEo;rw[(zCy r a).1,(zCy r a).2];rw[if_neg j];rfl
   rw[e]at g⊢;unfold ndA;rw[d,b];exact zMv _ _ _ _ _ _ _ fun W hb=>zRw 42 x.name _ _ _ _ _ h.hN (fun t o=>h.hs t (by simp[o])) (h.hs a js) rfl h6 c (h.below (hb.mono (yAM f.blt))).hk (f.below hb) rfl j g
theorem zaO {C:Cx} {m k:Nat} {x:Nd} {l:List Tr} {s:NdSl} {us:jH} {v:Value} {w:World}:ExQ C m k x l s us v w 43:=fun h b c d=>by
 obtain⟨a0,rfl⟩:=zHJ (h.cnt.one jo);have e:zq x (prs [a0])=[x.name]++(zc (a0.nd.kind,prT a0)):=by unfold zq;rw[b,zI,zU];rfl
 rw[e]at d⊢;unfold ndA;rw[b];exact zHH (K:=43) jd _ _ _ _ _ _ _ fun W hb=>zZ4 x.name _ _ _ _ _ h.hN (h.hs a0 js) (h.below (hb.mono (yAM c.blt))).hk (c.below hb) d
theorem zaP {C:Cx} {m k:Nat} {x:Nd} {l:List Tr} {s:NdSl} {us:jH} {v:Value} {w:World}:ExQ C m k x l s us v w 44:=fun h b c d=>by
 obtain⟨a0,rfl⟩:=zHJ (h.cnt.one jo);have e:zq x (prs [a0])=[x.name]++(prT a0):=by unfold zq;rw[b,zI,zU];rfl
 rw[e]at d⊢;unfold ndA;rw[b];exact zHH (K:=44) jd _ _ _ _ _ _ _ fun W hb=>zZ5 x.name _ _ _ _ _ h.hN (h.hs a0 js) (h.below (hb.mono (yAM c.blt))).hk (c.below hb) d
theorem zaQ {C:Cx} {m k:Nat} {x:Nd} {l:List Tr} {s:NdSl} {us:jH} {v:Value} {w:World}:ExQ C m k x l s us v w 45:=fun h b c d=>by
 obtain⟨a0,rfl⟩:=zHJ (h.cnt.one jo);have e:zq x (prs [a0])=(prT a0)++([x.name]):=by unfold zq;rw[b,zI,zU];rfl
 rw[e]at d⊢;unfold ndA;rw[b];exact zHH (K:=45) jd _ _ _ _ _ _ _ fun W hb=>zZ6 x.name _ _ _ _ _ h.hN (h.hs a0 js) (h.below (hb.mono (yAM c.blt))).hk (c.below hb) d
theorem zaR {C:Cx} {m k:Nat} {x:Nd} {l:List Tr} {s:NdSl} {us:jH} {v:Value} {w:World}:ExQ C m k x l s us v w 46:=fun h b c d=>by
 obtain⟨a0,a1,rfl⟩:=zOe (h.cnt.two jo);have e:zq x (prs [a0,a1])=(zc (a0.nd.kind,prT a0))++([x.name]++(zc (a1.nd.kind,prT a1))):=by unfold zq;rw[b,zI,zI,zU];rfl
 rw[e]at d⊢;unfold ndA;rw[b];exact zHH (K:=46) jd _ _ _ _ _ _ _ fun W hb=>zV2 (K:=46) jd x.name _ _ _ _ _ h.hN (h.hs a0 js) (h.hs a1 js) (h.below (hb.mono (yAM c.blt))).hk (c.below hb) d
theorem zaS {C:Cx} {m k:Nat} {x:Nd} {l:List Tr} {s:NdSl} {us:jH} {v:Value} {w:World}:ExQ C m k x l s us v w 47:=fun h b c d=>by
 obtain⟨a0,a1,rfl⟩:=zOe (h.cnt.two jo);have e:zq x (prs [a0,a1])=(zc (a0.nd.kind,prT a0))++([x.name]++(zc (a1.nd.kind,prT a1))):=by unfold zq;rw[b,zI,zI,zU];rfl
 rw[e]at d⊢;unfold ndA;rw[b];exact zHH (K:=47) jd _ _ _ _ _ _ _ fun W hb=>zV2 (K:=47) jd x.name _ _ _ _ _ h.hN (h.hs a0 js) (h.hs a1 js) (h.below (hb.mono (yAM c.blt))).hk (c.below hb) d
theorem zaT {C:Cx} {m k:Nat} {x:Nd} {l:List Tr} {s:NdSl} {us:jH} {v:Value} {w:World}:ExQ C m k x l s us v w 48:=fun h b c d=>by
 obtain⟨a0,a1,a2,rfl⟩:=zX1 (h.cnt.three jo);have e:zq x (prs [a0,a1,a2])=(zc (a0.nd.kind,prT a0))++([[63]]++((zc (a1.nd.kind,prT a1))++([[58]]++(zc (a2.nd.kind,prT a2))))):=by unfold zq;rw[b,zI,zI,zI,zU];rfl
 rw[e]at d⊢;unfold ndA;rw[b];exact zHH (K:=48) jd _ _ _ _ _ _ _ fun W hb=>zZ7 x.name _ _ _ _ _ h.hN (h.hs a0 js) (h.hs a1 js) (h.hs a2 js) (h.below (hb.mono (yAM c.blt))).hk (c.below hb) d
theorem zaU {C:Cx} {m k:Nat} {x:Nd} {l:List Tr} {s:NdSl} {us:jH} {v:Value} {w:World}:ExQ C m k x l s us v w 49:=fun h b c d=>by
 obtain⟨a0,a1,rfl⟩:=zOe (h.cnt.two jo);have e:zq x (prs [a0,a1])=(prT a0)++([x.name]++(zc (a1.nd.kind,prT a1))):=by unfold zq;rw[b,zI,zI,zU];rfl
 rw[e]at d⊢;unfold ndA;rw[b];exact zHH (K:=49) jd _ _ _ _ _ _ _ fun W hb=>zZ8 x.name _ _ _ _ _ h.hN (h.hs a0 js) (h.hs a1 js) (h.below (hb.mono (yAM c.blt))).hk (c.below hb) d
theorem zaV {C:Cx} {m k:Nat} {x:Nd} {l:List Tr} {s:NdSl} {us:jH} {v:Value} {w:World}:ExQ C m k x l s us v w 50:=fun h c d f=>by
 have h1:=h.cnt.some_ jo;obtain⟨a0,r,rfl⟩:∃a r,l=a::r:=by
  cases l with
  | nil=>simp at h1
  | cons a r=>exact⟨a,r,rfl⟩
 have e:zq x (prs (a0::r))=zEX (prs (a0::r)):=by unfold zq;rw[c];rfl
 have h6:=h.h6;have b:=h.ck;rw[yAO]at h6 b;rw[e]at f⊢;unfold ndA;rw[c,yAO];exact zHH (K:=50) jd _ _ _ _ _ _ _ fun W hb=>zZf _ _ _ _ _ _ h.hN (fun t g=>h.hs t (by simp[g])) (h.hs a0 js) rfl h6 b (h.below (hb.mono (yAM d.blt))).hk (d.below hb) f
theorem zaW {C:Cx} {m k:Nat} {x:Nd} {l:List Tr} {s:NdSl} {us:jH} {v:Value} {w:World}:ExQ C m k x l s us v w 51:=fun h c d f=>by
 have h1:=h.cnt.some_ jo;obtain⟨a0,r,rfl⟩:∃a r,l=a::r:=by
  cases l with
  | nil=>simp at h1
  | cons a r=>exact⟨a,r,rfl⟩
 have e:zq x (prs (a0::r))=[[110,101,119]]++zEX (prs (a0::r)):=by unfold zq;rw[c];rfl
 have h6:=h.h6;have b:=h.ck;rw[yAO]at h6 b;rw[e]at f⊢;unfold ndA;rw[c,yAO];exact zHH (K:=51) jd _ _ _ _ _ _ _ fun W hb=>zZg _ _ _ _ _ _ h.hN (fun t g=>h.hs t (by simp[g])) (h.hs a0 js) rfl h6 b (h.below (hb.mono (yAM d.blt))).hk (d.below hb) f
theorem zaX {C:Cx} {m k:Nat} {x:Nd} {l:List Tr} {s:NdSl} {us:jH} {v:Value} {w:World}:ExQ C m k x l s us v w 52:=fun h b c d=>by
 obtain⟨a0,rfl⟩:=zHJ (h.cnt.one jo);have e:zq x (prs [a0])=(zc (a0.nd.kind,prT a0))++([[46],x.name]):=by unfold zq;rw[b,zI,zU];rfl
 rw[e]at d⊢;unfold ndA;rw[b];exact zHH (K:=52) jd _ _ _ _ _ _ _ fun W hb=>zZ9 x.name _ _ _ _ _ h.hN (h.hs a0 js) (h.below (hb.mono (yAM c.blt))).hk (c.below hb) d
theorem zaY {C:Cx} {m k:Nat} {x:Nd} {l:List Tr} {s:NdSl} {us:jH} {v:Value} {w:World}:ExQ C m k x l s us v w 53:=fun h b c d=>by
 obtain⟨a0,a1,rfl⟩:=zOe (h.cnt.two jo);have e:zq x (prs [a0,a1])=(zc (a0.nd.kind,prT a0))++([[91]]++((zc (a1.nd.kind,prT a1))++([[93]]))):=by unfold zq;rw[b,zI,zI,zU];rfl
 rw[e]at d⊢;unfold ndA;rw[b];exact zHH (K:=53) jd _ _ _ _ _ _ _ fun W hb=>zaA x.name _ _ _ _ _ h.hN (h.hs a0 js) (h.hs a1 js) (h.below (hb.mono (yAM c.blt))).hk (c.below hb) d
theorem zHb {C:Cx} {m k:Nat} {x:Nd} {l:List Tr} {s:NdSl} {us:jH} {v:Value} {w:World} (h:Nx C m k x l s w) (p:30≤x.kind) (q:x.kind≤53) (f:Reads w C.B 1 s.As x.str.length (zAC x.str)) (j:Reads w C.B 1 s.Am x.mag.length (zSM x.mag)) (e:∀y∈x.mag,y < 4294967296) (b:Pe C us v w) (d:MayPut us (zq x (prs l))):
 Calls prog 28 #[C,ndA x l s] w (PutQ C us v w (zq x (prs l))):=by
 have o:x.kind=30∨x.kind=31∨x.kind=32∨x.kind=33∨x.kind=34∨x.kind=35∨x.kind=36∨x.kind=37∨x.kind=38∨x.kind=39∨x.kind=40∨x.kind=41∨x.kind=42∨x.kind=43∨x.kind=44∨x.kind=45∨x.kind=46∨x.kind=47∨x.kind=48∨x.kind=49∨x.kind=50∨x.kind=51∨x.kind=52∨x.kind=53:=by omega
 rcases o with c | c | c | c | c | c | c | c | c | c | c | c | c | c | c | c | c | c | c | c | c | c | c | c
 · exact zaB h c b d
 · exact zaC h c j e b d
 · exact zaD h c f e b d
 · exact zaE h c b d
 · exact zaF h c b d
 · exact zaG h c b d
 · exact zaH h c b d
 · exact zaI h c b d
 · exact zaJ h c b d
 · exact zaK h c b d
 · exact zaL h c f e b d
 · exact zaM h c b d
 · exact zaN h c b d
 · exact zaO h c b d
 · exact zaP h c b d
 · exact zaQ h c b d
 · exact zaR h c b d
 · exact zaS h c b d
 · exact zaT h c b d
 · exact zaU h c b d
 · exact zaV h c b d
 · exact zaW h c b d
 · exact zaX h c b d
 · exact zaY h c b d
theorem zSA {l:List Tr} (h:t∈l):t.size≤sizes l:=by
 induction l with
 | nil=>cases h
 | cons a r b=>
  rw[zY];rcases yAW.1 h with rfl | h
  · omega
  · have:=b h;omega
theorem zSB (l:List Tr):l.length≤sizes l:=by
 induction l with
 | nil=>simp
 | cons a r b=>rw[zY,yAO];have:=zBF a;omega
theorem zKL {k:Int} (h:zC3 k=true):(1≤k∧k≤20)∨(30≤k∧k≤53):=by
 unfold zC3 at h;simp only[yBU,yAQ,yBG]at h;exact h
theorem zKM {x:Nd} (h:zCz ts x=true):zC3 x.kind=true:=by
 cases h2:zC3 x.kind with
 | true=>rfl
 | false=>rw[zHk h2]at h;cases h
theorem zOf {C:Cx} {m:Nat} (hN:zAf C m) (he:zB0 C.ts 0 C.ts=true) (a2:m≤1000000):zAf C (m+1):=by
 intro t k us v w H h e q;obtain⟨x,l⟩:=t;obtain⟨b,o,s,hA,a3,a6,hC,r⟩:=e.node h;have I:=zMu h r;have d:((Tr.mk x l).laid k).kids.length=l.length:=zBV (k+1) l;have c:=zKX C.ts 0 he k _ h.get;have u:zL x=true:=c.1;have A:(1≤x.kind∧x.kind≤20)∨(30≤x.kind∧x.kind≤53):=zKL (show zC3 x.kind=true from zKM (ts:=C.ts) (x:=(Tr.mk x l).laid k) c.2.1);rw[zAk]at H;have z:=At.cnt he h;have D:=r.ck.1;rw[d]at D;have J:Reads w C.B 1 s.As x.str.length (zAC x.str):=r.str;have L:Reads w C.B 1 s.Am x.mag.length (zSM x.mag):=r.mag;have M:∀y∈x.mag,y < 4294967296:=r.limb;have E:Nx C m k x l s w:=⟨hN,h,fun t ht=>by have:=zSA ht;omega,z,u,by have:=zSB l;omega,a2,I,D,by omega⟩;obtain⟨N,O,P,Q,R,S,T,F⟩:=hC;rw[d]at F;have j0:w.cell? ⟨b,o+k*8,none⟩=some (.int .i64 x.kind):=N;have j1:w.cell? ⟨b,o+k*8+1,none⟩=some (.string ⟨x.name.toArray⟩):=O;have j2:w.cell? ⟨b,o+k*8+2,none⟩=some (.slice s.As x.str.length s.cs):=P;have j3:w.cell? ⟨b,o+k*8+3,none⟩=some (.int .i64 x.nk):=Q;have j4:w.cell? ⟨b,o+k*8+4,none⟩=some (.int .i64 x.nn):=R;have j5:w.cell? ⟨b,o+k*8+5,none⟩=some (.bool x.neg):=S;have j6:w.cell? ⟨b,o+k*8+6,none⟩=some (.slice s.Am x.mag.length s.cm):=T;have j7:w.cell? ⟨b,o+k*8+7,none⟩=some (.slice s.Ak l.length s.ck):=F;have a0:=e.pn.c0;rw[hA]at a0;have a4:=e.pn.lt;have G:=e.blt;have a7:b < w.heap.size:=by omega
 obtain⟨g,hg⟩:∃g,C.g=g:=⟨_,rfl⟩;obtain⟨n,hn⟩:∃n,C.n=n:=⟨_,rfl⟩;rw[hg,hn]at a0;rw[hg]at a4;rw[hn]at a3;have a5:(k:Int) < (n:Int):=by omega
 obtain⟨K,f⟩:=jx x.kind;have e0:prT (.mk x l)=zAh x (prs l):=zAO x l;rw[e0]at q⊢
 by_cases a1:K < 30
 · have e1:zAh x (prs l)=zt x (prs l):=by unfold zAh;rw[if_pos (by rw[f];exact a1)]
   rw[e1]at q⊢;have U:=zA (fun(W:World) (hb:jY w W)=>zIw (E.below (hb.mono (yAM G))) jo (e.below hb) q);have V:=zA (show∀(W:World),jY w W→Calls prog 27 #[.pointer (some g),k,.agg #[K,x.name,.slice s.As x.str.length s.cs,x.nk,x.nn,x.neg,.slice s.Am x.mag.length s.cm,.slice s.Ak l.length s.ck]] W (PutQ C us v W (zt x (prs l)))from by rw[←f,←hg];exact U.out);rw[f]at j0;rw[hg];clear U q E J L M I c u A z r hA e hN h he H d N O P Q R S T F e0 e1 f hg hn D;go_enter func14,ntmps14;go_wp2_with fail;refine(V.out _ (ja)).mono ?_;rintro e1 w1 ⟨rfl,v1,j,p⟩;have X:=zA j;have Y:=zA p;clear j p;go_wp2_with fail;exact jr (PutQ.back (ja) ⟨rfl,v1,X,Y⟩)
 · have e1:zAh x (prs l)=zq x (prs l):=by unfold zAh;rw[if_neg (by rw[f];exact a1)]
   rw[e1]at q⊢;have U:=zA (fun(W:World) (hb:jY w W)=>zHb (E.below (hb.mono (yAM G))) jo jo (J.below (hb.mono (yAM G))) (L.below (hb.mono (yAM G))) M (e.below hb) q);have V:=zA (show∀(W:World),jY w W→Calls prog 28 #[.pointer (some g),.agg #[K,x.name,.slice s.As x.str.length s.cs,x.nk,x.nn,x.neg,.slice s.Am x.mag.length s.cm,.slice s.Ak l.length s.ck]] W (PutQ C us v W (zq x (prs l)))from by rw[←f,←hg];exact U.out);rw[f]at j0;rw[hg];clear U q E J L M I c u A z r hA e hN h he H d N O P Q R S T F e0 e1 f hg hn D;go_enter func14,ntmps14;go_wp2_with fail;refine(V.out _ (ja)).mono ?_;rintro e1 w1 ⟨rfl,v1,j,p⟩;have X:=zA j;have Y:=zA p;clear j p;go_wp2_with fail;exact jr (PutQ.back (ja) ⟨rfl,v1,X,Y⟩)
theorem zSC {C:Cx} (b:zB0 C.ts 0 C.ts=true):∀m,m≤1000000→zAf C m:=by
 intro m
 induction m with
 | zero=>intro _ t k us v w d;have:=zBF t;omega
 | succ m c=>intro e;exact zOf (c jo) b jo
def zbW (c:UInt8):Bool:=decide (33≤c.toNat)&&decide (c.toNat≤126)&& !(c.toNat==34)
def zbX (c:UInt8):Bool:=decide (32≤c.toNat)&&decide (c.toNat≤126)&& !(c.toNat==34)
def zaf (s:jE):Bool:= !s.isEmpty &&s.all zbW
def zZE (s:jE):Prop:=zaf s=true∨∃b,s=34::(b++[34])∧b.all zbX=true
def AllInk (t:Tks):Prop:=∀s∈t,zZE s
theorem AllInk.nil:AllInk []:=fun _ h=>by cases h
theorem AllInk.cons {s:jE} {t:Tks} (h:zZE s) (c:AllInk t):AllInk (s::t):=fun x b=>by
 rcases yAW.1 b with rfl | b
 · exact h
 · exact c x b
theorem AllInk.one {s:jE} (h:zZE s):AllInk [s]:=AllInk.cons h AllInk.nil
theorem ink {s:jE} (h:zaf s=true):zZE s:=.inl h
def KdInk (ks:List Kd):Prop:=∀k∈ks,AllInk k.2
theorem KdInk.flat (h:KdInk ks):AllInk (ks.flatMap (·.2)):=fun s hs=>by
 obtain⟨k,hk,hs⟩:=List.mem_flatMap.1 hs;exact h k hk s hs
theorem KdInk.drop (h:KdInk ks) (n:Nat):KdInk (ks.drop n):=fun k hk=>h k (List.mem_of_mem_drop hk)
def zMy (u:jH) (w:World) (e:Ending) (w':World):Prop:=
 jY w w'∧(4096 < u.length∧e=.returned (.tuple #[(),(3:Int)])∨u.length≤4096∧∃v,e=.returned (.tuple #[v,(0:Int)])∧Made w w' 104 v (zAC u))
theorem zVh {w:World} (hN:NdsR w B A n ts) (hB:B≤w.heap.size) (j:n≤c) (d:(zAR ts).length≤1000000) (f:zI1 ts=false):
 Calls prog 6 #[.agg #[.slice A n c]] w fun e w'=>e=.returned (.tuple #[(),(2:Int)])∧jY w w':=by
 have k:=zA (fun(W:World) (hb:jY w W)=>zGl (c:=c) (hN.below (hb.mono hB)) (yAD hB hb.size) j d f);clear hN d f;go_enter func6,ntmps6;go_wp2_with fail;refine(k.out _ (ja)).mono ?_;rintro e1 w1 ⟨rfl,b⟩;have g:=zA (((Below.refl w.heap.size w).alloc (yAC _) _).trans (b.mono js));clear b;go_wp2_with fail
 go_ret2
 exact⟨rfl,g⟩
theorem zSD {w:World} (hN:NdsR w B A n ts) (hB:B≤w.heap.size) (Y:n≤c) (M:(zAR ts).length≤1000000) (N:Tab w) (v:2 < B) (I:May ts t) (O:MayPut [] (prT t)):
 Calls prog 6 #[.agg #[.slice A n c]] w (zMy (zDj t) w):=by
 obtain⟨W,q⟩:=jx (w.alloc (.cells #[.slice A n c] 24));have e:jY w W:=jb q;have y:w.heap.size < W.heap.size:=by rw[←q];simp
 have x0:W.cell? w.heap.size=some (.slice A n c):=jc q;have CM:=zA (zGl (c:=c) (hN.below (e.mono hB)) (yAD hB e.size) Y M (zYE I));have HN:=zA hN;have z:=zA e;have HT:=zA N;have r:=zA I;have P:=zA O;obtain⟨X,Q⟩:=jx w.heap.size;go_enter func6,ntmps6;go_upto_region 1 with(fail);clear hN M e N I O q;rw[Q]at x0 y;clear Q;go_wp2_with fail;refine CM.out.mono ?_;rintro e1 w1 ⟨rfl,k⟩;have y0:=(k.cell (p:=X) y).trans x0;have f:=zA (z.out.trans (k.mono z.out.size));clear k;go_upto_region 4 with(fail);obtain⟨w2,b⟩:=jx (w1.alloc (.cells #[.slice A n c,()] 43));have D:jY w1 w2:=jb b;have g:=zA (f.out.trans (D.mono f.out.size));have R:Pe ⟨B,w1.heap.size+1,w1.heap.size,n,c,A,ts⟩ [] (.slice none 0 0) w2:=by
  refine⟨⟨?_,?_,?_,yAJ _ _ _ _,yAF _⟩,HN.out.below (g.out.mono hB),?_,?_,HT.out.below v (g.out.mono hB),v⟩
  · rw[←b];exact yBR _ _ _ _ rfl
  · rw[←b];exact yBR _ _ _ _ rfl
  · rw[←b];exact World.frozen?_alloc_new _ _ _ _
  · rw[←b];simp
  · exact yAD hB f.out.size
 have S:=zA (zSC (C:=⟨B,w1.heap.size+1,w1.heap.size,n,c,A,ts⟩) r.out.each 4096 jo t 0 [] _ w2 (by have:=r.out.len;rwa[r.out.flat,flatT_len]at this) r.out.at_ R P);have T:w1.heap.size < w2.heap.size:=by rw[←b];simp
 rw[b];have l:=zA f.out.size;obtain⟨G,J⟩:=jx w1.heap.size;clear b D R y0 x0;rw[J]at S T l;rw[J];clear J;go_wp2_with fail;refine S.out.mono ?_;rintro e3 w3 ⟨rfl,v3,m,E⟩;have z1:w3.cell? ⟨G,1,none⟩=some v3:=m.pn.c1;have d:=m.pn.own;obtain⟨U,c3,rfl,_,_⟩:=zP d;obtain⟨u,s⟩:=jx (zC1 [] (prT t));have F:zDj t=u:=s;have H:=zA F;have j:w3.ownsRow (G+1) 104 1 (.slice U u.length c3) u.length (zAC u):=by rw[←s];exact d
 rw[s]at z1;have HO:=zA j;have o:=zA (g.out.trans (E.below (B:=w.heap.size) (fun i hi=>by simp[Value.ownBlock]at hi) l g.out.size));clear m E d j s F
 by_cases L:4096 < u.length
 · have h1:(4096:Int) < (u.length:Int):=by omega
   go_wp2_with fail
   go_ret2
   show zMy (zDj t) w _ _;rw[H.out];exact⟨o,.inl ⟨L,rfl⟩⟩
 · have h1:¬(4096:Int) < (u.length:Int):=by omega
   go_wp2_with fail
   go_ret2
   show zMy (zDj t) w _ _;rw[H.out];have V:w3.ownsRow w.heap.size 104 1 (.slice U u.length c3) (zAC u).length (zAC u):=by
    rw[zCR];exact zMw HO (yAD l (Nat.le_succ G))
   exact⟨o,.inr ⟨by omega,_,rfl,⟨V,o⟩⟩⟩
theorem zVi (h:May ts t) (b:∀x∈ts,∀y∈x.mag,y < 4294967296):MayPut [] (prT t):=by
 refine⟨fun s hs e=>(zIs (zYw (zRq _ t (yAC _) (zLy h).good (h.short b) s hs)) []).2.2.2 (by rw[e];rfl),?_⟩;have:=h.few b;simp;omega
theorem zX3 (h:May ts t) (b:∀x∈ts,∀y∈x.mag,y < 4294967296) (c:(zDj t).length≤4096):zBt (zDj t)=(ts,0,0):=by
 rw[zVP (zLy h) (h.short b) c,←h.flat]
def zKN:List Nd→Nat
 | []=>0
 | x::r=>1+x.str.length+x.mag.length+x.kids.length+x.name.length+zKN r
theorem zVj (a b:List Nd):zKN (a++b)=zKN a+zKN b:=by
 induction a with
 | nil=>simp[zKN]
 | cons x r c=>simp only[yAP,zKN,c];omega
theorem zSE {k:Nat} {x:Nd} (h:ts[k]? =some x):zKN (ts.take (k+1))=zKN (ts.take k)+(1+x.str.length+x.mag.length+x.kids.length+x.name.length):=by
 obtain⟨b,rfl⟩:=yAT.1 h;rw[yAK b,zVj];simp[zKN]
theorem zVk {x:Nd} (h:x∈ts):x.str.length+x.mag.length+x.kids.length+x.name.length≤zKN ts:=by
 induction ts with
 | nil=>cases h
 | cons y r b=>
  rcases yAW.1 h with rfl | h
  · simp only[zKN];omega
  · have:=b h;simp only[zKN];omega
theorem zSF (ts:List Nd):(zAR ts).length+ts.length≤zKN ts:=by
 induction ts with
 | nil=>exact yAC _
 | cons x r b=>rw[zCr,yAN,yAO];simp only[zKN];omega
structure FewP (ts:List Nd):Prop where
 len:ts.length≤20000
 all:(zAR ts).length≤20000
 each:∀x∈ts,x.str.length≤20000∧x.mag.length≤20000∧x.kids.length≤20000∧x.name.length≤20000
theorem zY1 (h:zKN ts≤20000):FewP ts:=by
 have h1:=zSF ts;refine⟨by omega,by omega,fun x b=>?_⟩;have:=zVk b;omega
def WgtAt (ts:List Nd) (k:Nat) (a:Nat):Prop:=(a≤20000→a=zKN (ts.take k))∧a≤200000
theorem WgtAt.start (ts:List Nd):WgtAt ts 0 0:=⟨fun _=>by simp[zKN],by omega⟩
theorem WgtAt.step {k a:Nat} {x:Nd} (h:WgtAt ts k a) (b:a≤20000) (c:ts[k]? =some x) {p q r s:Nat} (e:p=min x.str.length 20001) (f:q=min x.mag.length 20001) (g:r=min x.kids.length 20001) (hs:s=min x.name.length 20001):WgtAt ts (k+1) (a+1+p+q+r+s):=by
 have h1:=h.1 b;refine⟨fun d=>?_,by omega⟩;rw[zSE c,←h1];omega
theorem WgtAt.done {a:Nat} (h:WgtAt ts ts.length a) (b:a≤20000):FewP ts:=by
 have:=h.1 b;rw[yB (yAC _)]at this;exact zY1 jo
theorem zMz (L:Nat):(if(20001:Int) < (L:Int)then(20001:Int)else(L:Int))=((min L 20001:Nat):Int):=by split<;>omega
def zbY (ts:List Nd) (w:World) (e:Ending) (w':World):Prop:=∃q:Bool,e=.returned q∧(q=true→FewP ts)∧jY w w'
theorem zOg {w:World} (hN:NdsR w B A n ts) (hB:B≤w.heap.size) (hl:n≤20000):
 Calls prog 12 #[.agg #[.slice A n c],(20000:Int)] w fun e w'=>∃r:Nat,e=.returned r∧(r≤20000→FewP ts)∧jY w w':=by
 obtain⟨W,j⟩:=jx (w.alloc (.cells #[.slice A n c] 24));have l:jY w W:=jb j;have a0:W.heap.size=w.heap.size+1:=by rw[←j];simp
 have D:=zA ((hN.below (l.mono hB)));have E:W.cell? w.heap.size=some (.slice A n c):=jc j;have q:=zA l;have F:=zA hN.1;have HB:=zA hB;clear l hN;go_enter func12,ntmps12;go_upto_region 1 with(fail);have HW:=zA j;clear j;have y:w.heap.size < W.heap.size:=by omega
 go_wp2_with fail
 go_loopw [5,6] (fun v i wr=>∃(k a:Nat),k≤n∧v=.int .i64 (a:Int)∧i=.int .i64 (k:Int)∧Hid (WgtAt ts k a)∧Hid (jY W wr)) (fun _ i _=>n - (intOf i).toNat)
 case atStart=>exact⟨0,0,yAE _,rfl,rfl,WgtAt.start ts,Below.refl _ _⟩
 case round=>
  obtain⟨k,a,hk,rfl,rfl,m,d⟩:=hrel;have t:=d.out.size;have G:wr.cell? w.heap.size=some (.slice A n c):=(d.out.cell (p:=w.heap.size) y).trans E;have a1:=m.out.2
  by_cases H:k < n
  · have h1:(k:Int) < (n:Int):=by omega
    have U:decide ((k:Int) < (n:Int))=true:=yBE h1
    by_cases u:a≤20000
    · have z:(a:Int)≤20000:=by omega
      have V:decide ((a:Int)≤20000)=true:=yBE z;obtain⟨b,o,x,s,rfl,a2,I,Y,hR⟩:=(D.out.below (d.out.mono jo)).get H;obtain⟨J,L,M,N,O,P,Q,R⟩:=Y;have HX:=zA I;clear I hR;go_upto_region 6 with(fail);obtain⟨g,f⟩:=jx (wr.alloc (.cells #[x.kind,x.name,.slice s.As x.str.length s.cs,x.nk,x.nn,x.neg,.slice s.Am x.mag.length s.cm,.slice s.Ak x.kids.length s.ck] 58));rw[f];have p1:g.cell? ⟨wr.heap.size,1,none⟩=some (.string ⟨x.name.toArray⟩):=jc f;have p2:g.cell? ⟨wr.heap.size,2,none⟩=some (.slice s.As x.str.length s.cs):=jc f;have p6:g.cell? ⟨wr.heap.size,6,none⟩=some (.slice s.Am x.mag.length s.cm):=jc f;have p7:g.cell? ⟨wr.heap.size,7,none⟩=some (.slice s.Ak x.kids.length s.ck):=jc f;have S:=zA (show jY W g from by rw[←f];exact d.out.alloc t _);obtain⟨X,C⟩:=jx wr.heap.size;rw[C]at p1 p2 p6 p7;rw[C];clear f J L M N O P Q R G C d t;go_wp2_with fail
      go_roundw
      case rel=>
       exact⟨k+1,_,by omega,by first | (rw[zMz,zMz,zMz,zMz];rfl) | exact congrArg (Value.int IntKind.i64) jo,by go_num,m.out.step u HX rfl rfl rfl rfl,S⟩
      case measure=>simp[intOf];omega
    · have z:¬(a:Int)≤20000:=by omega
      have V:decide ((a:Int)≤20000)=false:=yAI z;go_wp2_with fail;go_ret;exact⟨a,rfl,fun h=>absurd h u,q.out.trans (d.out.mono jo)⟩
  · have h1:¬(k:Int) < (n:Int):=by omega
    have U:decide ((k:Int) < (n:Int))=false:=yAI h1;obtain rfl:k=n:=by omega
    have T:=zA (fun h:a≤20000=>(show WgtAt ts ts.length a by rw[F.out];exact m.out).done h);go_wp2_with fail;go_ret;exact⟨a,rfl,T,q.out.trans (d.out.mono jo)⟩
theorem zX4 {w:World} (hN:NdsR w B A n ts) (hB:B≤w.heap.size):
 Calls prog 5 #[.agg #[.slice A n c]] w (zbY ts w):=by
 by_cases h:n≤20000
 · have h1:(n:Int)≤20000:=by omega
   have j:decide ((n:Int)≤20000)=true:=yBE h1;have k:=zA (fun(W:World) (hb:jY w W)=>zOg (c:=c) (hN.below (hb.mono hB)) (yAD hB hb.size) h);clear hN;go_enter func5,ntmps5;go_wp2_with fail;refine(k.out _ (ja)).mono ?_;rintro e1 w1 ⟨r,rfl,f,b⟩;have d:=zA (((Below.refl w.heap.size w).alloc (yAC _) _).trans (b.mono js));have l:=zA f;clear b f
   by_cases g:r≤20000
   · have e:(r:Int)≤20000:=by omega
     have m:decide ((r:Int)≤20000)=true:=yBE e;go_wp2_with fail;go_ret;exact⟨true,rfl,fun _=>l.out g,d⟩
   · have e:¬(r:Int)≤20000:=by omega
     have m:decide ((r:Int)≤20000)=false:=yAI e;go_wp2_with fail;go_ret;exact⟨false,rfl,fun h=>(by cases h),d⟩
 · have h1:¬(n:Int)≤20000:=by omega
   have j:decide ((n:Int)≤20000)=false:=yAI h1;go_enter func5,ntmps5;go_wp2_with fail;go_ret;exact⟨false,rfl,fun h=>(by cases h),ja⟩
end Go.Proofs.YtjlfhidpmdgloaaGreatDoor
