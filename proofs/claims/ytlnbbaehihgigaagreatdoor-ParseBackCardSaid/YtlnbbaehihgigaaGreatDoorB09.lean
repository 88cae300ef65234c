/- Joined for the claim ParseBack: the parser, the lexer and the trees as they are walked, made short by a program of mine. -/
import Derived.Lib.SliceRun
import Derived.Deep.CutBlock
import Derived.Deep.DeepCutAuto
import Derived.Test.YtlnbbaehihgigaaGreatDoorB01
import Derived.Test.YtlnbbaehihgigaaGreatDoorB04
import Derived.Test.YtlnbbaehihgigaaGreatDoorB05
import Derived.Test.YtlnbbaehihgigaaGreatDoorB07
import Derived.Test.YtlnbbaehihgigaaGreatDoorB08
import Derived.Test.YtlnbbaehihgigaaGreatDoorB02
import Derived.Laws.OwnMore
import Derived.Deep.LoopGhost
import Derived.Laws.BitsAllLaws
set_option maxHeartbeats 16000000
set_option maxRecDepth 1000000
namespace Go.Proofs.YtlnbbaehihgigaaGreatDoor
open Go.Proofs.Tryz
open Go.RowKit
variable {Ak A:Option Addr} {ck k0 n c i B base size L j:Nat} {a0 a1 a2:Tr} {xs:List Nat} {zs cs:List UInt8} {e:TypeId} {w':World} {K:Int}
theorem zTF (l:List Nat):∀u∈zBi l,u.oneCell'=true:=by
 intro u b;obtain⟨n,_,rfl⟩:=List.mem_map.1 b;rfl
theorem zLw {w:World} {b:Nat} {v:Value} {xs:List Value} (h:w.ownsRow base e size v n xs) (hb:b≤base):w.ownsRow b e size v n xs:=by
 refine⟨h.1,?_⟩;rcases h.2 with h1 | ⟨g,cap,c,h1,d,f⟩
 · exact .inl h1
 · exact .inr ⟨g,cap,c,h1,yAD hb d,f⟩
section
variable {P:Program} {w0 w:World} {ops:Array Oper} {rest:List Oper} {o:Oper} {a:Act} {Q:Exit→Act→World→Prop}
theorem zKh (f:o.guard=none) (s x:Operand) (t:TypeId)
 (g:o.op=.call {callee:=.builtin .append,args:=#[s,x],argTypes:=#[t,t]})
 (e:TypeId) (i:TypeInfo) (z:Value) (bytes:Nat) (ht:P.underlying t=some (.slice e)) (hi:P.info? e=some i) (hz:i.zero=some z)
 (hsize:i.size=1) (hby:i.bytes=bytes) (hzs:z.cells.size=1)
 (v:Value) (xs:List Value) (hs:a.eval s=v) (hm:Made w0 w e v xs)
 (B:Nat) (A:Option Addr) (m c:Nat) (news:List Value) (hx:a.eval x=.slice A m c) (hr:Reads w B 1 A m news) (h1:∀u∈news,u.oneCell'=true)
 (hsz:xs.length+m≤35184372088832) (hb2:bytes≤4)
 (h:∀v' w',Made w0 w' e v' (xs++news)→wpList P ops Q rest (a.put o.dst v') w'):wpList P ops Q (o::rest) a w:=by
 have j:news.length=m:=by have:=hr.1;omega
 subst j;have b:(xs.length+news.length)*bytes≤140737488355328:=by
  calc (xs.length+news.length)*bytes≤35184372088832*4:=Nat.mul_le_mul hsz hb2
   _≤140737488355328:=by omega
 obtain⟨v',w',d,l,p,_⟩:=zG5 (P:=P) w w0.heap.size t o.type e i z 1 bytes ht hi hz hsize hby hzs jo v xs.length xs hm.own B A news.length c news hr h1 (by unfold maxLen;omega) b hm.below.size;refine wpList_plain f fun K q=>?_;unfold Oper.wp execOp;simp only[g,resolve,invoke,builtin,Sem.run_bind,Sem.run_pure,Result.andThen_ok,List.map_toArray,List.map_cons,List.map_nil,hs,hx,d];refine q _ _ (h v' w' ⟨by rw[List.length_append];exact l,hm.below.grown p hm.below.size (fun k hk=>(hm.own.lt k hk).1)⟩)
end
theorem zNG {w:World} (k:xs.length=n) (hB:B≤w.heap.size) (f:Reads w B 1 A n (zBi xs)) (z:n≤4096):
 Calls prog 118 #[.slice A n c] w fun e w'=>∃d cp,e=.returned (.slice d n cp)∧w'.ownsRow w.heap.size 67 1 (.slice d n cp) n (zBi xs)∧Below w.heap.size w w':=by
 obtain⟨s,l,m,o,p⟩:=info_parts Tryz.info_u32;cases A with
 | none=>
  have t:n=0:=by
   rcases Nat.eq_zero_or_pos n with h | h
   · exact h
   · obtain⟨u,h1,_⟩:=f.2 h;cases h1
  subst t;have v:xs=[]:=List.eq_nil_of_length_eq_zero k;subst v;refine(Tryz.slices_Clone_nil 0 c w).mono ?_;rintro e w' ⟨rfl,rfl⟩;exact⟨none,0,rfl,yAJ _ _ _ _,Below.refl _ _⟩
 | some u=>
  have q:=zA (f.alloc hB (.cells #[] 67));clear f;have r:=zA (zSF xs);have y:∀(w:World) (a:Option Addr) (n c g j:Nat),(binOp .eql 38 (.slice a n c) (.slice none g j)).run prog w=.ok (.bool a.isNone) w:=fun w a n c g j=>Lib.run_eql_slice_nil w _ _ a n c g j underlying38;subst k;go_enter func118,ntmps118;go_wp2_with (at_builtin;refine zKh rfl _ _ 38 rfl 67 s _ 4 underlying38 l m o p rfl _ _ rfl (Made.empty w _) _ _ _ c _ rfl q.out (zTF _) (by simp;omega) jo ?_;intro v' w' b);obtain⟨d,cp,rfl,_,_,_⟩:=b.shape;rw[List.nil_append,r.out];go_ret;exact⟨d,cp,rfl,by have:=b.own;rwa[List.nil_append,r.out]at this,b.below⟩
theorem zLx {w:World} (r:xs.length=n) (q:Reads w B 1 A n (zBi xs)) (hB:B≤w.heap.size) (v:∀y∈xs,y < 4294967296) (j:zBN false xs=true):
 Calls prog 87 #[.agg #[.bool false,.slice A n c]] w fun e w'=>∃k cp,e=.returned (.slice k n cp)∧w'.ownsRow w.heap.size 67 1 (.slice k n cp) n (zBi xs)∧Below w.heap.size w w':=by
 have G:n≤8:=by
  unfold zBN at j;rw[Bool.and_eq_true]at j;have:=of_decide_eq_true j.1;omega
 obtain⟨W,f⟩:=jx (w.alloc (.cells #[.bool false,.slice A n c] 40));have d:Below w.heap.size w W:=jb f;have l:w.heap.size < W.heap.size:=by rw[←f];simp
 have x0:W.cell? ⟨w.heap.size,0,none⟩=some (.bool false):=jc f;have x1:W.cell? ⟨w.heap.size,1,none⟩=some (.slice A n c):=jc f;have z:=zA (zIK (c:=c) false r (q.below (d.mono hB)) (yAD hB d.size) v j);have m:=zA d;have C:=zA q;obtain⟨X,s⟩:=jx w.heap.size;go_enter func87,ntmps87;go_upto_region 1 with(fail);clear q d f;rw[s]at x0 x1 l;clear s;go_wp2_with fail;refine z.out.mono ?_;rintro e1 w1 ⟨rfl,g⟩;have F:=(g.cell (p:=⟨X,1,none⟩) l).trans x1;have b:=zA (m.out.trans (g.mono m.out.size));have D:=zA (zNG (c:=c) r (yAD hB b.out.size) (C.out.below (b.out.mono hB)) jo);clear g;go_wp2_with fail;refine D.out.mono ?_;rintro e2 w2 ⟨k,cp,rfl,t,o⟩;have E:=zA (zLw t b.out.size);have u:=zA (b.out.trans (o.mono b.out.size));clear t o;go_wp2_with fail;go_ret;exact⟨k,cp,rfl,E.out,u.out⟩
theorem zTG {w:World} (o:xs.length=n) (k:Reads w B 1 A n (zBi xs)) (hB:B≤w.heap.size) (q:∀y∈xs,y < 4294967296) (r:zBN false xs=true):
 Calls prog 89 #[.agg #[.bool false,.slice A n c]] w fun e w'=>e=.returned (.bool false)∧Below w.heap.size w w':=by
 obtain⟨W,d⟩:=jx (w.alloc (.cells #[.bool false,.slice A n c] 40));have b:Below w.heap.size w W:=jb d;have g:w.heap.size < W.heap.size:=by rw[←d];simp
 have x0:W.cell? ⟨w.heap.size,0,none⟩=some (.bool false):=jc d;have x1:W.cell? ⟨w.heap.size,1,none⟩=some (.slice A n c):=jc d;have s:=zA (zIK (c:=c) false o (k.below (b.mono hB)) (yAD hB b.size) q r);have j:=zA b;obtain⟨X,l⟩:=jx w.heap.size;go_enter func89,ntmps89;go_upto_region 1 with(fail);clear k b d;rw[l]at x0 x1 g;clear l;go_wp2_with fail;refine s.out.mono ?_;rintro e1 w1 ⟨rfl,f⟩;have t:=(f.cell (p:=⟨X,0,none⟩) g).trans x0;have m:=zA (j.out.trans (f.mono j.out.size));clear f;go_wp2_with fail;go_ret;exact⟨rfl,m.out⟩
def AtRev (zs:List UInt8) (i:Nat) (cs:List UInt8):Prop:=cs.length=zs.length∧2*i≤zs.length∧∀j,j < zs.length→cs[j]? =if j < i∨zs.length≤j+i then zs[zs.length - 1 - j]? else zs[j]?
theorem AtRev.start (zs:List UInt8):AtRev zs 0 zs:=⟨rfl,by omega,fun j b=>by rw[jn]⟩
theorem AtRev.done (h:AtRev zs i cs) (c:zs.length≤2*i+1):cs=zs.reverse:=by
 obtain⟨d,_,hg⟩:=h;apply List.ext_getElem?;intro j
 by_cases b:j < zs.length
 · rw[hg j b,List.getElem?_reverse b];split
   · rfl
   · rw[show zs.length - 1 - j=j by omega]
 · rw[List.getElem?_eq_none jo,List.getElem?_eq_none (by simp;omega)]
theorem AtRev.get (h:AtRev zs i cs) (h1:i≤j) (b:j+i < zs.length):cs[j]? =zs[j]? :=by
 rw[h.2.2 j jo,jn]
theorem AtRev.step {a b:UInt8} (h:AtRev zs i cs) (l:i+c+1=zs.length) (g:i < c) (f:cs[i]? =some a) (hb:cs[c]? =some b):AtRev zs (i+1) ((cs.set i b).set c a):=by
 have d:=h.get (yAC i) jo;have e:=h.get (j:=c) jo jo;refine⟨by simp[h.1],by omega,fun k hk=>?_⟩;rw[List.getElem?_set,List.getElem?_set]
 by_cases e1:c=k
 · subst e1;rw[if_pos rfl,if_pos (by simp;have:=h.1;omega),if_pos jo,show zs.length - 1 - c=i by omega,←d,f]
 · rw[if_neg e1]
   by_cases e2:i=k
   · subst e2;rw[if_pos rfl,if_pos (by have:=h.1;omega),if_pos jo,show zs.length - 1 - i=c by omega,←e,hb]
   · rw[if_neg e2,h.2.2 k hk]
     by_cases e3:k < i∨zs.length≤k+i
     · rw[if_pos e3,if_pos jo]
     · rw[if_neg e3,jn]
theorem zZo {l:List UInt8} {a:UInt8} (h:l[j]? =some a):(u8s l)[j]? =some (.int .u8 (a.toNat:Int)):=by
 simp[u8s,u8v,h]
theorem zQO (l:List UInt8) (j:Nat) (a:UInt8):(u8s l).set j (.int .u8 (a.toNat:Int))=u8s (l.set j a):=by
 simp[u8s,u8v,List.map_set]
theorem zTH {g cp:Nat} {w:World} (y:zs.length=n) (D:n≤1000000) (p:w.ownsRow base 5 1 (.slice (some ⟨g,0,none⟩) n cp) n (u8s zs)):
 Calls prog 90 #[.slice (some ⟨g,0,none⟩) n cp] w fun e w'=>e=.returned (.tuple #[])∧w'.ownsRow base 5 1 (.slice (some ⟨g,0,none⟩) n cp) n (u8s zs.reverse)∧w.grownBy w' (some g):=by
 subst y;have z:=zA p;clear p;go_enter func90,ntmps90;go_wp2_with fail
 go_loopg [2,3] zs.length (fun r A B wr=>∃(i:Nat) (f:Int) (cs:List UInt8),A=.int .i64 i∧B=.int .i64 f∧f=(zs.length:Int) - 1 - i∧i+r=zs.length∧Hid (wr.ownsRow base 5 1 (.slice (some ⟨g,0,none⟩) zs.length cp) zs.length (u8s cs))∧Hid (w.grownBy wr (some g))∧Hid (AtRev zs i cs))
 case atStart=>exact⟨0,_,zs,rfl,rfl,by omega,by omega,z.out,World.grownBy.refl w _,AtRev.start zs⟩
 case round=>
  obtain⟨i,f,cs,rfl,rfl,q,E,c,k,j⟩:=hrel
  by_cases F:(i:Int) < f
  · obtain⟨d,rfl⟩:∃d:Nat,f=(d:Int):=⟨f.toNat,by omega⟩;have s:i+d+1=zs.length:=by omega
    have t:i < d:=by omega
    have u:=j.out.1;obtain⟨a,o⟩:∃a,cs[i]? =some a:=⟨cs[i]' jo,yAB _⟩;obtain⟨b,hb⟩:∃b,cs[d]? =some b:=⟨cs[d]' jo,yAB _⟩;have I:wr.cell? ⟨g,i,none⟩=some (.int .u8 (a.toNat:Int)):=by rw[c.out.cellAt i jo,zZo o]
    have J:wr.cell? ⟨g,d,none⟩=some (.int .u8 (b.toNat:Int)):=by rw[c.out.cellAt d jo,zZo hb]
    have L:=c.out.frozenAt i;have M:=c.out.frozenAt d;have v:=zA (j.out.step s t o hb);have G:(i:Int) < (zs.length:Int):=by omega
    have H:(d:Int) < (zs.length:Int):=by omega
    clear q u o hb;go_wp2_with fail;go_region
    all_goals go_wp2
    all_goals go_roundg (gk - 1)
    case measure=>omega
    case rel=>
     have l:=c.out.stored i (.int .u8 (b.toNat:Int));have m:=l.1.stored d (.int .u8 (a.toNat:Int));refine⟨i+1,(d:Int) - 1,(cs.set i b).set d a,by go_num,rfl,by omega,by omega,?_,zC k.out (zC (zC l.2 m.2) (zAE _ (some g) 1)),v.out⟩;rw[←zQO,←zQO];exact m.1.drew
  · have C:=j.out.done jo;go_wp2
    go_end0
    exact⟨rfl,by rw[←C];exact c.out,k.out⟩
theorem zQP (l:List Nat) (k x:Nat):(zBi l).set k (.int .u32 (x:Int))=zBi (l.set k x):=by
 simp[zBi,List.map_set]
theorem zNH {w:World} {v:Value} {xs:List Value} (h:w.ownsRow base e size v n xs) (hb:Below w.heap.size w w'):w'.ownsRow base e size v n xs:=
 h.kept (row:=none) ⟨hb.os,hb.tape,hb.output,hb.size,fun k hk _=>hb.block k hk⟩ (by cases hv:v.ownBlock<;>simp)
theorem zQQ {w:World} {g:Nat} {xs:List Value} {row:Option Nat} (h:w.ownsRow base e size (.slice (some ⟨g,0,none⟩) n c) n xs) (hg:w.grownBy w' row) (f:some g≠row):w'.ownsRow base e size (.slice (some ⟨g,0,none⟩) n c) n xs:=by
 refine⟨h.1,?_⟩;rcases h.2 with⟨h1,_⟩ | ⟨j,cap,k,h1,hb,b,l⟩
 · cases h1
 · right;refine⟨j,cap,k,h1,hb,?_,l⟩;have e:g=j:=by injection h1 with h1;injection h1 with h1;injection h1
   subst e;rw[hg.block g (by
    rcases Nat.lt_or_ge g w.heap.size with d | d
    · exact d
    · rw[Array.getElem?_eq_none d]at b;cases b) f]
   exact b
theorem zZQ {r x:Nat} (c:r≤9) (b:x < 4294967296):bits .or .u64 (((r*4294967296:Nat)):Int) (x:Int)=((r*4294967296+x:Nat):Int):=by
 have:=u64_or_nat (r*4294967296) x jo jo;rw[this,show r*4294967296=2^32*r by omega,Nat.two_pow_add_eq_or_of_lt b]
theorem zNI {w:World} (hn:xs.length=n) (ha:Reads w B 1 A n (zBi xs)) (hB:B≤w.heap.size) (hl:∀y∈xs,y < 4294967296) (D:zBN false xs=true) (h0:0 < n) (h8:n≤8) (a6:zAh xs=xs) (f5:(zBR (zB1 xs)).length≤78):
 Calls prog 49 #[.agg #[.bool false,.slice A n c]] w fun e w'=>e=.returned (.string ⟨(zBR (zB1 xs)).toArray⟩)∧Below w.heap.size w w':=by
 obtain⟨i0,c7,c8,d0,d1⟩:=info_parts Tryz.info_u8;obtain⟨W,N⟩:=jx (w.alloc (.cells #[.bool false,.slice A n c] 40));have j:Below w.heap.size w W:=jb N;have E:w.heap.size < W.heap.size:=by rw[←N];simp
 have x0:W.cell? ⟨w.heap.size,0,none⟩=some (.bool false):=jc N;have x1:W.cell? ⟨w.heap.size,1,none⟩=some (.slice A n c):=jc N;have CM:=zA (zLx (c:=c) hn (ha.below (j.mono hB)) (yAD hB j.size) hl D);have CG:=zA (fun(w2:World) (hb:Below W.heap.size W w2)=>zTG (c:=c) hn (ha.below ((j.trans (hb.mono j.size)).mono hB)) (yAD hB (j.trans (hb.mono j.size)).size) hl D);have O:=zA j;have HN:=zA hn;have HL:=zA hl;have HT:=zA a6;obtain⟨X,hX⟩:=jx w.heap.size;go_enter func49,ntmps49;go_upto_region 1 with(fail);clear ha j N hl D a6 hn;rw[hX]at x0 x1 E;clear hX;go_wp2_with fail;refine CM.out.mono ?_;rintro e1 w1 ⟨A',cp,rfl,ho,I⟩;obtain⟨g,cap,hv,f7,d2⟩:=ho.form h0;injection hv with hA _ hcap;subst hA hcap;obtain⟨d3,d4⟩:n≤cp∧cp≤maxLen:=by
  obtain⟨_,c9,e9,h1,h2⟩:=zR ho;injection e9 with e91 e92 e93;subst e93;exact⟨h1,h2⟩
 have f8:((n:Int)==0)=false:=yA.2 jo;have y0:=(I.cell (p:=⟨X,0,none⟩) E).trans x0;have y1:=(I.cell (p:=⟨X,1,none⟩) E).trans x1;have P:=zA I;have HO:=zA ho;clear I ho;go_wp2_with fail
 go_loopg [3,4] (zB1 xs) (fun r m l wr=>∃(ms:List Nat) (k:Nat) (u:List UInt8),m=.slice (some ⟨g,0,none⟩) k cp∧k≤8∧k≤cp∧Hid (zB1 ms=r)∧Hid (ms.length=k)∧Hid (zAh ms=ms)∧Hid (∀y∈ms,y < 4294967296)∧Hid (wr.ownsRow W.heap.size 67 1 (.slice (some ⟨g,0,none⟩) k cp) k (zBi ms))∧Hid (MadeM w1 wr g 5 l (u8s u))∧Hid (AtTxt (zB1 xs) r u))
 case atStart=>exact⟨xs,n,[],rfl,h8,d3,rfl,HN.out,HT.out,HL.out,HO.out,MadeM.nil (World.grownBy.refl w1 _) _,AtTxt.start (fun e=>by have h1:=zDi.2 e;rw[HT.out]at h1;have:=HN.out;rw[h1]at this;simp at this;omega)⟩
 case round=>
  obtain⟨ms,k,u,rfl,f9,d5,s,f,a7,Q,R,S,v⟩:=hrel
  by_cases hk:0 < k
  · go_wp2_with fail;obtain⟨G,rfl⟩:∃G,G=gk:=⟨_,rfl⟩;obtain⟨wo,rfl⟩:∃wo,wo=wr:=⟨_,rfl⟩
    go_loopg [5,6] k (fun q rv iv wi=>∃(rr:Nat) (cs:List Nat),rv=.int .u64 rr∧iv=.int .i64 ((q:Int) - 1)∧q≤k∧rr≤9∧Hid (AtDiv ms q rr cs)∧Hid (wi.ownsRow W.heap.size 67 1 (.slice (some ⟨g,0,none⟩) k cp) k (zBi cs))∧Hid (wo.grownBy wi (some g)))
    case atStart=>exact⟨0,ms,rfl,rfl,yAC _,by omega,by rw[←f.out];exact AtDiv.start Q.out,R.out,World.grownBy.refl _ _⟩
    case round=>
     obtain⟨rr,cs,rfl,rfl,g0,d6,b,o,T⟩:=hrel
     by_cases g1:0 < gk
     · obtain⟨p,hp⟩:∃p,gk=p+1:=⟨gk - 1,by omega⟩;subst hp;have J:p < ms.length:=by rw[f.out];omega
       have hx:=b.out.get J;have a8:ms[p] < 4294967296:=Q.out _ (List.getElem_mem _);have d7:wr.cell? ⟨g,p,none⟩=some (.int .u32 (ms[p]:Int)):=by
        rw[o.out.cellAt p jo,zLU (by rw[b.out.len];exact J),hx]
       have g3:=o.out.frozenAt p;have L:=zA (b.out.step J);obtain⟨x,a9⟩:=jx (ms[p]);rw[a9]at d7 L a8;obtain⟨t,ht⟩:=jx (rr*4294967296+x);have d8:t < 42949672960:=by omega
       rw[ht]at L;have g4:bits .or .u64 ((rr:Int)*4294967296) (x:Int)=(t:Int):=by
        have:=zZQ d6 a8;rw[ht]at this;rw[←this];congr 1
       obtain⟨d,hd⟩:=jx (t / 10);obtain⟨mm,U⟩:=jx (t % 10);have em:(t:Int).tmod 10=(mm:Int):=by rw[←U];rfl
       have g5:(t:Int).tdiv 10=(d:Int):=by rw[←hd];rfl
       have g6:(d:Int)≤4294967295:=by omega
       have d9:mm≤9:=by omega
       rw[hd,U]at L;have ep:((p+1:Nat):Int) - 1=(p:Int):=by omega
       rw[ep];clear hx a9 J ht hd U d8;go_wp2_with fail
       go_roundg p
       case measure=>omega
       case rel=>
        have st:=o.out.stored p (.int .u32 (d:Int));rw[zQP]at st;refine⟨mm,cs.set p d,rfl,rfl,by omega,d9,L.out,st.1,zC T.out st.2⟩
     · obtain rfl:gk=0:=by omega
       have e0:=b.out.done;have H:=b.out.len;rw[f.out]at H;have b0:rr=zB1 ms % 10:=by omega
       have b1:zB1 cs=zB1 ms / 10:=by omega
       have V:zB1 ms≠0:=fun e=>by
        have h1:=zDi.2 e;rw[a7.out]at h1;have:=f.out;rw[h1]at this;simp at this;omega
       have Y:=zA (v.out.step (by rw[←s.out];exact V));rw[←s.out]at Y;rw[←b0]at Y;have e2:=zA v.out.len;have g7:(u8s u).length≤78:=by rw[zFF];have:=e2.out;omega
       have b2:=zA (S.out.go d2 T.out);have e3:some g≠u4.ownBlock:=fun e=>by have:=(b2.out.own.lt g e.symm).1;omega
       have HC:=zA (show u8s [chr (48+rr)]=[.int .u8 (48+(rr:Int))] by
        have:(chr (48+rr)).toNat=48+rr:=zNs jo;simp[u8s,u8v,this])
       have b3:=zA b1;have b4:=zA H;have e4:=zA b.out.lt;have e7:=zA V;clear e0 b0 b1 H V S v b;go_wp2_with (at_builtin;refine zJ2 rfl _ _ 115 rfl 5 i0 _ 1 underlying115 c7 c8 d0 d1 rfl _ _ rfl b2.out [.int .u8 (48+(rr:Int))] 1 1 rfl rfl rfl jo jo ?_;intro v' w' b5 b6);have a0:=zQQ o.out b6 e3;obtain⟨m,z⟩:=jx ((zAh cs).length);have e8:m≤k:=by have:=zIz cs;rwa[z,b4.out]at this
       have b7:w'.ownsRow W.heap.size 67 1 (.slice (some ⟨g,0,none⟩) m cp) m (zBi (zAh cs)):=by
        have h1:=zLV a0 e8;rw[zI8,←z,←zD1]at h1;rw[←z];exact h1
       have CT:=zA (zEx (xs:=cs) (m:=m) (c:=cp) b4.out (Reads.of_own a0) jo d5 d4 z);have f0:=zA b7;have f1:=zA b5;have f2:=zA z;clear a0 b7 b5 b6 z;refine CT.out.mono ?_;rintro e5 w5 ⟨rfl,rfl⟩;go_wp2_with fail
       go_roundg (zB1 (zAh cs))
       case measure=>
        have:=zHp cs;have h2:=b3.out;have h3:=e7.out;have h4:=s.out;omega
       case rel=>
        refine⟨zAh cs,m,u++[chr (48+rr)],rfl,by omega,by omega,rfl,f2.out,zNE cs,fun y hy=>e4.out y (zQN hy),f0.out,f1.out.cells (by rw[←HC.out];simp[u8s]),?_⟩;have:=Y.out;rwa[←b3.out,←zHp cs]at this
  · have b8:k=0:=by omega
    have b9:ms=[]:=List.eq_nil_of_length_eq_zero (by rw[f.out,b8]);have c0:gk=0:=by rw[←s.out,b9];rfl
    rw[c0]at v;have C:=v.out.done;have a1:0 < u.length:=by
     rcases Nat.eq_zero_or_pos u.length with h | h
     · exfalso;have h1:=congrArg List.length C;rw[List.length_reverse,h]at h1;have h2:0 < (zBR (zB1 xs)).length:=by
        by_cases c1:zB1 xs < 10
        · rw[zCY c1];simp
        · rw[zDE c1];simp
       omega
     · exact h
    have a2:u.length≤78:=by have:=congrArg List.length C;rw[List.length_reverse]at this;omega
    have F:=S.out.own;obtain⟨g2,f3,a3,f6,_⟩:=F.form (by rw[zFF];exact a1);rw[zFF]at a3 F;rw[a3]at F;have M:=zA (P.out.grown S.out.grown P.out.size (fun k hk=>by injection hk with hk;omega));have z0:=(M.out.cell (p:=⟨X,0,none⟩) E).trans x0;have z1:=(M.out.cell (p:=⟨X,1,none⟩) E).trans x1;have c2:=zA F;have c6:=zA C;have c3:=zA (O.out.trans (M.out.mono O.out.size));have CN:=zA (CG.out wr M.out);obtain⟨q,D⟩:=jx u.length;subst a3;have HQ:=zA D;rw[D]at a1 a2 c2;subst b8;rw[D];clear b9 c0 C F s f a7 Q R S v D y0 y1 x0 x1;go_wp2_with fail;refine CN.out.mono ?_;rintro e5 w5 ⟨rfl,a4⟩;have CR:=zA (zTH (zs:=u) HQ.out jo (zNH c2.out a4));have c4:=zA (c3.out.trans (a4.mono c3.out.size));clear a4;go_wp2_with fail;refine CR.out.mono ?_;rintro e6 w6 ⟨rfl,a5,c5⟩;rw[c6.out]at a5;have hs:=zEU (c:=f3) (Reads.of_own a5);have f4:=zA (show Below w.heap.size w w6 from c4.out.grown c5 c4.out.size (fun k hk=>by injection hk with hk;have:=P.out.size;have:=O.out.size;omega));clear a5 c5;go_wp2_with fail;go_ret;exact⟨rfl,f4.out⟩
theorem zNJ {w:World} (j:Reads w B 1 A 0 (zBi [])) (hB:B≤w.heap.size):
 Calls prog 49 #[.agg #[.bool false,.slice A 0 c]] w fun e w'=>e=.returned (.string ⟨#[48]⟩)∧Below w.heap.size w w':=by
 obtain⟨W,d⟩:=jx (w.alloc (.cells #[.bool false,.slice A 0 c] 40));have b:Below w.heap.size w W:=jb d;have x0:W.cell? ⟨w.heap.size,0,none⟩=some (.bool false):=jc d;have x1:W.cell? ⟨w.heap.size,1,none⟩=some (.slice A 0 c):=jc d;have m:=zA (zLx (xs:=[]) (c:=c) rfl (j.below (b.mono hB)) (yAD hB b.size) js (by rfl));have f:=zA b;obtain⟨X,k⟩:=jx w.heap.size;go_enter func49,ntmps49;go_upto_region 1 with(fail);clear j b d;rw[k]at x0 x1;clear k;go_wp2_with fail;refine m.out.mono ?_;rintro e1 w1 ⟨p,cp,rfl,o,g⟩;have l:=zA (f.out.trans (g.mono f.out.size));clear o g;go_wp2_with fail;go_ret;exact⟨rfl,l.out⟩
theorem zQR {w:World} (j:xs.length=n) (k:Reads w B 1 A n (zBi xs)) (hB:B≤w.heap.size) (o:∀y∈xs,y < 4294967296) (b:zBN false xs=true) (f:(zBR (zEQ xs)).length≤78):
 Calls prog 49 #[.agg #[.bool false,.slice A n c]] w fun e w'=>e=.returned (.string ⟨(zBR (zEQ xs)).toArray⟩)∧Below w.heap.size w w':=by
 rcases Nat.eq_zero_or_pos n with g | g
 · subst g;have d:xs=[]:=List.eq_nil_of_length_eq_zero j;subst d;refine(zNJ k hB).mono ?_;rintro e w' ⟨rfl,hb⟩;exact⟨by rw[show zEQ []=0 from rfl,zCY jo];rfl,hb⟩
 · have p:n≤8:=by
    unfold zBN at b;rw[Bool.and_eq_true]at b;have:=of_decide_eq_true b.1;omega
   have l:zAh xs=xs:=by
    unfold zBN at b;rw[Bool.and_eq_true]at b;have m:=b.2;cases d:xs.getLast? with
    | none=>rw[List.getLast?_eq_none_iff]at d;subst d;rfl
    | some x=>
     rw[d]at m;exact zNF d (by simpa using m)
   rw[←zQM]at f⊢;exact zNI j k hB o b g p l f
theorem zXt {C:Cx} {us:List UInt16} {v:Value} {w:World} (m:ByteArray) (vs o:Value) (nn:Int) (p:Bool) (z:0≤nn) (h1:nn≤9007199254740991) (q:Pe C us v w) (r:MayPut us ([zBR nn.toNat])):
 Calls prog 29 #[.pointer (some ⟨C.g,0,none⟩),.agg #[.int .i64 30,.string m,vs,.int .i64 0,.int .i64 nn,.bool p,o,.slice Ak L ck]] w (PutQ C us v w ([zBR nn.toNat])):=by
 obtain⟨W,b⟩:=jx (w.alloc (.cells #[.int .i64 30,.string m,vs,.int .i64 0,.int .i64 nn,.bool p,o,.slice Ak L ck] 43));have c:Below w.heap.size w W:=jb b;have x0:W.cell? ⟨w.heap.size,0,none⟩=some (.int .i64 30):=jc b;have A:W.cell? ⟨w.heap.size,3,none⟩=some (.int .i64 0):=jc b;have B:W.cell? ⟨w.heap.size,4,none⟩=some (.int .i64 nn):=jc b;have x7:W.cell? ⟨w.heap.size,7,none⟩=some (.slice Ak L ck):=jc b;have f:=zA (q.below c);have j:=zA c;have D:=zA r;have E:=zA (zIk nn W z h1 f.out.tab);obtain⟨X,d⟩:=jx w.heap.size;go_enter func29,ntmps29;go_upto_region 1 with(fail);clear q r c;clear b;rw[d]at x0;rw[d]at A;rw[d]at B;rw[d]at x7;clear d;go_wp2_with fail;refine E.out.mono ?_;rintro e1 w1 ⟨rfl,e⟩;have s:=zA (f.out.below e);have t:=zA (j.out.trans (e.mono j.out.size));have F:=zA (zAC s.out [zBR nn.toNat] 1 rfl D.out);clear e;go_wp2_with fail;refine F.out.mono ?_;rintro e2 w2 ⟨rfl,v2,k,l⟩;have u:=zA k;have y:=zA l;clear k l;go_wp2_with fail;exact jr (PutQ.back t.out ⟨rfl,v2,u.out,y.out⟩)
theorem zW4 {C:Cx} {us:List UInt16} {v:Value} {w:World} {d:List UInt8} {b:ByteArray} (h:⟨d.toArray⟩=b) (c:Pe C us v w) (f:MayPut us [d++[110]]):
 Calls prog 43 #[.pointer (some ⟨C.g,0,none⟩),.slice (some ⟨w.heap.size,0,none⟩) 1 1] (w.alloc (.cells #[.string (b++⟨#[110]⟩)] 9)) (PutQ C us v w [d++[110]]):=by
 have e:b++⟨#[110]⟩=⟨(d++[110]).toArray⟩:=by
  subst h;apply ByteArray.ext;simp
 rw[e];exact zAC c [d++[110]] 1 rfl f
theorem zXu {C:Cx} {us:List UInt16} {v:Value} {w:World} {cm:Nat} {Am:Option Addr} {ms:List Nat} (t:ByteArray) (vs:Value) (nk nn:Int) (u:ms.length=j) (p:Reads w C.B 1 Am j (zBi ms)) (z:∀y∈ms,y < 4294967296) (A:zBN false ms=true) (d:(zBR (zEQ ms)).length≤78) (o:Pe C us v w) (D:MayPut us ([zBR (zEQ ms)++[110]])):
 Calls prog 29 #[.pointer (some ⟨C.g,0,none⟩),.agg #[.int .i64 31,.string t,vs,.int .i64 nk,.int .i64 nn,.bool false,.slice Am j cm,.slice Ak L ck]] w (PutQ C us v w ([zBR (zEQ ms)++[110]])):=by
 obtain⟨W,f⟩:=jx (w.alloc (.cells #[.int .i64 31,.string t,vs,.int .i64 nk,.int .i64 nn,.bool false,.slice Am j cm,.slice Ak L ck] 43));have b:Below w.heap.size w W:=jb f;have x0:W.cell? ⟨w.heap.size,0,none⟩=some (.int .i64 31):=jc f;have N:W.cell? ⟨w.heap.size,5,none⟩=some (.bool false):=jc f;have O:W.cell? ⟨w.heap.size,6,none⟩=some (.slice Am j cm):=jc f;have x7:W.cell? ⟨w.heap.size,7,none⟩=some (.slice Ak L ck):=jc f;have E:=zA (o.below b);have q:=zA b;have P:=zA D;have F:=zA (zQR (c:=cm) u (p.below (b.mono (Nat.le_of_lt o.blt))) (yAD (Nat.le_of_lt o.blt) b.size) z A d);obtain⟨k,e⟩:∃k:ByteArray,⟨(zBR (zEQ ms)).toArray⟩=k:=⟨_,rfl⟩;rw[e]at F;have G:=zA e;have R:k.size≤78:=by rw[←e];simpa [ByteArray.size]using d
 have S:k.toList.length=k.size:=by rw[ByteArray.toList_eq];rfl
 obtain⟨X,l⟩:=jx w.heap.size;go_enter func29,ntmps29;go_upto_region 1 with(fail);clear o D b p u z A d e;clear f;rw[l]at x0;rw[l]at N;rw[l]at O;rw[l]at x7;clear l;go_wp2_with fail;refine F.out.mono ?_;rintro e1 w1 ⟨rfl,m⟩;have H:=zA (E.out.below m);have I:=zA (q.out.trans (m.mono q.out.size));have Q:=zA (zW4 G.out H.out P.out);clear m;go_wp2_with fail;refine Q.out.mono ?_;rintro e2 w2 ⟨rfl,v2,r,s⟩;have J:=zA r;have M:=zA s;clear r s;go_wp2_with fail;exact jr (PutQ.back I.out ⟨rfl,v2,J.out,M.out⟩)
theorem zXv {C:Cx} {us:List UInt16} {v:Value} {w:World} {d cs:Nat} {As:Option Addr} {e:List UInt16} (r:ByteArray) (s:Value) (nk nn:Int) (t:Bool) (u:e.length=d) (y:d≤1000000) (m:Reads w C.B 1 As d (zAI e)) (k:Pe C us v w) (z:MayPut us ([zFg e])):
 Calls prog 29 #[.pointer (some ⟨C.g,0,none⟩),.agg #[.int .i64 32,.string r,.slice As d cs,.int .i64 nk,.int .i64 nn,.bool t,s,.slice Ak L ck]] w (PutQ C us v w ([zFg e])):=by
 obtain⟨W,f⟩:=jx (w.alloc (.cells #[.int .i64 32,.string r,.slice As d cs,.int .i64 nk,.int .i64 nn,.bool t,s,.slice Ak L ck] 43));have b:Below w.heap.size w W:=jb f;have x0:W.cell? ⟨w.heap.size,0,none⟩=some (.int .i64 32):=jc f;have H:W.cell? ⟨w.heap.size,2,none⟩=some (.slice As d cs):=jc f;have x7:W.cell? ⟨w.heap.size,7,none⟩=some (.slice Ak L ck):=jc f;have A:=zA (k.below b);have o:=zA b;have I:=zA z;have J:=zA (zHo (c:=cs) u (yAD (Nat.le_of_lt k.blt) b.size) (m.below (b.mono (Nat.le_of_lt k.blt))) y);obtain⟨X,l⟩:=jx w.heap.size;go_enter func29,ntmps29;go_upto_region 1 with(fail);clear k z b m u;clear f;rw[l]at x0;rw[l]at H;rw[l]at x7;clear l;go_wp2_with fail;refine J.out.mono ?_;rintro e1 w1 ⟨rfl,j⟩;have D:=zA (A.out.below j);have E:=zA (o.out.trans (j.mono o.out.size));have M:=zA (zAC D.out [zFg e] 1 rfl I.out);clear j;go_wp2_with fail;refine M.out.mono ?_;rintro e2 w2 ⟨rfl,v2,p,q⟩;have F:=zA p;have G:=zA q;clear p q;go_wp2_with fail;exact jr (PutQ.back E.out ⟨rfl,v2,F.out,G.out⟩)
theorem zXw {C:Cx} {us:List UInt16} {v:Value} {w:World} {m f cs:Nat} {As:Option Addr} {j:List UInt16} (M:ByteArray) (N:Value) (nk nn:Int) (O:Bool) (hN:zAi C m) (s0:a0.size≤m) (hk:KidsS C w Ak [a0]) (P:j.length=f) (Q:f≤1000000) (t:Reads w C.B 1 As f (zAI j)) (k:Pe C us v w) (R:MayPut us ([zFg j,[58]]++zb (a0.nd.kind,prT a0))):
 Calls prog 29 #[.pointer (some ⟨C.g,0,none⟩),.agg #[.int .i64 40,.string M,.slice As f cs,.int .i64 nk,.int .i64 nn,.bool O,N,.slice Ak 1 ck]] w (PutQ C us v w ([zFg j,[58]]++zb (a0.nd.kind,prT a0))):=by
 obtain⟨b,o,rfl,u⟩:=hk js;obtain⟨W,l⟩:=jx (w.alloc (.cells #[.int .i64 40,.string M,.slice As f cs,.int .i64 nk,.int .i64 nn,.bool O,N,.slice (some ⟨b,o,none⟩) 1 ck] 43));have d:Below w.heap.size w W:=jb l;have x0:W.cell? ⟨w.heap.size,0,none⟩=some (.int .i64 40):=jc l;have x2:W.cell? ⟨w.heap.size,2,none⟩=some (.slice As f cs):=jc l;have x7:W.cell? ⟨w.heap.size,7,none⟩=some (.slice (some ⟨b,o,none⟩) 1 ck):=jc l;obtain⟨p0,y,z,A⟩:=(u.below (d.mono (Nat.le_of_lt k.blt))) 0 js;have c0:W.cell? ⟨b,o,none⟩=some (.int .i64 (p0:Int)):=A;have S:Hid (At C.ts p0 a0):=y;have HN:=zA hN;have D:=zA (k.below d);have E:=zA d;obtain⟨F,G⟩:=R.two (b:=[zFg j,[58]]) (c:=zb (a0.nd.kind,prT a0)) rfl;have M1:=zA F;have M2:=zA G;have CT:=zA (zHo (c:=cs) P (yAD (Nat.le_of_lt k.blt) d.size) (t.below (d.mono (Nat.le_of_lt k.blt))) Q);obtain⟨X,s⟩:=jx w.heap.size;go_enter func29,ntmps29;go_upto_region 1 with(fail);clear k R d t P hN u y A F G;clear l;rw[s]at x0;rw[s]at x2;rw[s]at x7;clear s;go_wp2_with fail;refine CT.out.mono ?_;rintro e1 w1 ⟨rfl,e⟩;have H:=zA (D.out.below e);have T:=zA (E.out.trans (e.mono E.out.size));have L:=((e.mono (Nat.le_of_lt D.out.blt)).cell (p:=⟨b,o,none⟩) z).trans c0;have C2:=zA (zAC H.out [zFg j,[58]] 2 rfl M1.out);clear e;go_wp2_with fail;refine C2.out.mono ?_;rintro e2 w2 ⟨rfl,v2,q,r⟩;have a2:=zA q;have U:=zA r;have a1:=((H.out.low r).cell (p:=⟨b,o,none⟩) z).trans L;have C3:=zA (zC7 HN.out s0 S.out q M2.out);clear q r;go_wp2_with fail;refine C3.out.mono ?_;rintro e3 w3 ⟨rfl,v3,I,J⟩;have V:=zA I;have Y:=zA (U.out.trans J);clear I J;go_wp2_with fail;refine jr ?_;refine PutQ.back T.out ⟨rfl,v3,?_,Y.out⟩;have:=V.out;rwa[←zAB]at this
def zFE (l:List Tr):Tks:=(prs l).flatMap (·.2)
theorem zIO {l:List Tr} (h:i < l.length):zFE (l.take (i+1))=zFE (l.take i)++prT l[i]:=by
 unfold zFE;rw[yAK h,zB0,zB0,List.map_append,List.flatMap_append];simp
theorem zTI (l:List Tr) (i:Nat):∃r,zFE l=zFE (l.take i)++r:=by
 refine⟨zFE (l.drop i),?_⟩;unfold zFE;rw[←List.flatMap_append,zB0,zB0,zB0,←List.map_append,List.take_append_drop]
theorem MayPut.uptoS {us:List UInt16} {l:List Tr} (h:MayPut us (zFE l)) (hi:i < l.length):MayPut (zCk us (zFE (l.take i))) (prT l[i]):=by
 obtain⟨r,b⟩:=zTI l (i+1);rw[zIO hi,List.append_assoc]at b;exact((h.of b).app.2).app.1
theorem zZR {C:Cx} {m:Nat} {us:List UInt16} {v:Value} {w:World} (P:ByteArray) (vs Q:Value) (nk nn:Int) (R:Bool) {l:List Tr} (hN:zAi C m) (hs:∀t∈l,t.size≤m) (S:l.length=L) (a5:L≤1000000) (hk:KidsS C w Ak l) (M:Pe C us v w) (T:MayPut us (zFE l)):
 Calls prog 28 #[.pointer (some ⟨C.g,0,none⟩),.int .i64 (k0:Int),.agg #[.int .i64 1,.string P,vs,.int .i64 nk,.int .i64 nn,.bool R,Q,.slice Ak L ck]] w (PutQ C us v w (zFE l)):=by
 obtain⟨W,B⟩:=jx (w.alloc (.cells #[.int .i64 1,.string P,vs,.int .i64 nk,.int .i64 nn,.bool R,Q,.slice Ak L ck] 43));have d:Below w.heap.size w W:=jb B;have x0:W.cell? ⟨w.heap.size,0,none⟩=some (.int .i64 1):=jc B;have x7:W.cell? ⟨w.heap.size,7,none⟩=some (.slice Ak L ck):=jc B;have D:=zA (hk.below (d.mono (Nat.le_of_lt M.blt)));have HS:=zA hs;have HN:=zA hN;have k:=zA S;have q:=zA (M.below d);have E:=zA d;have M2:=zA T;obtain⟨X,U⟩:=jx w.heap.size;go_enter func28,ntmps28;go_upto_region 1 with(fail);clear T M d hN hs hk S;clear B;rw[U]at x0 x7;clear U;go_wp2_with fail
 by_cases N:l=[]
 · subst N;obtain rfl:L=0:=by rw[←k.out];rfl
   go_loopw [23] (fun i wr=>i=.int .i64 0∧wr=W) (fun _ _=>0)
   case atStart=>exact⟨rfl,rfl⟩
   case round=>
    obtain⟨rfl,rfl⟩:=hrel;have r:=zA q.out;have s:=zA (Pk.refl C.g wr v);have V:=zA (show zFE []=[]from rfl);go_wp2_with fail;refine jr ?_;refine PutQ.back E.out ⟨rfl,v,?_,s.out⟩;exact r.out
 obtain⟨b,o,rfl,F⟩:=D.out N;have HK:=zA F;clear F N D
 go_loopw [23] (fun i wr=>∃(j:Nat) (u:Value),j≤L∧i=.int .i64 j∧Hid (Pe C (zCk us (zFE (l.take j))) u wr)∧Hid (Pk C.g W wr v u)) (fun i _=>L - (intOf i).toNat)
 case atStart=>exact⟨0,v,yAE _,rfl,q.out,Pk.refl _ _ _⟩
 case round=>
  obtain⟨j,u,hj,rfl,e,f⟩:=hrel
  by_cases Y:j < L
  · have c:j < l.length:=by rw[k.out];exact Y
    obtain⟨p,y,a6,a4⟩:=(HK.out.below (q.out.low f.out)) j c;have G:=HS.out l[j] (List.getElem_mem c);have z:=zA (M2.out.uptoS c);have H:=zA (zIO c);obtain⟨t,ht⟩:=jx (l[j]);rw[ht]at y G z H;have a0:=zA y;obtain⟨O,A⟩:=jx (zCk us (zFE (l.take j)));rw[A]at e z;have a1:=zA A;clear c y ht A;have C7:=zA (HN.out t p O u wr G a0.out e.out z.out);go_wp2_with fail;refine C7.out.mono ?_;rintro e3 w3 ⟨rfl,v3,I,J⟩;have a2:=zA I;have a3:=zA (f.out.trans J);clear I J;go_wp2_with fail
    go_roundw
    case rel=>exact⟨j+1,v3,by omega,by go_num,by rw[H.out,zAB,a1.out];exact a2.out,a3.out⟩
    case measure=>simp[intOf];omega
  · obtain rfl:L=j:=by omega
    have V:=zA (show zFE (l.take L)=zFE l by rw[List.take_of_length_le (by rw[k.out];omega)]);have r:=zA e.out;have s:=zA f.out;clear e f;go_wp2_with fail;refine jr ?_;refine PutQ.back E.out ⟨rfl,u,?_,s.out⟩;have:=r.out;rwa[V.out]at this
theorem zZS {C:Cx} {m:Nat} {us:List UInt16} {v:Value} {w:World} (nb:ByteArray) (vs vm:Value) (nk nn:Int) (ng:Bool) {l:List Tr} (hN:zAi C m) (hs:∀t∈l,t.size≤m) (hL:l.length=L) (a9:L≤1000000) (hk:KidsS C w Ak l) (hp:Pe C us v w) (hm:MayPut us ([[123]]++(zFE l++[[125]]))):
 Calls prog 28 #[.pointer (some ⟨C.g,0,none⟩),.int .i64 (k0:Int),.agg #[.int .i64 4,.string nb,vs,.int .i64 nk,.int .i64 nn,.bool ng,vm,.slice Ak L ck]] w (PutQ C us v w ([[123]]++(zFE l++[[125]]))):=by
 obtain⟨W,J⟩:=jx (w.alloc (.cells #[.int .i64 4,.string nb,vs,.int .i64 nk,.int .i64 nn,.bool ng,vm,.slice Ak L ck] 43));have r:Below w.heap.size w W:=jb J;have x0:W.cell? ⟨w.heap.size,0,none⟩=some (.int .i64 4):=jc J;have x7:W.cell? ⟨w.heap.size,7,none⟩=some (.slice Ak L ck):=jc J;have s:=zA (hk.below (r.mono (Nat.le_of_lt hp.blt)));have HS:=zA hs;have HN:=zA hN;have z:=zA hL;have N:=zA (hp.below r);have O:=zA r;obtain⟨P,Q⟩:=hm.two (b:=[[123]]) (c:=zFE l++[[125]]) rfl;obtain⟨R,S⟩:=Q.app;have M1:=zA P;have M2:=zA R;have M3:=zA S;obtain⟨X,hX⟩:=jx w.heap.size;go_enter func28,ntmps28;go_upto_region 1 with(fail);clear hm hp r hN hs hk hL P Q R S;clear J;rw[hX]at x0 x7;clear hX;have C1:=zA (zAC N.out [[123]] 1 rfl M1.out);go_wp2_with fail;refine C1.out.mono ?_;rintro e1 w1 ⟨rfl,v1,T,U⟩;have A:=zA T;have B:=zA U;have s:=zA (s.out.below (N.out.low B.out));clear T U;go_wp2_with fail
 by_cases hl:l=[]
 · subst hl;obtain rfl:L=0:=by rw[←z.out];rfl
   go_loopw [53] (fun i wr=>i=.int .i64 0∧wr=w1) (fun _ _=>0)
   case atStart=>exact⟨rfl,rfl⟩
   case round=>
    obtain⟨rfl,rfl⟩:=hrel;have d:=zA A.out;have D:=zA (Pk.refl C.g wr v1);have HE:=zA (show zFE []=[]from rfl);have e:=zA M3.out;have C9:=zA (zAC d.out [[125]] 1 rfl e.out);clear d e;go_wp2_with fail;refine C9.out.mono ?_;rintro e9 w9 ⟨rfl,v9,f,k⟩;have E:=zA f;have F:=zA (B.out.trans (D.out.trans k));clear f k;go_wp2_with fail;refine jr ?_;refine PutQ.back O.out ⟨rfl,v9,?_,F.out⟩;have:=E.out;rw[show zCk (zCk us [[123]]) ([[125]]:Tks)=zCk (zCk (zCk us [[123]]) (zFE [])) [[125]]from rfl]at this;simp only[←zAB,List.append_assoc]at this;exact this
 obtain⟨b,o,rfl,V⟩:=s.out hl;have HK:=zA V;clear V hl s
 go_loopw [53] (fun i wr=>∃(j:Nat) (M:Value),j≤L∧i=.int .i64 j∧Hid (Pe C (zCk (zCk us [[123]]) (zFE (l.take j))) M wr)∧Hid (Pk C.g w1 wr v1 M)) (fun i _=>L - (intOf i).toNat)
 case atStart=>exact⟨0,v1,yAE _,rfl,A.out,Pk.refl _ _ _⟩
 case round=>
  obtain⟨j,M,hj,rfl,u,y⟩:=hrel
  by_cases a3:j < L
  · have q:j < l.length:=by rw[z.out];exact a3
    obtain⟨p,G,b0,a8⟩:=(HK.out.below (A.out.low y.out)) j q;have Y:=HS.out l[j] (List.getElem_mem q);have H:=zA (M2.out.uptoS q);have a0:=zA (zIO q);obtain⟨t,ht⟩:=jx (l[j]);rw[ht]at G Y H a0;have a4:=zA G;obtain⟨ur,I⟩:=jx (zCk (zCk us [[123]]) (zFE (l.take j)));rw[I]at u H;have a5:=zA I;clear q G ht I;have C7:=zA (HN.out t p ur M wr Y a4.out u.out H.out);go_wp2_with fail;refine C7.out.mono ?_;rintro e3 w3 ⟨rfl,v3,a1,a2⟩;have a6:=zA a1;have a7:=zA (y.out.trans a2);clear a1 a2;go_wp2_with fail
    go_roundw
    case rel=>exact⟨j+1,v3,by omega,by go_num,by rw[a0.out,zAB,a5.out];exact a6.out,a7.out⟩
    case measure=>simp[intOf];omega
  · obtain rfl:L=j:=by omega
    have HE:=zA (show zFE (l.take L)=zFE l by rw[List.take_of_length_le (by rw[z.out];omega)]);have d:=zA u.out;have D:=zA y.out;clear u y;have e:=zA (show MayPut (zCk (zCk us [[123]]) (zFE (l.take L))) [[125]]from by rw[HE.out];exact M3.out);have C9:=zA (zAC d.out [[125]] 1 rfl e.out);clear d e;go_wp2_with fail;refine C9.out.mono ?_;rintro e9 w9 ⟨rfl,v9,f,k⟩;have E:=zA f;have F:=zA (B.out.trans (D.out.trans k));clear f k;go_wp2_with fail;refine jr ?_;refine PutQ.back O.out ⟨rfl,v9,?_,F.out⟩;have:=E.out;rw[HE.out]at this;simp only[←zAB,List.append_assoc]at this;exact this
theorem zXx {C:Cx} {us:List UInt16} {v:Value} {w:World} (c:ByteArray) (vs d vk:Value) (nk nn:Int) (e:Bool) (b:Pe C us v w):
 Calls prog 47 #[.pointer (some ⟨C.g,0,none⟩),.agg #[.int .i64 11,.string c,vs,.int .i64 nk,.int .i64 nn,.bool e,d,vk]] w (PutQ C us v w []):=by
 have f:=zA b;clear b;go_enter func47,ntmps47;go_wp2_with fail;exact jr (PutQ.back (ja) (PutQ.nil (f.out.alloc _)))
theorem zXy {C:Cx} {us:List UInt16} {v:Value} {w:World} (d:ByteArray) (vs e vk:Value) (nk nn:Int) (f:Bool) (j:Pe C us v w):
 Calls prog 28 #[.pointer (some ⟨C.g,0,none⟩),.int .i64 (k0:Int),.agg #[.int .i64 11,.string d,vs,.int .i64 nk,.int .i64 nn,.bool f,e,vk]] w (PutQ C us v w []):=by
 have m:=zA j;clear j;have o:=zA (fun(W:World) (hb:Below w.heap.size w W)=>zXx d vs e vk nk nn f (m.out.below hb));go_enter func28,ntmps28;go_wp2_with fail;refine(o.out _ (ja)).mono ?_;rintro e1 w1 ⟨rfl,v1,b,c⟩;have k:=zA b;have l:=zA c;clear b c;go_wp2_with fail;exact jr (PutQ.back (ja) ⟨rfl,v1,k.out,l.out⟩)
theorem zZT {C:Cx} {m:Nat} {us:List UInt16} {v:Value} {w:World} (nm:List UInt8) (vs d:Value) (nk nn:Int) (e:Bool) (hN:zAi C m) (f:Pe C us v w) (j:MayPut us ([[59]])):
 Calls prog 28 #[.pointer (some ⟨C.g,0,none⟩),.int .i64 (k0:Int),.agg #[.int .i64 2,.string ⟨nm.toArray⟩,vs,.int .i64 nk,.int .i64 nn,.bool e,d,.slice Ak 0 ck]] w (PutQ C us v w ([[59]])):=by
 obtain⟨W,X,p,q,r,ps,s,c⟩:=PF.new 2 (.string ⟨nm.toArray⟩) vs (.int .i64 nk) (.int .i64 nn) (.bool e) d (.slice Ak 0 ck) (b:=0) (o:=0) (l:=[]) (rs:=_++[]) hN (fun i hi=>absurd hi (Nat.not_lt_zero _)) f (by rw[List.append_nil];exact j)
 try simp only[List.append_assoc]at c
 go_enter func28,ntmps28;go_upto_region 1 with(fail);clear hN f j s p q;have:=c.out.x;go_wp2_with fail;refine(c.out.lit (a:=[[59]]) rfl).mono ?_;rintro e1 w1 ⟨rfl,v1,k⟩;have:=k.out.x;go_wp2_with fail;exact jr (k.out.fin r.out js)
theorem zZU {C:Cx} {m:Nat} {us:List UInt16} {v:Value} {w:World} (nm:List UInt8) (vs f:Value) (nk nn:Int) (j:Bool) (hN:zAi C m) (s0:a0.size≤m) (hk:KidsS C w Ak [a0]) (k:Pe C us v w) (e:MayPut us ((inP (prT a0))++([[59]]))):
 Calls prog 28 #[.pointer (some ⟨C.g,0,none⟩),.int .i64 (k0:Int),.agg #[.int .i64 3,.string ⟨nm.toArray⟩,vs,.int .i64 nk,.int .i64 nn,.bool j,f,.slice Ak 1 ck]] w (PutQ C us v w ((inP (prT a0))++([[59]]))):=by
 obtain⟨b,o,rfl,d⟩:=hk js;obtain⟨W,X,r,s,t,ps,l,c⟩:=PF.new 3 (.string ⟨nm.toArray⟩) vs (.int .i64 nk) (.int .i64 nn) (.bool j) f (.slice (some ⟨b,o,none⟩) 1 ck) hN d k (by rw[←List.append_nil (_++_)]at e;exact e);obtain⟨p0,rfl⟩:=ps1 l;simp only[List.append_assoc]at c;go_enter func28,ntmps28;go_upto_region 1 with(fail);clear hN d hk k e l r s;have:=c.out.x;have:=c.out.c0;go_wp2_with fail;refine(c.out.pin 0 s0 rfl rfl).mono ?_;rintro e1 w1 ⟨rfl,v1,p⟩;have:=p.out.x;go_wp2_with fail;refine(p.out.lit (a:=[[59]]) rfl).mono ?_;rintro e2 w2 ⟨rfl,v2,q⟩;have:=q.out.x;go_wp2_with fail;exact jr (q.out.fin t.out js)
theorem zVr {C:Cx} {m:Nat} {us:List UInt16} {v:Value} {w:World} (nm:List UInt8) (vs d:Value) (nk nn:Int) (e:Bool) (hN:zAi C m) (f:Pe C us v w) (j:MayPut us ([nm])):
 Calls prog 28 #[.pointer (some ⟨C.g,0,none⟩),.int .i64 (k0:Int),.agg #[.int .i64 7,.string ⟨nm.toArray⟩,vs,.int .i64 nk,.int .i64 nn,.bool e,d,.slice Ak 0 ck]] w (PutQ C us v w ([nm])):=by
 obtain⟨W,X,p,q,r,ps,s,c⟩:=PF.new 7 (.string ⟨nm.toArray⟩) vs (.int .i64 nk) (.int .i64 nn) (.bool e) d (.slice Ak 0 ck) (b:=0) (o:=0) (l:=[]) (rs:=_++[]) hN (fun i hi=>absurd hi (Nat.not_lt_zero _)) f (by rw[List.append_nil];exact j)
 try simp only[List.append_assoc]at c
 go_enter func28,ntmps28;go_upto_region 1 with(fail);clear hN f j s p q;have:=c.out.x;go_wp2_with fail;refine(c.out.lit (a:=[nm]) rfl).mono ?_;rintro e1 w1 ⟨rfl,v1,k⟩;have:=k.out.x;go_wp2_with fail;exact jr (k.out.fin r.out js)
theorem zTJ {C:Cx} {m:Nat} {us:List UInt16} {v:Value} {w:World} (nm:List UInt8) (vs j:Value) (nk nn:Int) (k:Bool) (hN:zAi C m) (s0:a0.size≤m) (hk:KidsS C w Ak [a0]) (l:Pe C us v w) (d:MayPut us ([nm]++([[61]]++(inP (prT a0))))):
 Calls prog 28 #[.pointer (some ⟨C.g,0,none⟩),.int .i64 (k0:Int),.agg #[.int .i64 7,.string ⟨nm.toArray⟩,vs,.int .i64 nk,.int .i64 nn,.bool k,j,.slice Ak 1 ck]] w (PutQ C us v w ([nm]++([[61]]++(inP (prT a0))))):=by
 obtain⟨b,o,rfl,c⟩:=hk js;obtain⟨W,X,s,t,u,ps,p,e⟩:=PF.new 7 (.string ⟨nm.toArray⟩) vs (.int .i64 nk) (.int .i64 nn) (.bool k) j (.slice (some ⟨b,o,none⟩) 1 ck) hN c l (by rw[←List.append_nil (_++_)]at d;exact d);obtain⟨p0,rfl⟩:=ps1 p;simp only[List.append_assoc]at e;go_enter func28,ntmps28;go_upto_region 1 with(fail);clear hN c hk l d p s t;have:=e.out.x;go_wp2_with fail;refine(e.out.lit (a:=[nm]) rfl).mono ?_;rintro e1 w1 ⟨rfl,v1,q⟩;have:=q.out.x;go_wp2_with fail;refine(q.out.lit (a:=[[61]]) rfl).mono ?_;rintro e2 w2 ⟨rfl,v2,f⟩;have:=f.out.x;have:=f.out.c0;go_wp2_with fail;refine(f.out.pin 0 s0 rfl rfl).mono ?_;rintro e3 w3 ⟨rfl,v3,r⟩;have:=r.out.x;go_wp2_with fail;exact jr (r.out.fin u.out js)
theorem zUg {C:Cx} {q:List UInt8} (S:(K=12∧q=[98,114,101,97,107])∨(K=13∧q=[99,111,110,116,105,110,117,101])) {m:Nat} {us:List UInt16} {v:Value} {w:World} (nm:List UInt8) (vs J:Value) (nk nn:Int) (L:Bool) (hN:zAi C m) (u:Pe C us v w) (M:MayPut us ([q]++((zAo nm)++([[59]])))):
 Calls prog 28 #[.pointer (some ⟨C.g,0,none⟩),.int .i64 (k0:Int),.agg #[.int .i64 K,.string ⟨nm.toArray⟩,vs,.int .i64 nk,.int .i64 nn,.bool L,J,.slice Ak 0 ck]] w (PutQ C us v w ([q]++((zAo nm)++([[59]])))):=by
 obtain⟨W,r⟩:=jx (w.alloc (.cells #[.int .i64 K,.string ⟨nm.toArray⟩,vs,.int .i64 nk,.int .i64 nn,.bool L,J,.slice Ak 0 ck] 43));have s:Below w.heap.size w W:=jb r;have d:w.heap.size < W.heap.size:=by rw[←r];simp
 have f:w.heap.size≠C.g:=fun e=>by have:=u.pn.lt;omega
 have j:v.ownBlock≠some w.heap.size:=fun e=>by have:=(u.pn.own.lt _ e).2;omega
 have x0:W.cell? ⟨w.heap.size,0,none⟩=some (.int .i64 K):=jc r;have x7:W.cell? ⟨w.heap.size,7,none⟩=some (.slice Ak 0 ck):=jc r;have x1:W.cell? ⟨w.heap.size,1,none⟩=some (.string ⟨nm.toArray⟩):=jc r;have N:=zA (u.below s);have O:=zA s;have HN:=zA hN;obtain⟨y,z⟩:=M.two (b:=[q]) (c:=(zAo nm)++([[59]])) rfl;have T:=zA y;obtain⟨A,B⟩:=z.two (b:=zAo nm) (c:=[[59]]) rfl;have U:=zA A;have V:=zA B;obtain⟨X,t⟩:=jx w.heap.size;have Y:=zA (zAC N.out [q] 1 rfl T.out);rcases S with⟨rfl,rfl⟩ | ⟨rfl,rfl⟩
 all_goals
  go_enter func28,ntmps28;go_upto_region 1 with(fail);clear M u s hN y z A B;clear r;rw[t]at x0;rw[t]at x7;rw[t]at x1;rw[t]at d f j;clear t;go_wp2_with fail;refine Y.out.mono ?_;rintro e1 w1 ⟨rfl,v1,D,E⟩;have P:=zA D;have k:=zA (E);have a0:=(k.out.cell (p:=⟨X,0,none⟩) d f j).trans x0;have a1:=(k.out.cell (p:=⟨X,7,none⟩) d f j).trans x7;have a2:=(k.out.cell (p:=⟨X,1,none⟩) d f j).trans x1;clear D E;have C2:=zA (zHm P.out U.out);go_wp2_with fail;refine C2.out.mono ?_;rintro e2 w2 ⟨rfl,v2,F,G⟩;have Q:=zA F;have l:=zA (k.out.trans G);have a3:=(l.out.cell (p:=⟨X,0,none⟩) d f j).trans x0;have a4:=(l.out.cell (p:=⟨X,7,none⟩) d f j).trans x7;have a5:=(l.out.cell (p:=⟨X,1,none⟩) d f j).trans x1;clear F G;have C3:=zA (zAC Q.out [[59]] 1 rfl V.out);go_wp2_with fail;refine C3.out.mono ?_;rintro e3 w3 ⟨rfl,v3,H,I⟩;have R:=zA H;have o:=zA (l.out.trans I);have a6:=(o.out.cell (p:=⟨X,0,none⟩) d f j).trans x0;have a7:=(o.out.cell (p:=⟨X,7,none⟩) d f j).trans x7;have a8:=(o.out.cell (p:=⟨X,1,none⟩) d f j).trans x1;clear H I;go_wp2_with fail;refine jr ?_;refine PutQ.back O.out ⟨rfl,v3,?_,o.out⟩;have:=R.out;simp only[←zAB,List.append_assoc]at this;exact this
theorem zTK {C:Cx} {m:Nat} {us:List UInt16} {v:Value} {w:World} (nm:List UInt8) (vs d:Value) (nk nn:Int) (e:Bool) (hN:zAi C m) (f:Pe C us v w) (j:MayPut us ([[114,101,116,117,114,110]]++([[59]]))):
 Calls prog 28 #[.pointer (some ⟨C.g,0,none⟩),.int .i64 (k0:Int),.agg #[.int .i64 14,.string ⟨nm.toArray⟩,vs,.int .i64 nk,.int .i64 nn,.bool e,d,.slice Ak 0 ck]] w (PutQ C us v w ([[114,101,116,117,114,110]]++([[59]]))):=by
 obtain⟨W,X,q,r,s,ps,t,c⟩:=PF.new 14 (.string ⟨nm.toArray⟩) vs (.int .i64 nk) (.int .i64 nn) (.bool e) d (.slice Ak 0 ck) (b:=0) (o:=0) (l:=[]) (rs:=_++[]) hN (fun i hi=>absurd hi (Nat.not_lt_zero _)) f (by rw[List.append_nil];exact j)
 try simp only[List.append_assoc]at c
 go_enter func28,ntmps28;go_upto_region 1 with(fail);clear hN f j t q r;have:=c.out.x;go_wp2_with fail;refine(c.out.lit (a:=[[114,101,116,117,114,110]]) rfl).mono ?_;rintro e1 w1 ⟨rfl,v1,k⟩;have:=k.out.x;go_wp2_with fail;refine(k.out.lit (a:=[[59]]) rfl).mono ?_;rintro e2 w2 ⟨rfl,v2,p⟩;have:=p.out.x;go_wp2_with fail;exact jr (p.out.fin s.out js)
theorem zQS {C:Cx} {m:Nat} {us:List UInt16} {v:Value} {w:World} (nm:List UInt8) (vs j:Value) (nk nn:Int) (k:Bool) (hN:zAi C m) (s0:a0.size≤m) (hk:KidsS C w Ak [a0]) (l:Pe C us v w) (d:MayPut us ([[114,101,116,117,114,110]]++((inP (prT a0))++([[59]])))):
 Calls prog 28 #[.pointer (some ⟨C.g,0,none⟩),.int .i64 (k0:Int),.agg #[.int .i64 14,.string ⟨nm.toArray⟩,vs,.int .i64 nk,.int .i64 nn,.bool k,j,.slice Ak 1 ck]] w (PutQ C us v w ([[114,101,116,117,114,110]]++((inP (prT a0))++([[59]])))):=by
 obtain⟨b,o,rfl,c⟩:=hk js;obtain⟨W,X,s,t,u,ps,p,e⟩:=PF.new 14 (.string ⟨nm.toArray⟩) vs (.int .i64 nk) (.int .i64 nn) (.bool k) j (.slice (some ⟨b,o,none⟩) 1 ck) hN c l (by rw[←List.append_nil (_++_)]at d;exact d);obtain⟨p0,rfl⟩:=ps1 p;simp only[List.append_assoc]at e;go_enter func28,ntmps28;go_upto_region 1 with(fail);clear hN c hk l d p s t;have:=e.out.x;go_wp2_with fail;refine(e.out.lit (a:=[[114,101,116,117,114,110]]) rfl).mono ?_;rintro e1 w1 ⟨rfl,v1,f⟩;have:=f.out.x;have:=f.out.c0;go_wp2_with fail;refine(f.out.pin 0 s0 rfl rfl).mono ?_;rintro e2 w2 ⟨rfl,v2,q⟩;have:=q.out.x;go_wp2_with fail;refine(q.out.lit (a:=[[59]]) rfl).mono ?_;rintro e3 w3 ⟨rfl,v3,r⟩;have:=r.out.x;go_wp2_with fail;exact jr (r.out.fin u.out js)
theorem zXz {C:Cx} {m:Nat} {us:List UInt16} {v:Value} {w:World} (nm:List UInt8) (vs j:Value) (nk nn:Int) (k:Bool) (hN:zAi C m) (s0:a0.size≤m) (hk:KidsS C w Ak [a0]) (l:Pe C us v w) (d:MayPut us ([[116,104,114,111,119]]++((inP (prT a0))++([[59]])))):
 Calls prog 28 #[.pointer (some ⟨C.g,0,none⟩),.int .i64 (k0:Int),.agg #[.int .i64 15,.string ⟨nm.toArray⟩,vs,.int .i64 nk,.int .i64 nn,.bool k,j,.slice Ak 1 ck]] w (PutQ C us v w ([[116,104,114,111,119]]++((inP (prT a0))++([[59]])))):=by
 obtain⟨b,o,rfl,c⟩:=hk js;obtain⟨W,X,s,t,u,ps,p,e⟩:=PF.new 15 (.string ⟨nm.toArray⟩) vs (.int .i64 nk) (.int .i64 nn) (.bool k) j (.slice (some ⟨b,o,none⟩) 1 ck) hN c l (by rw[←List.append_nil (_++_)]at d;exact d);obtain⟨p0,rfl⟩:=ps1 p;simp only[List.append_assoc]at e;go_enter func28,ntmps28;go_upto_region 1 with(fail);clear hN c hk l d p s t;have:=e.out.x;go_wp2_with fail;refine(e.out.lit (a:=[[116,104,114,111,119]]) rfl).mono ?_;rintro e1 w1 ⟨rfl,v1,f⟩;have:=f.out.x;have:=f.out.c0;go_wp2_with fail;refine(f.out.pin 0 s0 rfl rfl).mono ?_;rintro e2 w2 ⟨rfl,v2,q⟩;have:=q.out.x;go_wp2_with fail;refine(q.out.lit (a:=[[59]]) rfl).mono ?_;rintro e3 w3 ⟨rfl,v3,r⟩;have:=r.out.x;go_wp2_with fail;exact jr (r.out.fin u.out js)
theorem zX0 {C:Cx} {m:Nat} {us:List UInt16} {v:Value} {w:World} (nm:List UInt8) (vs j:Value) (nk nn:Int) (k:Bool) (hN:zAi C m) (s0:a0.size≤m) (hk:KidsS C w Ak [a0]) (l:Pe C us v w) (d:MayPut us ([nm,[58]]++(prT a0))):
 Calls prog 28 #[.pointer (some ⟨C.g,0,none⟩),.int .i64 (k0:Int),.agg #[.int .i64 18,.string ⟨nm.toArray⟩,vs,.int .i64 nk,.int .i64 nn,.bool k,j,.slice Ak 1 ck]] w (PutQ C us v w ([nm,[58]]++(prT a0))):=by
 obtain⟨b,o,rfl,c⟩:=hk js;obtain⟨W,X,r,s,t,ps,p,e⟩:=PF.new 18 (.string ⟨nm.toArray⟩) vs (.int .i64 nk) (.int .i64 nn) (.bool k) j (.slice (some ⟨b,o,none⟩) 1 ck) hN c l (by rw[←List.append_nil (_++_)]at d;exact d);obtain⟨p0,rfl⟩:=ps1 p;simp only[List.append_assoc]at e;go_enter func28,ntmps28;go_upto_region 1 with(fail);clear hN c hk l d p r s;have:=e.out.x;go_wp2_with fail;refine(e.out.lit (a:=[nm,[58]]) rfl).mono ?_;rintro e1 w1 ⟨rfl,v1,f⟩;have:=f.out.x;have:=f.out.c0;go_wp2_with fail;refine(f.out.node 0 s0 rfl rfl).mono ?_;rintro e2 w2 ⟨rfl,v2,q⟩;have:=q.out.x;go_wp2_with fail;exact jr (q.out.fin t.out js)
theorem zX1 {C:Cx} {m:Nat} {us:List UInt16} {v:Value} {w:World} (nm:List UInt8) (vs d:Value) (nk nn:Int) (e:Bool) (hN:zAi C m) (f:Pe C us v w) (j:MayPut us ([nm])):
 Calls prog 28 #[.pointer (some ⟨C.g,0,none⟩),.int .i64 (k0:Int),.agg #[.int .i64 20,.string ⟨nm.toArray⟩,vs,.int .i64 nk,.int .i64 nn,.bool e,d,.slice Ak 0 ck]] w (PutQ C us v w ([nm])):=by
 obtain⟨W,X,p,q,r,ps,s,c⟩:=PF.new 20 (.string ⟨nm.toArray⟩) vs (.int .i64 nk) (.int .i64 nn) (.bool e) d (.slice Ak 0 ck) (b:=0) (o:=0) (l:=[]) (rs:=_++[]) hN (fun i hi=>absurd hi (Nat.not_lt_zero _)) f (by rw[List.append_nil];exact j)
 try simp only[List.append_assoc]at c
 go_enter func28,ntmps28;go_upto_region 1 with(fail);clear hN f j s p q;have:=c.out.x;go_wp2_with fail;refine(c.out.lit (a:=[nm]) rfl).mono ?_;rintro e1 w1 ⟨rfl,v1,k⟩;have:=k.out.x;go_wp2_with fail;exact jr (k.out.fin r.out js)
theorem zTL {C:Cx} {m:Nat} {us:List UInt16} {v:Value} {w:World} (nm:List UInt8) (vs l:Value) (nk nn:Int) (p:Bool) (hN:zAi C m) (s0:a0.size≤m) (s1:a1.size≤m) (hk:KidsS C w Ak [a0,a1]) (q:Pe C us v w) (e:MayPut us ([[105,102]]++((inP (prT a0))++(prT a1)))):
 Calls prog 47 #[.pointer (some ⟨C.g,0,none⟩),.agg #[.int .i64 8,.string ⟨nm.toArray⟩,vs,.int .i64 nk,.int .i64 nn,.bool p,l,.slice Ak 2 ck]] w (PutQ C us v w ([[105,102]]++((inP (prT a0))++(prT a1)))):=by
 obtain⟨b,o,rfl,d⟩:=hk js;obtain⟨W,X,t,u,y,ps,r,f⟩:=PF.new 8 (.string ⟨nm.toArray⟩) vs (.int .i64 nk) (.int .i64 nn) (.bool p) l (.slice (some ⟨b,o,none⟩) 2 ck) hN d q (by rw[←List.append_nil (_++_)]at e;exact e);obtain⟨p0,p1,rfl⟩:=ps2 r;simp only[List.append_assoc]at f;go_enter func47,ntmps47;go_upto_region 1 with(fail);clear hN d hk q e r t u;have:=f.out.x;go_wp2_with fail;refine(f.out.lit (a:=[[105,102]]) rfl).mono ?_;rintro e1 w1 ⟨rfl,v1,j⟩;have:=j.out.x;have:=j.out.c0;go_wp2_with fail;refine(j.out.pin 0 s0 rfl rfl).mono ?_;rintro e2 w2 ⟨rfl,v2,k⟩;have:=k.out.x;have:=k.out.c 1;go_wp2_with fail;refine(k.out.node 1 s1 rfl rfl).mono ?_;rintro e3 w3 ⟨rfl,v3,s⟩;have:=s.out.x;go_wp2_with fail;exact jr (s.out.fin y.out js)
theorem zNK {C:Cx} {m:Nat} {us:List UInt16} {v:Value} {w:World} (nm:List UInt8) (vs p:Value) (nk nn:Int) (q:Bool) (hN:zAi C m) (s0:a0.size≤m) (s1:a1.size≤m) (y:a2.size≤m) (hk:KidsS C w Ak [a0,a1,a2]) (r:Pe C us v w) (e:MayPut us ([[105,102]]++((inP (prT a0))++((prT a1)++([[101,108,115,101]]++(prT a2)))))):
 Calls prog 47 #[.pointer (some ⟨C.g,0,none⟩),.agg #[.int .i64 8,.string ⟨nm.toArray⟩,vs,.int .i64 nk,.int .i64 nn,.bool q,p,.slice Ak 3 ck]] w (PutQ C us v w ([[105,102]]++((inP (prT a0))++((prT a1)++([[101,108,115,101]]++(prT a2)))))):=by
 obtain⟨b,o,rfl,d⟩:=hk js;obtain⟨W,X,z,A,B,ps,s,f⟩:=PF.new 8 (.string ⟨nm.toArray⟩) vs (.int .i64 nk) (.int .i64 nn) (.bool q) p (.slice (some ⟨b,o,none⟩) 3 ck) hN d r (by rw[←List.append_nil (_++_)]at e;exact e);obtain⟨p0,p1,p2,rfl⟩:=ps3 s;simp only[List.append_assoc]at f;go_enter func47,ntmps47;go_upto_region 1 with(fail);clear hN d hk r e s z A;have:=f.out.x;go_wp2_with fail;refine(f.out.lit (a:=[[105,102]]) rfl).mono ?_;rintro e1 w1 ⟨rfl,v1,j⟩;have:=j.out.x;have:=j.out.c0;go_wp2_with fail;refine(j.out.pin 0 s0 rfl rfl).mono ?_;rintro e2 w2 ⟨rfl,v2,k⟩;have:=k.out.x;have:=k.out.c 1;go_wp2_with fail;refine(k.out.node 1 s1 rfl rfl).mono ?_;rintro e3 w3 ⟨rfl,v3,t⟩;have:=t.out.x;go_wp2_with fail;refine(t.out.lit (a:=[[101,108,115,101]]) rfl).mono ?_;rintro e4 D ⟨rfl,v4,l⟩;have:=l.out.x;have:=l.out.c 2;go_wp2_with fail;refine(l.out.node 2 y rfl rfl).mono ?_;rintro e5 E ⟨rfl,v5,u⟩;have:=u.out.x;go_wp2_with fail;exact jr (u.out.fin B.out js)
theorem zZV {C:Cx} {m:Nat} {us:List UInt16} {v:Value} {w:World} (nm:List UInt8) (vs l:Value) (nk nn:Int) (p:Bool) (hN:zAi C m) (s0:a0.size≤m) (s1:a1.size≤m) (hk:KidsS C w Ak [a0,a1]) (q:Pe C us v w) (e:MayPut us ([[119,104,105,108,101]]++((inP (prT a0))++(prT a1)))):
 Calls prog 47 #[.pointer (some ⟨C.g,0,none⟩),.agg #[.int .i64 9,.string ⟨nm.toArray⟩,vs,.int .i64 nk,.int .i64 nn,.bool p,l,.slice Ak 2 ck]] w (PutQ C us v w ([[119,104,105,108,101]]++((inP (prT a0))++(prT a1)))):=by
 obtain⟨b,o,rfl,d⟩:=hk js;obtain⟨W,X,t,u,y,ps,r,f⟩:=PF.new 9 (.string ⟨nm.toArray⟩) vs (.int .i64 nk) (.int .i64 nn) (.bool p) l (.slice (some ⟨b,o,none⟩) 2 ck) hN d q (by rw[←List.append_nil (_++_)]at e;exact e);obtain⟨p0,p1,rfl⟩:=ps2 r;simp only[List.append_assoc]at f;go_enter func47,ntmps47;go_upto_region 1 with(fail);clear hN d hk q e r t u;have:=f.out.x;go_wp2_with fail;refine(f.out.lit (a:=[[119,104,105,108,101]]) rfl).mono ?_;rintro e1 w1 ⟨rfl,v1,j⟩;have:=j.out.x;have:=j.out.c0;go_wp2_with fail;refine(j.out.pin 0 s0 rfl rfl).mono ?_;rintro e2 w2 ⟨rfl,v2,k⟩;have:=k.out.x;have:=k.out.c 1;go_wp2_with fail;refine(k.out.node 1 s1 rfl rfl).mono ?_;rintro e3 w3 ⟨rfl,v3,s⟩;have:=s.out.x;go_wp2_with fail;exact jr (s.out.fin y.out js)
theorem zX2 {C:Cx} {m:Nat} {us:List UInt16} {v:Value} {w:World} (nm:List UInt8) (vs vm:Value) (nk nn:Int) (ng:Bool) {a3:Tr} (hN:zAi C m) (s0:a0.size≤m) (s1:a1.size≤m) (s2:a2.size≤m) (s3:a3.size≤m) (hk:KidsS C w Ak [a0,a1,a2,a3]) (u:Pe C us v w) (F:m≤1000000) (hm:MayPut us ([[102,111,114],[40]]++((zn (a0.nd.kind,prT a0))++([[59]]++((zn (a1.nd.kind,prT a1))++([[59]]++((zn (a2.nd.kind,prT a2))++([[41]]++(prT a3))))))))):
 Calls prog 47 #[.pointer (some ⟨C.g,0,none⟩),.agg #[.int .i64 10,.string ⟨nm.toArray⟩,vs,.int .i64 nk,.int .i64 nn,.bool ng,vm,.slice Ak 4 ck]] w (PutQ C us v w ([[102,111,114],[40]]++((zn (a0.nd.kind,prT a0))++([[59]]++((zn (a1.nd.kind,prT a1))++([[59]]++((zn (a2.nd.kind,prT a2))++([[41]]++(prT a3))))))))):=by
 obtain⟨b,o,rfl,y⟩:=hk js;obtain⟨W,G⟩:=jx (w.alloc (.cells #[.int .i64 10,.string ⟨nm.toArray⟩,vs,.int .i64 nk,.int .i64 nn,.bool ng,vm,.slice (some ⟨b,o,none⟩) 4 ck] 43));have l:Below w.heap.size w W:=jb G;have d:w.heap.size < W.heap.size:=by rw[←G];simp
 have f:w.heap.size≠C.g:=fun e=>by have:=u.pn.lt;omega
 have j:v.ownBlock≠some w.heap.size:=fun e=>by have:=(u.pn.own.lt _ e).2;omega
 have x0:W.cell? ⟨w.heap.size,0,none⟩=some (.int .i64 10):=jc G;have x7:W.cell? ⟨w.heap.size,7,none⟩=some (.slice (some ⟨b,o,none⟩) 4 ck):=jc G;obtain⟨p0,M,d5,N⟩:=(y.below (l.mono (Nat.le_of_lt u.blt))) 0 js;have c0:W.cell? ⟨b,o,none⟩=some (.int .i64 (p0:Int)):=N;have d6:Hid (At C.ts p0 a0):=M;obtain⟨p1,O,H,P⟩:=(y.below (l.mono (Nat.le_of_lt u.blt))) 1 js;have c1:W.cell? ⟨b,o+1,none⟩=some (.int .i64 (p1:Int)):=P;have d7:Hid (At C.ts p1 a1):=O;obtain⟨p2,Q,z,R⟩:=(y.below (l.mono (Nat.le_of_lt u.blt))) 2 js;have c2:W.cell? ⟨b,o+2,none⟩=some (.int .i64 (p2:Int)):=R;have d8:Hid (At C.ts p2 a2):=Q;obtain⟨p3,S,q,T⟩:=(y.below (l.mono (Nat.le_of_lt u.blt))) 3 js;have c3:W.cell? ⟨b,o+3,none⟩=some (.int .i64 (p3:Int)):=T;have d9:Hid (At C.ts p3 a3):=S;have k:=zA (u.below l);have e0:=zA l;have J:=zA hN;obtain⟨U,V⟩:=hm.two (b:=[[102,111,114],[40]]) (c:=(zn (a0.nd.kind,prT a0))++([[59]]++((zn (a1.nd.kind,prT a1))++([[59]]++((zn (a2.nd.kind,prT a2))++([[41]]++(prT a3))))))) rfl;have M1:=zA U;obtain⟨Y,a4⟩:=V.two (b:=zn (a0.nd.kind,prT a0)) (c:=[[59]]++((zn (a1.nd.kind,prT a1))++([[59]]++((zn (a2.nd.kind,prT a2))++([[41]]++(prT a3)))))) rfl;have M2:=zA Y;obtain⟨a5,a6⟩:=a4.two (b:=[[59]]) (c:=(zn (a1.nd.kind,prT a1))++([[59]]++((zn (a2.nd.kind,prT a2))++([[41]]++(prT a3))))) rfl;have M3:=zA a5;obtain⟨a7,a8⟩:=a6.two (b:=zn (a1.nd.kind,prT a1)) (c:=[[59]]++((zn (a2.nd.kind,prT a2))++([[41]]++(prT a3)))) rfl;have M4:=zA a7;obtain⟨a9,b0⟩:=a8.two (b:=[[59]]) (c:=(zn (a2.nd.kind,prT a2))++([[41]]++(prT a3))) rfl;have M5:=zA a9;obtain⟨b1,b2⟩:=b0.two (b:=zn (a2.nd.kind,prT a2)) (c:=[[41]]++(prT a3)) rfl;have M6:=zA b1;obtain⟨b3,b4⟩:=b2.two (b:=[[41]]) (c:=prT a3) rfl;have M7:=zA b3;have M8:=zA b4;obtain⟨X,L⟩:=jx w.heap.size;go_enter func47,ntmps47;go_upto_region 1 with(fail);clear hm u l hN y U V Y a4 a5 a6 a7 a8 a9 b0 b1 b2 b3 b4 M N O P Q R S T;clear G;rw[L]at x0;rw[L]at x7;rw[L]at d f j;clear L;have C1:=zA (zAC k.out [[102,111,114],[40]] 2 rfl M1.out);go_wp2_with fail;refine C1.out.mono ?_;rintro e1 w1 ⟨rfl,v1,b5,b6⟩;have e9:=zA b5;have r:=zA (b6);have f7:=((k.out.low r.out).cell (p:=⟨b,o,none⟩) d5).trans c0;have f8:=((k.out.low r.out).cell (p:=⟨b,o+1,none⟩) H).trans c1;have f9:=((k.out.low r.out).cell (p:=⟨b,o+2,none⟩) z).trans c2;have g0:=((k.out.low r.out).cell (p:=⟨b,o+3,none⟩) q).trans c3;have g1:=(r.out.cell (p:=⟨X,0,none⟩) d f j).trans x0;have g2:=(r.out.cell (p:=⟨X,7,none⟩) d f j).trans x7;clear b5 b6;have C2:=zA (zEd J.out s0 F d6.out e9.out M2.out);go_wp2_with fail;refine C2.out.mono ?_;rintro e2 w2 ⟨rfl,v2,b7,b8⟩;have f0:=zA b7;have s:=zA (r.out.trans b8);have g3:=((k.out.low s.out).cell (p:=⟨b,o+1,none⟩) H).trans c1;have g4:=((k.out.low s.out).cell (p:=⟨b,o+2,none⟩) z).trans c2;have g5:=((k.out.low s.out).cell (p:=⟨b,o+3,none⟩) q).trans c3;have g6:=(s.out.cell (p:=⟨X,0,none⟩) d f j).trans x0;have g7:=(s.out.cell (p:=⟨X,7,none⟩) d f j).trans x7;clear b7 b8;have C3:=zA (zAC f0.out [[59]] 1 rfl M3.out);go_wp2_with fail;refine C3.out.mono ?_;rintro e3 w3 ⟨rfl,v3,b9,c4⟩;have f1:=zA b9;have t:=zA (s.out.trans c4);have g8:=((k.out.low t.out).cell (p:=⟨b,o+1,none⟩) H).trans c1;have g9:=((k.out.low t.out).cell (p:=⟨b,o+2,none⟩) z).trans c2;have h0:=((k.out.low t.out).cell (p:=⟨b,o+3,none⟩) q).trans c3;have h1:=(t.out.cell (p:=⟨X,0,none⟩) d f j).trans x0;have h2:=(t.out.cell (p:=⟨X,7,none⟩) d f j).trans x7;clear b9 c4;have C4:=zA (zEd J.out s1 F d7.out f1.out M4.out);go_wp2_with fail;refine C4.out.mono ?_;rintro e4 w4 ⟨rfl,v4,c5,c6⟩;have f2:=zA c5;have A:=zA (t.out.trans c6);have h3:=((k.out.low A.out).cell (p:=⟨b,o+2,none⟩) z).trans c2;have h4:=((k.out.low A.out).cell (p:=⟨b,o+3,none⟩) q).trans c3;have h5:=(A.out.cell (p:=⟨X,0,none⟩) d f j).trans x0;have h6:=(A.out.cell (p:=⟨X,7,none⟩) d f j).trans x7;clear c5 c6;have C5:=zA (zAC f2.out [[59]] 1 rfl M5.out);go_wp2_with fail;refine C5.out.mono ?_;rintro e5 w5 ⟨rfl,v5,c7,c8⟩;have f3:=zA c7;have B:=zA (A.out.trans c8);have h7:=((k.out.low B.out).cell (p:=⟨b,o+2,none⟩) z).trans c2;have h8:=((k.out.low B.out).cell (p:=⟨b,o+3,none⟩) q).trans c3;have h9:=(B.out.cell (p:=⟨X,0,none⟩) d f j).trans x0;have j0:=(B.out.cell (p:=⟨X,7,none⟩) d f j).trans x7;clear c7 c8;have C6:=zA (zEd J.out s2 F d8.out f3.out M6.out);go_wp2_with fail;refine C6.out.mono ?_;rintro e6 w6 ⟨rfl,v6,c9,d0⟩;have f4:=zA c9;have D:=zA (B.out.trans d0);have j1:=((k.out.low D.out).cell (p:=⟨b,o+3,none⟩) q).trans c3;have j2:=(D.out.cell (p:=⟨X,0,none⟩) d f j).trans x0;have j3:=(D.out.cell (p:=⟨X,7,none⟩) d f j).trans x7;clear c9 d0;have C7:=zA (zAC f4.out [[41]] 1 rfl M7.out);go_wp2_with fail;refine C7.out.mono ?_;rintro e7 w7 ⟨rfl,v7,d1,d2⟩;have f5:=zA d1;have E:=zA (D.out.trans d2);have j4:=((k.out.low E.out).cell (p:=⟨b,o+3,none⟩) q).trans c3;have j5:=(E.out.cell (p:=⟨X,0,none⟩) d f j).trans x0;have j6:=(E.out.cell (p:=⟨X,7,none⟩) d f j).trans x7;clear d1 d2;have C8:=zA (J.out a3 p3 _ v7 w7 s3 d9.out f5.out M8.out);go_wp2_with fail;refine C8.out.mono ?_;rintro e8 w8 ⟨rfl,v8,d3,d4⟩;have f6:=zA d3;have I:=zA (E.out.trans d4);have j7:=(I.out.cell (p:=⟨X,0,none⟩) d f j).trans x0;have j8:=(I.out.cell (p:=⟨X,7,none⟩) d f j).trans x7;clear d3 d4;go_wp2_with fail;refine jr ?_;refine PutQ.back e0.out ⟨rfl,v8,?_,I.out⟩;have:=f6.out;simp only[←zAB,List.append_assoc]at this;exact this
theorem zQT {C:Cx} {m:Nat} {us:List UInt16} {v:Value} {w:World} (nm:List UInt8) (vs vm:Value) (nk nn:Int) (ng:Bool) (hN:zAi C m) (s0:a0.size≤m) (s1:a1.size≤m) (s2:a2.size≤m) (hk:KidsS C w Ak [a0,a1,a2]) (s:Pe C us v w) (hK:a2.nd.kind=4) (hm:MayPut us ([[116,114,121]]++((prT a0)++((prT a1)++([[102,105,110,97,108,108,121]]++(prT a2)))))):
 Calls prog 47 #[.pointer (some ⟨C.g,0,none⟩),.agg #[.int .i64 16,.string ⟨nm.toArray⟩,vs,.int .i64 nk,.int .i64 nn,.bool ng,vm,.slice Ak 3 ck]] w (PutQ C us v w ([[116,114,121]]++((prT a0)++((prT a1)++([[102,105,110,97,108,108,121]]++(prT a2)))))):=by
 obtain⟨b,o,rfl,t⟩:=hk js;obtain⟨W,A⟩:=jx (w.alloc (.cells #[.int .i64 16,.string ⟨nm.toArray⟩,vs,.int .i64 nk,.int .i64 nn,.bool ng,vm,.slice (some ⟨b,o,none⟩) 3 ck] 43));have l:Below w.heap.size w W:=jb A;have d:w.heap.size < W.heap.size:=by rw[←A];simp
 have f:w.heap.size≠C.g:=fun e=>by have:=s.pn.lt;omega
 have j:v.ownBlock≠some w.heap.size:=fun e=>by have:=(s.pn.own.lt _ e).2;omega
 have x0:W.cell? ⟨w.heap.size,0,none⟩=some (.int .i64 16):=jc A;have x7:W.cell? ⟨w.heap.size,7,none⟩=some (.slice (some ⟨b,o,none⟩) 3 ck):=jc A;obtain⟨p0,E,b2,F⟩:=(t.below (l.mono (Nat.le_of_lt s.blt))) 0 js;have c0:W.cell? ⟨b,o,none⟩=some (.int .i64 (p0:Int)):=F;have b3:Hid (At C.ts p0 a0):=E;obtain⟨p1,G,H,I⟩:=(t.below (l.mono (Nat.le_of_lt s.blt))) 1 js;have c1:W.cell? ⟨b,o+1,none⟩=some (.int .i64 (p1:Int)):=I;have b4:Hid (At C.ts p1 a1):=G;obtain⟨p2,J,u,L⟩:=(t.below (l.mono (Nat.le_of_lt s.blt))) 2 js;have c2:W.cell? ⟨b,o+2,none⟩=some (.int .i64 (p2:Int)):=L;have M:Hid (At C.ts p2 a2):=J;have k:=zA (s.below l);have b5:=zA l;have HN:=zA hN;obtain⟨N,O⟩:=hm.two (b:=[[116,114,121]]) (c:=(prT a0)++((prT a1)++([[102,105,110,97,108,108,121]]++(prT a2)))) rfl;have M1:=zA N;obtain⟨P,Q⟩:=O.two (b:=prT a0) (c:=(prT a1)++([[102,105,110,97,108,108,121]]++(prT a2))) rfl;have M2:=zA P;obtain⟨R,S⟩:=Q.two (b:=prT a1) (c:=[[102,105,110,97,108,108,121]]++(prT a2)) rfl;have M3:=zA R;obtain⟨T,U⟩:=S.two (b:=[[102,105,110,97,108,108,121]]) (c:=prT a2) rfl;have M4:=zA T;have M5:=zA U;have b6:=zA hK;clear hK;obtain⟨X,D⟩:=jx w.heap.size;go_enter func47,ntmps47;go_upto_region 1 with(fail);clear hm s l hN t N O P Q R S T U E F G I J L;clear A;rw[D]at x0;rw[D]at x7;rw[D]at d f j;clear D;have C1:=zA (zAC k.out [[116,114,121]] 1 rfl M1.out);go_wp2_with fail;refine C1.out.mono ?_;rintro e1 w1 ⟨rfl,v1,V,Y⟩;have b7:=zA V;have q:=zA (Y);have c5:=((k.out.low q.out).cell (p:=⟨b,o,none⟩) b2).trans c0;have c6:=((k.out.low q.out).cell (p:=⟨b,o+1,none⟩) H).trans c1;have c7:=((k.out.low q.out).cell (p:=⟨b,o+2,none⟩) u).trans c2;have c8:=(q.out.cell (p:=⟨X,0,none⟩) d f j).trans x0;have c9:=(q.out.cell (p:=⟨X,7,none⟩) d f j).trans x7;clear V Y;have C2:=zA (HN.out a0 p0 _ v1 w1 s0 b3.out b7.out M2.out);go_wp2_with fail;refine C2.out.mono ?_;rintro e2 w2 ⟨rfl,v2,a3,a4⟩;have b8:=zA a3;have r:=zA (q.out.trans a4);have d0:=((k.out.low r.out).cell (p:=⟨b,o+1,none⟩) H).trans c1;have d1:=((k.out.low r.out).cell (p:=⟨b,o+2,none⟩) u).trans c2;have d2:=(r.out.cell (p:=⟨X,0,none⟩) d f j).trans x0;have d3:=(r.out.cell (p:=⟨X,7,none⟩) d f j).trans x7;clear a3 a4;have C3:=zA (HN.out a1 p1 _ v2 w2 s1 b4.out b8.out M3.out);go_wp2_with fail;refine C3.out.mono ?_;rintro e3 w3 ⟨rfl,v3,a5,a6⟩;have a7:=zA a5;have y:=zA (r.out.trans a6);have d4:=((k.out.low y.out).cell (p:=⟨b,o+2,none⟩) u).trans c2;have d5:=(y.out.cell (p:=⟨X,0,none⟩) d f j).trans x0;have d6:=(y.out.cell (p:=⟨X,7,none⟩) d f j).trans x7;clear a5 a6;have b9:=zA (show Calls prog 84 #[.pointer (some ⟨C.g,0,none⟩),.int .i64 (p2:Int)] w3 fun e w'=>e=.returned (.int .i64 4)∧w3=w' from by have:=zC6 a7.out M.out.get;rwa[zBU,b6.out]at this);go_wp2_with fail;refine b9.out.mono ?_;rintro ek wk ⟨rfl,rfl⟩;have C4:=zA (zAC a7.out [[102,105,110,97,108,108,121]] 1 rfl M4.out);go_wp2_with fail;refine C4.out.mono ?_;rintro e4 w4 ⟨rfl,v4,a8,a9⟩;have c3:=zA a8;have z:=zA (y.out.trans a9);have d7:=((k.out.low z.out).cell (p:=⟨b,o+2,none⟩) u).trans c2;have d8:=(z.out.cell (p:=⟨X,0,none⟩) d f j).trans x0;have d9:=(z.out.cell (p:=⟨X,7,none⟩) d f j).trans x7;clear a8 a9;have C5:=zA (HN.out a2 p2 _ v4 w4 s2 M.out c3.out M5.out);go_wp2_with fail;refine C5.out.mono ?_;rintro e5 w5 ⟨rfl,v5,b0,b1⟩;have c4:=zA b0;have B:=zA (z.out.trans b1);have e0:=(B.out.cell (p:=⟨X,0,none⟩) d f j).trans x0;have e6:=(B.out.cell (p:=⟨X,7,none⟩) d f j).trans x7;clear b0 b1;go_wp2_with fail;refine jr ?_;refine PutQ.back b5.out ⟨rfl,v5,?_,B.out⟩;have:=c4.out;simp only[←zAB,List.append_assoc]at this;exact this
theorem zTM {C:Cx} {m:Nat} {us:List UInt16} {v:Value} {w:World} (nm:List UInt8) (vs vm:Value) (nk nn:Int) (ng:Bool) (hN:zAi C m) (s0:a0.size≤m) (s1:a1.size≤m) (_b:a2.size≤m) (hk:KidsS C w Ak [a0,a1,a2]) (s:Pe C us v w) {A:Int} (hK:a2.nd.kind=A) (D:A≠4) (hm:MayPut us ([[116,114,121]]++((prT a0)++(prT a1)))):
 Calls prog 47 #[.pointer (some ⟨C.g,0,none⟩),.agg #[.int .i64 16,.string ⟨nm.toArray⟩,vs,.int .i64 nk,.int .i64 nn,.bool ng,vm,.slice Ak 3 ck]] w (PutQ C us v w ([[116,114,121]]++((prT a0)++(prT a1)))):=by
 obtain⟨b,o,rfl,t⟩:=hk js;obtain⟨W,y⟩:=jx (w.alloc (.cells #[.int .i64 16,.string ⟨nm.toArray⟩,vs,.int .i64 nk,.int .i64 nn,.bool ng,vm,.slice (some ⟨b,o,none⟩) 3 ck] 43));have l:Below w.heap.size w W:=jb y;have d:w.heap.size < W.heap.size:=by rw[←y];simp
 have f:w.heap.size≠C.g:=fun e=>by have:=s.pn.lt;omega
 have j:v.ownBlock≠some w.heap.size:=fun e=>by have:=(s.pn.own.lt _ e).2;omega
 have x0:W.cell? ⟨w.heap.size,0,none⟩=some (.int .i64 16):=jc y;have x7:W.cell? ⟨w.heap.size,7,none⟩=some (.slice (some ⟨b,o,none⟩) 3 ck):=jc y;obtain⟨p0,E,a3,F⟩:=(t.below (l.mono (Nat.le_of_lt s.blt))) 0 js;have c0:W.cell? ⟨b,o,none⟩=some (.int .i64 (p0:Int)):=F;have a4:Hid (At C.ts p0 a0):=E;obtain⟨p1,G,H,I⟩:=(t.below (l.mono (Nat.le_of_lt s.blt))) 1 js;have c1:W.cell? ⟨b,o+1,none⟩=some (.int .i64 (p1:Int)):=I;have a5:Hid (At C.ts p1 a1):=G;obtain⟨p2,J,z,L⟩:=(t.below (l.mono (Nat.le_of_lt s.blt))) 2 js;have c2:W.cell? ⟨b,o+2,none⟩=some (.int .i64 (p2:Int)):=L;have a6:Hid (At C.ts p2 a2):=J;have k:=zA (s.below l);have a7:=zA l;have HN:=zA hN;obtain⟨M,N⟩:=hm.two (b:=[[116,114,121]]) (c:=(prT a0)++(prT a1)) rfl;have M1:=zA M;obtain⟨O,P⟩:=N.two (b:=prT a0) (c:=prT a1) rfl;have M2:=zA O;have M3:=zA P;have a8:=zA hK;have e4:(A==4)=false:=yA.2 D;clear hK D;obtain⟨X,B⟩:=jx w.heap.size;go_enter func47,ntmps47;go_upto_region 1 with(fail);clear hm s l hN t M N O P E F G I J L;clear y;rw[B]at x0;rw[B]at x7;rw[B]at d f j;clear B;have C1:=zA (zAC k.out [[116,114,121]] 1 rfl M1.out);go_wp2_with fail;refine C1.out.mono ?_;rintro e1 w1 ⟨rfl,v1,Q,R⟩;have a9:=zA Q;have q:=zA (R);have b2:=((k.out.low q.out).cell (p:=⟨b,o,none⟩) a3).trans c0;have b3:=((k.out.low q.out).cell (p:=⟨b,o+1,none⟩) H).trans c1;have b4:=((k.out.low q.out).cell (p:=⟨b,o+2,none⟩) z).trans c2;have b5:=(q.out.cell (p:=⟨X,0,none⟩) d f j).trans x0;have b6:=(q.out.cell (p:=⟨X,7,none⟩) d f j).trans x7;clear Q R;have C2:=zA (HN.out a0 p0 _ v1 w1 s0 a4.out a9.out M2.out);go_wp2_with fail;refine C2.out.mono ?_;rintro e2 w2 ⟨rfl,v2,S,T⟩;have b0:=zA S;have r:=zA (q.out.trans T);have b7:=((k.out.low r.out).cell (p:=⟨b,o+1,none⟩) H).trans c1;have b8:=((k.out.low r.out).cell (p:=⟨b,o+2,none⟩) z).trans c2;have b9:=(r.out.cell (p:=⟨X,0,none⟩) d f j).trans x0;have c3:=(r.out.cell (p:=⟨X,7,none⟩) d f j).trans x7;clear S T;have C3:=zA (HN.out a1 p1 _ v2 w2 s1 a5.out b0.out M3.out);go_wp2_with fail;refine C3.out.mono ?_;rintro e3 w3 ⟨rfl,v3,U,V⟩;have Y:=zA U;have u:=zA (r.out.trans V);have c4:=((k.out.low u.out).cell (p:=⟨b,o+2,none⟩) z).trans c2;have c5:=(u.out.cell (p:=⟨X,0,none⟩) d f j).trans x0;have c6:=(u.out.cell (p:=⟨X,7,none⟩) d f j).trans x7;clear U V;have b1:=zA (show Calls prog 84 #[.pointer (some ⟨C.g,0,none⟩),.int .i64 (p2:Int)] w3 fun e w'=>e=.returned (.int .i64 A)∧w3=w' from by have:=zC6 Y.out a6.out.get;rwa[zBU,a8.out]at this);go_wp2_with fail;refine b1.out.mono ?_;rintro ek wk ⟨rfl,rfl⟩;go_wp2_with fail;refine jr ?_;refine PutQ.back a7.out ⟨rfl,v3,?_,u.out⟩;have:=Y.out;simp only[←zAB,List.append_assoc]at this;exact this
theorem zTN {C:Cx} {m:Nat} {us:List UInt16} {v:Value} {w:World} (vs j:Value) (nk nn:Int) (k:Bool) (hN:zAi C m) (s0:a0.size≤m) (hk:KidsS C w Ak [a0]) (l:Pe C us v w) (d:MayPut us ([[99,97,116,99,104]]++(prT a0))):
 Calls prog 47 #[.pointer (some ⟨C.g,0,none⟩),.agg #[.int .i64 17,.string ⟨#[]⟩,vs,.int .i64 nk,.int .i64 nn,.bool k,j,.slice Ak 1 ck]] w (PutQ C us v w ([[99,97,116,99,104]]++(prT a0))):=by
 obtain⟨b,o,rfl,c⟩:=hk js;obtain⟨W,X,r,s,t,ps,p,e⟩:=PF.new 17 (.string ⟨#[]⟩) vs (.int .i64 nk) (.int .i64 nn) (.bool k) j (.slice (some ⟨b,o,none⟩) 1 ck) hN c l (by rw[←List.append_nil (_++_)]at d;exact d);obtain⟨p0,rfl⟩:=ps1 p;simp only[List.append_assoc]at e;go_enter func47,ntmps47;go_upto_region 1 with(fail);clear hN c hk l d p r s;have:=e.out.x;go_wp2_with fail;refine(e.out.lit (a:=[[99,97,116,99,104]]) rfl).mono ?_;rintro e1 w1 ⟨rfl,v1,f⟩;have:=f.out.x;have:=f.out.c0;go_wp2_with fail;refine(f.out.node 0 s0 rfl rfl).mono ?_;rintro e2 w2 ⟨rfl,v2,q⟩;have:=q.out.x;go_wp2_with fail;exact jr (q.out.fin t.out js)
theorem zCp (l:List Tr) (a:Tr):(prs (l++[a])).dropLast=prs l∧kd (prs (l++[a])) ((prs (l++[a])).length - 1)=(a.nd.kind,prT a):=by
 have e:prs (l++[a])=prs l++[(a.nd.kind,prT a)]:=by rw[zB0,zB0,List.map_append];rfl
 rw[e];refine⟨by simp,?_⟩;unfold kd;simp
structure Nx (C:Cx) (m k:Nat) (x:Nd) (l:List Tr) (s:NdSl) (w:World):Prop where
 hN:zAi C m
 at_:At C.ts k (.mk x l)
 hs:∀t∈l,t.size≤m
 cnt:Cnt x.kind l.length
 fields:zN x=true
 h6:l.length≤1000000
 m6:m≤1000000
 hk:KidsS C w s.Ak l
 ck:l.length≤s.ck
 kin:1≤x.kind
def ndA (x:Nd) (l:List Tr) (s:NdSl):Value:=.agg #[.int .i64 x.kind,.string ⟨x.name.toArray⟩,.slice s.As x.str.length s.cs,.int .i64 x.nk,.int .i64 x.nn,.bool x.neg,.slice s.Am x.mag.length s.cm,.slice s.Ak l.length s.ck]
section
variable {C:Cx} {m k:Nat} {x:Nd} {l:List Tr} {s:NdSl} {us:List UInt16} {v:Value} {w:World}
theorem Nx.below (h:Nx C m k x l s w) (hb:Below C.B w w'):Nx C m k x l s w':={h with hk:=h.hk.below hb}
theorem zGt (h:l.length=0):l=[]:=List.length_eq_zero_iff.1 h
theorem zGu (h:l.length=1):∃a,l=[a]:=List.length_eq_one_iff.1 h
theorem zNL (h:l.length=2):∃a b,l=[a,b]:=by
 match l,h with
 | [a,b],_=>exact⟨a,b,rfl⟩
theorem zVs (h:l.length=3):∃a b c,l=[a,b,c]:=by
 match l,h with
 | [a,b,c],_=>exact⟨a,b,c,rfl⟩
theorem zX3 (h:l.length=4):∃a b c d,l=[a,b,c,d]:=by
 match l,h with
 | [a,b,c,d],_=>exact⟨a,b,c,d,rfl⟩
theorem zVt (h:1≤l.length):∃r a,l=r++[a]:=⟨l.dropLast,l.getLast (by intro e;subst e;simp at h),(List.dropLast_concat_getLast _).symm⟩
end
theorem zZW {C:Cx} {m k:Nat} {x:Nd} {l:List Tr} {s:NdSl} {us:List UInt16} {v:Value} {w:World} (h:Nx C m k x l s w) (b:x.kind=1) (d:Pe C us v w) (c:MayPut us (zi x (prs l))):
 Calls prog 28 #[.pointer (some ⟨C.g,0,none⟩),.int .i64 (k:Int),ndA x l s] w (PutQ C us v w (zi x (prs l))):=by
 have e:zi x (prs l)=zFE l:=by unfold zi;rw[b];rfl
 rw[e]at c⊢;unfold ndA;rw[b];exact zZR _ _ _ _ _ _ h.hN h.hs rfl h.h6 h.hk d c
theorem zZX {C:Cx} {m k:Nat} {x:Nd} {l:List Tr} {s:NdSl} {us:List UInt16} {v:Value} {w:World} (h:Nx C m k x l s w) (b:x.kind=2) (d:Pe C us v w) (c:MayPut us (zi x (prs l))):
 Calls prog 28 #[.pointer (some ⟨C.g,0,none⟩),.int .i64 (k:Int),ndA x l s] w (PutQ C us v w (zi x (prs l))):=by
 obtain rfl:=zGt (h.cnt.none_ jo);have e:zi x (prs [])=[[59]]:=by unfold zi;rw[b,zY];rfl
 rw[e]at c⊢;unfold ndA;rw[b];exact zZT x.name _ _ _ _ _ h.hN d c
theorem zZY {C:Cx} {m k:Nat} {x:Nd} {l:List Tr} {s:NdSl} {us:List UInt16} {v:Value} {w:World} (h:Nx C m k x l s w) (b:x.kind=3) (d:Pe C us v w) (c:MayPut us (zi x (prs l))):
 Calls prog 28 #[.pointer (some ⟨C.g,0,none⟩),.int .i64 (k:Int),ndA x l s] w (PutQ C us v w (zi x (prs l))):=by
 obtain⟨a0,rfl⟩:=zGu (h.cnt.one jo);have e:zi x (prs [a0])=(inP (prT a0))++([[59]]):=by unfold zi;rw[b,zH,zY];rfl
 rw[e]at c⊢;unfold ndA;rw[b];exact zZU x.name _ _ _ _ _ h.hN (h.hs a0 js) h.hk d c
theorem zZZ {C:Cx} {m k:Nat} {x:Nd} {l:List Tr} {s:NdSl} {us:List UInt16} {v:Value} {w:World} (h:Nx C m k x l s w) (b:x.kind=4) (d:Pe C us v w) (c:MayPut us (zi x (prs l))):
 Calls prog 28 #[.pointer (some ⟨C.g,0,none⟩),.int .i64 (k:Int),ndA x l s] w (PutQ C us v w (zi x (prs l))):=by
 have e:zi x (prs l)=[[123]]++(zFE l++[[125]]):=by unfold zi;rw[b];rfl
 rw[e]at c⊢;unfold ndA;rw[b];exact zZS _ _ _ _ _ _ h.hN h.hs rfl h.h6 h.hk d c
theorem zZa {C:Cx} {m k:Nat} {x:Nd} {l:List Tr} {s:NdSl} {us:List UInt16} {v:Value} {w:World} (h:Nx C m k x l s w) (b:x.kind=5) (d:Pe C us v w) (c:MayPut us (zi x (prs l))):
 Calls prog 28 #[.pointer (some ⟨C.g,0,none⟩),.int .i64 (k:Int),ndA x l s] w (PutQ C us v w (zi x (prs l))):=by
 have e:zi x (prs l)=zBJ x (prs l)++[[59]]:=by unfold zi;rw[b];rfl
 rw[e]at c⊢;unfold ndA;rw[b];exact zW3 (K:=5) jd _ _ _ _ _ _ h.hN h.hs h.at_ jo rfl h.h6 h.hk d c
theorem zZb {C:Cx} {m k:Nat} {x:Nd} {l:List Tr} {s:NdSl} {us:List UInt16} {v:Value} {w:World} (h:Nx C m k x l s w) (b:x.kind=6) (d:Pe C us v w) (c:MayPut us (zi x (prs l))):
 Calls prog 28 #[.pointer (some ⟨C.g,0,none⟩),.int .i64 (k:Int),ndA x l s] w (PutQ C us v w (zi x (prs l))):=by
 have e:zi x (prs l)=zBJ x (prs l)++[[59]]:=by unfold zi;rw[b];rfl
 rw[e]at c⊢;unfold ndA;rw[b];exact zW3 (K:=6) jd _ _ _ _ _ _ h.hN h.hs h.at_ jo rfl h.h6 h.hk d c
theorem zZc {C:Cx} {m k:Nat} {x:Nd} {l:List Tr} {s:NdSl} {us:List UInt16} {v:Value} {w:World} (h:Nx C m k x l s w) (b:x.kind=7) (d:Pe C us v w) (c:MayPut us (zi x (prs l))):
 Calls prog 28 #[.pointer (some ⟨C.g,0,none⟩),.int .i64 (k:Int),ndA x l s] w (PutQ C us v w (zi x (prs l))):=by
 have h1:=h.cnt.opt jo
 by_cases f:l.length=0
 · obtain rfl:=zGt f;have e:zi x (prs [])=[x.name]:=by unfold zi;rw[b,zY];rfl
   rw[e]at c⊢;unfold ndA;rw[b];exact zVr x.name _ _ _ _ _ h.hN d c
 · obtain⟨a0,rfl⟩:=zGu (show l.length=1 by omega);have e:zi x (prs [a0])=[x.name]++([[61]]++(inP (prT a0))):=by unfold zi;rw[b,zH,zY];rfl
   rw[e]at c⊢;unfold ndA;rw[b];exact zTJ x.name _ _ _ _ _ h.hN (h.hs a0 js) h.hk d c
theorem zZd {C:Cx} {m k:Nat} {x:Nd} {l:List Tr} {s:NdSl} {us:List UInt16} {v:Value} {w:World} (h:Nx C m k x l s w) (b:x.kind=8) (c:Pe C us v w) (d:MayPut us (zi x (prs l))):
 Calls prog 28 #[.pointer (some ⟨C.g,0,none⟩),.int .i64 (k:Int),ndA x l s] w (PutQ C us v w (zi x (prs l))):=by
 rcases h.cnt.if_ b with h1 | h1
 · obtain⟨a0,a1,rfl⟩:=zNL h1;have e:zi x (prs [a0,a1])=[[105,102]]++((inP (prT a0))++(prT a1)):=by unfold zi;rw[b,zH,zH,zY];simp[kd,inP]
   rw[e]at d⊢;unfold ndA;rw[b];exact zIM (K:=8) jd _ _ _ _ _ _ _ fun W hb=>zTL x.name _ _ _ _ _ h.hN (h.hs a0 js) (h.hs a1 js) (h.below (hb.mono (Nat.le_of_lt c.blt))).hk (c.below hb) d
 · obtain⟨a0,a1,a2,rfl⟩:=zVs h1;have e:zi x (prs [a0,a1,a2])=[[105,102]]++((inP (prT a0))++((prT a1)++([[101,108,115,101]]++(prT a2)))):=by unfold zi;rw[b,zH,zH,zH,zY];rfl
   rw[e]at d⊢;unfold ndA;rw[b];exact zIM (K:=8) jd _ _ _ _ _ _ _ fun W hb=>zNK x.name _ _ _ _ _ h.hN (h.hs a0 js) (h.hs a1 js) (h.hs a2 js) (h.below (hb.mono (Nat.le_of_lt c.blt))).hk (c.below hb) d
theorem zZe {C:Cx} {m k:Nat} {x:Nd} {l:List Tr} {s:NdSl} {us:List UInt16} {v:Value} {w:World} (h:Nx C m k x l s w) (b:x.kind=9) (c:Pe C us v w) (d:MayPut us (zi x (prs l))):
 Calls prog 28 #[.pointer (some ⟨C.g,0,none⟩),.int .i64 (k:Int),ndA x l s] w (PutQ C us v w (zi x (prs l))):=by
 obtain⟨a0,a1,rfl⟩:=zNL (h.cnt.two jo);have e:zi x (prs [a0,a1])=[[119,104,105,108,101]]++((inP (prT a0))++(prT a1)):=by unfold zi;rw[b,zH,zH,zY];rfl
 rw[e]at d⊢;unfold ndA;rw[b];exact zIM (K:=9) jd _ _ _ _ _ _ _ fun W hb=>zZV x.name _ _ _ _ _ h.hN (h.hs a0 js) (h.hs a1 js) (h.below (hb.mono (Nat.le_of_lt c.blt))).hk (c.below hb) d
theorem zX4 {C:Cx} {m k:Nat} {x:Nd} {l:List Tr} {s:NdSl} {us:List UInt16} {v:Value} {w:World} (h:Nx C m k x l s w) (b:x.kind=10) (c:Pe C us v w) (d:MayPut us (zi x (prs l))):
 Calls prog 28 #[.pointer (some ⟨C.g,0,none⟩),.int .i64 (k:Int),ndA x l s] w (PutQ C us v w (zi x (prs l))):=by
 obtain⟨a0,a1,a2,a3,rfl⟩:=zX3 (h.cnt.four jo);have e:zi x (prs [a0,a1,a2,a3])=[[102,111,114],[40]]++((zn (a0.nd.kind,prT a0))++([[59]]++((zn (a1.nd.kind,prT a1))++([[59]]++((zn (a2.nd.kind,prT a2))++([[41]]++(prT a3))))))):=by unfold zi;rw[b,zH,zH,zH,zH,zY];rfl
 rw[e]at d⊢;unfold ndA;rw[b];exact zIM (K:=10) jd _ _ _ _ _ _ _ fun W hb=>zX2 x.name _ _ _ _ _ h.hN (h.hs a0 js) (h.hs a1 js) (h.hs a2 js) (h.hs a3 js) (h.below (hb.mono (Nat.le_of_lt c.blt))).hk (c.below hb) h.m6 d
theorem zX5 {C:Cx} {m k:Nat} {x:Nd} {l:List Tr} {s:NdSl} {us:List UInt16} {v:Value} {w:World} (_h:Nx C m k x l s w) (b:x.kind=11) (c:Pe C us v w) (_b:MayPut us (zi x (prs l))):
 Calls prog 28 #[.pointer (some ⟨C.g,0,none⟩),.int .i64 (k:Int),ndA x l s] w (PutQ C us v w (zi x (prs l))):=by
 have e:zi x (prs l)=[]:=by unfold zi;rw[b];rfl
 rw[e];unfold ndA;rw[b];exact zXy _ _ _ _ _ _ _ c
theorem zX6 {C:Cx} {m k:Nat} {x:Nd} {l:List Tr} {s:NdSl} {us:List UInt16} {v:Value} {w:World} (h:Nx C m k x l s w) (b:x.kind=12) (d:Pe C us v w) (c:MayPut us (zi x (prs l))):
 Calls prog 28 #[.pointer (some ⟨C.g,0,none⟩),.int .i64 (k:Int),ndA x l s] w (PutQ C us v w (zi x (prs l))):=by
 obtain rfl:=zGt (h.cnt.none_ jo);have e:zi x (prs [])=[[98,114,101,97,107]]++((zAo x.name)++([[59]])):=by unfold zi;rw[b,zY];rfl
 rw[e]at c⊢;unfold ndA;rw[b];exact zUg (K:=12) jd x.name _ _ _ _ _ h.hN d c
theorem zX7 {C:Cx} {m k:Nat} {x:Nd} {l:List Tr} {s:NdSl} {us:List UInt16} {v:Value} {w:World} (h:Nx C m k x l s w) (b:x.kind=13) (d:Pe C us v w) (c:MayPut us (zi x (prs l))):
 Calls prog 28 #[.pointer (some ⟨C.g,0,none⟩),.int .i64 (k:Int),ndA x l s] w (PutQ C us v w (zi x (prs l))):=by
 obtain rfl:=zGt (h.cnt.none_ jo);have e:zi x (prs [])=[[99,111,110,116,105,110,117,101]]++((zAo x.name)++([[59]])):=by unfold zi;rw[b,zY];rfl
 rw[e]at c⊢;unfold ndA;rw[b];exact zUg (K:=13) jd x.name _ _ _ _ _ h.hN d c
theorem zX8 {C:Cx} {m k:Nat} {x:Nd} {l:List Tr} {s:NdSl} {us:List UInt16} {v:Value} {w:World} (h:Nx C m k x l s w) (b:x.kind=14) (d:Pe C us v w) (c:MayPut us (zi x (prs l))):
 Calls prog 28 #[.pointer (some ⟨C.g,0,none⟩),.int .i64 (k:Int),ndA x l s] w (PutQ C us v w (zi x (prs l))):=by
 have h1:=h.cnt.opt jo
 by_cases f:l.length=0
 · obtain rfl:=zGt f;have e:zi x (prs [])=[[114,101,116,117,114,110]]++([[59]]):=by unfold zi;rw[b,zY];rfl
   rw[e]at c⊢;unfold ndA;rw[b];exact zTK x.name _ _ _ _ _ h.hN d c
 · obtain⟨a0,rfl⟩:=zGu (show l.length=1 by omega);have e:zi x (prs [a0])=[[114,101,116,117,114,110]]++((inP (prT a0))++([[59]])):=by unfold zi;rw[b,zH,zY];rfl
   rw[e]at c⊢;unfold ndA;rw[b];exact zQS x.name _ _ _ _ _ h.hN (h.hs a0 js) h.hk d c
theorem zX9 {C:Cx} {m k:Nat} {x:Nd} {l:List Tr} {s:NdSl} {us:List UInt16} {v:Value} {w:World} (h:Nx C m k x l s w) (b:x.kind=15) (d:Pe C us v w) (c:MayPut us (zi x (prs l))):
 Calls prog 28 #[.pointer (some ⟨C.g,0,none⟩),.int .i64 (k:Int),ndA x l s] w (PutQ C us v w (zi x (prs l))):=by
 obtain⟨a0,rfl⟩:=zGu (h.cnt.one jo);have e:zi x (prs [a0])=[[116,104,114,111,119]]++((inP (prT a0))++([[59]])):=by unfold zi;rw[b,zH,zY];rfl
 rw[e]at c⊢;unfold ndA;rw[b];exact zXz x.name _ _ _ _ _ h.hN (h.hs a0 js) h.hk d c
theorem zYA {C:Cx} {m k:Nat} {x:Nd} {l:List Tr} {s:NdSl} {us:List UInt16} {v:Value} {w:World} (h:Nx C m k x l s w) (b:x.kind=16) (c:Pe C us v w) (d:MayPut us (zi x (prs l))):
 Calls prog 28 #[.pointer (some ⟨C.g,0,none⟩),.int .i64 (k:Int),ndA x l s] w (PutQ C us v w (zi x (prs l))):=by
 obtain⟨a0,a1,a2,rfl⟩:=zVs (h.cnt.three jo)
 by_cases f:a2.nd.kind=4
 · have e:zi x (prs [a0,a1,a2])=[[116,114,121]]++((prT a0)++((prT a1)++([[102,105,110,97,108,108,121]]++(prT a2)))):=by unfold zi;rw[b,zH,zH,zH,zY];simp[kd,f]
   rw[e]at d⊢;unfold ndA;rw[b];exact zIM (K:=16) jd _ _ _ _ _ _ _ fun W hb=>zQT x.name _ _ _ _ _ h.hN (h.hs a0 js) (h.hs a1 js) (h.hs a2 js) (h.below (hb.mono (Nat.le_of_lt c.blt))).hk (c.below hb) f d
 · have e:zi x (prs [a0,a1,a2])=[[116,114,121]]++((prT a0)++(prT a1)):=by unfold zi;rw[b,zH,zH,zH,zY];simp[kd,f]
   rw[e]at d⊢;unfold ndA;rw[b];exact zIM (K:=16) jd _ _ _ _ _ _ _ fun W hb=>zTM x.name _ _ _ _ _ h.hN (h.hs a0 js) (h.hs a1 js) (h.hs a2 js) (h.below (hb.mono (Nat.le_of_lt c.blt))).hk (c.below hb) rfl f d
theorem zYB {C:Cx} {m k:Nat} {x:Nd} {l:List Tr} {s:NdSl} {us:List UInt16} {v:Value} {w:World} (h:Nx C m k x l s w) (b:x.kind=17) (c:Pe C us v w) (d:MayPut us (zi x (prs l))):
 Calls prog 28 #[.pointer (some ⟨C.g,0,none⟩),.int .i64 (k:Int),ndA x l s] w (PutQ C us v w (zi x (prs l))):=by
 obtain⟨a0,rfl⟩:=zGu (h.cnt.one jo)
 by_cases f:x.name=[]
 · have e:zi x (prs [a0])=[[99,97,116,99,104]]++(prT a0):=by unfold zi;rw[b,zH,zY];simp[kd,f]
   rw[e]at d⊢;unfold ndA;rw[b];rw[f];exact zIM (K:=17) jd _ _ _ _ _ _ _ fun W hb=>zTN _ _ _ _ _ h.hN (h.hs a0 js) (h.below (hb.mono (Nat.le_of_lt c.blt))).hk (c.below hb) d
 · have e:zi x (prs [a0])=[[99,97,116,99,104]]++([[40],x.name,[41]]++(prT a0)):=by unfold zi;rw[b,zH,zY];simp[kd,f]
   rw[e]at d⊢;unfold ndA;rw[b];exact zIM (K:=17) jd _ _ _ _ _ _ _ fun W hb=>zQI _ _ _ _ _ h.hN (h.hs a0 js) (h.below (hb.mono (Nat.le_of_lt c.blt))).hk (c.below hb) rfl f d
theorem zYC {C:Cx} {m k:Nat} {x:Nd} {l:List Tr} {s:NdSl} {us:List UInt16} {v:Value} {w:World} (h:Nx C m k x l s w) (b:x.kind=18) (d:Pe C us v w) (c:MayPut us (zi x (prs l))):
 Calls prog 28 #[.pointer (some ⟨C.g,0,none⟩),.int .i64 (k:Int),ndA x l s] w (PutQ C us v w (zi x (prs l))):=by
 obtain⟨a0,rfl⟩:=zGu (h.cnt.one jo);have e:zi x (prs [a0])=[x.name,[58]]++(prT a0):=by unfold zi;rw[b,zH,zY];rfl
 rw[e]at c⊢;unfold ndA;rw[b];exact zX0 x.name _ _ _ _ _ h.hN (h.hs a0 js) h.hk d c
theorem zYD {C:Cx} {m k:Nat} {x:Nd} {l:List Tr} {s:NdSl} {us:List UInt16} {v:Value} {w:World} (h:Nx C m k x l s w) (j:x.kind=19) (f:Pe C us v w) (o:MayPut us (zi x (prs l))):
 Calls prog 28 #[.pointer (some ⟨C.g,0,none⟩),.int .i64 (k:Int),ndA x l s] w (PutQ C us v w (zi x (prs l))):=by
 obtain⟨r,a,rfl⟩:=zVt (h.cnt.some_ jo);have e:zi x (prs (r++[a]))=[[102,117,110,99,116,105,111,110]]++(zAo x.name++(zu (prs r)++prT a)):=by
  have e1:zi x (prs (r++[a]))=zFL x (prs (r++[a])):=by unfold zi;rw[j];rfl
  rw[e1];unfold zFL;rw[(zCp r a).1,(zCp r a).2];rfl
 have b:(r++[a]).length=r.length+1:=by simp
 have h6:=h.h6;have c:=h.ck;rw[b]at h6 c;rw[e]at o⊢;unfold ndA;rw[j,b];exact zIM (K:=19) jd _ _ _ _ _ _ _ fun W hb=>zTB _ _ _ _ _ _ _ fun q d=>zJg 19 x.name _ _ _ _ _ h.hN (fun t p=>h.hs t (by simp[p])) (h.hs a js) rfl h6 c (((h.below (hb.mono (Nat.le_of_lt f.blt))).below (d.mono (Nat.le_of_lt (f.below hb).blt))).hk) ((f.below hb).below d) o
theorem zYE {C:Cx} {m k:Nat} {x:Nd} {l:List Tr} {s:NdSl} {us:List UInt16} {v:Value} {w:World} (h:Nx C m k x l s w) (b:x.kind=20) (d:Pe C us v w) (c:MayPut us (zi x (prs l))):
 Calls prog 28 #[.pointer (some ⟨C.g,0,none⟩),.int .i64 (k:Int),ndA x l s] w (PutQ C us v w (zi x (prs l))):=by
 obtain rfl:=zGt (h.cnt.none_ jo);have e:zi x (prs [])=[x.name]:=by unfold zi;rw[b,zY];rfl
 rw[e]at c⊢;unfold ndA;rw[b];exact zX1 x.name _ _ _ _ _ h.hN d c
theorem zIP {C:Cx} {m k:Nat} {x:Nd} {l:List Tr} {s:NdSl} {us:List UInt16} {v:Value} {w:World} (h:Nx C m k x l s w) (f:x.kind≤20) (b:Pe C us v w) (d:MayPut us (zi x (prs l))):
 Calls prog 28 #[.pointer (some ⟨C.g,0,none⟩),.int .i64 (k:Int),ndA x l s] w (PutQ C us v w (zi x (prs l))):=by
 have h1:=h.kin;have e:x.kind=1∨x.kind=2∨x.kind=3∨x.kind=4∨x.kind=5∨x.kind=6∨x.kind=7∨x.kind=8∨x.kind=9∨x.kind=10∨x.kind=11∨x.kind=12∨x.kind=13∨x.kind=14∨x.kind=15∨x.kind=16∨x.kind=17∨x.kind=18∨x.kind=19∨x.kind=20:=by omega
 rcases e with c | c | c | c | c | c | c | c | c | c | c | c | c | c | c | c | c | c | c | c
 · exact zZW h c b d
 · exact zZX h c b d
 · exact zZY h c b d
 · exact zZZ h c b d
 · exact zZa h c b d
 · exact zZb h c b d
 · exact zZc h c b d
 · exact zZd h c b d
 · exact zZe h c b d
 · exact zX4 h c b d
 · exact zX5 h c b d
 · exact zX6 h c b d
 · exact zX7 h c b d
 · exact zX8 h c b d
 · exact zX9 h c b d
 · exact zYA h c b d
 · exact zYB h c b d
 · exact zYC h c b d
 · exact zYD h c b d
 · exact zYE h c b d
theorem zYF {C:Cx} {m:Nat} {us:List UInt16} {v:Value} {w:World} (nm:List UInt8) (vs j:Value) (nk nn:Int) (k:Bool) (hN:zAi C m) (s0:a0.size≤m) (hk:KidsS C w Ak [a0]) (l:Pe C us v w) (d:MayPut us ([nm]++(zb (a0.nd.kind,prT a0)))):
 Calls prog 55 #[.pointer (some ⟨C.g,0,none⟩),.agg #[.int .i64 43,.string ⟨nm.toArray⟩,vs,.int .i64 nk,.int .i64 nn,.bool k,j,.slice Ak 1 ck]] w (PutQ C us v w ([nm]++(zb (a0.nd.kind,prT a0)))):=by
 obtain⟨b,o,rfl,c⟩:=hk js;obtain⟨W,X,r,s,t,ps,p,e⟩:=PF.new 43 (.string ⟨nm.toArray⟩) vs (.int .i64 nk) (.int .i64 nn) (.bool k) j (.slice (some ⟨b,o,none⟩) 1 ck) hN c l (by rw[←List.append_nil (_++_)]at d;exact d);obtain⟨p0,rfl⟩:=ps1 p;simp only[List.append_assoc]at e;go_enter func55,ntmps55;go_upto_region 1 with(fail);clear hN c hk l d p r s;have:=e.out.x;go_wp2_with fail;refine(e.out.lit (a:=[nm]) rfl).mono ?_;rintro e1 w1 ⟨rfl,v1,f⟩;have:=f.out.x;have:=f.out.c0;go_wp2_with fail;refine(f.out.part 0 s0 rfl rfl).mono ?_;rintro e2 w2 ⟨rfl,v2,q⟩;have:=q.out.x;go_wp2_with fail;exact jr (q.out.fin t.out js)
theorem zYG {C:Cx} {m:Nat} {us:List UInt16} {v:Value} {w:World} (nm:List UInt8) (vs j:Value) (nk nn:Int) (k:Bool) (hN:zAi C m) (s0:a0.size≤m) (hk:KidsS C w Ak [a0]) (l:Pe C us v w) (d:MayPut us ([nm]++(prT a0))):
 Calls prog 55 #[.pointer (some ⟨C.g,0,none⟩),.agg #[.int .i64 44,.string ⟨nm.toArray⟩,vs,.int .i64 nk,.int .i64 nn,.bool k,j,.slice Ak 1 ck]] w (PutQ C us v w ([nm]++(prT a0))):=by
 obtain⟨b,o,rfl,c⟩:=hk js;obtain⟨W,X,r,s,t,ps,p,e⟩:=PF.new 44 (.string ⟨nm.toArray⟩) vs (.int .i64 nk) (.int .i64 nn) (.bool k) j (.slice (some ⟨b,o,none⟩) 1 ck) hN c l (by rw[←List.append_nil (_++_)]at d;exact d);obtain⟨p0,rfl⟩:=ps1 p;simp only[List.append_assoc]at e;go_enter func55,ntmps55;go_upto_region 1 with(fail);clear hN c hk l d p r s;have:=e.out.x;go_wp2_with fail;refine(e.out.lit (a:=[nm]) rfl).mono ?_;rintro e1 w1 ⟨rfl,v1,f⟩;have:=f.out.x;have:=f.out.c0;go_wp2_with fail;refine(f.out.node 0 s0 rfl rfl).mono ?_;rintro e2 w2 ⟨rfl,v2,q⟩;have:=q.out.x;go_wp2_with fail;exact jr (q.out.fin t.out js)
theorem zYH {C:Cx} {m:Nat} {us:List UInt16} {v:Value} {w:World} (nm:List UInt8) (vs f:Value) (nk nn:Int) (j:Bool) (hN:zAi C m) (s0:a0.size≤m) (hk:KidsS C w Ak [a0]) (k:Pe C us v w) (e:MayPut us ((prT a0)++([nm]))):
 Calls prog 55 #[.pointer (some ⟨C.g,0,none⟩),.agg #[.int .i64 45,.string ⟨nm.toArray⟩,vs,.int .i64 nk,.int .i64 nn,.bool j,f,.slice Ak 1 ck]] w (PutQ C us v w ((prT a0)++([nm]))):=by
 obtain⟨b,o,rfl,d⟩:=hk js;obtain⟨W,X,r,s,t,ps,l,c⟩:=PF.new 45 (.string ⟨nm.toArray⟩) vs (.int .i64 nk) (.int .i64 nn) (.bool j) f (.slice (some ⟨b,o,none⟩) 1 ck) hN d k (by rw[←List.append_nil (_++_)]at e;exact e);obtain⟨p0,rfl⟩:=ps1 l;simp only[List.append_assoc]at c;go_enter func55,ntmps55;go_upto_region 1 with(fail);clear hN d hk k e l r s;have:=c.out.x;have:=c.out.c0;go_wp2_with fail;refine(c.out.node 0 s0 rfl rfl).mono ?_;rintro e1 w1 ⟨rfl,v1,p⟩;have:=p.out.x;go_wp2_with fail;refine(p.out.lit (a:=[nm]) rfl).mono ?_;rintro e2 w2 ⟨rfl,v2,q⟩;have:=q.out.x;go_wp2_with fail;exact jr (q.out.fin t.out js)
theorem zUh {C:Cx} (t:K=46∨K=47) {m:Nat} {us:List UInt16} {v:Value} {w:World} (nm:List UInt8) (vs k:Value) (nk nn:Int) (l:Bool) (hN:zAi C m) (s0:a0.size≤m) (s1:a1.size≤m) (hk:KidsS C w Ak [a0,a1]) (p:Pe C us v w) (f:MayPut us ((zb (a0.nd.kind,prT a0))++([nm]++(zb (a1.nd.kind,prT a1))))):
 Calls prog 55 #[.pointer (some ⟨C.g,0,none⟩),.agg #[.int .i64 K,.string ⟨nm.toArray⟩,vs,.int .i64 nk,.int .i64 nn,.bool l,k,.slice Ak 2 ck]] w (PutQ C us v w ((zb (a0.nd.kind,prT a0))++([nm]++(zb (a1.nd.kind,prT a1))))):=by
 obtain⟨b,o,rfl,e⟩:=hk js;obtain⟨W,X,u,y,z,ps,q,d⟩:=PF.new K (.string ⟨nm.toArray⟩) vs (.int .i64 nk) (.int .i64 nn) (.bool l) k (.slice (some ⟨b,o,none⟩) 2 ck) hN e p (by rw[←List.append_nil (_++_)]at f;exact f);obtain⟨p0,p1,rfl⟩:=ps2 q;simp only[List.append_assoc]at d;rcases t with rfl | rfl
 all_goals
  go_enter func55,ntmps55;go_upto_region 1 with(fail);clear hN e hk p f q u y;have:=d.out.x;have:=d.out.c0;go_wp2_with fail;refine(d.out.part 0 s0 rfl rfl).mono ?_;rintro e1 w1 ⟨rfl,v1,r⟩;have:=r.out.x;go_wp2_with fail;refine(r.out.lit (a:=[nm]) rfl).mono ?_;rintro e2 w2 ⟨rfl,v2,j⟩;have:=j.out.x;have:=j.out.c 1;go_wp2_with fail;refine(j.out.part 1 s1 rfl rfl).mono ?_;rintro e3 w3 ⟨rfl,v3,s⟩;have:=s.out.x;go_wp2_with fail;exact jr (s.out.fin z.out js)
theorem zYI {C:Cx} {m:Nat} {us:List UInt16} {v:Value} {w:World} (nm:List UInt8) (vs l:Value) (nk nn:Int) (p:Bool) (hN:zAi C m) (s0:a0.size≤m) (s1:a1.size≤m) (y:a2.size≤m) (hk:KidsS C w Ak [a0,a1,a2]) (q:Pe C us v w) (f:MayPut us ((zb (a0.nd.kind,prT a0))++([[63]]++((zb (a1.nd.kind,prT a1))++([[58]]++(zb (a2.nd.kind,prT a2))))))):
 Calls prog 55 #[.pointer (some ⟨C.g,0,none⟩),.agg #[.int .i64 48,.string ⟨nm.toArray⟩,vs,.int .i64 nk,.int .i64 nn,.bool p,l,.slice Ak 3 ck]] w (PutQ C us v w ((zb (a0.nd.kind,prT a0))++([[63]]++((zb (a1.nd.kind,prT a1))++([[58]]++(zb (a2.nd.kind,prT a2))))))):=by
 obtain⟨b,o,rfl,e⟩:=hk js;obtain⟨W,X,z,A,B,ps,r,d⟩:=PF.new 48 (.string ⟨nm.toArray⟩) vs (.int .i64 nk) (.int .i64 nn) (.bool p) l (.slice (some ⟨b,o,none⟩) 3 ck) hN e q (by rw[←List.append_nil (_++_)]at f;exact f);obtain⟨p0,p1,p2,rfl⟩:=ps3 r;simp only[List.append_assoc]at d;go_enter func55,ntmps55;go_upto_region 1 with(fail);clear hN e hk q f r z A;have:=d.out.x;have:=d.out.c0;go_wp2_with fail;refine(d.out.part 0 s0 rfl rfl).mono ?_;rintro e1 w1 ⟨rfl,v1,s⟩;have:=s.out.x;go_wp2_with fail;refine(s.out.lit (a:=[[63]]) rfl).mono ?_;rintro e2 w2 ⟨rfl,v2,j⟩;have:=j.out.x;have:=j.out.c 1;go_wp2_with fail;refine(j.out.part 1 s1 rfl rfl).mono ?_;rintro e3 w3 ⟨rfl,v3,t⟩;have:=t.out.x;go_wp2_with fail;refine(t.out.lit (a:=[[58]]) rfl).mono ?_;rintro e4 D ⟨rfl,v4,k⟩;have:=k.out.x;have:=k.out.c 2;go_wp2_with fail;refine(k.out.part 2 y rfl rfl).mono ?_;rintro e5 E ⟨rfl,v5,u⟩;have:=u.out.x;go_wp2_with fail;exact jr (u.out.fin B.out js)
theorem zYJ {C:Cx} {m:Nat} {us:List UInt16} {v:Value} {w:World} (nm:List UInt8) (vs k:Value) (nk nn:Int) (l:Bool) (hN:zAi C m) (s0:a0.size≤m) (s1:a1.size≤m) (hk:KidsS C w Ak [a0,a1]) (p:Pe C us v w) (f:MayPut us ((prT a0)++([nm]++(zb (a1.nd.kind,prT a1))))):
 Calls prog 55 #[.pointer (some ⟨C.g,0,none⟩),.agg #[.int .i64 49,.string ⟨nm.toArray⟩,vs,.int .i64 nk,.int .i64 nn,.bool l,k,.slice Ak 2 ck]] w (PutQ C us v w ((prT a0)++([nm]++(zb (a1.nd.kind,prT a1))))):=by
 obtain⟨b,o,rfl,e⟩:=hk js;obtain⟨W,X,t,u,y,ps,q,d⟩:=PF.new 49 (.string ⟨nm.toArray⟩) vs (.int .i64 nk) (.int .i64 nn) (.bool l) k (.slice (some ⟨b,o,none⟩) 2 ck) hN e p (by rw[←List.append_nil (_++_)]at f;exact f);obtain⟨p0,p1,rfl⟩:=ps2 q;simp only[List.append_assoc]at d;go_enter func55,ntmps55;go_upto_region 1 with(fail);clear hN e hk p f q t u;have:=d.out.x;have:=d.out.c0;go_wp2_with fail;refine(d.out.node 0 s0 rfl rfl).mono ?_;rintro e1 w1 ⟨rfl,v1,r⟩;have:=r.out.x;go_wp2_with fail;refine(r.out.lit (a:=[nm]) rfl).mono ?_;rintro e2 w2 ⟨rfl,v2,j⟩;have:=j.out.x;have:=j.out.c 1;go_wp2_with fail;refine(j.out.part 1 s1 rfl rfl).mono ?_;rintro e3 w3 ⟨rfl,v3,s⟩;have:=s.out.x;go_wp2_with fail;exact jr (s.out.fin y.out js)
theorem zYK {C:Cx} {m:Nat} {us:List UInt16} {v:Value} {w:World} (nm:List UInt8) (vs f:Value) (nk nn:Int) (j:Bool) (hN:zAi C m) (s0:a0.size≤m) (hk:KidsS C w Ak [a0]) (k:Pe C us v w) (e:MayPut us ((zb (a0.nd.kind,prT a0))++([[46],nm]))):
 Calls prog 55 #[.pointer (some ⟨C.g,0,none⟩),.agg #[.int .i64 52,.string ⟨nm.toArray⟩,vs,.int .i64 nk,.int .i64 nn,.bool j,f,.slice Ak 1 ck]] w (PutQ C us v w ((zb (a0.nd.kind,prT a0))++([[46],nm]))):=by
 obtain⟨b,o,rfl,d⟩:=hk js;obtain⟨W,X,r,s,t,ps,l,c⟩:=PF.new 52 (.string ⟨nm.toArray⟩) vs (.int .i64 nk) (.int .i64 nn) (.bool j) f (.slice (some ⟨b,o,none⟩) 1 ck) hN d k (by rw[←List.append_nil (_++_)]at e;exact e);obtain⟨p0,rfl⟩:=ps1 l;simp only[List.append_assoc]at c;go_enter func55,ntmps55;go_upto_region 1 with(fail);clear hN d hk k e l r s;have:=c.out.x;have:=c.out.c0;go_wp2_with fail;refine(c.out.part 0 s0 rfl rfl).mono ?_;rintro e1 w1 ⟨rfl,v1,p⟩;have:=p.out.x;go_wp2_with fail;refine(p.out.lit (a:=[[46],nm]) rfl).mono ?_;rintro e2 w2 ⟨rfl,v2,q⟩;have:=q.out.x;go_wp2_with fail;exact jr (q.out.fin t.out js)
theorem zYL {C:Cx} {m:Nat} {us:List UInt16} {v:Value} {w:World} (nm:List UInt8) (vs k:Value) (nk nn:Int) (l:Bool) (hN:zAi C m) (s0:a0.size≤m) (s1:a1.size≤m) (hk:KidsS C w Ak [a0,a1]) (p:Pe C us v w) (f:MayPut us ((zb (a0.nd.kind,prT a0))++([[91]]++((zb (a1.nd.kind,prT a1))++([[93]]))))):
 Calls prog 55 #[.pointer (some ⟨C.g,0,none⟩),.agg #[.int .i64 53,.string ⟨nm.toArray⟩,vs,.int .i64 nk,.int .i64 nn,.bool l,k,.slice Ak 2 ck]] w (PutQ C us v w ((zb (a0.nd.kind,prT a0))++([[91]]++((zb (a1.nd.kind,prT a1))++([[93]]))))):=by
 obtain⟨b,o,rfl,e⟩:=hk js;obtain⟨W,X,u,y,z,ps,q,d⟩:=PF.new 53 (.string ⟨nm.toArray⟩) vs (.int .i64 nk) (.int .i64 nn) (.bool l) k (.slice (some ⟨b,o,none⟩) 2 ck) hN e p (by rw[←List.append_nil (_++_)]at f;exact f);obtain⟨p0,p1,rfl⟩:=ps2 q;simp only[List.append_assoc]at d;go_enter func55,ntmps55;go_upto_region 1 with(fail);clear hN e hk p f q u y;have:=d.out.x;have:=d.out.c0;go_wp2_with fail;refine(d.out.part 0 s0 rfl rfl).mono ?_;rintro e1 w1 ⟨rfl,v1,r⟩;have:=r.out.x;go_wp2_with fail;refine(r.out.lit (a:=[[91]]) rfl).mono ?_;rintro e2 w2 ⟨rfl,v2,j⟩;have:=j.out.x;have:=j.out.c 1;go_wp2_with fail;refine(j.out.part 1 s1 rfl rfl).mono ?_;rintro e3 w3 ⟨rfl,v3,s⟩;have:=s.out.x;go_wp2_with fail;refine(s.out.lit (a:=[[93]]) rfl).mono ?_;rintro e4 A ⟨rfl,v4,t⟩;have:=t.out.x;go_wp2_with fail;exact jr (t.out.fin z.out js)
end Go.Proofs.YtlnbbaehihgigaaGreatDoor
