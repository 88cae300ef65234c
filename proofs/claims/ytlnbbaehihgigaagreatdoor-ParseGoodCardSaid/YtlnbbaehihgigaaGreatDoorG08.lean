/- Joined for the claim ParseGood: the parser, the lexer and the trees as they are walked, made short by a program of mine. -/
import Derived.Deep.RegionLaw
import Derived.Test.YtlnbbaehihgigaaGreatDoorG07
import Derived.Test.YtlnbbaehihgigaaGreatDoorG02
import Derived.Test.YtlnbbaehihgigaaGreatDoorG01
import Derived.Deep.CutBlock
import Derived.Deep.DeepCutAuto
import Derived.Laws.BitsAllLaws
import Derived.Deep.LoopGhost
import Derived.Lib.SliceRun
import Derived.Test.YtlnbbaehihgigaaGreatDoorG04
import Derived.Test.YtlnbbaehihgigaaGreatDoorG05
import Derived.Laws.OwnMore
set_option maxHeartbeats 16000000
set_option maxRecDepth 1000000
namespace Go.Proofs.YtlnbbaehihgigaaGreatDoor
open Go.Proofs.Tryz
open Go.RowKit
variable {Ak Al:Option Addr} {ck k B p i L r size k0 j:Nat} {xs ms:List Nat} {a0 t z:Tr} {nm zs cs:List UInt8} {e:TypeId} {ks:List Kd} {f:Kd→Tks}
structure Pk (g:Nat) (w w':World) (v v':Value):Prop where
 os:w'.os=w.os
 tape:w'.tape=w.tape
 output:w'.output=w.output
 size:w.heap.size≤w'.heap.size
 block:∀i,i < w.heap.size→i≠g→v.ownBlock≠some i→w'.heap[i]? =w.heap[i]?
 own:v'.ownBlock=v.ownBlock∨∃r,v'.ownBlock=some r∧w.heap.size≤r
section
variable {g:Nat} {w w' w'':World} {v v' v'':Value}
theorem Pk.refl (g:Nat) (w:World) (v:Value):Pk g w w v v:=⟨rfl,rfl,rfl,yAC _,fun _ _ _ _=>rfl,.inl rfl⟩
theorem Pk.trans (h:Pk g w w' v v') (k:Pk g w' w'' v' v''):Pk g w w'' v v'':=
 ⟨k.os.trans h.os,k.tape.trans h.tape,k.output.trans h.output,yAD h.size k.size,fun i hi hg c=>(k.block i (yAA hi h.size) hg (by
  rcases h.own with e | ⟨r,e,b⟩
  · rw[e];exact c
  · rw[e];intro e2;injection e2 with e2;omega)).trans (h.block i hi hg c),by
  rcases k.own with e | ⟨r,e,b⟩
  · rcases h.own with e2 | ⟨r,e2,b⟩
    · exact .inl (e.trans e2)
    · exact .inr ⟨r,e.trans e2,b⟩
  · exact .inr ⟨r,e,yAD h.size b⟩⟩
theorem Pk.of_kept (h:Kept w w' v v'):Pk g w w' v v':=⟨h.os,h.tape,h.output,h.size,fun i hi _ b=>h.block i hi b,h.own⟩
theorem Pk.of_below (h:Below w.heap.size w w'):Pk g w w' v v:=⟨h.os,h.tape,h.output,h.size,fun i hi _ _=>h.block i hi,.inl rfl⟩
theorem Pk.set (h:Pk g w w' v v') (j:Nat) (z:Value):Pk g w (w'.setCell ⟨g,j,none⟩ z) v v':=
 ⟨h.os,h.tape,h.output,by have:=h.size;simpa using this,fun i hi hg b=>(Below.heap_setCell _ _ _ _ hg).trans (h.block i hi hg b),h.own⟩
theorem Pk.cell (h:Pk g w w' v v') {p:Addr} (c:p.block < w.heap.size) (hg:p.block≠g) (b:v.ownBlock≠some p.block):w'.cell? p=w.cell? p:=World.cell?_of_block (h.block p.block c hg b)
theorem Pk.below (h:Pk g w w' v v') (hB:∀i,v.ownBlock=some i→B≤i) (hg:B≤g) (hs:B≤w.heap.size):Below B w w':=
 ⟨h.os,h.tape,h.output,h.size,fun i hi=>h.block i jo jo (fun e=>by have:=hB i e;omega)⟩
end
structure Pn (w:World) (base g:Nat) (A:Option Addr) (n c:Nat) (us:List UInt16) (v:Value):Prop where
 c0:w.cell? g=some (.slice A n c)
 c1:w.cell? ⟨g,1,none⟩=some v
 f1:w.frozen? ⟨g,1,none⟩=false
 own:w.ownsRow base 65 1 v us.length (zAM us)
 gb:g < base
section
variable {w w':World} {base g n c:Nat} {A:Option Addr} {us us':List UInt16} {v v':Value}
theorem Pn.lt (h:Pn w base g A n c us v):g < w.heap.size:=World.block_lt_of_cell? w _ h.c0
theorem Pn.ne (h:Pn w base g A n c us v):v.ownBlock≠some g:=fun e=>by have:=(h.own.lt g e).1;have:=h.gb;omega
theorem Pn.ge (h:Pn w base g A n c us v):∀i,v.ownBlock=some i→base≤i:=zLO h.own
theorem Pn.below (h:Pn w base g A n c us v) (hb:Below w.heap.size w w'):Pn w' base g A n c us v:=
 ⟨(hb.cell (p:=g) h.lt).trans h.c0,(hb.cell (p:=⟨g,1,none⟩) h.lt).trans h.c1,(hb.frozen (p:=⟨g,1,none⟩) h.lt).trans h.f1,zDn h.own hb,h.gb⟩
theorem Pn.drew (h:Pn w base g A n c us v):Pn w.drew base g A n c us v:=h.below ((Below.refl _ _).drew)
theorem Pn.cells (h:Pn w base g A n c us v) (hk:Kept w w' v v'):w'.cell? g=some (.slice A n c)∧w'.cell? ⟨g,1,none⟩=some v∧w'.frozen? ⟨g,1,none⟩=false:=
 ⟨(hk.cell (p:=g) h.lt h.ne).trans h.c0,(hk.cell (p:=⟨g,1,none⟩) h.lt h.ne).trans h.c1,(hk.frozen (p:=⟨g,1,none⟩) h.lt h.ne).trans h.f1⟩
theorem Pn.put (h:Pn w base g A n c us v) (hk:Kept w w' v v') (b:w'.ownsRow base 65 1 v' us'.length (zAM us')):Pn (w'.setCell ⟨g,1,none⟩ v') base g A n c us' v':=by
 obtain⟨d,h1,e⟩:=h.cells hk;exact⟨by go_simp,by go_simp,by go_simp,zBt b (zQ w' g 1 v') h.gb,h.gb⟩
end
section
variable {P:Program} {w:World} {ops:Array Oper} {o:Oper} {a:Act} {K:Act→World→Prop} {Q:Exit→Act→World→Prop} {E:Prop}
theorem zQU (d:o.guard=none) (s x:Operand) (t:TypeId)
 (g:o.op=.call {callee:=.builtin .append,args:=#[s,x],argTypes:=#[t,t]})
 (base:Nat) (e:TypeId) (i:TypeInfo) (z:Value) (bytes:Nat) (ht:P.underlying t=some (.slice e)) (hi:P.info? e=some i) (hz:i.zero=some z)
 (hsize:i.size=1) (hby:i.bytes=bytes) (hzs:z.cells.size=1)
 (v:Value) (n:Nat) (xs:List Value) (hs:a.eval s=v) (hown:w.ownsRow base e 1 v n xs) (hbase:base≤w.heap.size)
 (ad:Addr) (m c:Nat) (news:List Value) (hx:a.eval x=.slice (some ad) m c) (hl:news.length=m) (hnews:∀j u,news[j]? =some u→w.cell? (ad.add j)=some u) (h1:∀u∈news,u.oneCell'=true)
 (hm:0 < m) (hsz:n+m≤1099511627776) (hb2:bytes≤128)
 (h:∀v' w',w'.ownsRow base e 1 v' (n+m) (xs++news)→Kept w w' v v'→K (a.put o.dst v') w'):
 if Region.wanted o (yielded ops a.tmps)=true then Oper.wp P o a w K Q else E:=by
 refine step_append_lies w d s x t g base e i z 1 bytes ht hi hz hsize hby hzs jo v n xs hs hown ad m c news hx jo hnews h1 hm (by unfold maxLen;omega) ?_ hbase _ rfl ?_
 · calc (n+m)*bytes≤1099511627776*128:=Nat.mul_le_mul hsz hb2
    _≤140737488355328:=by omega
 · intro gg cap w' l b p _;refine h _ w' l ⟨b.os,b.tape,b.output,b.size,fun k hk f=>b.block k hk (fun e=>f e.symm),?_⟩;rcases p with e | e
   · exact .inl e.symm
   · exact .inr ⟨gg,rfl,by omega⟩
end
theorem zTd (x:List UInt8) (hs:x.length≤1000000000) (w:World):
 Calls prog 11 #[x] w fun e w'=>∃A c,e=.returned (.slice A x.length c)∧Reads w' w'.heap.size 1 A x.length (zAM (zU x))∧Below w.heap.size w w':=by
 refine(zDs ⟨x.toArray⟩ w (by show x.toArray.size≤_;simp;omega)).mono ?_;rintro e w' ⟨v,rfl,b⟩;obtain⟨A,c,rfl,h1,g,d⟩:=b.u16;have f:(zU (⟨x.toArray⟩:ByteArray).data.toList).length=x.length:=by simp[zU]
 rw[f]at d⊢;exact⟨A,c,rfl,d,b.below⟩
def MayPut (us:List UInt16) (tks:Tks):Prop:=(∀s∈tks,s≠[])∧us.length+zBh tks≤1000000000
theorem zWY:∀(t:Tks),t.length≤zBh t:=by
 intro t
 induction t with
 | nil=>exact yAE _
 | cons s r b=>simp only[List.length_cons,zBh];omega
theorem MayPut.app {us:List UInt16} {a b:Tks} (h:MayPut us (a++b)):MayPut us a∧MayPut (zCu us a) b:=by
 have h1:=h.2;rw[zBx]at h1;have c:=zLS a us;exact⟨⟨fun s hs=>h.1 s (List.mem_append_left _ hs),by omega⟩,⟨fun s hs=>h.1 s (List.mem_append_right _ hs),by omega⟩⟩
def zaT (w:World) (base g:Nat) (A:Option Addr) (n c:Nat) (us:List UInt16) (v:Value) (tks:Tks) (e:Ending) (w':World):Prop:=
 e=.returned (.tuple #[])∧∃v',Pn w' base g A n c (zCu us tks) v'∧Pk g w w' v v'
theorem zWZ {base g n c m cl X V:Nat} {A:Option Addr} {us:List UInt16} {v:Value} {b:Tks} {w:World} (Y:Pn w base g A n c us v) (hb:base≤w.heap.size) (hn:b.length=m)
 (hc:∀(j:Nat) (s:List UInt8),b[j]? =some s→w.cell? ⟨X,V+j,none⟩=some (.string ⟨s.toArray⟩)) (hX:X < w.heap.size) (a0:X≠g) (O:v.ownBlock≠some X) (W:MayPut us b):
 Calls prog 43 #[.pointer (some g),.slice (some ⟨X,V,none⟩) m cl] w (zaT w base g A n c us v b):=by
 have HP:=zA Y;have HB:=zA hb;have HN:=zA hn;have HC:=zA hc;have HM:=zA W;have a1:=zA O;have b4:m≤1000000000:=by have h1:=zWY b;have h2:=W.2;omega
 clear Y hn hc W O;go_enter func43,ntmps43;obtain⟨i0,hi,r,t,y⟩:=info_parts Tryz.info_u16;have HI:=zA (And.intro hi (And.intro r (And.intro t y)));clear hi r t y;go_wp2_with fail
 go_loopw [8] (fun i wr=>∃(k:Nat) (M:Value),k≤m∧i=.int .i64 k∧Hid (Pn wr base g A n c (zCu us (b.take k)) M)∧Hid (Pk g w wr v M)) (fun i _=>m - (intOf i).toNat)
 case atStart=>exact⟨0,v,yAE _,rfl,HP,Pk.refl g w v⟩
 case round=>
  obtain⟨k,M,hk,rfl,d,z⟩:=hrel
  by_cases a2:k < m
  · have F:k < b.length:=by rw[HN.out];exact a2
    obtain⟨s,hs⟩:∃s,b[k]? =some s:=⟨_,yAB F⟩;have a3:=(z.out.cell (p:=⟨X,V+k,none⟩) hX a0 a1).trans (HC.out k s hs);have G:=zA (show b.take (k+1)=b.take k++[s] by rw[List.take_add_one,hs];rfl);have H:s≠[]:=HM.out.1 s (List.mem_of_getElem? hs);have I:(zCu us (b.take k)).length+(s.length+1)≤1000000000:=by
     have h1:=HM.out.2;have e:b=b.take k++(s::b.drop (k+1)):=by
      have:=(List.getElem?_eq_some_iff.1 hs).2;rw[←this,←yAH F,List.take_append_drop]
     rw[e,zBx]at h1;have h2:=zLS (b.take k) us;have h3:zBh (s::b.drop (k+1))=s.length+1+zBh (b.drop (k+1)):=rfl;omega
    have P:0 < s.length:=List.length_pos_iff.2 H;obtain⟨f,J⟩:=jx (zCu us (b.take k));rw[J]at d I;have a4:=zA J;have Q:=d.out.c1;have R:=d.out.f1;have S:=d.out.lt;have T:base≤wr.heap.size:=yAD hb z.out.size;obtain⟨Av,cv,hv,b5,_⟩:=zS d.out.own;subst hv;clear hs H J F
    go_upto_if 17 with(fail)
    go_cut [5] (fun v5 wx=>v5=.string ⟨s.toArray⟩∧∃N,Hid (Pn wx base g A n c (if f=[]then []else f++[32]) N)∧Hid (Pk g w wx v N))
    case first=>
     by_cases C:f=[]
     · subst C;go_wp2_with fail;go_meet;exact⟨rfl,_,d,z⟩
     · have a5:0 < f.length:=List.length_pos_iff.2 C;have e1:(0:Int) < (f.length:Int):=by omega
       have e2:decide ((0:Int) < (f.length:Int))=true:=decide_eq_true e1;have e3:decide (0 < f.length)=true:=decide_eq_true a5;have HU:=zA C;obtain⟨hi,r,t,y⟩:=HI.out;clear C;go_wp2_with (at_builtin;refine zDR rfl _ _ 27 rfl base 65 i0 (.int .u16 0) 1 2 underlying27 hi r t y rfl jd (.slice Av f.length cv) _ _ rfl (by exact d.out.own) T [.int .u16 32] 1 1 rfl rfl rfl jo jd ?_;intro v' w' l o;obtain⟨a6,a7,a8⟩:=d.out.cells o;obtain⟨Aw,cw,rfl,_,_⟩:=zS l);go_meet;refine⟨rfl,_,?_,z.out.trans ((Pk.of_kept o).set 1 _)⟩;rw[if_neg HU.out];have e:zAM f++[Value.int .u16 32]=zAM (f++[32]):=by simp[zAM,zVT]
       rw[e]at l;exact d.out.put o (by rw[List.length_append];exact l)
    case rest=>
     obtain⟨rfl,N,B,U⟩:=hcut;clear Q R a3 d z S T;obtain⟨q,D⟩:=jx ((if f=[]then []else f++[32]));have b6:q.length+s.length≤1000000000:=by
      rw[←D];split
      · simp;omega
      · rw[List.length_append,List.length_singleton];omega
     rw[D]at B;have a9:=zA D;clear D I;have Q:=B.out.c1;have R:=B.out.f1;have S:=B.out.lt;have b0:base≤wc.heap.size:=yAD hb U.out.size;have CA:=zA (zTd s jo wc.drew);obtain⟨hi,r,t,y⟩:=HI.out;go_wp2_with fail;go_region_law (first | (go_simp;go_at_call 11;refine CA.out.mono ?_;rintro e3 w3 ⟨AA,cA,rfl,b1,L⟩;have E:=zA (B.out.drew.below L);have b7:=E.out.c1;obtain⟨bA,oA,b2,_,b3⟩:=b1.spotR P;subst b2) | (refine zQU rfl _ _ 27 rfl base 65 i0 (.int .u16 0) 2 underlying27 hi r t y rfl N q.length (zAM q) rfl (by exact E.out.own) (yAD b0 L.size) ⟨bA,oA,none⟩ s.length cA (zAM (zU s)) rfl (by simp[zAM,zU]) (fun j u hu=>by rw[Addr.add_lit];exact b3 j u hu) (zRd _) P jo jd ?_;intro v' w' l o;obtain⟨a6,a7,a8⟩:=E.out.cells o;obtain⟨Aw,cw,rfl,_,_⟩:=zS l))
     all_goals go_wp2_with fail
     all_goals go_roundw
     all_goals first
      | (simp[intOf];omega)
      | (refine⟨k+1,_,by omega,by go_num,?_,U.out.trans ((Pk.of_below (zCa L)).trans ((Pk.of_kept o).set 1 _))⟩
         have e:zCu us (b.take (k+1))=q++zU s:=by
          rw[G.out,zAC,a4.out];show zOH f s=_;unfold zOH;rw[a9.out]
         rw[e];refine E.out.put o ?_;have e2:zAM q++zAM (zU s)=zAM (q++zU s):=by simp[zAM]
         have e3:q.length+s.length=(q++zU s).length:=by simp[zU]
         rw[e2]at l;rw[←e3];exact l)
  · obtain rfl:m=k:=by omega
    have G:=zA (show b.take m=b from List.take_of_length_le (by rw[HN.out];omega));go_wp2_with fail;refine jr ?_;refine⟨rfl,M,?_,z⟩;have:=d.out;rwa[G.out]at this
structure Cx where
 B:Nat
 base:Nat
 g:Nat
 n:Nat
 c:Nat
 A:Option Addr
 ts:List Nd
instance jCx:Coe Cx Value:=⟨fun C=>.pointer (some ⟨C.g,0,none⟩)⟩
structure Pe (C:Cx) (us:List UInt16) (v:Value) (w:World):Prop where
 pn:Pn w C.base C.g C.A C.n C.c us v
 nds:NdsR w C.B C.A C.n C.ts
 hb:C.base≤w.heap.size
 hB:C.B≤C.g
 tab:Tab w
 gB:0 < C.B
section
variable {C:Cx} {us us':List UInt16} {v v':Value} {w w':World}
theorem Pe.low (h:Pe C us v w) (hk:Pk C.g w w' v v'):Below C.B w w':=
 hk.below (fun i hi=>by have:=h.pn.ge i hi;have:=h.pn.gb;have:=h.hB;omega) h.hB (by have:=h.hB;have:=h.pn.gb;have:=h.hb;omega)
theorem Pe.next (h:Pe C us v w) (b:Pn w' C.base C.g C.A C.n C.c us' v') (hk:Pk C.g w w' v v'):Pe C us' v' w':=
 ⟨b,h.nds.below (h.low hk),yAD h.hb hk.size,h.hB,h.tab.below h.gB (h.low hk),h.gB⟩
theorem Pe.below (h:Pe C us v w) (hb:Below w.heap.size w w'):Pe C us v w':=h.next (h.pn.below hb) (Pk.of_below hb)
theorem Pe.alloc (h:Pe C us v w) (o:Obj):Pe C us v (w.alloc o):=h.below (ja)
theorem Pe.blt (h:Pe C us v w):C.B < w.heap.size:=by have:=h.hB;have:=h.pn.lt;omega
end
def PutQ (C:Cx) (us:List UInt16) (v:Value) (w:World) (tks:Tks) (e:Ending) (w':World):Prop:=
 e=.returned (.tuple #[])∧∃v',Pe C (zCu us tks) v' w'∧Pk C.g w w' v v'
theorem PutQ.back {C:Cx} {us:List UInt16} {v:Value} {w w1 w':World} {b:Tks} {e:Ending} (hb:Below w.heap.size w w1) (h:PutQ C us v w1 b e w'):PutQ C us v w b e w':=by
 obtain⟨h1,v',c,d⟩:=h;exact⟨h1,v',c,(Pk.of_below hb).trans d⟩
theorem PutQ.nil {C:Cx} {us:List UInt16} {v:Value} {w:World} (h:Pe C us v w):PutQ C us v w [] (.returned (.tuple #[])) w:=⟨rfl,v,h,Pk.refl _ _ _⟩
theorem zAD {C:Cx} {us:List UInt16} {v:Value} {w:World} (c:Pe C us v w) (b:Tks) (m:Nat) (k:b.length=m) (l:MayPut us b):
 Calls prog 43 #[C,.slice (some ⟨w.heap.size,0,none⟩) m m] (w.alloc (.cells (zMD b).toArray 9)) (PutQ C us v w b):=by
 have d:Below w.heap.size w (w.alloc (.cells (zMD b).toArray 9)):=ja;refine(zWZ (c.pn.below d) (yAD c.hb d.size) k (fun j s hs=>?_) js (fun e=>by have:=c.pn.lt;omega) (fun e=>by have:=(c.pn.own.lt _ e).2;omega) l).mono ?_
 · rw[Nat.zero_add,World.cell?_alloc_at _ _ _ _ rfl];simp[zMD,hs]
 · rintro e w' ⟨rfl,v',h1,o⟩;have f:=(Pk.of_below d).trans o;exact⟨rfl,v',c.next h1 f,f⟩
theorem zDK {C:Cx} {us:List UInt16} {v:Value} {w:World} {x:Nd} (c:Pe C us v w) (h:C.ts[k]? =some x):
 Calls prog 84 #[C,k] w fun e w'=>e=.returned x.kind∧w=w':=by
 have d:k < C.n:=by have:=(List.getElem?_eq_some_iff.1 h).1;rwa[c.nds.1]at this
 obtain⟨b,o,q,s,m,t,f,p,r⟩:=c.nds.get d;obtain rfl:x=q:=Option.some.inj (h.symm.trans f);have j:=c.pn.c0;rw[m]at j;have u:=p.k0;obtain⟨g,hg⟩:∃g,C.g=g:=⟨_,rfl⟩;obtain⟨n,l⟩:∃n,C.n=n:=⟨_,rfl⟩;rw[hg,l]at j;rw[l]at d;rw[hg];clear c h m f p r hg l;go_enter func84,ntmps84;go_wp2_with fail;go_ret;exact⟨rfl,rfl⟩
theorem MayPut.of {us:List UInt16} {a b:Tks} (h:MayPut us a) (e:a=b):MayPut us b:=e▸h
theorem zH4 {C:Cx} {us:List UInt16} {v:Value} {w:World} (f:Pe C us v w) (d:MayPut us (zAs nm)):
 Calls prog 46 #[C,nm] w (PutQ C us v w (zAs nm)):=by
 by_cases h:nm=[]
 · subst h;have l:=zA f;clear d f;go_enter func46,ntmps46;go_wp2_with fail;exact jr (PutQ.nil l)
 · have e:zAs nm=[nm]:=by unfold zAs;rw[if_neg h]
   rw[e]at d⊢;obtain⟨b,c⟩:∃b:ByteArray,⟨nm.toArray⟩=b:=⟨_,rfl⟩;have j:b.data.toList=nm:=by rw[←c]
   have f1:b.toList≠[]:=by rw[ByteArray.toList_eq,j];exact h
   have o:(b.toList==[])=false:=yA.2 f1;have p:b.toList.isEmpty=false:=by rw[List.isEmpty_eq_false_iff];exact f1
   have k:=zA (zAD f [nm] 1 rfl d);rw[show zMD [nm]=[Value.string b] by rw[←c];rfl]at k;rw[c];clear d e h j c f1;go_enter func46,ntmps46;go_wp2_with fail;refine k.out.mono ?_;rintro e1 w1 ⟨rfl,m⟩;go_wp2_with fail;exact jr (⟨rfl,m⟩)
def zAl (C:Cx) (m:Nat):Prop:=∀(t:Tr) (k:Nat) (us:List UInt16) (v:Value) (w:World),t.size≤m→At C.ts k t→Pe C us v w→MayPut us (prT t)→
 Calls prog 14 #[C,k] w (PutQ C us v w (prT t))
theorem MayPut.two {us:List UInt16} {a b c:Tks} (h:MayPut us a) (e:a=b++c):MayPut us b∧MayPut (zCu us b) c:=(h.of e).app
theorem zIh {C:Cx} {m:Nat} {us:List UInt16} {v:Value} {w:World} (hN:zAl C m) (B:t.size≤m) (p:At C.ts k t) (D:Pe C us v w) (q:MayPut us (inP (prT t))):
 Calls prog 44 #[C,k] w (PutQ C us v w (inP (prT t))):=by
 obtain⟨m1,m2⟩:=q.two (b:=[[40]]) (c:=prT t++[[41]]) rfl;obtain⟨r,s⟩:=m2.app;have E:=zA (zAD D [[40]] 1 rfl m1);have F:=zA r;have G:=zA s;have H:=zA hN;have I:=zA p;clear q m1 m2 r s hN p;go_enter func44,ntmps44;go_wp2_with fail;refine E.out.mono ?_;rintro e1 w1 ⟨rfl,v1,d,e⟩;have J:=zA (H.out t k _ v1 w1 B I d F);have u:=zA e;clear d e;go_wp2_with fail;refine J.out.mono ?_;rintro e2 w2 ⟨rfl,v2,f,j⟩;have L:=zA (zAD f [[41]] 1 rfl G);have y:=zA (u.out.trans j);clear f j;go_wp2_with fail;refine L.out.mono ?_;rintro e3 w3 ⟨rfl,v3,l,o⟩;have z:=zA l;have A:=zA (y.out.trans o);clear l o;go_wp2_with fail;refine jr ?_;refine⟨rfl,v3,?_,A⟩;have:=z.out;rwa[←zAC,←zAC]at this
theorem zDL {C:Cx} {m:Nat} {us:List UInt16} {v:Value} {w:World} (hN:zAl C m) (q:t.size≤m) (c:At C.ts k t) (p:Pe C us v w) (b:MayPut us (ze (t.nd.kind,prT t))):
 Calls prog 52 #[C,k] w (PutQ C us v w (ze (t.nd.kind,prT t))):=by
 obtain⟨K,d⟩:=jx t.nd.kind;have l:=zA (zDK p c.get);rw[zBa,d]at l;rw[d]at b⊢
 by_cases h:30≤K∧K≤37
 · have e:ze (K,prT t)=prT t:=by unfold ze;rw[if_pos h]
   rw[e]at b⊢;have o:=zA (hN t k us v w q c p b);obtain⟨h1,f⟩:=h;have e1:decide ((30:Int)≤K)=true:=decide_eq_true h1;have e2:decide (K≤(37:Int))=true:=decide_eq_true f;clear b hN c d e;go_enter func52,ntmps52;go_wp2_with (go_at_call 84;refine l.out.mono ?_;rintro e1 w1 ⟨rfl,rfl⟩);refine o.out.mono ?_;rintro e1 w1 ⟨rfl,j⟩;go_wp2_with fail;exact jr (⟨rfl,j⟩)
 · have e:ze (K,prT t)=inP (prT t):=by unfold ze;rw[if_neg h]
   rw[e]at b⊢;have o:=zA (zIh hN q c p b)
   by_cases h1:30≤K
   · have f:¬K≤37:=fun f=>h ⟨h1,f⟩;have e1:decide ((30:Int)≤K)=true:=decide_eq_true h1;have e2:decide (K≤(37:Int))=false:=yAI f;clear b hN c d e h;go_enter func52,ntmps52;go_wp2_with (go_at_call 84;refine l.out.mono ?_;rintro e1 w1 ⟨rfl,rfl⟩);refine o.out.mono ?_;rintro e1 w1 ⟨rfl,j⟩;go_wp2_with fail;exact jr (⟨rfl,j⟩)
   · have e1:decide ((30:Int)≤K)=false:=yAI h1;clear b hN c d e h;go_enter func52,ntmps52;go_wp2_with (go_at_call 84;refine l.out.mono ?_;rintro e1 w1 ⟨rfl,rfl⟩);refine o.out.mono ?_;rintro e1 w1 ⟨rfl,j⟩;go_wp2_with fail;exact jr (⟨rfl,j⟩)
def KidsAt (C:Cx) (w:World) (b o:Nat) (l:List Tr):Prop:=∀i (hi:i < l.length),∃p:Nat,At C.ts p l[i]∧b < C.B∧w.cell? ⟨b,o+i,none⟩=some (.int .i64 (p:Int))
theorem KidsAt.below {C:Cx} {w w':World} {b o:Nat} {l:List Tr} (h:KidsAt C w b o l) (hb:Below C.B w w'):KidsAt C w' b o l:=fun i hi=>by
 obtain⟨p,h1,c,d⟩:=h i hi;exact⟨p,h1,c,(hb.cell (p:=⟨b,o+i,none⟩) c).trans d⟩
theorem zTe (f:Kd→Tks) (a b:List Kd):zGY f (a++b)=zGY f a++zGY f b:=by
 induction a with
 | nil=>rfl
 | cons k r c=>show [44]::(f k++zGY f (r++b))=[44]::(f k++zGY f r)++zGY f b;rw[c];simp
theorem zMF (f:Kd→Tks) (a b:List Kd):zAW f (a++b)=zAW f a++(if a=[]then zAW f b else zGY f b):=by
 cases a with
 | nil=>rfl
 | cons k r=>
  rw[if_neg js];show f k++zGY f (r++b)=f k++zGY f r++zGY f b;rw[zTe,List.append_assoc]
def zEA (f:Kd→Tks) (i:Nat) (k:Kd):Tks:=if i=0 then f k else [44]::f k
theorem zG9 {k:Kd} (h:ks[i]? =some k):zAW f (ks.take (i+1))=zAW f (ks.take i)++zEA f i k:=by
 obtain⟨c,rfl⟩:=List.getElem?_eq_some_iff.1 h;rw[yAL c,zMF];congr 1;unfold zEA
 by_cases b:i=0
 · subst b;simp[zAW,zGY]
 · rw[if_neg b,if_neg (by
    intro e;rcases List.take_eq_nil_iff.1 e with e | e
    · exact b e
    · subst e;simp at c)];simp[zGY]
theorem zQV (f:Kd→Tks) (ks:List Kd) (i:Nat):∃r,zAW f ks=zAW f (ks.take i)++r:=by
 refine⟨if ks.take i=[]then zAW f (ks.drop i)else zGY f (ks.drop i),?_⟩;rw[←zMF,List.take_append_drop]
theorem MayPut.upto {us:List UInt16} {k:Kd} (h:MayPut us (zAW f ks)) (hk:ks[i]? =some k):MayPut (zCu us (zAW f (ks.take i))) (zEA f i k):=by
 obtain⟨r,b⟩:=zQV f ks (i+1);rw[zG9 hk,List.append_assoc]at b;exact((h.of b).app.2).app.1
def KidsS (C:Cx) (w:World) (Al:Option Addr) (l:List Tr):Prop:=l≠[]→∃b o,Al=some ⟨b,o,none⟩∧KidsAt C w b o l
theorem KidsS.below {C:Cx} {w w':World} {l:List Tr} (h:KidsS C w Al l) (hb:Below C.B w w'):KidsS C w' Al l:=fun c=>by
 obtain⟨b,o,h1,d⟩:=h c;exact⟨b,o,h1,d.below hb⟩
theorem zEQ {C:Cx} {m:Nat} {us:List UInt16} {v:Value} {w:World} {l:List Tr} (hN:zAl C m) (hs:∀t∈l,t.size≤m) (hk:KidsS C w Al l) (O:Pe C us v w) (D:l.length=L) (a2:L≤1000000) (P:MayPut us (zAW (·.2) (prs l))):
 Calls prog 51 #[C,.slice Al L ck,.func (Fn.func 14) #[C] #[]] w (PutQ C us v w (zAW (·.2) (prs l))):=by
 have V:=zA hN;have HS:=zA hs;have HM:=zA P;have Q:=zA O;have F:=zA D
 by_cases R:l=[]
 · subst R;obtain rfl:L=0:=by rw[←D];rfl
   clear hN hs hk O D P;go_enter func51,ntmps51;go_wp2_with fail
   go_loopw [10] (fun i wr=>i=.int .i64 0∧wr=w) (fun _ _=>0)
   case atStart=>exact⟨rfl,rfl⟩
   case round=>
    obtain⟨rfl,rfl⟩:=hrel;go_wp2_with fail;refine jr ?_;rw[zZ];exact PutQ.nil Q
 obtain⟨b,o,rfl,G⟩:=hk R;have HK:=zA G;clear hN hs hk O D P G R;go_enter func51,ntmps51;go_wp2_with fail
 go_loopw [10] (fun i wr=>∃(j:Nat) (s:Value),j≤L∧i=.int .i64 j∧Hid (Pe C (zCu us (zAW (·.2) ((prs l).take j))) s wr)∧Hid (Pk C.g w wr v s)) (fun i _=>L - (intOf i).toNat)
 case atStart=>exact⟨0,v,yAE _,rfl,Q,Pk.refl _ _ _⟩
 case round=>
  obtain⟨j,s,hj,rfl,k,q⟩:=hrel
  by_cases W:j < L
  · have r:j < l.length:=by rw[F.out];exact W
    obtain⟨p,u,a3,a1⟩:=(HK.out.below (Q.out.low q)) j r;have y:=HS.out l[j] (List.getElem_mem r);obtain⟨t,S⟩:=jx (l[j]);have hg:(prs l)[j]? =some (t.nd.kind,prT t):=by rw[zB7,List.getElem?_map,yAB r,S];rfl
    rw[S]at u y;have z:=zA (HM.out.upto hg);have H:=zA (zG9 (f:=(·.2)) hg);have I:=zA u;obtain⟨T,A⟩:=jx (zCu us (zAW (·.2) ((prs l).take j)));rw[A]at k z;have J:=zA A;clear r u S hg A
    by_cases E:j=0
    · have e0:¬(0:Int) < (j:Int):=by omega
      have e1:decide ((0:Int) < (j:Int))=false:=yAI e0;have e2:¬0 < j:=by omega
      have c:=zA (show zEA (·.2) j (t.nd.kind,prT t)=prT t by unfold zEA;rw[if_pos E]);have U:=zA (V.out t p T s wr y I k (by have:=z.out;rwa[c.out]at this));clear E;go_wp2_with fail;refine U.out.mono ?_;rintro e3 w3 ⟨rfl,v3,d,e⟩;have X:=zA d;have B:=zA (q.out.trans e);clear d e;go_wp2_with fail
      go_roundw
      case rel=>exact⟨j+1,v3,by omega,by go_num,by rw[H.out,zAC,J.out,c.out];exact X.out,B⟩
      case measure=>simp[intOf];omega
    · have e0:(0:Int) < (j:Int):=by omega
      have e1:decide ((0:Int) < (j:Int))=true:=decide_eq_true e0;have e2:0 < j:=by omega
      have c:=zA (show zEA (·.2) j (t.nd.kind,prT t)=[[44]]++prT t by unfold zEA;rw[if_neg E];rfl);obtain⟨m1,m2⟩:=z.out.two c;have U:=zA (zAD k [[44]] 1 rfl m1);have M2:=zA m2;clear E m1 m2;go_wp2_with fail;refine U.out.mono ?_;rintro e3 w3 ⟨rfl,v3,d,e⟩;have C2:=zA (V.out t p _ v3 w3 y I d M2);have B:=zA (q.out.trans e);clear d e;go_wp2_with fail;refine C2.out.mono ?_;rintro e4 w4 ⟨rfl,v4,M,N⟩;have Y:=zA M;have a0:=zA (B.out.trans N);clear M N;go_wp2_with fail
      go_roundw
      case rel=>exact⟨j+1,v4,by omega,by go_num,by rw[H.out,zAC,J.out,c.out,zAC];exact Y.out,a0⟩
      case measure=>simp[intOf];omega
  · obtain rfl:L=j:=by omega
    have HT:=zA (show(prs l).take L=prs l from List.take_of_length_le (by rw[zOG,F.out];omega));go_wp2_with fail;refine jr ?_;refine⟨rfl,s,?_,q⟩;have:=k.out;rwa[HT.out]at this
theorem zFr {C:Cx} {m:Nat} {us:List UInt16} {v:Value} {w:World} {l:List Tr} (hN:zAl C m) (hs:∀t∈l,t.size≤m) (hk:KidsS C w Al l) (O:Pe C us v w) (B:l.length=L) (a2:L≤1000000) (P:MayPut us (zAW ze (prs l))):
 Calls prog 51 #[C,.slice Al L ck,.func (Fn.func 52) #[C] #[]] w (PutQ C us v w (zAW ze (prs l))):=by
 have U:=zA hN;have HS:=zA hs;have HM:=zA P;have Q:=zA O;have F:=zA B
 by_cases R:l=[]
 · subst R;obtain rfl:L=0:=by rw[←B];rfl
   clear hN hs hk O B P;go_enter func51,ntmps51;go_wp2_with fail
   go_loopw [10] (fun i wr=>i=.int .i64 0∧wr=w) (fun _ _=>0)
   case atStart=>exact⟨rfl,rfl⟩
   case round=>
    obtain⟨rfl,rfl⟩:=hrel;go_wp2_with fail;refine jr ?_;rw[zZ];exact PutQ.nil Q
 obtain⟨b,o,rfl,G⟩:=hk R;have HK:=zA G;clear hN hs hk O B P G R;go_enter func51,ntmps51;go_wp2_with fail
 go_loopw [10] (fun i wr=>∃(j:Nat) (D:Value),j≤L∧i=.int .i64 j∧Hid (Pe C (zCu us (zAW ze ((prs l).take j))) D wr)∧Hid (Pk C.g w wr v D)) (fun i _=>L - (intOf i).toNat)
 case atStart=>exact⟨0,v,yAE _,rfl,Q,Pk.refl _ _ _⟩
 case round=>
  obtain⟨j,D,hj,rfl,k,q⟩:=hrel
  by_cases V:j < L
  · have r:j < l.length:=by rw[F.out];exact V
    obtain⟨p,s,a3,a1⟩:=(HK.out.below (Q.out.low q)) j r;have u:=HS.out l[j] (List.getElem_mem r);obtain⟨t,S⟩:=jx (l[j]);have hg:(prs l)[j]? =some (t.nd.kind,prT t):=by rw[zB7,List.getElem?_map,yAB r,S];rfl
    rw[S]at s u;have y:=zA (HM.out.upto hg);have H:=zA (zG9 (f:=ze) hg);have I:=zA s;obtain⟨W,z⟩:=jx (zCu us (zAW ze ((prs l).take j)));rw[z]at k y;have J:=zA z;clear r s S hg z
    by_cases E:j=0
    · have e0:¬(0:Int) < (j:Int):=by omega
      have e1:decide ((0:Int) < (j:Int))=false:=yAI e0;have e2:¬0 < j:=by omega
      have c:=zA (show zEA ze j (t.nd.kind,prT t)=ze (t.nd.kind,prT t) by unfold zEA;rw[if_pos E]);have T:=zA (zDL U u I k (by have:=y.out;rwa[c.out]at this));clear E;go_wp2_with fail;refine T.out.mono ?_;rintro e3 w3 ⟨rfl,v3,d,e⟩;have X:=zA d;have A:=zA (q.out.trans e);clear d e;go_wp2_with fail
      go_roundw
      case rel=>exact⟨j+1,v3,by omega,by go_num,by rw[H.out,zAC,J.out,c.out];exact X.out,A⟩
      case measure=>simp[intOf];omega
    · have e0:(0:Int) < (j:Int):=by omega
      have e1:decide ((0:Int) < (j:Int))=true:=decide_eq_true e0;have e2:0 < j:=by omega
      have c:=zA (show zEA ze j (t.nd.kind,prT t)=[[44]]++ze (t.nd.kind,prT t) by unfold zEA;rw[if_neg E];rfl);obtain⟨m1,m2⟩:=y.out.two c;have T:=zA (zAD k [[44]] 1 rfl m1);have M2:=zA m2;clear E m1 m2;go_wp2_with fail;refine T.out.mono ?_;rintro e3 w3 ⟨rfl,v3,d,e⟩;have C2:=zA (zDL U u I d M2);have A:=zA (q.out.trans e);clear d e;go_wp2_with fail;refine C2.out.mono ?_;rintro e4 w4 ⟨rfl,v4,M,N⟩;have Y:=zA M;have a0:=zA (A.out.trans N);clear M N;go_wp2_with fail
      go_roundw
      case rel=>exact⟨j+1,v4,by omega,by go_num,by rw[H.out,zAC,J.out,c.out,zAC];exact Y.out,a0⟩
      case measure=>simp[intOf];omega
  · obtain rfl:L=j:=by omega
    have HT:=zA (show(prs l).take L=prs l from List.take_of_length_le (by rw[zOG,F.out];omega));go_wp2_with fail;refine jr ?_;refine⟨rfl,D,?_,q⟩;have:=k.out;rwa[HT.out]at this
theorem zEv {C:Cx} {m:Nat} {us:List UInt16} {v:Value} {w:World} {l:List Tr} (hN:zAl C m) (hs:∀t∈l,t.size≤m) (hk:KidsS C w Al l) (q:Pe C us v w) (r:l.length=L) (s:L≤1000000) (u:MayPut us (zt (prs l))):
 Calls prog 91 #[C,.slice Al L ck] w (PutQ C us v w (zt (prs l))):=by
 obtain⟨m1,m2⟩:=u.two (b:=[[40]]) (c:=zAW (·.2) (prs l)++[[41]]) rfl;obtain⟨y,z⟩:=m2.app;have H:=zA y;have I:=zA z;have J:=zA hN;have M:=zA hs;have A:=zA hk;have B:=zA q;have D:=zA r;have N:=zA m1;clear u m1 m2 y z hN hs hk q r;go_enter func91,ntmps91;have O:=zA (zAD B [[40]] 1 rfl N);go_wp2_with fail;refine O.out.mono ?_;rintro e1 w1 ⟨rfl,v1,d,f⟩;have R:=zA d;have j:=zA (f);have P:=zA (zEQ (ck:=ck) J M (A.out.below (B.out.low j)) d D s H);clear d f;go_wp2_with fail;refine P.out.mono ?_;rintro e2 w2 ⟨rfl,v2,e,k⟩;have S:=zA e;have E:=zA (j.out.trans k);have Q:=zA (zAD e [[41]] 1 rfl I);clear e k;go_wp2_with fail;refine Q.out.mono ?_;rintro e3 w3 ⟨rfl,v3,o,p⟩;have F:=zA o;have G:=zA (E.out.trans p);clear o p;go_wp2_with fail;refine jr ?_;refine⟨rfl,v3,?_,G⟩;have:=F.out;simp only[←zAC]at this;exact this
structure PF (C:Cx) (m:Nat) (us:List UInt16) (v0:Value) (W:World) (X b o:Nat) (K:Int) (u1 vk:Value) (l:List Tr) (ps:List Nat) (dn rs:Tks) (v:Value) (w:World):Prop where
 N:zAl C m
 pe:Pe C (zCu us dn) v w
 p0:Pe C us v0 W
 pk:Pk C.g W w v0 v
 h1:X < W.heap.size
 hg:X≠C.g
 hv:v0.ownBlock≠some X
 x0:W.cell? X=some (.int .i64 K)
 x1:W.cell? ⟨X,1,none⟩=some u1
 x7:W.cell? ⟨X,7,none⟩=some vk
 kids:∀(i:Nat) (p:Nat) (t:Tr),ps[i]? =some p→l[i]? =some t→At C.ts p t∧b < C.B∧W.cell? ⟨b,o+i,none⟩=some (.int .i64 (p:Int))
 put:MayPut (zCu us dn) rs
section
variable {C:Cx} {m X b o:Nat} {us:List UInt16} {v0 v u1 vk:Value} {W w w':World} {K:Int} {l:List Tr} {ps:List Nat} {dn rs a:Tks}
theorem PF.x (F:PF C m us v0 W X b o K u1 vk l ps dn rs v w):w.cell? X=some (.int .i64 K)∧w.cell? ⟨X,1,none⟩=some u1∧w.cell? ⟨X,7,none⟩=some vk:=
 ⟨(F.pk.cell (p:=X) F.h1 F.hg F.hv).trans F.x0,(F.pk.cell (p:=⟨X,1,none⟩) F.h1 F.hg F.hv).trans F.x1,(F.pk.cell (p:=⟨X,7,none⟩) F.h1 F.hg F.hv).trans F.x7⟩
theorem PF.c (F:PF C m us v0 W X b o K u1 vk l ps dn rs v w) (i:Nat) (d:ps[i]? =some p:=by rfl) (ht:l[i]? =some t:=by rfl):w.cell? ⟨b,o+i,none⟩=some (.int .i64 (p:Int)):=by
 obtain⟨_,h1,e⟩:=F.kids i p t d ht;exact((F.p0.low F.pk).cell (p:=⟨b,o+i,none⟩) h1).trans e
theorem PF.c0 (F:PF C m us v0 W X b o K u1 vk l ps dn rs v w) (d:ps[0]? =some p:=by rfl) (ht:l[0]? =some t:=by rfl):w.cell? ⟨b,o,none⟩=some (.int .i64 (p:Int)):=F.c 0 d ht
def PFq (C:Cx) (m:Nat) (us:List UInt16) (v0:Value) (W:World) (X b o:Nat) (K:Int) (u1 vk:Value) (l:List Tr) (ps:List Nat) (dn rs:Tks) (e:Ending) (w':World):Prop:=e=.returned (.tuple #[])∧∃v',Hid (PF C m us v0 W X b o K u1 vk l ps dn rs v' w')
theorem PF.then (F:PF C m us v0 W X b o K u1 vk l ps dn (a++rs) v w) {e:Ending} (h:PutQ C (zCu us dn) v w a e w'):PFq C m us v0 W X b o K u1 vk l ps (dn++a) rs e w':=by
 obtain⟨h1,v',c,d⟩:=h;exact⟨h1,v',⟨F.N,by rw[zAC];exact c,F.p0,F.pk.trans d,F.h1,F.hg,F.hv,F.x0,F.x1,F.x7,F.kids,by rw[zAC];exact F.put.app.2⟩⟩
theorem PF.lit (F:PF C m us v0 W X b o K u1 vk l ps dn (a++rs) v w) {n:Nat} (c:a.length=n):
 Calls prog 43 #[C,.slice (some ⟨w.heap.size,0,none⟩) n n] (w.alloc (.cells (zMD a).toArray 9)) (PFq C m us v0 W X b o K u1 vk l ps (dn++a) rs):=
 (zAD F.pe a n c F.put.app.1).mono fun _ _ h=>F.then h
theorem PF.part (i:Nat) (F:PF C m us v0 W X b o K u1 vk l ps dn (ze (t.nd.kind,prT t)++rs) v w) (hs:t.size≤m) (c:ps[i]? =some p) (d:l[i]? =some t):
 Calls prog 52 #[C,p] w (PFq C m us v0 W X b o K u1 vk l ps (dn++ze (t.nd.kind,prT t)) rs):=
 (zDL F.N hs (F.kids i p t c d).1 F.pe F.put.app.1).mono fun _ _ h=>F.then h
theorem PF.pin (i:Nat) (F:PF C m us v0 W X b o K u1 vk l ps dn (inP (prT t)++rs) v w) (hs:t.size≤m) (c:ps[i]? =some p) (d:l[i]? =some t):
 Calls prog 44 #[C,p] w (PFq C m us v0 W X b o K u1 vk l ps (dn++inP (prT t)) rs):=
 (zIh F.N hs (F.kids i p t c d).1 F.pe F.put.app.1).mono fun _ _ h=>F.then h
theorem PF.node (i:Nat) (F:PF C m us v0 W X b o K u1 vk l ps dn (prT t++rs) v w) (hs:t.size≤m) (c:ps[i]? =some p) (d:l[i]? =some t):
 Calls prog 14 #[C,p] w (PFq C m us v0 W X b o K u1 vk l ps (dn++prT t) rs):=
 (F.N t p _ _ _ hs (F.kids i p t c d).1 F.pe F.put.app.1).mono fun _ _ h=>F.then h
theorem PF.fin (F:PF C m us v0 W X b o K u1 vk l ps dn [] v w') {w:World} (hb:Below w.heap.size w W) {q:Tks} (c:q=dn):PutQ C us v0 w q (.returned (.tuple #[])) w':=
 PutQ.back hb ⟨rfl,v,by rw[c];exact F.pe,F.pk⟩
end
theorem zK3 {C:Cx} {w:World} {b:Nat}:∀(l:List Tr) (o:Nat),KidsAt C w b o l→∃ps:List Nat,ps.length=l.length∧∀(i:Nat) (p:Nat) (t:Tr),ps[i]? =some p→l[i]? =some t→At C.ts p t∧b < C.B∧w.cell? ⟨b,o+i,none⟩=some (.int .i64 (p:Int)):=by
 intro l
 induction l with
 | nil=>intro o _;exact⟨[],rfl,fun i p t h=>by cases h⟩
 | cons t r e=>
  intro o h;obtain⟨p0,h1,f,g⟩:=h 0 js;obtain⟨ps,j,k⟩:=e (o+1) fun i hi=>by
   obtain⟨p,g1,g2,m⟩:=h (i+1) (by simpa using hi);exact⟨p,g1,g2,by rw[show o+1+i=o+(i+1) by omega];exact m⟩
  refine⟨p0::ps,by simp[j],fun i p u c d=>?_⟩;cases i with
  | zero=>
   obtain rfl:=Option.some.inj c;obtain rfl:=Option.some.inj d;exact⟨h1,f,g⟩
  | succ i=>
   have:=k i p u (by simpa using c) (by simpa using d);rwa[show o+1+i=o+(i+1) by omega]at this
theorem ps1 {ps:List Nat} (h:ps.length=1):∃p,ps=[p]:=by
 rcases ps with _ | ⟨p,_ | ⟨q,r⟩⟩<;>simp at h;exact⟨_,rfl⟩
theorem ps2 {ps:List Nat} (h:ps.length=2):∃p q,ps=[p,q]:=by
 rcases ps with _ | ⟨p,r⟩
 · simp at h
 · obtain⟨q,rfl⟩:=ps1 (by simpa using h);exact⟨p,q,rfl⟩
theorem ps3 {ps:List Nat} (h:ps.length=3):∃p q r,ps=[p,q,r]:=by
 rcases ps with _ | ⟨p,r⟩
 · simp at h
 · obtain⟨q,s,rfl⟩:=ps2 (by simpa using h);exact⟨p,q,s,rfl⟩
theorem PF.new {C:Cx} {m b o:Nat} {us:List UInt16} {v:Value} {w:World} {l:List Tr} {rs:Tks} (K:Int) (u1 f g j k p vk:Value) (hN:zAl C m) (hk:KidsAt C w b o l) (d:Pe C us v w) (q:MayPut us rs):
 ∃W X,w.alloc (.cells #[K,u1,f,g,j,k,p,vk] 43)=W∧w.heap.size=X∧Hid (Below w.heap.size w W)∧∃ps:List Nat,ps.length=l.length∧Hid (PF C m us v W X b o K u1 vk l ps [] rs v W):=by
 obtain⟨W,c⟩:=jx (w.alloc (.cells #[K,u1,f,g,j,k,p,vk] 43));have hb:Below w.heap.size w W:=jb c;obtain⟨ps,h1,r⟩:=zK3 l o (hk.below (hb.mono (Nat.le_of_lt d.blt)));refine⟨W,_,c,rfl,hb,ps,h1,⟨hN,d.below hb,d.below hb,Pk.refl _ _ _,by rw[←c];simp,fun e=>by have:=d.pn.lt;omega,fun e=>by have:=(d.pn.own.lt _ e).2;omega,?_,?_,?_,r,q⟩⟩
 · rw[←c,World.cell?_alloc_at _ _ _ _ rfl];rfl
 · rw[←c,World.cell?_alloc_at _ _ _ _ rfl];rfl
 · rw[←c,World.cell?_alloc_at _ _ _ _ rfl];rfl
theorem zMG {C:Cx} {w:World} {x:Nd} {l:List Tr} {s:NdSl} (h:At C.ts k (.mk x l)) (e:NdR w C.B ((Tr.mk x l).laid k) s):KidsS C w s.Ak l:=by
 intro f;have c:((Tr.mk x l).laid k).kids.length=l.length:=zBd (k+1) l;obtain⟨b,o,g,hb,j⟩:=e.kids.spotK (by rw[c];exact List.length_pos_iff.2 f);refine⟨b,o,g,fun i hi=>?_⟩;obtain⟨p,m,d,_⟩:=h.kid i hi;have h1:=j i (by rw[c];exact hi);have q:((Tr.mk x l).laid k).kids[i]'(by rw[c];exact hi)=(p:Int):=(List.getElem?_eq_some_iff.1 m).2;rw[q]at h1;exact⟨p,d,hb,h1⟩
theorem Pe.node {C:Cx} {us:List UInt16} {v:Value} {w:World} (d:Pe C us v w) (h:At C.ts k t):∃b o s,C.A=some ⟨b,o,none⟩∧k < C.n∧b < C.B∧NdC w b (o+k*8) (t.laid k) s∧NdR w C.B (t.laid k) s:=by
 have hg:=h.get;have c:k < C.n:=by have:=(List.getElem?_eq_some_iff.1 hg).1;rwa[d.nds.1]at this
 obtain⟨b,o,g,s,j,e,f,l,m⟩:=d.nds.get c;obtain rfl:t.laid k=g:=Option.some.inj (hg.symm.trans f);exact⟨b,o,s,j,c,e,l,m⟩
theorem zH5 {C:Cx} {m:Nat} {us:List UInt16} {v:Value} {w:World} {x:Nd} {l:List Tr} (hN:zAl C m) (hs:∀t∈l,t.size≤m) (h:At C.ts k (.mk x l)) (H:x.kind=5∨x.kind=6) (I:Pe C us v w) (O:l.length≤1000000) (hm:MayPut us (zBS x (prs l))):
 Calls prog 45 #[C,k] w (PutQ C us v w (zBS x (prs l))):=by
 obtain⟨b,o,s,hA,b2,b5,hC,hR⟩:=I.node h;obtain⟨r,P,Q,R,S,T,U,V⟩:=hC;have a6:=zMG h hR;have Y:((Tr.mk x l).laid k).kids.length=l.length:=zBd (k+1) l;obtain⟨L,hL⟩:=jx l.length;rw[Y,hL]at V;rw[hL]at O;obtain⟨y,hy⟩:=jx ((Tr.mk x l).laid k);have a7:y.kind=x.kind:=by rw[←hy];rfl
 rw[hy]at r P Q R S T U;rw[a7]at r;have u:=I.pn.c0;rw[hA]at u;have b3:=I.pn.lt;have b6:=I.blt;obtain⟨g,hg⟩:∃g,C.g=g:=⟨_,rfl⟩;have N:=zA I;have HN:=zA hN;have HS:=zA hs;have a8:=zA a6;have a9:=zA hL;obtain⟨z,m1,m2,e1⟩:∃z:List UInt8,MayPut us [z]∧MayPut (zCu us [z]) (zAW (·.2) (prs l))∧zBS x (prs l)=[z]++zAW (·.2) (prs l):=
  ⟨_,(hm.two rfl).1,(hm.two rfl).2,rfl⟩
 have M2:=zA m2;have d:z=(if x.kind=6 then [99,111,110,115,116]else [108,101,116]):=by
  have:zBS x (prs l)=(if x.kind=6 then [99,111,110,115,116]else [108,101,116])::zAW (·.2) (prs l):=rfl;rw[this]at e1;injection e1 with e2 e3;exact e2.symm
 have HE:=zA e1;have b0:=zA (fun(W:World) (hb:Below w.heap.size w W)=>zAD (I.below hb) [z] 1 rfl m1);rw[hg]at u b3;obtain⟨n,hn⟩:∃n,C.n=n:=⟨_,rfl⟩;rw[hn]at u b2;have M:=zA hg;clear hm m1 m2 e1 I hN hs h hR hA hy a7 Y hL a6 hn;rcases H with H | H
 · rw[H]at r d;have q:z=[108,101,116]:=d;clear d;subst q;rw[hg];clear H hg;go_enter func45,ntmps45;go_upto_region 1 with(fail);obtain⟨W,j⟩:=jx (w.alloc (.cells #[(5:Int),y.name,.slice s.As y.str.length s.cs,y.nk,y.nn,y.neg,.slice s.Am y.mag.length s.cm,.slice s.Ak L s.ck] 43));rw[j];have c:Below w.heap.size w W:=jb j;have A:w.heap.size < W.heap.size:=by rw[←j];simp
   have x0:W.cell? w.heap.size=some (.int .i64 5):=jc j;have x7:W.cell? ⟨w.heap.size,7,none⟩=some (.slice s.Ak L s.ck):=jc j;have B:w.heap.size≠C.g:=fun e=>by have:=N.out.pn.lt;omega
   have D:v.ownBlock≠some w.heap.size:=fun e=>by have:=(N.out.pn.own.lt _ e).2;omega
   have a0:=zA (N.out.below c);have a1:=zA c;have C1:=zA (b0.out W c);have a2:=zA (a8.out.below (c.mono jo));obtain⟨X,J⟩:=jx w.heap.size;rw[J]at x0 x7 A B D;rw[J];clear j c J r P Q R S T U V u;rw[M.out]at C1;go_wp2_with fail;refine C1.out.mono ?_;rintro e1 w1 ⟨rfl,v1,E,f⟩;have b4:=(f.cell (p:=⟨X,7,none⟩) A B D).trans x7;have C2:=zA (zEQ (ck:=s.ck) HN HS (a2.out.below (a0.out.low f)) E a9 O M2);rw[M.out]at C2;have a3:=zA f;clear E f x7 x0;go_wp2_with fail;refine C2.out.mono ?_;rintro e2 w2 ⟨rfl,v2,F,G⟩;have a4:=zA F;have a5:=zA (a3.out.trans G);clear F G;go_wp2_with fail;refine jr ?_;refine PutQ.back a1 ⟨rfl,v2,?_,a5⟩;rw[HE.out,zAC];exact a4.out
 · rw[H]at r d;have q:z=[99,111,110,115,116]:=d;clear d;subst q;rw[hg];clear H hg;go_enter func45,ntmps45;go_upto_region 1 with(fail);obtain⟨W,j⟩:=jx (w.alloc (.cells #[(6:Int),y.name,.slice s.As y.str.length s.cs,y.nk,y.nn,y.neg,.slice s.Am y.mag.length s.cm,.slice s.Ak L s.ck] 43));rw[j];have c:Below w.heap.size w W:=jb j;have A:w.heap.size < W.heap.size:=by rw[←j];simp
   have x0:W.cell? w.heap.size=some (.int .i64 6):=jc j;have x7:W.cell? ⟨w.heap.size,7,none⟩=some (.slice s.Ak L s.ck):=jc j;have B:w.heap.size≠C.g:=fun e=>by have:=N.out.pn.lt;omega
   have D:v.ownBlock≠some w.heap.size:=fun e=>by have:=(N.out.pn.own.lt _ e).2;omega
   have a0:=zA (N.out.below c);have a1:=zA c;have C1:=zA (b0.out W c);have a2:=zA (a8.out.below (c.mono jo));obtain⟨X,J⟩:=jx w.heap.size;rw[J]at x0 x7 A B D;rw[J];clear j c J r P Q R S T U V u;rw[M.out]at C1;go_wp2_with fail;refine C1.out.mono ?_;rintro e1 w1 ⟨rfl,v1,E,f⟩;have b4:=(f.cell (p:=⟨X,7,none⟩) A B D).trans x7;have C2:=zA (zEQ (ck:=s.ck) HN HS (a2.out.below (a0.out.low f)) E a9 O M2);rw[M.out]at C2;have a3:=zA f;clear E f x7 x0;go_wp2_with fail;refine C2.out.mono ?_;rintro e2 w2 ⟨rfl,v2,F,G⟩;have a4:=zA F;have a5:=zA (a3.out.trans G);clear F G;go_wp2_with fail;refine jr ?_;refine PutQ.back a1 ⟨rfl,v2,?_,a5⟩;rw[HE.out,zAC];exact a4.out
theorem zWa {x:Nd} {l:List Tr} (h:x.kind=5∨x.kind=6):prT (.mk x l)=zBS x (prs l)++[[59]]:=by
 rw[zAR];unfold zAn zj;rw[if_pos jo,jn,jn,jn,jn,if_pos h]
theorem zEw {C:Cx} {m:Nat} {us:List UInt16} {v:Value} {w:World} (hN:zAl C m) (o:t.size≤m) (F:m≤1000000) (f:At C.ts k t) (d:Pe C us v w) (b:MayPut us (zn (t.nd.kind,prT t))):
 Calls prog 83 #[C,k] w (PutQ C us v w (zn (t.nd.kind,prT t))):=by
 obtain⟨K,j⟩:=jx t.nd.kind;have p:=zA (zDK d f.get);rw[zBa,j]at p;rw[j]at b⊢
 by_cases h:K=5∨K=6
 · obtain⟨x,l⟩:=t;have s:x.kind=K:=j;have h1:x.kind=5∨x.kind=6:=by rw[s];exact h
   have e:zn (K,prT (.mk x l))=zBS x (prs l):=by
    unfold zn;rw[if_pos h];show(prT (.mk x l)).dropLast=_;rw[zWa h1,List.dropLast_concat]
   rw[e]at b⊢;have q:∀t∈l,t.size≤m:=by
    intro t u;rw[zi]at o;have:t.size≤sizes l:=by
     clear o hN f d b p j s h1 e h
     induction l with
     | nil=>cases u
     | cons a r B=>
      rw[zH];rcases List.mem_cons.1 u with rfl | D
      · omega
      · have:=B D;omega
    omega
   have y:l.length≤1000000:=by
    rw[zi]at o;have:l.length≤sizes l:=by
     clear o hN f d b p j s h1 e h q
     induction l with
     | nil=>exact yAE _
     | cons a r B=>rw[zH];have:=zBO a;simp only[List.length_cons];omega
    omega
   have z:=zA (zH5 hN q f h1 d y b);clear b hN f s h1 e q y o j d;rcases h with rfl | rfl
   all_goals
    go_enter func83,ntmps83;go_wp2_with (go_at_call 84;refine p.out.mono ?_;rintro e1 w1 ⟨rfl,rfl⟩);refine z.out.mono ?_;rintro e1 w1 ⟨rfl,A⟩;go_wp2_with fail;exact jr (⟨rfl,A⟩)
 · have e5:(K==5)=false:=yA.2 jo;have e6:(K==6)=false:=yA.2 jo
   by_cases c:K=11
   · have e:zn (K,prT t)=[]:=by unfold zn;rw[if_neg h,if_pos c]
     rw[e];have E:=zA d;subst c;clear b hN f d e h j;go_enter func83,ntmps83;go_wp2_with (go_at_call 84;refine p.out.mono ?_;rintro e1 w1 ⟨rfl,rfl⟩);exact jr (PutQ.nil E)
   · have e:zn (K,prT t)=inP (prT t):=by unfold zn;rw[if_neg h,if_neg c]
     rw[e]at b⊢;have z:=zA (zIh hN o f d b);have G:(K !=11)=true:=bne_iff_ne.2 c;have H:(K==11)=false:=yA.2 c;clear b hN f d e h j c;go_enter func83,ntmps83;go_wp2_with (go_at_call 84;refine p.out.mono ?_;rintro e1 w1 ⟨rfl,rfl⟩);refine z.out.mono ?_;rintro e1 w1 ⟨rfl,A⟩;go_wp2_with fail;exact jr (⟨rfl,A⟩)
theorem KidsAt.init {C:Cx} {w:World} {b o:Nat} {l r:List Tr} (h:KidsAt C w b o (l++r)):KidsAt C w b o l:=fun i hi=>by
 have h1:=h i (by rw[List.length_append];omega);rw[List.getElem_append_left hi]at h1;exact h1
theorem KidsAt.last {C:Cx} {w:World} {b o:Nat} {l:List Tr} (h:KidsAt C w b o (l++[z])):∃p:Nat,At C.ts p z∧b < C.B∧w.cell? ⟨b,o+l.length,none⟩=some (.int .i64 (p:Int)):=by
 have h1:=h l.length (by rw[List.length_append];simp);rw[List.getElem_append_right (yAC _)]at h1;simp only[Nat.sub_self,List.getElem_singleton]at h1;exact h1
theorem KidsAt.tail {C:Cx} {w:World} {b o:Nat} {r:List Tr} (h:KidsAt C w b o (z::r)):KidsAt C w b (o+1) r:=fun i hi=>by
 obtain⟨p,h1,c,d⟩:=h (i+1) (by simp;omega);refine⟨p,h1,c,?_⟩;rw[show o+1+i=o+(i+1) by omega];exact d
theorem KidsAt.s {C:Cx} {w:World} {b o:Nat} {l:List Tr} (h:KidsAt C w b o l):KidsS C w (some ⟨b,o,none⟩) l:=fun _=>⟨b,o,rfl,h⟩
theorem zJ2 {C:Cx} {m n:Nat} {us:List UInt16} {v:Value} {w:World} (kk:Int) (nm:List UInt8) (vs vm:Value) (nk nn:Int) (ng:Bool) {l:List Tr} (hN:zAl C m) (hs:∀t∈l,t.size≤m) (s0:a0.size≤m) (hl:l.length=n) (c4:n+1≤1000000) (b5:n+1≤ck) (hk:KidsS C w Ak (l++[a0])) (D:Pe C us v w) (hm:MayPut us ([[102,117,110,99,116,105,111,110]]++((zAs nm)++((zt (prs l))++(prT a0))))):
 Calls prog 53 #[C,.agg #[kk,nm,vs,nk,nn,ng,vm,.slice Ak (n+1) ck]] w (PutQ C us v w ([[102,117,110,99,116,105,111,110]]++((zAs nm)++((zt (prs l))++(prT a0))))):=by
 obtain⟨b,o,rfl,H⟩:=hk js;obtain⟨W,E⟩:=jx (w.alloc (.cells #[kk,nm,vs,nk,nn,ng,vm,.slice (some ⟨b,o,none⟩) (n+1) ck] 43));have u:Below w.heap.size w W:=jb E;have d:w.heap.size < W.heap.size:=by rw[←E];simp
 have f:w.heap.size≠C.g:=fun e=>by have:=D.pn.lt;omega
 have j:v.ownBlock≠some w.heap.size:=fun e=>by have:=(D.pn.own.lt _ e).2;omega
 have x1:W.cell? ⟨w.heap.size,1,none⟩=some (.string ⟨nm.toArray⟩):=jc E;have x7:W.cell? ⟨w.heap.size,7,none⟩=some (.slice (some ⟨b,o,none⟩) (n+1) ck):=jc E;have F:=H.below (u.mono (Nat.le_of_lt D.blt));obtain⟨p0,I,y,q⟩:=F.last;rw[hl]at q;have a2:=zA I;have a3:=zA F.init;have HS:=zA hs;have a4:=zA hl;have b0:n≤ck:=by omega
 have k:=zA (D.below u);have a5:=zA u;have HN:=zA hN;obtain⟨J,L⟩:=hm.two (b:=[[102,117,110,99,116,105,111,110]]) (c:=(zAs nm)++((zt (prs l))++(prT a0))) rfl;have M1:=zA J;obtain⟨M,N⟩:=L.two (b:=zAs nm) (c:=(zt (prs l))++(prT a0)) rfl;have M2:=zA M;obtain⟨O,P⟩:=N.two (b:=zt (prs l)) (c:=prT a0) rfl;have M3:=zA O;have M4:=zA P;obtain⟨X,G⟩:=jx w.heap.size;go_enter func53,ntmps53;go_upto_region 1 with(fail);clear hm D u hN H F I hs hl J L M N O P;clear E;rw[G]at x1;rw[G]at x7;rw[G]at d f j;clear G;have C1:=zA (zAD k [[102,117,110,99,116,105,111,110]] 1 rfl M1);go_wp2_with fail;refine C1.out.mono ?_;rintro e1 w1 ⟨rfl,v1,Q,R⟩;have a6:=zA Q;have z:=zA (R);have b1:=((k.out.low z).cell (p:=⟨b,o+n,none⟩) y).trans q;have b6:=(z.out.cell (p:=⟨X,1,none⟩) d f j).trans x1;have b7:=(z.out.cell (p:=⟨X,7,none⟩) d f j).trans x7;clear Q R;have C2:=zA (zH4 a6 M2);go_wp2_with fail;refine C2.out.mono ?_;rintro e2 w2 ⟨rfl,v2,S,T⟩;have a7:=zA S;have r:=zA (z.out.trans T);have b2:=((k.out.low r).cell (p:=⟨b,o+n,none⟩) y).trans q;have b8:=(r.out.cell (p:=⟨X,1,none⟩) d f j).trans x1;have b9:=(r.out.cell (p:=⟨X,7,none⟩) d f j).trans x7;clear S T;have C3:=zA (zEv (ck:=ck) HN HS (a3.out.below (k.out.low r)).s a7 a4 jo M3);go_wp2_with fail;refine C3.out.mono ?_;rintro e3 w3 ⟨rfl,v3,U,V⟩;have a8:=zA U;have A:=zA (r.out.trans V);have b3:=((k.out.low A).cell (p:=⟨b,o+n,none⟩) y).trans q;have c0:=(A.out.cell (p:=⟨X,1,none⟩) d f j).trans x1;have c1:=(A.out.cell (p:=⟨X,7,none⟩) d f j).trans x7;clear U V;have C4:=zA (HN.out a0 p0 _ v3 w3 s0 a2 a8 M4);go_wp2_with fail;refine C4.out.mono ?_;rintro e4 w4 ⟨rfl,v4,Y,a1⟩;have a9:=zA Y;have B:=zA (A.out.trans a1);have b4:=((k.out.low B).cell (p:=⟨b,o+n,none⟩) y).trans q;have c2:=(B.out.cell (p:=⟨X,1,none⟩) d f j).trans x1;have c3:=(B.out.cell (p:=⟨X,7,none⟩) d f j).trans x7;clear Y a1;go_wp2_with fail;refine jr ?_;refine PutQ.back a5 ⟨rfl,v4,?_,B⟩;have:=a9.out;simp only[←zAC,List.append_assoc]at this;exact this
theorem zJ3 {C:Cx} {m n:Nat} {us:List UInt16} {v:Value} {w:World} (kk:Int) (nm:List UInt8) (vs Y:Value) (nk nn:Int) (ng:Bool) {l:List Tr} (hN:zAl C m) (hs:∀t∈l,t.size≤m) (s0:a0.size≤m) (V:l.length=n) (b8:n+1≤1000000) (b1:n+1≤ck) (hk:KidsS C w Ak (l++[a0])) (A:Pe C us v w) (hK:a0.nd.kind=4) (hm:MayPut us ((zt (prs l))++([[61,62]]++(prT a0)))):
 Calls prog 54 #[C,.agg #[kk,nm,vs,nk,nn,ng,Y,.slice Ak (n+1) ck]] w (PutQ C us v w ((zt (prs l))++([[61,62]]++(prT a0)))):=by
 obtain⟨b,o,rfl,G⟩:=hk js;obtain⟨W,B⟩:=jx (w.alloc (.cells #[kk,nm,vs,nk,nn,ng,Y,.slice (some ⟨b,o,none⟩) (n+1) ck] 43));have k:Below w.heap.size w W:=jb B;have d:w.heap.size < W.heap.size:=by rw[←B];simp
 have f:w.heap.size≠C.g:=fun e=>by have:=A.pn.lt;omega
 have j:v.ownBlock≠some w.heap.size:=fun e=>by have:=(A.pn.own.lt _ e).2;omega
 have x1:W.cell? ⟨w.heap.size,1,none⟩=some (.string ⟨nm.toArray⟩):=jc B;have x7:W.cell? ⟨w.heap.size,7,none⟩=some (.slice (some ⟨b,o,none⟩) (n+1) ck):=jc B;have D:=G.below (k.mono (Nat.le_of_lt A.blt));obtain⟨p0,H,E,q⟩:=D.last;rw[V]at q;have I:=zA H;have a1:=zA D.init;have HS:=zA hs;have a2:=zA V;have a7:n≤ck:=by omega
 have r:=zA (A.below k);have a3:=zA k;have HN:=zA hN;obtain⟨J,L⟩:=hm.two (b:=zt (prs l)) (c:=[[61,62]]++(prT a0)) rfl;have M1:=zA J;obtain⟨M,N⟩:=L.two (b:=[[61,62]]) (c:=prT a0) rfl;have M2:=zA M;have M3:=zA N;have a4:=zA hK;obtain⟨X,F⟩:=jx w.heap.size;go_enter func54,ntmps54;go_upto_region 1 with(fail);clear hK hm A k hN G D H hs V J L M N;clear B;rw[F]at x1;rw[F]at x7;rw[F]at d f j;clear F;have C1:=zA (zEv (ck:=ck) HN HS a1.out.s r a2 jo M1);go_wp2_with fail;refine C1.out.mono ?_;rintro e1 w1 ⟨rfl,v1,O,P⟩;have a5:=zA O;have u:=zA (P);have a8:=((r.out.low u).cell (p:=⟨b,o+n,none⟩) E).trans q;have b2:=(u.out.cell (p:=⟨X,1,none⟩) d f j).trans x1;have b3:=(u.out.cell (p:=⟨X,7,none⟩) d f j).trans x7;clear O P;have C2:=zA (zAD a5 [[61,62]] 1 rfl M2);go_wp2_with fail;refine C2.out.mono ?_;rintro e2 w2 ⟨rfl,v2,Q,R⟩;have S:=zA Q;have y:=zA (u.out.trans R);have a9:=((r.out.low y).cell (p:=⟨b,o+n,none⟩) E).trans q;have b4:=(y.out.cell (p:=⟨X,1,none⟩) d f j).trans x1;have b5:=(y.out.cell (p:=⟨X,7,none⟩) d f j).trans x7;clear Q R;have CK:=zA (show Calls prog 84 #[C,p0] w2 fun e w'=>e=.returned (4:Int)∧w2=w' from by have:=zDK S I.out.get;rwa[zBa,a4.out]at this);go_wp2_with fail;refine CK.out.mono ?_;rintro ek wk ⟨rfl,rfl⟩;have C3:=zA (HN.out a0 p0 _ v2 w2 s0 I S M3);go_wp2_with fail;refine C3.out.mono ?_;rintro e3 w3 ⟨rfl,v3,T,U⟩;have a6:=zA T;have z:=zA (y.out.trans U);have b0:=((r.out.low z).cell (p:=⟨b,o+n,none⟩) E).trans q;have b6:=(z.out.cell (p:=⟨X,1,none⟩) d f j).trans x1;have b7:=(z.out.cell (p:=⟨X,7,none⟩) d f j).trans x7;clear T U;go_wp2_with fail;refine jr ?_;refine PutQ.back a3 ⟨rfl,v3,?_,z⟩;have:=a6.out;simp only[←zAC,List.append_assoc]at this;exact this
theorem zQW {C:Cx} {m n:Nat} {us:List UInt16} {v:Value} {w:World} (kk:Int) (nm:List UInt8) (vs vm:Value) (nk nn:Int) (ng:Bool) {l:List Tr} (hN:zAl C m) (hs:∀t∈l,t.size≤m) (s0:a0.size≤m) (hl:l.length=n) (b8:n+1≤1000000) (b1:n+1≤ck) (hk:KidsS C w Ak (l++[a0])) (A:Pe C us v w) {F:Int} (hK:a0.nd.kind=F) (H:F≠4) (hm:MayPut us ((zt (prs l))++([[61,62]]++(inP (prT a0))))):
 Calls prog 54 #[C,.agg #[kk,nm,vs,nk,nn,ng,vm,.slice Ak (n+1) ck]] w (PutQ C us v w ((zt (prs l))++([[61,62]]++(inP (prT a0))))):=by
 obtain⟨b,o,rfl,I⟩:=hk js;obtain⟨W,B⟩:=jx (w.alloc (.cells #[kk,nm,vs,nk,nn,ng,vm,.slice (some ⟨b,o,none⟩) (n+1) ck] 43));have k:Below w.heap.size w W:=jb B;have d:w.heap.size < W.heap.size:=by rw[←B];simp
 have f:w.heap.size≠C.g:=fun e=>by have:=A.pn.lt;omega
 have j:v.ownBlock≠some w.heap.size:=fun e=>by have:=(A.pn.own.lt _ e).2;omega
 have x1:W.cell? ⟨w.heap.size,1,none⟩=some (.string ⟨nm.toArray⟩):=jc B;have x7:W.cell? ⟨w.heap.size,7,none⟩=some (.slice (some ⟨b,o,none⟩) (n+1) ck):=jc B;have D:=I.below (k.mono (Nat.le_of_lt A.blt));obtain⟨p0,J,E,q⟩:=D.last;rw[hl]at q;have L:=zA J;have a1:=zA D.init;have HS:=zA hs;have a2:=zA hl;have a7:n≤ck:=by omega
 have r:=zA (A.below k);have a3:=zA k;have HN:=zA hN;obtain⟨M,N⟩:=hm.two (b:=zt (prs l)) (c:=[[61,62]]++(inP (prT a0))) rfl;have M1:=zA M;obtain⟨O,P⟩:=N.two (b:=[[61,62]]) (c:=inP (prT a0)) rfl;have M2:=zA O;have M3:=zA P;have a4:=zA hK;have e4:(F==4)=false:=yA.2 H;obtain⟨X,G⟩:=jx w.heap.size;go_enter func54,ntmps54;go_upto_region 1 with(fail);clear hK H hm A k hN I D J hs hl M N O P;clear B;rw[G]at x1;rw[G]at x7;rw[G]at d f j;clear G;have C1:=zA (zEv (ck:=ck) HN HS a1.out.s r a2 jo M1);go_wp2_with fail;refine C1.out.mono ?_;rintro e1 w1 ⟨rfl,v1,Q,R⟩;have a5:=zA Q;have u:=zA (R);have a8:=((r.out.low u).cell (p:=⟨b,o+n,none⟩) E).trans q;have b2:=(u.out.cell (p:=⟨X,1,none⟩) d f j).trans x1;have b3:=(u.out.cell (p:=⟨X,7,none⟩) d f j).trans x7;clear Q R;have C2:=zA (zAD a5 [[61,62]] 1 rfl M2);go_wp2_with fail;refine C2.out.mono ?_;rintro e2 w2 ⟨rfl,v2,S,T⟩;have U:=zA S;have y:=zA (u.out.trans T);have a9:=((r.out.low y).cell (p:=⟨b,o+n,none⟩) E).trans q;have b4:=(y.out.cell (p:=⟨X,1,none⟩) d f j).trans x1;have b5:=(y.out.cell (p:=⟨X,7,none⟩) d f j).trans x7;clear S T;have CK:=zA (show Calls prog 84 #[C,p0] w2 fun e w'=>e=.returned F∧w2=w' from by have:=zDK U L.out.get;rwa[zBa,a4.out]at this);go_wp2_with fail;refine CK.out.mono ?_;rintro ek wk ⟨rfl,rfl⟩;have C3:=zA (zIh HN s0 L U M3);go_wp2_with fail;refine C3.out.mono ?_;rintro e3 w3 ⟨rfl,v3,V,Y⟩;have a6:=zA V;have z:=zA (y.out.trans Y);have b0:=((r.out.low z).cell (p:=⟨b,o+n,none⟩) E).trans q;have b6:=(z.out.cell (p:=⟨X,1,none⟩) d f j).trans x1;have b7:=(z.out.cell (p:=⟨X,7,none⟩) d f j).trans x7;clear V Y;go_wp2_with fail;refine jr ?_;refine PutQ.back a3 ⟨rfl,v3,?_,z⟩;have:=a6.out;simp only[←zAC,List.append_assoc]at this;exact this
theorem zNU {C:Cx} {m n:Nat} {us:List UInt16} {v:Value} {w:World} {l:List Tr} (hN:zAl C m) (hs:∀t∈l,t.size≤m) (s0:a0.size≤m) (L:l.length=n) (a3:n+1≤1000000) (W:n+1≤ck) (e:ck≠1) (hk:KidsS C w Ak (a0::l)) (M:Pe C us v w) (N:MayPut us (ze (a0.nd.kind,prT a0)++([[40]]++(zAW ze (prs l)++[[41]])))):
 Calls prog 92 #[C,.slice Ak (n+1) ck] w (PutQ C us v w (ze (a0.nd.kind,prT a0)++([[40]]++(zAW ze (prs l)++[[41]])))):=by
 obtain⟨b,o,rfl,d⟩:=hk js;obtain⟨p0,f,a4,j⟩:=d 0 js;have c0:w.cell? ⟨b,o,none⟩=some (.int .i64 (p0:Int)):=j;have O:=zA f;have P:=zA d.tail;have X:=zA hs;have Q:=zA L;have k:=zA M;have R:=zA hN;have Y:1≤ck:=by omega
 have a1:(1:Int)≤(ck:Int):=by omega
 have a2:¬ck=1:=e;clear e;obtain⟨p,q⟩:=N.two (b:=ze (a0.nd.kind,prT a0)) (c:=[[40]]++(zAW ze (prs l)++[[41]])) rfl;obtain⟨r,u⟩:=q.two (b:=[[40]]) (c:=zAW ze (prs l)++[[41]]) rfl;obtain⟨y,z⟩:=u.app;have M1:=zA p;have M2:=zA r;have M3:=zA y;have M4:=zA z;clear N M hN d f j hs L p q r u y z;go_enter func92,ntmps92;have C1:=zA (zDL R s0 O k M1);go_wp2_with fail;refine C1.out.mono ?_;rintro e1 w1 ⟨rfl,v1,A,B⟩;have C2:=zA (zAD A [[40]] 1 rfl M2);have S:=zA B;clear A B;go_wp2_with fail;refine C2.out.mono ?_;rintro e2 w2 ⟨rfl,v2,D,E⟩;have F:=zA (S.out.trans E);have C3:=zA (zFr (ck:=ck - 1) R X (P.out.below (k.out.low F)).s D Q jo M3);clear D E;go_wp2_with fail;refine C3.out.mono ?_;rintro e3 w3 ⟨rfl,v3,G,H⟩;have C4:=zA (zAD G [[41]] 1 rfl M4);have T:=zA (F.out.trans H);clear G H;go_wp2_with fail;refine C4.out.mono ?_;rintro e4 w4 ⟨rfl,v4,I,J⟩;have U:=zA I;have V:=zA (T.out.trans J);clear I J;go_wp2_with fail;refine jr ?_;refine⟨rfl,v4,?_,V⟩;have:=U.out;simp only[←zAC,List.append_assoc]at this;exact this
theorem zQX {C:Cx} {m n:Nat} {us:List UInt16} {v:Value} {w:World} {l:List Tr} (hN:zAl C m) (hs:∀t∈l,t.size≤m) (s0:a0.size≤m) (H:l.length=n) (a3:n+1≤1000000) (X:n+1≤ck) (I:ck=1) (hk:KidsS C w Ak (a0::l)) (J:Pe C us v w) (L:MayPut us (ze (a0.nd.kind,prT a0)++([[40]]++(zAW ze (prs l)++[[41]])))):
 Calls prog 92 #[C,.slice Ak (n+1) ck] w (PutQ C us v w (ze (a0.nd.kind,prT a0)++([[40]]++(zAW ze (prs l)++[[41]])))):=by
 obtain⟨b,o,rfl,d⟩:=hk js;obtain⟨p0,e,a4,f⟩:=d 0 js;have c0:w.cell? ⟨b,o,none⟩=some (.int .i64 (p0:Int)):=f;have M:=zA e;have a5:=zA d.tail;have Y:=zA hs;have N:=zA H;have O:=zA J;have P:=zA hN;have a1:1≤ck:=by omega
 have a2:(1:Int)≤(ck:Int):=by omega
 obtain rfl:=I;have Q:n=0:=by omega
 have j:l=[]:=List.length_eq_zero_iff.1 jo;have R:=zA j;subst Q;clear j;obtain⟨k,p⟩:=L.two (b:=ze (a0.nd.kind,prT a0)) (c:=[[40]]++(zAW ze (prs l)++[[41]])) rfl;obtain⟨q,r⟩:=p.two (b:=[[40]]) (c:=zAW ze (prs l)++[[41]]) rfl;obtain⟨s,u⟩:=r.app;have M1:=zA k;have M2:=zA q;have M3:=zA s;have M4:=zA u;clear L J hN d e f hs H k p q r s u;go_enter func92,ntmps92;have C1:=zA (zDL P s0 M O M1);go_wp2_with fail;refine C1.out.mono ?_;rintro e1 w1 ⟨rfl,v1,y,z⟩;have C2:=zA (zAD y [[40]] 1 rfl M2);have S:=zA z;clear y z;go_wp2_with fail;refine C2.out.mono ?_;rintro e2 w2 ⟨rfl,v2,A,B⟩;have T:=zA (S.out.trans B);have C3:=zA (zFr (Al:=some ⟨b,o,none⟩) (ck:=0) P Y (fun h=>absurd R h) A N jo M3);clear A B;go_wp2_with fail;refine C3.out.mono ?_;rintro e3 w3 ⟨rfl,v3,D,E⟩;have C4:=zA (zAD D [[41]] 1 rfl M4);have U:=zA (T.out.trans E);clear D E;go_wp2_with fail;refine C4.out.mono ?_;rintro e4 w4 ⟨rfl,v4,F,G⟩;have V:=zA F;have W:=zA (U.out.trans G);clear F G;go_wp2_with fail;refine jr ?_;refine⟨rfl,v4,?_,W⟩;have:=V.out;simp only[←zAC,List.append_assoc]at this;exact this
theorem zJ4 {C:Cx} {m n:Nat} {us:List UInt16} {v:Value} {w:World} {l:List Tr} (hN:zAl C m) (hs:∀t∈l,t.size≤m) (s0:a0.size≤m) (f:l.length=n) (c:n+1≤1000000) (b:n+1≤ck) (hk:KidsS C w Ak (a0::l)) (j:Pe C us v w) (d:MayPut us (zEl (prs (a0::l)))):
 Calls prog 92 #[C,.slice Ak (n+1) ck] w (PutQ C us v w (zEl (prs (a0::l)))):=by
 have e:zEl (prs (a0::l))=ze (a0.nd.kind,prT a0)++([[40]]++(zAW ze (prs l)++[[41]])):=by rw[zI];rfl
 rw[e]at d⊢
 by_cases h:ck=1
 · exact zQX hN hs s0 f c b h hk j d
 · exact zNU hN hs s0 f c b h hk j d
theorem zIi {C:Cx} {K:Int} (e:K∈([8,9,10,16,17,19]:List Int)) {us:List UInt16} {v:Value} {w:World} {b:Tks} (f:ByteArray) (vs j vk:Value) (nk nn:Int) (k:Bool) (l:∀W,Below w.heap.size w W→Calls prog 47 #[C,.agg #[K,.string f,vs,nk,nn,k,j,vk]] W (PutQ C us v W b)):
 Calls prog 28 #[C,k0,.agg #[K,.string f,vs,nk,nn,k,j,vk]] w (PutQ C us v w b):=by
 simp only[List.mem_cons,List.not_mem_nil,or_false]at e;have p:=zA l;clear l;rcases e with rfl | rfl | rfl | rfl | rfl | rfl
 all_goals
  go_enter func28,ntmps28;go_wp2_with fail;refine(p.out _ (ja)).mono ?_;rintro e1 w1 ⟨rfl,v1,c,d⟩;have m:=zA c;have o:=zA d;clear c d;go_wp2_with fail;exact jr (PutQ.back (ja) ⟨rfl,v1,m,o⟩)
theorem zTf {C:Cx} {us:List UInt16} {v:Value} {w:World} {b:Tks} (e:ByteArray) (vs f vk:Value) (nk nn:Int) (j:Bool) (k:∀W,Below w.heap.size w W→Calls prog 53 #[C,.agg #[(19:Int),.string e,vs,nk,nn,j,f,vk]] W (PutQ C us v W b)):
 Calls prog 47 #[C,.agg #[(19:Int),.string e,vs,nk,nn,j,f,vk]] w (PutQ C us v w b):=by
 have o:=zA k;clear k;go_enter func47,ntmps47;go_wp2_with fail;refine(o.out _ (ja)).mono ?_;rintro e1 w1 ⟨rfl,v1,c,d⟩;have l:=zA c;have m:=zA d;clear c d;go_wp2_with fail;exact jr (PutQ.back (ja) ⟨rfl,v1,l,m⟩)
theorem zTg {C:Cx} {us:List UInt16} {v:Value} {w:World} {b:Tks} (e:ByteArray) (vs f vk:Value) (nk nn:Int) (j:Bool) (k:∀W,Below w.heap.size w W→Calls prog 53 #[C,.agg #[(41:Int),.string e,vs,nk,nn,j,f,vk]] W (PutQ C us v W b)):
 Calls prog 29 #[C,.agg #[(41:Int),.string e,vs,nk,nn,j,f,vk]] w (PutQ C us v w b):=by
 have o:=zA k;clear k;go_enter func29,ntmps29;go_wp2_with fail;refine(o.out _ (ja)).mono ?_;rintro e1 w1 ⟨rfl,v1,c,d⟩;have l:=zA c;have m:=zA d;clear c d;go_wp2_with fail;exact jr (PutQ.back (ja) ⟨rfl,v1,l,m⟩)
theorem zMH {C:Cx} {us:List UInt16} {v:Value} {w:World} {b:Tks} (e:ByteArray) (vs f vk:Value) (nk nn:Int) (j:Bool) (k:∀W,Below w.heap.size w W→Calls prog 54 #[C,.agg #[(42:Int),.string e,vs,nk,nn,j,f,vk]] W (PutQ C us v W b)):
 Calls prog 29 #[C,.agg #[(42:Int),.string e,vs,nk,nn,j,f,vk]] w (PutQ C us v w b):=by
 have o:=zA k;clear k;go_enter func29,ntmps29;go_wp2_with fail;refine(o.out _ (ja)).mono ?_;rintro e1 w1 ⟨rfl,v1,c,d⟩;have l:=zA c;have m:=zA d;clear c d;go_wp2_with fail;exact jr (PutQ.back (ja) ⟨rfl,v1,l,m⟩)
theorem zHA {C:Cx} {K:Int} (e:K∈([43,44,45,46,47,48,49,50,51,52,53]:List Int)) {us:List UInt16} {v:Value} {w:World} {b:Tks} (f:ByteArray) (vs j vk:Value) (nk nn:Int) (k:Bool) (l:∀W,Below w.heap.size w W→Calls prog 55 #[C,.agg #[K,.string f,vs,nk,nn,k,j,vk]] W (PutQ C us v W b)):
 Calls prog 29 #[C,.agg #[K,.string f,vs,nk,nn,k,j,vk]] w (PutQ C us v w b):=by
 simp only[List.mem_cons,List.not_mem_nil,or_false]at e;have p:=zA l;clear l;rcases e with rfl | rfl | rfl | rfl | rfl | rfl | rfl | rfl | rfl | rfl | rfl
 all_goals
  go_enter func29,ntmps29;go_wp2_with fail;refine(p.out _ (ja)).mono ?_;rintro e1 w1 ⟨rfl,v1,c,d⟩;have m:=zA c;have o:=zA d;clear c d;go_wp2_with fail;exact jr (PutQ.back (ja) ⟨rfl,v1,m,o⟩)
theorem zWb {C:Cx} {us:List UInt16} {v:Value} {w:World} {b:ByteArray} (h:⟨nm.toArray⟩=b) (c:Pe C us v w) (d:MayPut us [[40],nm,[41]]):
 Calls prog 43 #[C,.slice (some ⟨w.heap.size,0,none⟩) 3 3] (w.alloc (.cells #[.string ⟨#[40]⟩,.string b,.string ⟨#[41]⟩] 9)) (PutQ C us v w [[40],nm,[41]]):=by
 subst h;exact zAD c [[40],nm,[41]] 3 rfl d
theorem zQY {C:Cx} {m:Nat} {us:List UInt16} {v:Value} {w:World} (vs S:Value) (nk nn:Int) (T:Bool) {k:ByteArray} (hN:zAl C m) (s0:a0.size≤m) (hk:KidsS C w Ak [a0]) (u:Pe C us v w) (y:⟨nm.toArray⟩=k) (B:nm≠[]) (U:MayPut us ([[99,97,116,99,104]]++([[40],nm,[41]]++(prT a0)))):
 Calls prog 47 #[C,.agg #[(17:Int),.string k,vs,nk,nn,T,S,.slice Ak 1 ck]] w (PutQ C us v w ([[99,97,116,99,104]]++([[40],nm,[41]]++(prT a0)))):=by
 obtain⟨b,o,rfl,D⟩:=hk js;obtain⟨W,t⟩:=jx (w.alloc (.cells #[(17:Int),.string k,vs,nk,nn,T,S,.slice (some ⟨b,o,none⟩) 1 ck] 43));have r:Below w.heap.size w W:=jb t;have d:w.heap.size < W.heap.size:=by rw[←t];simp
 have f:w.heap.size≠C.g:=fun e=>by have:=u.pn.lt;omega
 have j:v.ownBlock≠some w.heap.size:=fun e=>by have:=(u.pn.own.lt _ e).2;omega
 have x0:W.cell? w.heap.size=some (.int .i64 17):=jc t;have x7:W.cell? ⟨w.heap.size,7,none⟩=some (.slice (some ⟨b,o,none⟩) 1 ck):=jc t;have x1:W.cell? ⟨w.heap.size,1,none⟩=some (.string k):=jc t;obtain⟨p0,E,F,G⟩:=(D.below (r.mono (Nat.le_of_lt u.blt))) 0 js;have c0:W.cell? ⟨b,o,none⟩=some (.int .i64 (p0:Int)):=G;have V:Hid (At C.ts p0 a0):=E;have z:=zA (u.below r);have Y:=zA r;have HN:=zA hN;obtain⟨H,I⟩:=U.two (b:=[[99,97,116,99,104]]) (c:=[[40],nm,[41]]++(prT a0)) rfl;have M1:=zA H;obtain⟨J,L⟩:=I.two (b:=[[40],nm,[41]]) (c:=prT a0) rfl;have M2:=zA J;have M3:=zA L;have a1:=zA y;have hd:k.data.toList=nm:=by rw[←y]
 have f1:k.toList≠[]:=by rw[ByteArray.toList_eq,hd];exact B
 have f2:(k.toList==[])=false:=yA.2 f1;have f3:k.toList.isEmpty=false:=by rw[List.isEmpty_eq_false_iff];exact f1
 clear y hd B f1;obtain⟨X,A⟩:=jx w.heap.size;go_enter func47,ntmps47;go_upto_region 1 with(fail);clear U u r hN D H I J L E G;clear t;rw[A]at x0;rw[A]at x7;rw[A]at x1;rw[A]at d f j;clear A;have C1:=zA (zAD z [[99,97,116,99,104]] 1 rfl M1);go_wp2_with fail;refine C1.out.mono ?_;rintro e1 w1 ⟨rfl,v1,M,N⟩;have a2:=zA M;have l:=zA (N);have a5:=((z.out.low l).cell (p:=⟨b,o,none⟩) F).trans c0;have a6:=(l.out.cell (p:=X) d f j).trans x0;have a7:=(l.out.cell (p:=⟨X,7,none⟩) d f j).trans x7;have a8:=(l.out.cell (p:=⟨X,1,none⟩) d f j).trans x1;clear M N;have C2:=zA (zWb a1 a2 M2);go_wp2_with fail;refine C2.out.mono ?_;rintro e2 w2 ⟨rfl,v2,O,P⟩;have a3:=zA O;have q:=zA (l.out.trans P);have a9:=((z.out.low q).cell (p:=⟨b,o,none⟩) F).trans c0;have b0:=(q.out.cell (p:=X) d f j).trans x0;have b1:=(q.out.cell (p:=⟨X,7,none⟩) d f j).trans x7;have b2:=(q.out.cell (p:=⟨X,1,none⟩) d f j).trans x1;clear O P;have C3:=zA (HN.out a0 p0 _ v2 w2 s0 V a3 M3);go_wp2_with fail;refine C3.out.mono ?_;rintro e3 w3 ⟨rfl,v3,Q,R⟩;have a4:=zA Q;have s:=zA (q.out.trans R);have b3:=(s.out.cell (p:=X) d f j).trans x0;have b4:=(s.out.cell (p:=⟨X,7,none⟩) d f j).trans x7;have b5:=(s.out.cell (p:=⟨X,1,none⟩) d f j).trans x1;clear Q R;go_wp2_with fail;refine jr ?_;refine PutQ.back Y ⟨rfl,v3,?_,s⟩;have:=a4.out;simp only[←zAC,List.append_assoc]at this;exact this
theorem zYs {C:Cx} {m:Nat} {us:List UInt16} {v:Value} {w:World} (D:ByteArray) (vs E:Value) (nk nn:Int) (F:Bool) {l:List Tr} (hN:zAl C m) (hs:∀t∈l,t.size≤m) (G:l.length=L) (H:L≤1000000) (hk:KidsS C w Ak l) (B:Pe C us v w) (I:MayPut us ([[91]]++((zAW ze (prs l))++([[93]])))):
 Calls prog 29 #[C,.agg #[(38:Int),.string D,vs,nk,nn,F,E,.slice Ak (L) ck]] w (PutQ C us v w ([[91]]++((zAW ze (prs l))++([[93]])))):=by
 obtain⟨W,e⟩:=jx (w.alloc (.cells #[(38:Int),.string D,vs,nk,nn,F,E,.slice Ak (L) ck] 43));have d:Below w.heap.size w W:=jb e;have J:w.heap.size < W.heap.size:=by rw[←e];simp
 have x0:W.cell? w.heap.size=some (.int .i64 38):=jc e;have x7:W.cell? ⟨w.heap.size,7,none⟩=some (.slice Ak (L) ck):=jc e;have M:=zA (hk.below (d.mono (Nat.le_of_lt B.blt)));have V:=zA hs;have Y:=zA hN;have f:=zA (B.below d);have N:=zA d;obtain⟨j,k⟩:=I.two (b:=[[91]]) (c:=(zAW ze (prs l))++([[93]])) rfl;have M1:=zA j;obtain⟨o,p⟩:=k.two (b:=zAW ze (prs l)) (c:=[[93]]) rfl;have M2:=zA o;have M3:=zA p;have O:=zA G;clear G;obtain⟨X,P⟩:=jx w.heap.size;go_enter func29,ntmps29;go_upto_region 1 with(fail);clear I B d hN hs hk j k o p;clear e;rw[P]at x0 x7 J;clear P;have C1:=zA (zAD f [[91]] 1 rfl M1);go_wp2_with fail;refine C1.out.mono ?_;rintro e1 w1 ⟨rfl,v1,q,r⟩;have Q:=zA q;have s:=zA (r);clear q r;have C2:=zA (zFr (ck:=ck) Y V (M.out.below (f.out.low s)) Q O H M2);go_wp2_with fail;refine C2.out.mono ?_;rintro e2 w2 ⟨rfl,v2,u,y⟩;have R:=zA u;have S:=zA (s.out.trans y);clear u y;have C3:=zA (zAD R [[93]] 1 rfl M3);go_wp2_with fail;refine C3.out.mono ?_;rintro e3 w3 ⟨rfl,v3,z,A⟩;have T:=zA z;have U:=zA (S.out.trans A);clear z A;go_wp2_with fail;refine jr ?_;refine PutQ.back N ⟨rfl,v3,?_,U⟩;have:=T.out;simp only[←zAC,List.append_assoc]at this;exact this
theorem zYt {C:Cx} {m:Nat} {us:List UInt16} {v:Value} {w:World} (D:ByteArray) (vs E:Value) (nk nn:Int) (F:Bool) {l:List Tr} (hN:zAl C m) (hs:∀t∈l,t.size≤m) (G:l.length=L) (H:L≤1000000) (hk:KidsS C w Ak l) (B:Pe C us v w) (I:MayPut us ([[123]]++((zAW (·.2) (prs l))++([[125]])))):
 Calls prog 29 #[C,.agg #[(39:Int),.string D,vs,nk,nn,F,E,.slice Ak (L) ck]] w (PutQ C us v w ([[123]]++((zAW (·.2) (prs l))++([[125]])))):=by
 obtain⟨W,e⟩:=jx (w.alloc (.cells #[(39:Int),.string D,vs,nk,nn,F,E,.slice Ak (L) ck] 43));have d:Below w.heap.size w W:=jb e;have J:w.heap.size < W.heap.size:=by rw[←e];simp
 have x0:W.cell? w.heap.size=some (.int .i64 39):=jc e;have x7:W.cell? ⟨w.heap.size,7,none⟩=some (.slice Ak (L) ck):=jc e;have M:=zA (hk.below (d.mono (Nat.le_of_lt B.blt)));have V:=zA hs;have Y:=zA hN;have f:=zA (B.below d);have N:=zA d;obtain⟨j,k⟩:=I.two (b:=[[123]]) (c:=(zAW (·.2) (prs l))++([[125]])) rfl;have M1:=zA j;obtain⟨o,p⟩:=k.two (b:=zAW (·.2) (prs l)) (c:=[[125]]) rfl;have M2:=zA o;have M3:=zA p;have O:=zA G;clear G;obtain⟨X,P⟩:=jx w.heap.size;go_enter func29,ntmps29;go_upto_region 1 with(fail);clear I B d hN hs hk j k o p;clear e;rw[P]at x0 x7 J;clear P;have C1:=zA (zAD f [[123]] 1 rfl M1);go_wp2_with fail;refine C1.out.mono ?_;rintro e1 w1 ⟨rfl,v1,q,r⟩;have Q:=zA q;have s:=zA (r);clear q r;have C2:=zA (zEQ (ck:=ck) Y V (M.out.below (f.out.low s)) Q O H M2);go_wp2_with fail;refine C2.out.mono ?_;rintro e2 w2 ⟨rfl,v2,u,y⟩;have R:=zA u;have S:=zA (s.out.trans y);clear u y;have C3:=zA (zAD R [[125]] 1 rfl M3);go_wp2_with fail;refine C3.out.mono ?_;rintro e3 w3 ⟨rfl,v3,z,A⟩;have T:=zA z;have U:=zA (S.out.trans A);clear z A;go_wp2_with fail;refine jr ?_;refine PutQ.back N ⟨rfl,v3,?_,U⟩;have:=T.out;simp only[←zAC,List.append_assoc]at this;exact this
theorem zYu {C:Cx} {m n:Nat} {us:List UInt16} {v:Value} {w:World} (k:ByteArray) (vs o:Value) (nk nn:Int) (p:Bool) {l:List Tr} (hN:zAl C m) (hs:∀t∈l,t.size≤m) (s0:a0.size≤m) (q:l.length=n) (r:n+1≤1000000) (f:n+1≤ck) (hk:KidsS C w Ak (a0::l)) (j:Pe C us v w) (s:MayPut us (zEl (prs (a0::l)))):
 Calls prog 55 #[C,.agg #[(50:Int),.string k,vs,nk,nn,p,o,.slice Ak (n+1) ck]] w (PutQ C us v w (zEl (prs (a0::l)))):=by
 obtain⟨W,c⟩:=jx (w.alloc (.cells #[(50:Int),.string k,vs,nk,nn,p,o,.slice Ak (n+1) ck] 43));have b:Below w.heap.size w W:=jb c;have u:w.heap.size < W.heap.size:=by rw[←c];simp
 have x0:W.cell? w.heap.size=some (.int .i64 50):=jc c;have x7:W.cell? ⟨w.heap.size,7,none⟩=some (.slice Ak (n+1) ck):=jc c;have y:=zA (hk.below (b.mono (Nat.le_of_lt j.blt)));have G:=zA hs;have H:=zA hN;have z:=zA (j.below b);have A:=zA b;have I:=zA s;have B:=zA q;clear q;obtain⟨X,D⟩:=jx w.heap.size;go_enter func55,ntmps55;go_upto_region 1 with(fail);clear s j b hN hs hk;clear c;rw[D]at x0 x7 u;clear D;have J:=zA (zJ4 H G s0 B r f y z I);go_wp2_with fail;refine J.out.mono ?_;rintro e1 w1 ⟨rfl,v1,d,e⟩;have E:=zA d;have F:=zA (e);clear d e;go_wp2_with fail;refine jr ?_;refine PutQ.back A ⟨rfl,v1,?_,F⟩;exact E.out
theorem zYv {C:Cx} {m n:Nat} {us:List UInt16} {v:Value} {w:World} (z:ByteArray) (vs A:Value) (nk nn:Int) (B:Bool) {l:List Tr} (hN:zAl C m) (hs:∀t∈l,t.size≤m) (s0:a0.size≤m) (D:l.length=n) (E:n+1≤1000000) (u:n+1≤ck) (hk:KidsS C w Ak (a0::l)) (y:Pe C us v w) (F:MayPut us ([[110,101,119]]++(zEl (prs (a0::l))))):
 Calls prog 55 #[C,.agg #[(51:Int),.string z,vs,nk,nn,B,A,.slice Ak (n+1) ck]] w (PutQ C us v w ([[110,101,119]]++(zEl (prs (a0::l))))):=by
 obtain⟨W,e⟩:=jx (w.alloc (.cells #[(51:Int),.string z,vs,nk,nn,B,A,.slice Ak (n+1) ck] 43));have d:Below w.heap.size w W:=jb e;have G:w.heap.size < W.heap.size:=by rw[←e];simp
 have x0:W.cell? w.heap.size=some (.int .i64 51):=jc e;have x7:W.cell? ⟨w.heap.size,7,none⟩=some (.slice Ak (n+1) ck):=jc e;have H:=zA (hk.below (d.mono (Nat.le_of_lt y.blt)));have P:=zA hs;have Q:=zA hN;have f:=zA (y.below d);have I:=zA d;obtain⟨j,k⟩:=F.two (b:=[[110,101,119]]) (c:=zEl (prs (a0::l))) rfl;have R:=zA j;have S:=zA k;have J:=zA D;clear D;obtain⟨X,L⟩:=jx w.heap.size;go_enter func55,ntmps55;go_upto_region 1 with(fail);clear F y d hN hs hk j k;clear e;rw[L]at x0 x7 G;clear L;have T:=zA (zAD f [[110,101,119]] 1 rfl R);go_wp2_with fail;refine T.out.mono ?_;rintro e1 w1 ⟨rfl,v1,o,p⟩;have M:=zA o;have q:=zA (p);clear o p;have U:=zA (zJ4 Q P s0 J E u (H.out.below (f.out.low q)) M S);go_wp2_with fail;refine U.out.mono ?_;rintro e2 w2 ⟨rfl,v2,r,s⟩;have N:=zA r;have O:=zA (q.out.trans s);clear r s;go_wp2_with fail;refine jr ?_;refine PutQ.back I ⟨rfl,v2,?_,O⟩;have:=N.out;simp only[←zAC]at this;exact this
theorem zX2 {C:Cx} {K:Int} (S:K=5∨K=6) {m:Nat} {us:List UInt16} {v:Value} {w:World} (u:ByteArray) (vs y:Value) (nk nn:Int) (z:Bool) {l:List Tr} {x:Nd} (hN:zAl C m) (hs:∀t∈l,t.size≤m) (f:At C.ts k0 (.mk x l)) (A:x.kind=5∨x.kind=6) (B:l.length=L) (D:L≤1000000) (hk:KidsS C w Ak l) (s:Pe C us v w) (E:MayPut us ((zBS x (prs l))++([[59]]))):
 Calls prog 28 #[C,k0,.agg #[K,.string u,vs,nk,nn,z,y,.slice Ak (L) ck]] w (PutQ C us v w ((zBS x (prs l))++([[59]]))):=by
 obtain⟨W,e⟩:=jx (w.alloc (.cells #[K,.string u,vs,nk,nn,z,y,.slice Ak (L) ck] 43));have d:Below w.heap.size w W:=jb e;have F:w.heap.size < W.heap.size:=by rw[←e];simp
 have x0:W.cell? w.heap.size=some (.int .i64 K):=jc e;have x7:W.cell? ⟨w.heap.size,7,none⟩=some (.slice Ak (L) ck):=jc e;have a0:=zA (hk.below (d.mono (Nat.le_of_lt s.blt)));have T:=zA hs;have U:=zA hN;have G:=zA (s.below d);have H:=zA d;obtain⟨j,k⟩:=E.two (b:=zBS x (prs l)) (c:=[[59]]) rfl;have V:=zA j;have Y:=zA k;have I:=zA B;clear B;have J:=zA f;have M:=zA A;clear f A;obtain⟨X,N⟩:=jx w.heap.size;rcases S with rfl | rfl
 all_goals
  go_enter func28,ntmps28;go_upto_region 1 with(fail);clear E s d hN hs hk j k;clear e;rw[N]at x0 x7 F;clear N;have C1:=zA (zH5 U T J M G (by rw[I.out];exact D) V);go_wp2_with fail;refine C1.out.mono ?_;rintro e1 w1 ⟨rfl,v1,o,p⟩;have O:=zA o;have P:=zA (p);clear o p;have C2:=zA (zAD O [[59]] 1 rfl Y);go_wp2_with fail;refine C2.out.mono ?_;rintro e2 w2 ⟨rfl,v2,q,r⟩;have Q:=zA q;have R:=zA (P.out.trans r);clear q r;go_wp2_with fail;refine jr ?_;refine PutQ.back H ⟨rfl,v2,?_,R⟩;have:=Q.out;simp only[←zAC]at this;exact this
theorem zYw {C:Cx} {m:Nat} {us:List UInt16} {v:Value} {w:World} (nm:List UInt8) (vs d:Value) (nk nn:Int) (e:Bool) (hN:zAl C m) (f:Pe C us v w) (j:MayPut us ([nm])):
 Calls prog 29 #[C,.agg #[(33:Int),nm,vs,nk,nn,e,d,.slice Ak 0 ck]] w (PutQ C us v w ([nm])):=by
 obtain⟨W,X,p,q,r,ps,s,c⟩:=PF.new 33 (.string ⟨nm.toArray⟩) vs (.int .i64 nk) (.int .i64 nn) (.bool e) d (.slice Ak 0 ck) (b:=0) (o:=0) (l:=[]) (rs:=_++[]) hN (fun i hi=>absurd hi (Nat.not_lt_zero _)) f (by rw[List.append_nil];exact j)
 try simp only[List.append_assoc]at c
 go_enter func29,ntmps29;go_upto_region 1 with(fail);clear hN f j s p q;have:=c.out.x;go_wp2_with fail;refine(c.out.lit (a:=[nm]) rfl).mono ?_;rintro e1 w1 ⟨rfl,v1,k⟩;have:=k.out.x;go_wp2_with fail;exact jr (k.out.fin r js)
theorem zYV {C:Cx} {K:Int} {c:List UInt8} (q:(K=34∧c=[116,114,117,101])∨(K=35∧c=[102,97,108,115,101])∨(K=36∧c=[110,117,108,108])∨(K=37∧c=[116,104,105,115])) {m:Nat} {us:List UInt16} {v:Value} {w:World} (nm:List UInt8) (vs e:Value) (nk nn:Int) (f:Bool) (hN:zAl C m) (j:Pe C us v w) (k:MayPut us ([c])):
 Calls prog 29 #[C,.agg #[K,nm,vs,nk,nn,f,e,.slice Ak 0 ck]] w (PutQ C us v w ([c])):=by
 obtain⟨W,X,r,s,t,ps,u,d⟩:=PF.new K (.string ⟨nm.toArray⟩) vs (.int .i64 nk) (.int .i64 nn) (.bool f) e (.slice Ak 0 ck) (b:=0) (o:=0) (l:=[]) (rs:=_++[]) hN (fun i hi=>absurd hi (Nat.not_lt_zero _)) j (by rw[List.append_nil];exact k)
 try simp only[List.append_assoc]at d
 rcases q with⟨rfl,rfl⟩ | ⟨rfl,rfl⟩ | ⟨rfl,rfl⟩ | ⟨rfl,rfl⟩
 all_goals
  go_enter func29,ntmps29;go_upto_region 1 with(fail);clear hN j k u r s;have:=d.out.x;go_wp2_with fail;refine(d.out.lit (a:=[_]) rfl).mono ?_;rintro e1 w1 ⟨rfl,v1,p⟩;have:=p.out.x;go_wp2_with fail;exact jr (p.out.fin t js)
section
variable {P:Program} {w0 w:World} {ops:Array Oper} {o:Oper} {a:Act} {K:Act→World→Prop} {Q:Exit→Act→World→Prop} {E:Prop}
theorem zQZ (f:o.guard=none) (s x:Operand) (t:TypeId)
 (g:o.op=.call {callee:=.builtin .append,args:=#[s,x],argTypes:=#[t,t]})
 (e:TypeId) (i:TypeInfo) (z:Value) (bytes:Nat) (ht:P.underlying t=some (.slice e)) (hi:P.info? e=some i) (hz:i.zero=some z)
 (hsize:i.size=1) (hby:i.bytes=bytes) (hzs:z.cells.size=1)
 (v:Value) (xs:List Value) (hs:a.eval s=v) (hm:Made w0 w e v xs)
 (cs:List Value) (m c:Nat) (hx:a.eval x=.slice (some ⟨w.heap.size,0,none⟩) m c) (hl:cs.length=m) (h1:(cs.all fun u=>u.oneCell')=true)
 (hm0:0 < m) (hsz:xs.length+m≤70368744177664) (hb2:bytes≤2)
 (h:∀v' w',Made w0 w' e v' (xs++cs)→w.grownBy w' v.ownBlock→K (a.put o.dst v') w'):
 if Region.wanted o (yielded ops a.tmps)=true then Oper.wp P o a (w.alloc (.cells cs.toArray e)) K Q else E:=by
 subst hl;refine step_append_lies (w.alloc (.cells cs.toArray e)) f s x t g w0.heap.size e i z 1 bytes ht hi hz hsize hby hzs jo v xs.length xs hs (hm.own.alloc _) ⟨w.heap.size,0,none⟩ _ c cs hx jo ?_ (fun u d=>List.all_eq_true.1 h1 u d) hm0 (by unfold maxLen;omega) ?_ (yAD hm.below.size js) _ rfl ?_
 · intro j u d;rw[Addr.add_lit,World.cell?_alloc_at _ _ _ _ rfl];simpa using d
 · calc (xs.length+cs.length)*bytes≤70368744177664*2:=Nat.mul_le_mul hsz hb2
    _≤140737488355328:=by omega
 · intro gg cap w' h1 l _ _;have b:w.grownBy w' v.ownBlock:=zC (zF w _ _) l;exact h _ w' ⟨by rw[List.length_append];exact h1,hm.below.grown b hm.below.size (fun k hk=>(hm.own.lt k hk).1)⟩ b
theorem zQa (b:o.guard=none) (s x:Operand) (t:TypeId)
 (d:o.op=.call {callee:=.builtin .append,args:=#[s,x],argTypes:=#[t,t]})
 (e:TypeId) (i:TypeInfo) (z:Value) (bytes:Nat) (ht:P.underlying t=some (.slice e)) (hi:P.info? e=some i) (hz:i.zero=some z)
 (hsize:i.size=1) (hby:i.bytes=bytes) (hzs:z.cells.size=1)
 (v:Value) (xs:List Value) (hs:a.eval s=v) (hm:Made w0 w e v xs)
 (cs:List Value) (m c:Nat) (hx:a.eval x=.slice (some ⟨w.heap.size,0,none⟩) m c) (hl:cs.length=m) (h1:(cs.all fun u=>u.oneCell')=true)
 (hm0:0 < m) (hsz:xs.length+m≤70368744177664) (hb2:bytes≤2)
 (h:∀v' w',Made w0 w' e v' (xs++cs)→K (a.put o.dst v') w'):
 if Region.wanted o (yielded ops a.tmps)=true then Oper.wp P o a (w.alloc (.cells cs.toArray e)).drew K Q else E:=
 zQZ (w:=w.drew) b s x t d e i z bytes ht hi hz hsize hby hzs v xs hs hm.drew cs m c hx hl h1 hm0 hsz hb2 (fun v' w' h1 _=>h v' w' h1)
end
def zTh (u:List UInt16):List UInt8:=34::u.flatMap zGZ
theorem zQb {u:List UInt16} (h:k < u.length):zTh (u.take (k+1))=zTh (u.take k)++zGZ u[k]:=by
 unfold zTh;rw[yAL h,List.flatMap_append];simp
theorem zTi (u:List UInt16):(zTh u).length≤6*u.length+1:=by
 unfold zTh;rw[List.length_cons];have:(u.flatMap zGZ).length≤6*u.length:=by
  induction u with
  | nil=>simp
  | cons x r b=>rw[List.flatMap_cons,List.length_append,List.length_cons];have:=zLU x;omega
 omega
theorem zIj {d:Nat} (b:d < 16):∀h,(ByteArray.mk #[48,49,50,51,52,53,54,55,56,57,97,98,99,100,101,102])[d]'h=zCN d:=by
 have h:d=0∨d=1∨d=2∨d=3∨d=4∨d=5∨d=6∨d=7∨d=8∨d=9∨d=10∨d=11∨d=12∨d=13∨d=14∨d=15:=by omega
 rcases h with rfl | rfl | rfl | rfl | rfl | rfl | rfl | rfl | rfl | rfl | rfl | rfl | rfl | rfl | rfl | rfl<;>exact fun _=>rfl
theorem zWc {x:Nat} (h:x < 65536):bits .and .u16 (x:Int) 15=((x % 16:Nat):Int):=by
 have:=u16_and_nat x 15 h jo;rw[show(15:Int)=((15:Nat):Int)from rfl,this,show(15:Nat)=2^4 - 1 from rfl,Nat.and_two_pow_sub_one_eq_mod]
theorem zWd (u:List UInt16):zFw u=zTh u++[34]:=rfl
theorem zNV (u:List UInt16):u8s (zTh u)++[.int .u8 34]=u8s (zFw u):=by rw[zWd];unfold u8s;rw[List.map_append];rfl
theorem zH6 {A:Option Addr} {c n:Nat} {us:List UInt16} {w:World} (Q:us.length=n) (hB:B≤w.heap.size) (J:Reads w B 1 A n (zAM us)) (hl:n≤1000000):
 Calls prog 50 #[.slice A n c] w fun e w'=>e=.returned (zFw us)∧Below w.heap.size w w':=by
 subst Q;obtain⟨H,j,l,m,o⟩:=info_parts Tryz.info_u8;have R:=zA J;have L:=zA (Made.lit w 5 (u8s [34]) (by simp[u8s,maxLen]));clear J;go_enter func50,ntmps50;go_wp2_with fail
 go_loopg [3,9] us.length (fun r v i wr=>∃k:Nat,k+r=us.length∧i=.int .i64 k∧Hid (Made w wr 5 v (u8s (zTh (us.take k)))))
 case atStart=>exact⟨0,by omega,rfl,L⟩
 case round=>
  obtain⟨k,a0,rfl,p⟩:=hrel;have M:=zTi (us.take k);have N:(u8s (zTh (us.take k))).length≤6*k+1:=by rw[zFT];rw[List.length_take]at M;omega
  clear M
  by_cases D:k < us.length
  · obtain⟨ad,S,_,q⟩:=(R.out.below (p.out.below.mono hB)).u16 D;subst S;have h3:(k:Int) < (us.length:Int):=by omega
    have C:=us[k].toNat_lt;have I:=zA (zQb D);obtain⟨x,E⟩:=jx (us[k]);rw[E]at q C I;clear E
    by_cases s:32≤x.toNat∧x.toNat≤126∧x.toNat≠34∧x.toNat≠92
    · have b:=zA (show zGZ x=[x.toUInt8] by unfold zGZ;rw[if_pos s]);obtain⟨p1,p2,p3,p4⟩:=s;obtain⟨y,g⟩:=jx x.toNat
      have T:=zA (show u8s [x.toUInt8]=[.int .u8 (y:Int)] by rw[←g];simp[u8s,u8v];omega);rw[g]at p1 p2 p3 p4 q C;clear g;have q3:((y:Int) !=34)=true:=by simp;omega
      have q4:((y:Int) !=92)=true:=by simp;omega
      go_wp2_with (at_builtin;refine zEF rfl _ _ 115 rfl 5 H _ 1 underlying115 j l m o rfl _ _ rfl p.out [.int .u8 (y:Int)] 1 1 rfl rfl rfl jo jo ?_;intro v' w' f)
      go_roundg (gk - 1)
      all_goals first
       | omega
       | exact⟨k+1,by omega,by go_num,f.cells (by rw[I.out,b.out,←T.out];simp[u8s])⟩
    · have b:=zA (show zGZ x=[92,117,zCN (x.toNat / 4096),zCN (x.toNat / 256 % 16),zCN (x.toNat / 16 % 16),zCN (x.toNat % 16)] by unfold zGZ;rw[if_neg s]);obtain⟨y,g⟩:=jx x.toNat
      rw[g]at s q C b;clear g;have O:y < 65536:=C;obtain⟨d0,F⟩:=jx (y / 4096);obtain⟨d1,t⟩:=jx (y / 256 % 16);obtain⟨d2,u⟩:=jx (y / 16 % 16);obtain⟨d3,z⟩:=jx (y % 16);have e0:(y:Int) / 4096=(d0:Int):=by omega
      have e1:bits .and .u16 ((y:Int) / 256) 15=(d1:Int):=by
       rw[show(y:Int) / 256=((y / 256:Nat):Int) by omega,zWc jo,t]
      have e2:bits .and .u16 ((y:Int) / 16) 15=(d2:Int):=by
       rw[show(y:Int) / 16=((y / 16:Nat):Int) by omega,zWc jo,u]
      have e3:bits .and .u16 (y:Int) 15=(d3:Int):=by rw[zWc O,z]
      have U:d0 < 16:=by omega
      have V:d1 < 16:=by omega
      have W:d2 < 16:=by omega
      have X:d3 < 16:=by omega
      have g0:=zIj U;have g1:=zIj V;have g2:=zIj W;have g3:=zIj X;have k0:(d0:Int) < 16:=by omega
      have k1:(d1:Int) < 16:=by omega
      have k2:(d2:Int) < 16:=by omega
      have k3:(d3:Int) < 16:=by omega
      rw[F,t,u,z]at b;have Y:(¬32≤y)∨(32≤y∧¬y≤126)∨(32≤y∧y≤126∧y=34)∨(32≤y∧y≤126∧y=92):=by omega
      clear s F t u z;go_upto_region 5 with(fail)
      go_cut [9,26] (fun i cc wx=>i=.int .i64 k∧cc=.bool false∧wx=wr)
      case first=>
       rcases Y with c1 | ⟨c1,c2⟩ | ⟨c1,c2,c3⟩ | ⟨c1,c2,c4⟩
       · have b1:¬(32≤(y:Int)):=by omega
         go_wp2_with fail;go_meet;exact⟨rfl,rfl,rfl⟩
       · have b2:¬((y:Int)≤126):=by omega
         go_wp2_with fail;go_meet;exact⟨rfl,rfl,rfl⟩
       · have b3:((y:Int) !=34)=false:=by simp;omega
         clear c3;go_wp2_with fail;go_meet;exact⟨rfl,rfl,rfl⟩
       · have b3:((y:Int) !=34)=true:=by simp;omega
         have b4:((y:Int) !=92)=false:=by simp;omega
         clear c4;go_wp2_with fail;go_meet;exact⟨rfl,rfl,rfl⟩
      case rest=>
       obtain⟨rfl,rfl,rfl⟩:=hcut;go_wp2_with fail;go_region_law (refine zQa rfl _ _ 115 rfl 5 H _ 1 underlying115 j l m o rfl _ _ rfl p.out [.int .u8 92,.int .u8 117,.int .u8 ((zCN d0).toNat:Int),.int .u8 ((zCN d1).toNat:Int),.int .u8 ((zCN d2).toNat:Int),.int .u8 ((zCN d3).toNat:Int)] 6 6 rfl rfl rfl jo jo jo ?_;intro v' w' f)
       all_goals go_wp2
       all_goals go_roundg (gk - 1)
       all_goals first
        | omega
        | exact⟨k+1,by omega,by go_num,f.cells (by rw[I.out,b.out];simp[u8s,u8v])⟩
  · have P:us.take k=us:=List.take_of_length_le jo;rw[P]at p N;go_wp2_with (at_builtin;refine zEF rfl _ _ 115 rfl 5 H _ 1 underlying115 j l m o rfl _ _ rfl p.out [.int .u8 34] 1 1 rfl rfl rfl jo jo ?_;intro v' w' f;have G:Made w w' 5 v' (u8s (zFw us)):=f.cells (zNV us);obtain⟨A',c',rfl,_,_,hr⟩:=G.u8;have hs:=zEo (c:=c') hr);go_ret;exact⟨rfl,G.below⟩
theorem zQc (l:List Nat):zB8 l=zEk l:=by
 induction l with
 | nil=>rfl
 | cons x r b=>rw[zB8,zEk,b]
def AtTxt (v0 v:Nat) (ls:List UInt8):Prop:=zBZ v0=(if v=0 then []else zBZ v)++ls.reverse
theorem AtTxt.start {v0:Nat} (h:v0≠0):AtTxt v0 v0 []:=by unfold AtTxt;rw[if_neg h];simp
theorem AtTxt.step {v0 v:Nat} {c:List UInt8} (h:AtTxt v0 v c) (hv:v≠0):AtTxt v0 (v / 10) (c++[chr (48+v % 10)]):=by
 unfold AtTxt at h⊢;rw[if_neg hv]at h;rw[h,List.reverse_append]
 by_cases b:v < 10
 · rw[zB6 b,if_pos jo,show v % 10=v by omega];rfl
 · rw[zC5 b,jn];simp
theorem AtTxt.done {v0:Nat} {b:List UInt8} (h:AtTxt v0 0 b):b.reverse=zBZ v0:=by
 unfold AtTxt at h;rw[h];rfl
theorem AtTxt.len {v0 v:Nat} {b:List UInt8} (h:AtTxt v0 v b):b.length≤(zBZ v0).length:=by
 unfold AtTxt at h;rw[h,List.length_append,List.length_reverse];omega
structure AtDiv (ms:List Nat) (k r:Nat) (cs:List Nat):Prop where
 len:cs.length=ms.length
 low:cs.take k=ms.take k
 rest:r≤9
 val:zB8 (ms.drop k)=10*zB8 (cs.drop k)+r
 lt:∀x∈cs,x < 4294967296
theorem AtDiv.start (h:∀x∈ms,x < 4294967296):AtDiv ms ms.length 0 ms:=⟨rfl,rfl,by omega,by rw[List.drop_length];rfl,h⟩
theorem AtDiv.get {cs:List Nat} (h:AtDiv ms (k+1) r cs) (hk:k < ms.length):cs[k]'(by rw[h.len];exact hk)=ms[k]:=by
 have h1:=congrArg (fun l=>l[k]?) h.low;simp only[List.getElem?_take,if_pos (yAF k)]at h1;rw[yAB (by rw[h.len];exact hk),yAB hk]at h1;exact Option.some.inj h1
theorem AtDiv.step {cs:List Nat} (h:AtDiv ms (k+1) r cs) (hk:k < ms.length):AtDiv ms k ((r*4294967296+ms[k]) % 10) (cs.set k ((r*4294967296+ms[k]) / 10)):=by
 have c:k < cs.length:=by rw[h.len];exact hk
 have d:ms[k] < 4294967296:=by rw[←h.get hk];exact h.lt _ (List.getElem_mem _)
 have e:=h.rest;refine⟨by simp[h.len],?_,by omega,?_,?_⟩
 · rw[List.take_set_of_le (yAC k)];have:=congrArg (List.take k) h.low;rwa [List.take_take,List.take_take,Nat.min_eq_left jo]at this
 · have hv:=h.val;rw[yAH hk,zB8,hv,List.drop_set,jn,Nat.sub_self,yAH c,List.set_cons_zero,zB8];omega
 · intro x b;rcases List.mem_or_eq_of_mem_set b with b | rfl
   · exact h.lt x b
   · omega
theorem AtDiv.done {cs:List Nat} (h:AtDiv ms 0 r cs):zB8 ms=10*zB8 cs+r∧r≤9:=by
 have:=h.val;simp only[List.drop_zero]at this;exact⟨this,h.rest⟩
theorem zH7 (l:List Nat):zB8 (zAk l)=zB8 l:=by
 induction l with
 | nil=>rfl
 | cons x r b=>
  by_cases h:zAk r=[]∧x=0
  · rw[zAk,if_pos h,zB8,zB8];have:=zD0.1 h.1;omega
  · rw[zAk,if_neg h,zB8,zB8,b]
theorem zNW (l:List Nat):zAk (zAk l)=zAk l:=by
 induction l with
 | nil=>rfl
 | cons x r b=>
  by_cases h:zAk r=[]∧x=0
  · rw[zAk,if_pos h];rfl
  · rw[zAk,if_neg h,zAk,b,if_neg h]
theorem zQd {l:List Nat} {x:Nat} (h:x∈zAk l):x∈l:=by
 rw[zEK l]at h;exact List.mem_of_mem_take h
theorem zNX {l:List Nat} {x:Nat} (h:l.getLast? =some x) (c:x≠0):zAk l=l:=by
 obtain⟨r,rfl⟩:∃r,l=r++[x]:=by
  have b:l≠[]:=by intro e;subst e;simp at h
  refine⟨l.dropLast,?_⟩;have h1:=List.dropLast_concat_getLast b;rw[List.getLast?_eq_some_getLast b]at h;rw[←Option.some.inj h,h1]
 exact zFd c r
theorem zTj (l:List Nat):∀u∈zBq l,u.oneCell'=true:=by
 intro u b;obtain⟨n,_,rfl⟩:=List.mem_map.1 b;rfl
theorem zMI {w:World} {base b n:Nat} {v:Value} {xs:List Value} (h:w.ownsRow base e size v n xs) (hb:b≤base):w.ownsRow b e size v n xs:=by
 refine⟨h.1,?_⟩;rcases h.2 with h1 | ⟨g,cap,c,h1,d,f⟩
 · exact .inl h1
 · exact .inr ⟨g,cap,c,h1,yAD hb d,f⟩
section
variable {P:Program} {w0 w:World} {ops:Array Oper} {rest:List Oper} {o:Oper} {a:Act} {Q:Exit→Act→World→Prop}
theorem zK4 (f:o.guard=none) (s x:Operand) (t:TypeId)
 (g:o.op=.call {callee:=.builtin .append,args:=#[s,x],argTypes:=#[t,t]})
 (e:TypeId) (i:TypeInfo) (z:Value) (bytes:Nat) (ht:P.underlying t=some (.slice e)) (hi:P.info? e=some i) (hz:i.zero=some z)
 (hsize:i.size=1) (hby:i.bytes=bytes) (hzs:z.cells.size=1)
 (v:Value) (xs:List Value) (hs:a.eval s=v) (hm:Made w0 w e v xs)
 (B:Nat) (A:Option Addr) (m c:Nat) (news:List Value) (hx:a.eval x=.slice A m c) (hr:Reads w B 1 A m news) (h1:∀u∈news,u.oneCell'=true)
 (hsz:xs.length+m≤35184372088832) (hb2:bytes≤4)
 (h:∀v' w',Made w0 w' e v' (xs++news)→wpList P ops Q rest (a.put o.dst v') w'):wpList P ops Q (o::rest) a w:=by
 have j:news.length=m:=by have:=hr.1;omega
 subst j;have b:(xs.length+news.length)*bytes≤140737488355328:=by
  calc (xs.length+news.length)*bytes≤35184372088832*4:=Nat.mul_le_mul hsz hb2
   _≤140737488355328:=by omega
 obtain⟨v',w',d,l,p,_⟩:=zHO (P:=P) w w0.heap.size t o.type e i z 1 bytes ht hi hz hsize hby hzs jo v xs.length xs hm.own B A news.length c news hr h1 (by unfold maxLen;omega) b hm.below.size;refine wpList_plain f fun K q=>?_;unfold Oper.wp execOp;simp only[g,resolve,invoke,builtin,Sem.run_bind,Sem.run_pure,Result.andThen_ok,List.map_toArray,List.map_cons,List.map_nil,hs,hx,d];refine q _ _ (h v' w' ⟨by rw[List.length_append];exact l,hm.below.grown p hm.below.size (fun k hk=>(hm.own.lt k hk).1)⟩)
end
theorem zNY {A:Option Addr} {n c:Nat} {w:World} (k:xs.length=n) (hB:B≤w.heap.size) (f:Reads w B 1 A n (zBq xs)) (z:n≤4096):
 Calls prog 118 #[.slice A n c] w fun e w'=>∃d cp,e=.returned (.slice d n cp)∧w'.ownsRow w.heap.size 67 1 (.slice d n cp) n (zBq xs)∧Below w.heap.size w w':=by
 obtain⟨s,l,m,o,p⟩:=info_parts Tryz.info_u32;cases A with
 | none=>
  have t:n=0:=by
   rcases Nat.eq_zero_or_pos n with h | h
   · exact h
   · obtain⟨u,h1,_⟩:=f.2 h;cases h1
  subst t;have v:xs=[]:=List.eq_nil_of_length_eq_zero k;subst v;refine(Tryz.slices_Clone_nil 0 c w).mono ?_;rintro e w' ⟨rfl,rfl⟩;exact⟨none,0,rfl,yAJ _ _ _ _,Below.refl _ _⟩
 | some u=>
  have q:=zA (f.alloc hB (.cells #[] 67));clear f;have r:=zA (zSh xs);have y:∀(w:World) (a:Option Addr) (n c g j:Nat),(binOp .eql 38 (.slice a n c) (.slice none g j)).run prog w=.ok (.bool a.isNone) w:=fun w a n c g j=>Lib.run_eql_slice_nil w _ _ a n c g j underlying38;subst k;go_enter func118,ntmps118;go_wp2_with (at_builtin;refine zK4 rfl _ _ 38 rfl 67 s _ 4 underlying38 l m o p rfl _ _ rfl (Made.empty w _) _ _ _ c _ rfl q.out (zTj _) (by simp;omega) jo ?_;intro v' w' b);obtain⟨d,cp,rfl,_,_,_⟩:=b.shape;rw[List.nil_append,r.out];go_ret;exact⟨d,cp,rfl,by have:=b.own;rwa[List.nil_append,r.out]at this,b.below⟩
theorem zMJ {A:Option Addr} {n c:Nat} {w:World} (r:xs.length=n) (q:Reads w B 1 A n (zBq xs)) (hB:B≤w.heap.size) (v:∀y∈xs,y < 4294967296) (j:zBR false xs=true):
 Calls prog 87 #[.agg #[false,.slice A n c]] w fun e w'=>∃k cp,e=.returned (.slice k n cp)∧w'.ownsRow w.heap.size 67 1 (.slice k n cp) n (zBq xs)∧Below w.heap.size w w':=by
 have G:n≤8:=by
  unfold zBR at j;rw[Bool.and_eq_true]at j;have:=of_decide_eq_true j.1;omega
 obtain⟨W,f⟩:=jx (w.alloc (.cells #[false,.slice A n c] 40));have d:Below w.heap.size w W:=jb f;have l:w.heap.size < W.heap.size:=by rw[←f];simp
 have x0:W.cell? w.heap.size=some (.bool false):=jc f;have x1:W.cell? ⟨w.heap.size,1,none⟩=some (.slice A n c):=jc f;have z:=zA (zIg (c:=c) false r (q.below (d.mono hB)) (yAD hB d.size) v j);have m:=zA d;have C:=zA q;obtain⟨X,s⟩:=jx w.heap.size;go_enter func87,ntmps87;go_upto_region 1 with(fail);clear q d f;rw[s]at x0 x1 l;clear s;go_wp2_with fail;refine z.out.mono ?_;rintro e1 w1 ⟨rfl,g⟩;have F:=(g.cell (p:=⟨X,1,none⟩) l).trans x1;have b:=zA (m.out.trans (g.mono m.out.size));have D:=zA (zNY (c:=c) r (yAD hB b.out.size) (C.out.below (b.out.mono hB)) jo);clear g;go_wp2_with fail;refine D.out.mono ?_;rintro e2 w2 ⟨k,cp,rfl,t,o⟩;have E:=zA (zMI t b.out.size);have u:=zA (b.out.trans (o.mono b.out.size));clear t o;go_wp2_with fail;go_ret;exact⟨k,cp,rfl,E,u⟩
theorem zTk {A:Option Addr} {n c:Nat} {w:World} (o:xs.length=n) (k:Reads w B 1 A n (zBq xs)) (hB:B≤w.heap.size) (q:∀y∈xs,y < 4294967296) (r:zBR false xs=true):
 Calls prog 89 #[.agg #[false,.slice A n c]] w fun e w'=>e=.returned false∧Below w.heap.size w w':=by
 obtain⟨W,d⟩:=jx (w.alloc (.cells #[false,.slice A n c] 40));have b:Below w.heap.size w W:=jb d;have g:w.heap.size < W.heap.size:=by rw[←d];simp
 have x0:W.cell? w.heap.size=some (.bool false):=jc d;have x1:W.cell? ⟨w.heap.size,1,none⟩=some (.slice A n c):=jc d;have s:=zA (zIg (c:=c) false o (k.below (b.mono hB)) (yAD hB b.size) q r);have j:=zA b;obtain⟨X,l⟩:=jx w.heap.size;go_enter func89,ntmps89;go_upto_region 1 with(fail);clear k b d;rw[l]at x0 x1 g;clear l;go_wp2_with fail;refine s.out.mono ?_;rintro e1 w1 ⟨rfl,f⟩;have t:=(f.cell (p:=X) g).trans x0;have m:=zA (j.out.trans (f.mono j.out.size));clear f;go_wp2_with fail;go_ret;exact⟨rfl,m⟩
def AtRev (zs:List UInt8) (i:Nat) (cs:List UInt8):Prop:=cs.length=zs.length∧2*i≤zs.length∧∀j,j < zs.length→cs[j]? =if j < i∨zs.length≤j+i then zs[zs.length - 1 - j]? else zs[j]?
theorem AtRev.start (zs:List UInt8):AtRev zs 0 zs:=⟨rfl,by omega,fun j b=>by rw[jn]⟩
theorem AtRev.done (h:AtRev zs i cs) (c:zs.length≤2*i+1):cs=zs.reverse:=by
 obtain⟨d,_,hg⟩:=h;apply List.ext_getElem?;intro j
 by_cases b:j < zs.length
 · rw[hg j b,List.getElem?_reverse b];split
   · rfl
   · rw[show zs.length - 1 - j=j by omega]
 · rw[List.getElem?_eq_none jo,List.getElem?_eq_none (by simp;omega)]
theorem AtRev.get (h:AtRev zs i cs) (h1:i≤j) (b:j+i < zs.length):cs[j]? =zs[j]? :=by
 rw[h.2.2 j jo,jn]
theorem AtRev.step {c:Nat} {a b:UInt8} (h:AtRev zs i cs) (l:i+c+1=zs.length) (g:i < c) (f:cs[i]? =some a) (hb:cs[c]? =some b):AtRev zs (i+1) ((cs.set i b).set c a):=by
 have d:=h.get (yAC i) jo;have e:=h.get (j:=c) jo jo;refine⟨by simp[h.1],by omega,fun k hk=>?_⟩;rw[List.getElem?_set,List.getElem?_set]
 by_cases e1:c=k
 · subst e1;rw[if_pos rfl,if_pos (by simp;have:=h.1;omega),if_pos jo,show zs.length - 1 - c=i by omega,←d,f]
 · rw[if_neg e1]
   by_cases e2:i=k
   · subst e2;rw[if_pos rfl,if_pos (by have:=h.1;omega),if_pos jo,show zs.length - 1 - i=c by omega,←e,hb]
   · rw[if_neg e2,h.2.2 k hk]
     by_cases e3:k < i∨zs.length≤k+i
     · rw[if_pos e3,if_pos jo]
     · rw[if_neg e3,jn]
theorem zar {l:List UInt8} {a:UInt8} (h:l[j]? =some a):(u8s l)[j]? =some (.int .u8 (a.toNat:Int)):=by
 simp[u8s,u8v,h]
theorem zQe (l:List UInt8) (j:Nat) (a:UInt8):(u8s l).set j (.int .u8 (a.toNat:Int))=u8s (l.set j a):=by
 simp[u8s,u8v,List.map_set]
theorem zTl {g n cp base:Nat} {w:World} (y:zs.length=n) (D:n≤1000000) (p:w.ownsRow base 5 1 (.slice (some ⟨g,0,none⟩) n cp) n (u8s zs)):
 Calls prog 90 #[.slice (some ⟨g,0,none⟩) n cp] w fun e w'=>e=.returned (.tuple #[])∧w'.ownsRow base 5 1 (.slice (some ⟨g,0,none⟩) n cp) n (u8s zs.reverse)∧w.grownBy w' (some g):=by
 subst y;have z:=zA p;clear p;go_enter func90,ntmps90;go_wp2_with fail
 go_loopg [2,3] zs.length (fun r A B wr=>∃(i:Nat) (f:Int) (cs:List UInt8),A=.int .i64 i∧B=.int .i64 f∧f=(zs.length:Int) - 1 - i∧i+r=zs.length∧Hid (wr.ownsRow base 5 1 (.slice (some ⟨g,0,none⟩) zs.length cp) zs.length (u8s cs))∧Hid (w.grownBy wr (some g))∧Hid (AtRev zs i cs))
 case atStart=>exact⟨0,_,zs,rfl,rfl,by omega,by omega,z,World.grownBy.refl w _,AtRev.start zs⟩
 case round=>
  obtain⟨i,f,cs,rfl,rfl,q,E,c,k,j⟩:=hrel
  by_cases F:(i:Int) < f
  · obtain⟨d,rfl⟩:∃d:Nat,f=(d:Int):=⟨f.toNat,by omega⟩;have s:i+d+1=zs.length:=by omega
    have t:i < d:=by omega
    have u:=j.out.1;obtain⟨a,o⟩:∃a,cs[i]? =some a:=⟨cs[i]' jo,yAB _⟩;obtain⟨b,hb⟩:∃b,cs[d]? =some b:=⟨cs[d]' jo,yAB _⟩;have I:wr.cell? ⟨g,i,none⟩=some (.int .u8 (a.toNat:Int)):=by rw[c.out.cellAt i jo,zar o]
    have J:wr.cell? ⟨g,d,none⟩=some (.int .u8 (b.toNat:Int)):=by rw[c.out.cellAt d jo,zar hb]
    have L:=c.out.frozenAt i;have M:=c.out.frozenAt d;have v:=zA (j.out.step s t o hb);have G:(i:Int) < (zs.length:Int):=by omega
    have H:(d:Int) < (zs.length:Int):=by omega
    clear q u o hb;go_wp2_with fail;go_region
    all_goals go_wp2
    all_goals go_roundg (gk - 1)
    case measure=>omega
    case rel=>
     have l:=c.out.stored i (.int .u8 (b.toNat:Int));have m:=l.1.stored d (.int .u8 (a.toNat:Int));refine⟨i+1,(d:Int) - 1,(cs.set i b).set d a,by go_num,rfl,by omega,by omega,?_,zC k (zC (zC l.2 m.2) (zAE _ (some g) 1)),v⟩;rw[←zQe,←zQe];exact m.1.drew
  · have C:=j.out.done jo;go_wp2
    go_end0
    exact⟨rfl,by rw[←C];exact c.out,k⟩
theorem zQf (l:List Nat) (k x:Nat):(zBq l).set k (.int .u32 (x:Int))=zBq (l.set k x):=by
 simp[zBq,List.map_set]
theorem zNZ {w w':World} {base n:Nat} {v:Value} {xs:List Value} (h:w.ownsRow base e size v n xs) (hb:Below w.heap.size w w'):w'.ownsRow base e size v n xs:=
 h.kept (row:=none) ⟨hb.os,hb.tape,hb.output,hb.size,fun k hk _=>hb.block k hk⟩ (by cases hv:v.ownBlock<;>simp)
theorem zQg {w w':World} {base g n c:Nat} {xs:List Value} {row:Option Nat} (h:w.ownsRow base e size (.slice (some ⟨g,0,none⟩) n c) n xs) (hg:w.grownBy w' row) (f:some g≠row):w'.ownsRow base e size (.slice (some ⟨g,0,none⟩) n c) n xs:=by
 refine⟨h.1,?_⟩;rcases h.2 with⟨h1,_⟩ | ⟨j,cap,k,h1,hb,b,l⟩
 · cases h1
 · right;refine⟨j,cap,k,h1,hb,?_,l⟩;have e:g=j:=by injection h1 with h1;injection h1 with h1;injection h1
   subst e;rw[hg.block g (by
    rcases Nat.lt_or_ge g w.heap.size with d | d
    · exact d
    · rw[Array.getElem?_eq_none d]at b;cases b) f]
   exact b
theorem zaU {x:Nat} (c:r≤9) (b:x < 4294967296):bits .or .u64 (((r*4294967296:Nat)):Int) (x:Int)=((r*4294967296+x:Nat):Int):=by
 have:=u64_or_nat (r*4294967296) x jo jo;rw[this,show r*4294967296=2^32*r by omega,Nat.two_pow_add_eq_or_of_lt b]
theorem zNa {A:Option Addr} {n c:Nat} {w:World} (hn:xs.length=n) (ha:Reads w B 1 A n (zBq xs)) (hB:B≤w.heap.size) (hl:∀y∈xs,y < 4294967296) (D:zBR false xs=true) (h0:0 < n) (h8:n≤8) (a6:zAk xs=xs) (f5:(zBZ (zB8 xs)).length≤78):
 Calls prog 49 #[.agg #[false,.slice A n c]] w fun e w'=>e=.returned (zBZ (zB8 xs))∧Below w.heap.size w w':=by
 obtain⟨i0,c7,c8,d0,d1⟩:=info_parts Tryz.info_u8;obtain⟨W,N⟩:=jx (w.alloc (.cells #[false,.slice A n c] 40));have j:Below w.heap.size w W:=jb N;have E:w.heap.size < W.heap.size:=by rw[←N];simp
 have x0:W.cell? w.heap.size=some (.bool false):=jc N;have x1:W.cell? ⟨w.heap.size,1,none⟩=some (.slice A n c):=jc N;have CM:=zA (zMJ (c:=c) hn (ha.below (j.mono hB)) (yAD hB j.size) hl D);have CG:=zA (fun(w2:World) (hb:Below W.heap.size W w2)=>zTk (c:=c) hn (ha.below ((j.trans (hb.mono j.size)).mono hB)) (yAD hB (j.trans (hb.mono j.size)).size) hl D);have O:=zA j;have HN:=zA hn;have HL:=zA hl;have HT:=zA a6;obtain⟨X,hX⟩:=jx w.heap.size;go_enter func49,ntmps49;go_upto_region 1 with(fail);clear ha j N hl D a6 hn;rw[hX]at x0 x1 E;clear hX;go_wp2_with fail;refine CM.out.mono ?_;rintro e1 w1 ⟨A',cp,rfl,ho,I⟩;obtain⟨g,cap,hv,f7,d2⟩:=ho.form h0;injection hv with hA _ hcap;subst hA hcap;obtain⟨d3,d4⟩:n≤cp∧cp≤maxLen:=by
  obtain⟨_,c9,e9,h1,h2⟩:=zS ho;injection e9 with e91 e92 e93;subst e93;exact⟨h1,h2⟩
 have f8:((n:Int)==0)=false:=yA.2 jo;have y0:=(I.cell (p:=X) E).trans x0;have y1:=(I.cell (p:=⟨X,1,none⟩) E).trans x1;have P:=zA I;have HO:=zA ho;clear I ho;go_wp2_with fail
 go_loopg [3,4] (zB8 xs) (fun r m l wr=>∃(ms:List Nat) (k:Nat) (u:List UInt8),m=.slice (some ⟨g,0,none⟩) k cp∧k≤8∧k≤cp∧Hid (zB8 ms=r)∧Hid (ms.length=k)∧Hid (zAk ms=ms)∧Hid (∀y∈ms,y < 4294967296)∧Hid (wr.ownsRow W.heap.size 67 1 (.slice (some ⟨g,0,none⟩) k cp) k (zBq ms))∧Hid (MadeM w1 wr g 5 l (u8s u))∧Hid (AtTxt (zB8 xs) r u))
 case atStart=>exact⟨xs,n,[],rfl,h8,d3,rfl,HN,HT,HL,HO,MadeM.nil (World.grownBy.refl w1 _) _,AtTxt.start (fun e=>by have h1:=zD0.2 e;rw[HT.out]at h1;have:=HN.out;rw[h1]at this;simp at this;omega)⟩
 case round=>
  obtain⟨ms,k,u,rfl,f9,d5,s,f,a7,Q,R,S,v⟩:=hrel
  by_cases hk:0 < k
  · go_wp2_with fail;obtain⟨G,rfl⟩:∃G,G=gk:=⟨_,rfl⟩;obtain⟨wo,rfl⟩:∃wo,wo=wr:=⟨_,rfl⟩
    go_loopg [5,6] k (fun q rv iv wi=>∃(rr:Nat) (cs:List Nat),rv=.int .u64 rr∧iv=.int .i64 ((q:Int) - 1)∧q≤k∧rr≤9∧Hid (AtDiv ms q rr cs)∧Hid (wi.ownsRow W.heap.size 67 1 (.slice (some ⟨g,0,none⟩) k cp) k (zBq cs))∧Hid (wo.grownBy wi (some g)))
    case atStart=>exact⟨0,ms,rfl,rfl,yAC _,by omega,by rw[←f.out];exact AtDiv.start Q,R,World.grownBy.refl _ _⟩
    case round=>
     obtain⟨rr,cs,rfl,rfl,g0,d6,b,o,T⟩:=hrel
     by_cases g1:0 < gk
     · obtain⟨p,hp⟩:∃p,gk=p+1:=⟨gk - 1,by omega⟩;subst hp;have J:p < ms.length:=by rw[f.out];omega
       have hx:=b.out.get J;have a8:ms[p] < 4294967296:=Q.out _ (List.getElem_mem _);have d7:wr.cell? ⟨g,p,none⟩=some (.int .u32 (ms[p]:Int)):=by
        rw[o.out.cellAt p jo,zLq (by rw[b.out.len];exact J),hx]
       have g3:=o.out.frozenAt p;have L:=zA (b.out.step J);obtain⟨x,a9⟩:=jx (ms[p]);rw[a9]at d7 L a8;obtain⟨t,ht⟩:=jx (rr*4294967296+x);have d8:t < 42949672960:=by omega
       rw[ht]at L;have g4:bits .or .u64 ((rr:Int)*4294967296) (x:Int)=(t:Int):=by
        have:=zaU d6 a8;rw[ht]at this;rw[←this];congr 1
       obtain⟨d,hd⟩:=jx (t / 10);obtain⟨mm,U⟩:=jx (t % 10);have em:(t:Int).tmod 10=(mm:Int):=by rw[←U];rfl
       have g5:(t:Int).tdiv 10=(d:Int):=by rw[←hd];rfl
       have g6:(d:Int)≤4294967295:=by omega
       have d9:mm≤9:=by omega
       rw[hd,U]at L;have ep:((p+1:Nat):Int) - 1=(p:Int):=by omega
       rw[ep];clear hx a9 J ht hd U d8;go_wp2_with fail
       go_roundg p
       case measure=>omega
       case rel=>
        have st:=o.out.stored p (.int .u32 (d:Int));rw[zQf]at st;refine⟨mm,cs.set p d,rfl,rfl,by omega,d9,L,st.1,zC T st.2⟩
     · obtain rfl:gk=0:=by omega
       have e0:=b.out.done;have H:=b.out.len;rw[f.out]at H;have b0:rr=zB8 ms % 10:=by omega
       have b1:zB8 cs=zB8 ms / 10:=by omega
       have V:zB8 ms≠0:=fun e=>by
        have h1:=zD0.2 e;rw[a7.out]at h1;have:=f.out;rw[h1]at this;simp at this;omega
       have Y:=zA (v.out.step (by rw[←s.out];exact V));rw[←s.out]at Y;rw[←b0]at Y;have e2:=zA v.out.len;have g7:(u8s u).length≤78:=by rw[zFT];have:=e2.out;omega
       have b2:=zA (S.out.go d2 T);have e3:some g≠u4.ownBlock:=fun e=>by have:=(b2.out.own.lt g e.symm).1;omega
       have HC:=zA (show u8s [chr (48+rr)]=[.int .u8 (48+(rr:Int))] by
        have:(chr (48+rr)).toNat=48+rr:=zOC jo;simp[u8s,u8v,this])
       have b3:=zA b1;have b4:=zA H;have e4:=zA b.out.lt;have e7:=zA V;clear e0 b0 b1 H V S v b;go_wp2_with (at_builtin;refine zKP rfl _ _ 115 rfl 5 i0 _ 1 underlying115 c7 c8 d0 d1 rfl _ _ rfl b2.out [.int .u8 (48+(rr:Int))] 1 1 rfl rfl rfl jo jo ?_;intro v' w' b5 b6);have a0:=zQg o b6 e3;obtain⟨m,z⟩:=jx ((zAk cs).length);have e8:m≤k:=by have:=zJL cs;rwa[z,b4.out]at this
       have b7:w'.ownsRow W.heap.size 67 1 (.slice (some ⟨g,0,none⟩) m cp) m (zBq (zAk cs)):=by
        have h1:=zLr a0 e8;rw[zJU,←z,←zEK]at h1;rw[←z];exact h1
       have CT:=zA (zFD (xs:=cs) (m:=m) (c:=cp) b4 (Reads.of_own a0) jo d5 d4 z);have f0:=zA b7;have f1:=zA b5;have f2:=zA z;clear a0 b7 b5 b6 z;refine CT.out.mono ?_;rintro e5 w5 ⟨rfl,rfl⟩;go_wp2_with fail
       go_roundg (zB8 (zAk cs))
       case measure=>
        have:=zH7 cs;have h2:=b3.out;have h3:=e7.out;have h4:=s.out;omega
       case rel=>
        refine⟨zAk cs,m,u++[chr (48+rr)],rfl,by omega,by omega,rfl,f2,zNW cs,fun y hy=>e4.out y (zQd hy),f0,f1.out.cells (by rw[←HC.out];simp[u8s]),?_⟩;have:=Y.out;rwa[←b3.out,←zH7 cs]at this
  · have b8:k=0:=by omega
    have b9:ms=[]:=List.eq_nil_of_length_eq_zero (by rw[f.out,b8]);have c0:gk=0:=by rw[←s.out,b9];rfl
    rw[c0]at v;have C:=v.out.done;have a1:0 < u.length:=by
     rcases Nat.eq_zero_or_pos u.length with h | h
     · exfalso;have h1:=congrArg List.length C;rw[List.length_reverse,h]at h1;have h2:0 < (zBZ (zB8 xs)).length:=by
        by_cases c1:zB8 xs < 10
        · rw[zB6 c1];simp
        · rw[zC5 c1];simp
       omega
     · exact h
    have a2:u.length≤78:=by have:=congrArg List.length C;rw[List.length_reverse]at this;omega
    have F:=S.out.own;obtain⟨g2,f3,a3,f6,_⟩:=F.form (by rw[zFT];exact a1);rw[zFT]at a3 F;rw[a3]at F;have M:=zA (P.out.grown S.out.grown P.out.size (fun k hk=>by injection hk with hk;omega));have z0:=(M.out.cell (p:=X) E).trans x0;have z1:=(M.out.cell (p:=⟨X,1,none⟩) E).trans x1;have c2:=zA F;have c6:=zA C;have c3:=zA (O.out.trans (M.out.mono O.out.size));have CN:=zA (CG.out wr M);obtain⟨q,D⟩:=jx u.length;subst a3;have HQ:=zA D;rw[D]at a1 a2 c2;subst b8;rw[D];clear b9 c0 C F s f a7 Q R S v D y0 y1 x0 x1;go_wp2_with fail;refine CN.out.mono ?_;rintro e5 w5 ⟨rfl,a4⟩;have CR:=zA (zTl (zs:=u) HQ jo (zNZ c2 a4));have c4:=zA (c3.out.trans (a4.mono c3.out.size));clear a4;go_wp2_with fail;refine CR.out.mono ?_;rintro e6 w6 ⟨rfl,a5,c5⟩;rw[c6.out]at a5;have hs:=zEo (c:=f3) (Reads.of_own a5);have f4:=zA (show Below w.heap.size w w6 from c4.out.grown c5 c4.out.size (fun k hk=>by injection hk with hk;have:=P.out.size;have:=O.out.size;omega));clear a5 c5;go_wp2_with fail;go_ret;exact⟨rfl,f4⟩
theorem zNb {A:Option Addr} {c:Nat} {w:World} (j:Reads w B 1 A 0 (zBq [])) (hB:B≤w.heap.size):
 Calls prog 49 #[.agg #[false,.slice A 0 c]] w fun e w'=>e=.returned (.string ⟨#[48]⟩)∧Below w.heap.size w w':=by
 obtain⟨W,d⟩:=jx (w.alloc (.cells #[false,.slice A 0 c] 40));have b:Below w.heap.size w W:=jb d;have x0:W.cell? w.heap.size=some (.bool false):=jc d;have x1:W.cell? ⟨w.heap.size,1,none⟩=some (.slice A 0 c):=jc d;have m:=zA (zMJ (xs:=[]) (c:=c) rfl (j.below (b.mono hB)) (yAD hB b.size) js (by rfl));have f:=zA b;obtain⟨X,k⟩:=jx w.heap.size;go_enter func49,ntmps49;go_upto_region 1 with(fail);clear j b d;rw[k]at x0 x1;clear k;go_wp2_with fail;refine m.out.mono ?_;rintro e1 w1 ⟨p,cp,rfl,o,g⟩;have l:=zA (f.out.trans (g.mono f.out.size));clear o g;go_wp2_with fail;go_ret;exact⟨rfl,l⟩
theorem zQh {A:Option Addr} {n c:Nat} {w:World} (j:xs.length=n) (k:Reads w B 1 A n (zBq xs)) (hB:B≤w.heap.size) (o:∀y∈xs,y < 4294967296) (b:zBR false xs=true) (f:(zBZ (zEk xs)).length≤78):
 Calls prog 49 #[.agg #[false,.slice A n c]] w fun e w'=>e=.returned (zBZ (zEk xs))∧Below w.heap.size w w':=by
 rcases Nat.eq_zero_or_pos n with g | g
 · subst g;have d:xs=[]:=List.eq_nil_of_length_eq_zero j;subst d;refine(zNb k hB).mono ?_;rintro e w' ⟨rfl,hb⟩;exact⟨by rw[show zEk []=0 from rfl,zB6 jo];rfl,hb⟩
 · have p:n≤8:=by
    unfold zBR at b;rw[Bool.and_eq_true]at b;have:=of_decide_eq_true b.1;omega
   have l:zAk xs=xs:=by
    unfold zBR at b;rw[Bool.and_eq_true]at b;have m:=b.2;cases d:xs.getLast? with
    | none=>rw[List.getLast?_eq_none_iff]at d;subst d;rfl
    | some x=>
     rw[d]at m;exact zNX d (by simpa using m)
   rw[←zQc]at f⊢;exact zNa j k hB o b g p l f
end Go.Proofs.YtlnbbaehihgigaaGreatDoor
