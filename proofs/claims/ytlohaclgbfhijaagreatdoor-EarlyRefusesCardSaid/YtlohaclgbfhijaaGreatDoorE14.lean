/- Joined for the claim EarlyRoot: the parser, the lexer and the trees as they are walked, made short by a program of mine. -/
import Derived.Test.YtlohaclgbfhijaaGreatDoorE08
import Derived.Test.YtlohaclgbfhijaaGreatDoorE13
import Derived.Deep.RegionHeld3
import Derived.Deep.CutBlock
import Derived.Deep.DeepCutAuto
import Derived.Test.YtlohaclgbfhijaaGreatDoorE02
import Derived.Test.YtlohaclgbfhijaaGreatDoorE01
set_option maxHeartbeats 16000000
set_option maxRecDepth 1000000
namespace Go.Proofs.YtlohaclgbfhijaaGreatDoor
open Go.Proofs.Tryz
open Go.RowKit
structure Pc where
 g:Nat
 L:List Tok
 A:Option Addr
 N:Nat
 c:Nat
 w0:World
def zPB (L:List Tok) (s:Ps):Nat:=if s.bad=0 then 0 else(zL L s.far).pos
structure Pcx (C:Pc):Prop where
 lst:Lst C.L
 n:C.L.length=C.N
 n4:C.N≤4097
 tok:TokL C.w0 0 C.L (.slice C.A C.N C.c)
 lo:C.w0.heap.size≤C.g
def psV (C:Pc) (s:Ps):List Value:=[.slice C.A C.N C.c,.int .i64 (s.k:Int),.int .i64 (s.bad:Int),.int .i64 (zPB C.L s:Int)]
structure Pa (C:Pc) (s:Ps) (w:World):Prop where
 cx:Pcx C
 keep:Below C.w0.heap.size C.w0 w
 box:Bx w C.g 69 (psV C s)
 hi:s.k≤C.L.length - 1
section
variable {C:Pc} {s:Ps} {w w':World} {r:Option Nat}
theorem Pa.lt (h:Pa C s w):C.g < w.heap.size:=h.box.lt
theorem Pa.grown (h:Pa C s w) (hg:w.grownBy w' r) (hr:∀b,r=some b→C.g < b):Pa C s w':=
 ⟨h.cx,h.keep.grown hg h.keep.size (fun b hb=>by have:=hr b hb;have:=h.cx.lo;omega),h.box.grown hg (fun e=>by have:=hr _ e;omega),h.hi⟩
theorem Pa.new (h:Pa C s w) (hg:w.grownBy w' none):Pa C s w':=h.grown hg (fun b hb=>by cases hb)
theorem Pa.alloc (h:Pa C s w) (o:Obj):Pa C s (w.alloc o):=h.new (zG w o none)
theorem Pa.drew (h:Pa C s w):Pa C s w.drew:=h.new (zAk w none)
theorem Pa.c0 (h:Pa C s w):w.cell? ⟨C.g,0,none⟩=some (.slice C.A C.N C.c):=h.box.cell 0
theorem Pa.c1 (h:Pa C s w):w.cell? ⟨C.g,1,none⟩=some (.int .i64 (s.k:Int)):=h.box.cell 1
theorem Pa.c2 (h:Pa C s w):w.cell? ⟨C.g,2,none⟩=some (.int .i64 (s.bad:Int)):=h.box.cell 2
theorem Pa.c3 (h:Pa C s w):w.cell? ⟨C.g,3,none⟩=some (.int .i64 (zPB C.L s:Int)):=h.box.cell 3
theorem Pa.f (h:Pa C s w) (j:Nat):w.frozen? ⟨C.g,j,none⟩=false:=h.box.frozen j
theorem Pa.kN (h:Pa C s w):s.k < C.N:=by
 have:=h.hi;have:=h.cx.lst.pos;have:=h.cx.n;omega
theorem Pa.to (h:Pa C s w) {z:Int} {k':Nat} (hz:z=(k':Int)) (hk:k'≤C.L.length - 1):Pa C {s with k:=k'} (w.setCell ⟨C.g,1,none⟩ (.int .i64 z)):=by
 subst hz;exact⟨h.cx,h.keep.grown (zK w C.g 1 _) h.keep.size (fun b hb=>by injection hb with hb;have:=h.cx.lo;omega),h.box.set 1 _,hk⟩
theorem Pa.at_ (h:Pa C s w) (i:Nat) (hi:i < C.N):∃gT As Am c1 c2,C.A=some ⟨gT,0,none⟩∧gT < C.w0.heap.size∧TokAt w 0 gT i (zL C.L i) As Am c1 c2:=by
 have hn:=h.cx.n;obtain⟨gT,h1,_,h3,h4⟩:=h.cx.tok.at_ (by omega);obtain⟨As,Am,c1,c2,t⟩:=h4 i (by omega);have e:C.L[i]'(by omega)=zL C.L i:=by
  unfold zL;rw[yAG,yAB (by omega)];rfl
 rw[e]at t;have hc:∀(j:Nat) (v:Value),C.w0.cell? ⟨gT,j,none⟩=some v→w.cell? ⟨gT,j,none⟩=some v:=fun j v hv=>(h.keep.cell (p:=⟨gT,j,none⟩) h3).trans hv;exact⟨gT,As,Am,c1,c2,h1,h3,hc _ _ t.k0,hc _ _ t.k1,hc _ _ t.k2,hc _ _ t.k3,hc _ _ t.k4,hc _ _ t.k5,hc _ _ t.k6,hc _ _ t.k7,hc _ _ t.k8,zCH t.str h.keep,zCH t.mag h.keep⟩
def zQz (t:Tok) (As Am:Option Addr) (c1 c2:Nat):Value:=.agg #[.int .i64 (t.kind:Int),.string ⟨t.text.toArray⟩,.slice As t.str.length c1,.int .i64 t.nk,.int .i64 t.nn,.bool false,.slice Am t.mag.length c2,.int .i64 (t.pos:Int),.bool t.nl]
def zP5 (t:Tok) (As Am:Option Addr) (c1 c2:Nat):List Value:=[.int .i64 (t.kind:Int),.string ⟨t.text.toArray⟩,.slice As t.str.length c1,.int .i64 t.nk,.int .i64 t.nn,.bool false,.slice Am t.mag.length c2,.int .i64 (t.pos:Int),.bool t.nl]
def zR3 (C:Pc) (s:Ps) (t:Tok) (w:World) (e:Ending) (w':World):Prop:=
 ∃As Am c1 c2,e=.returned (.agg #[.int .i64 (t.kind:Int),.string ⟨t.text.toArray⟩,.slice As t.str.length c1,.int .i64 t.nk,.int .i64 t.nn,.bool false,.slice Am t.mag.length c2,.int .i64 (t.pos:Int),.bool t.nl])∧
  w'.ownsRow 0 24 1 (.slice As t.str.length c1) t.str.length (zAD t.str)∧w'.ownsRow 0 87 1 (.slice Am t.mag.length c2) t.mag.length (zBm t.mag)∧Pa C s w'∧w.grownBy w' none
def zJW (C:Pc) (s:Ps) (b:Bool) (w:World) (e:Ending) (w':World):Prop:=e=.returned (.bool b)∧Pa C s w'∧w.grownBy w' none
def zRR (C:Pc) (s:Ps) (b:Bool) (w:World) (e:Ending) (w':World):Prop:=e=.returned (.bool b)∧Pa C s w'∧w.grownBy w' (some C.g)
def zQ0 (C:Pc) (s:Ps) (w:World) (e:Ending) (w':World):Prop:=e=.returned (.tuple #[])∧Pa C s w'∧w.grownBy w' (some C.g)
def zRS (C:Pc) (r:List UInt8×Ps) (w:World) (e:Ending) (w':World):Prop:=e=.returned (.string ⟨r.1.toArray⟩)∧Pa C r.2 w'∧w.grownBy w' (some C.g)
def zCP (C:Pc) (r:Tr×Ps) (w:World) (e:Ending) (w':World):Prop:=
 ∃d0 d1 d2 d3 d4 d5 d6 d7 d8,e=.returned (.agg #[d0,d1,d2,d3,d4,d5,d6,d7,d8])∧TrC w' (w.heap.size≤·) r.1 [d0,d1,d2,d3,d4,d5,d6,d7,d8]∧Pa C r.2 w'∧w.grownBy w' (some C.g)
def LstQ (C:Pc) (r:Tr×Ps) (w:World) (e:Ending) (w':World):Prop:=
 ∃A n c,e=.returned (.slice A n c)∧r.1.subs.length=n∧n≤c∧c≤maxLen∧RowP w' (w.heap.size≤·) (.slice A n c) r.1.subs∧Pa C r.2 w'∧w.grownBy w' (some C.g)
theorem zAF (h:w.grownBy w' none) (r:Option Nat):w.grownBy w' r:=⟨h.os,h.tape,h.output,h.size,fun i hi _=>h.block i hi (by simp)⟩
theorem zBP {a:World} {R:Nat} (h:a.grownBy w r) (hR:a.heap.size≤R) (hg:w.grownBy w' (some R)):a.grownBy w' r:=
 ⟨hg.os.trans h.os,hg.tape.trans h.tape,hg.output.trans h.output,yAD h.size hg.size,fun i hi hne=>(hg.block i (yAA hi h.size) (fun e=>by injection e with e;omega)).trans (h.block i hi hne)⟩
theorem zGh {a:World} {v:Value} (h:a.grownBy w r) (hv:∀b,v.ownBlock=some b→a.heap.size≤b) (hg:w.grownBy w' v.ownBlock):a.grownBy w' r:=
 ⟨hg.os.trans h.os,hg.tape.trans h.tape,hg.output.trans h.output,yAD h.size hg.size,fun i hi hne=>(hg.block i (yAA hi h.size) (fun e=>by have:=hv i e.symm;omega)).trans (h.block i hi hne)⟩
end
theorem Tryz.info_pnode:(prog.info? 72).map (fun i=>(i.zero,i.size,i.bytes))=some (some (.agg #[.int .i64 0,.string ⟨#[]⟩,.slice none 0 0,.int .i64 0,.int .i64 0,.bool false,.slice none 0 0,.slice none 0 0,.slice none 0 0]),9,144):=by kernel_rfl
theorem Bx.set9 {w:World} {R:Nat} {T:TypeId} {cs:List Value} {v0 v1 v2 v3 v4 v5 v6 v7 v8:Value} (h:Bx w R T cs) (hl:cs.length=9):Bx (((((((((w.setCell ⟨R,0,none⟩ v0).setCell ⟨R,1,none⟩ v1).setCell ⟨R,2,none⟩ v2).setCell ⟨R,3,none⟩ v3).setCell ⟨R,4,none⟩ v4).setCell ⟨R,5,none⟩ v5).setCell ⟨R,6,none⟩ v6).setCell ⟨R,7,none⟩ v7).setCell ⟨R,8,none⟩ v8) R T [v0,v1,v2,v3,v4,v5,v6,v7,v8]:=by
 have h9:=((((((((h.set 0 v0).set 1 v1).set 2 v2).set 3 v3).set 4 v4).set 5 v5).set 6 v6).set 7 v7).set 8 v8;have e:((((((((cs.set 0 v0).set 1 v1).set 2 v2).set 3 v3).set 4 v4).set 5 v5).set 6 v6).set 7 v7).set 8 v8=[v0,v1,v2,v3,v4,v5,v6,v7,v8]:=by
  match cs,hl with
  | [_,_,_,_,_,_,_,_,_],_=>rfl
 rw[e]at h9;exact h9
theorem Bx.drew {w:World} {R:Nat} {T:TypeId} {cs:List Value} (h:Bx w R T cs):Bx w.drew R T cs:=h
theorem zIR {P:Program} {f:Func} {Q:Ending→World→Prop} {a:Act} {W:World} {F:World→Prop} (h:F W) (k:∀V,F V→bodyPost P f Q .ret a V):bodyPost P f Q .ret a W:=k W h
theorem Bx.nine {w:World} {R:Nat} {T:TypeId} {v0 v1 v2 v3 v4 v5 v6 v7 v8:Value} (h:Bx w R T [v0,v1,v2,v3,v4,v5,v6,v7,v8]):
 w.cell? ⟨R,0,none⟩=some v0∧w.cell? ⟨R,1,none⟩=some v1∧w.cell? ⟨R,2,none⟩=some v2∧w.cell? ⟨R,3,none⟩=some v3∧w.cell? ⟨R,4,none⟩=some v4∧w.cell? ⟨R,5,none⟩=some v5∧w.cell? ⟨R,6,none⟩=some v6∧w.cell? ⟨R,7,none⟩=some v7∧w.cell? ⟨R,8,none⟩=some v8:=
 ⟨h.cell 0,h.cell 1,h.cell 2,h.cell 3,h.cell 4,h.cell 5,h.cell 6,h.cell 7,h.cell 8⟩
theorem Bx.nineF {w:World} {R:Nat} {T:TypeId} {cs:List Value} (h:Bx w R T cs):
 w.frozen? ⟨R,0,none⟩=false∧w.frozen? ⟨R,1,none⟩=false∧w.frozen? ⟨R,2,none⟩=false∧w.frozen? ⟨R,3,none⟩=false∧w.frozen? ⟨R,4,none⟩=false∧w.frozen? ⟨R,5,none⟩=false∧w.frozen? ⟨R,6,none⟩=false∧w.frozen? ⟨R,7,none⟩=false∧w.frozen? ⟨R,8,none⟩=false:=
 ⟨h.frozen 0,h.frozen 1,h.frozen 2,h.frozen 3,h.frozen 4,h.frozen 5,h.frozen 6,h.frozen 7,h.frozen 8⟩
theorem zEc {C:Pc} {s:Ps} {w:World} (h:Pa C s w):
 Calls prog 59 #[.pointer (some ⟨C.g,0,none⟩)] w (zR3 C s (zL C.L s.k) w):=by
 have hkN:=h.kN;obtain⟨W,hW⟩:∃W,w.alloc (.cells zAp.toArray 44)=W:=⟨_,rfl⟩;have hg0:w.grownBy W none:=by rw[←hW];exact zG w _ none
 have hB0:Bx W w.heap.size 44 zAp:=by rw[←hW];exact Bx.new w zAp 44
 have HP:=zA (h.new hg0);have HP0:=zA h;obtain⟨gT,As,Am,c1,c2,hA,hlt,t⟩:=HP.out.at_ s.k hkN;have HT:=zA t;have x0:=HP.out.c0;have x1:=HP.out.c1;rw[hA]at x0;obtain⟨tk,htk⟩:∃tk,zL C.L s.k=tk:=⟨_,rfl⟩;rw[htk]at t HT⊢;obtain⟨y0,y1,y2,y3,y4,y5,y6,y7,y8,_,_⟩:=t;obtain⟨k,hk⟩:∃k,s.k=k:=⟨_,rfl⟩;rw[hk]at x1 y0 y1 y2 y3 y4 y5 y6 y7 y8 hkN;have hlen:C.N≤4097:=h.cx.n4;have HG0:=zA hg0;have HB0:=zA hB0;obtain⟨z0,z1,z2,z3,z4,z5,z6,z7,z8⟩:=hB0.nine;obtain⟨f0,f1,f2,f3,f4,f5,f6,f7,f8⟩:=hB0.nineF;obtain⟨X,hX⟩:∃X,w.heap.size=X:=⟨_,rfl⟩;have HX:=zA hX;unfold zAp at hW;clear htk hA h hg0 hB0;go_enter func59,ntmps59;go_upto_region 1 with(fail);clear hW;rw[hX]at z0 z1 z2 z3 z4 z5 z6 z7 z8 f0 f1 f2 f3 f4 f5 f6 f7 f8 HB0;clear hX;go_region
 all_goals go_wp2_with fail
 all_goals
  refine zIR (F:=fun V=>Bx V X 44 (zP5 tk As Am c1 c2)∧W.grownBy V (some X)) ⟨(HB0.out.set9 rfl).drew,zC zA6 (zAk _ _)⟩ ?_;rintro V ⟨hb,hg⟩;obtain⟨q0,q1,q2,q3,q4,q5,q6,q7,q8⟩:=hb.nine;refine bodyPost_ret (v:=zQz tk As Am c1 c2) (by simp[results,results59,go_sem,q0,q1,q2,q3,q4,q5,q6,q7,q8,zQz]) rfl ?_;have hz:Fz W (fun _=>False) (some X):=.box HB0.out (by decide) (by decide) (by simp);have hXg:C.g < X:=by rw[←HX.out];exact HP0.out.lt
  refine⟨As,Am,c1,c2,rfl,zBO HT.out.str (.inl rfl) hg hz,zBO HT.out.mag (.inr rfl) hg hz,HP.out.grown hg (fun b e=>by injection e with e;omega),?_⟩;exact zBP HG0.out (by rw[←HX.out];exact yAC _) hg
theorem zHb (n k:Nat):((n:Int)==(k:Int))=(n==k):=by
 rw[Bool.eq_iff_iff,beq_iff_eq,beq_iff_eq];omega
def zRT (C:Pc) (s:Ps) (kd:Nat) (tx:List UInt8) (st:List UInt16) (nk nn:Int) (mg:List Nat) (ps:Nat) (nl:Bool) (w:World) (e:Ending) (w':World):Prop:=
 ∃As Am c1 c2,e=.returned (.agg #[.int .i64 (kd:Int),.string ⟨tx.toArray⟩,.slice As st.length c1,.int .i64 nk,.int .i64 nn,.bool false,.slice Am mg.length c2,.int .i64 (ps:Int),.bool nl])∧
  w'.ownsRow 0 24 1 (.slice As st.length c1) st.length (zAD st)∧w'.ownsRow 0 87 1 (.slice Am mg.length c2) mg.length (zBm mg)∧Pa C s w'∧w.grownBy w' none
theorem zf {C:Pc} {s:Ps} {w:World} (h:Pa C s w) {kd:Nat} {tx:List UInt8} {st:List UInt16} {nk nn:Int} {mg:List Nat} {ps:Nat} {nl:Bool} (ht:zL C.L s.k=⟨kd,tx,st,nk,nn,mg,ps,nl⟩):
 Calls prog 59 #[.pointer (some ⟨C.g,0,none⟩)] w (zRT C s kd tx st nk nn mg ps nl w):=by
 have h1:=zEc h;rw[ht]at h1;exact h1
theorem zRU (c0 c1 c2 c3 c4 c5 c6 c7 c8:Value) (w:World):(Instr.field 44 (.agg #[c0,c1,c2,c3,c4,c5,c6,c7,c8]) 0).run prog w=.ok c0 w:=by
 unfold Instr.field
 go_simp
 simp[asAgg]
theorem zR4 (c0 c1 c2 c3 c4 c5 c6 c7 c8:Value) (w:World):(Instr.field 44 (.agg #[c0,c1,c2,c3,c4,c5,c6,c7,c8]) 1).run prog w=.ok c1 w:=by
 unfold Instr.field
 go_simp
 simp[asAgg]
theorem zR5 (c0 c1 c2 c3 c4 c5 c6 c7 c8:Value) (w:World):(Instr.field 44 (.agg #[c0,c1,c2,c3,c4,c5,c6,c7,c8]) 5).run prog w=.ok c7 w:=by
 unfold Instr.field
 go_simp
 simp[asAgg]
theorem zJX (c0 c1 c2 c3 c4 c5 c6 c7 c8:Value) (w:World):(Instr.field 44 (.agg #[c0,c1,c2,c3,c4,c5,c6,c7,c8]) 6).run prog w=.ok c8 w:=by
 unfold Instr.field
 go_simp
 simp[asAgg]
theorem zPC {t:Tok} {As Am:Option Addr} {c1 c2:Nat} {W:World} (w:List UInt8) {b:Bool} (hb:isT t w=b):
 Calls prog 92 #[.agg #[.int .i64 (t.kind:Int),.string ⟨t.text.toArray⟩,.slice As t.str.length c1,.int .i64 t.nk,.int .i64 t.nn,.bool false,.slice Am t.mag.length c2,.int .i64 (t.pos:Int),.bool t.nl],.string ⟨w.toArray⟩] W fun e w'=>e=.returned (.bool b)∧W.grownBy w' none:=by
 go_enter func92,ntmps92;go_wp2_with fail
 all_goals go_ret
 all_goals refine⟨?_,zG _ _ _⟩
 all_goals refine zD ?_
 all_goals rw[←hb]
 all_goals unfold isT
 · have h5:t.kind=5:=by omega
   simp[*]
 · rename_i h1 h2
   have e5:((t.kind:Int)==5)=(t.kind==5):=zHb t.kind 5;have e6:((t.kind:Int)==6)=(t.kind==6):=zHb t.kind 6;rw[h1,e5,e6];simp
 · simp[*]
theorem zB7 {kd:Nat} {tx:List UInt8} {st:List UInt16} {nk nn:Int} {mg:List Nat} {ps:Nat} {nl:Bool} {As Am:Option Addr} {c1 c2:Nat} {W:World} (w:List UInt8) {b:Bool} (hb:isT ⟨kd,tx,st,nk,nn,mg,ps,nl⟩ w=b):
 Calls prog 92 #[.agg #[.int .i64 (kd:Int),.string ⟨tx.toArray⟩,.slice As st.length c1,.int .i64 nk,.int .i64 nn,.bool false,.slice Am mg.length c2,.int .i64 (ps:Int),.bool nl],.string ⟨w.toArray⟩] W fun e w'=>e=.returned (.bool b)∧W.grownBy w' none:=zPC (t:=⟨kd,tx,st,nk,nn,mg,ps,nl⟩) w hb
theorem zA3 {C:Pc} {s:Ps} {w:World} (h:Pa C s w) {b:Bool} (hb:(s.bad==0)=b):
 Calls prog 141 #[.pointer (some ⟨C.g,0,none⟩)] w (zJW C s b w):=by
 have x2:=h.c2;have HP:=zA h;clear h;go_enter func141,ntmps141;go_wp2_with fail;go_ret;refine⟨zD ?_,HP.out,World.grownBy.refl _ _⟩;rw[←hb];exact zHb s.bad 0
theorem zAL {C:Pc} {s:Ps} {w:World} (h:Pa C s w) (v:List UInt8) {b:Bool} (hb:onP C.L v s=b):
 Calls prog 143 #[.pointer (some ⟨C.g,0,none⟩),.string ⟨v.toArray⟩] w (zJW C s b w):=by
 have HP:=zA h;have HB:=zA hb;clear h hb;go_enter func143,ntmps143;go_wp2_with fail;refine(zEc HP.out).mono ?_;rintro e1 w1 ⟨As,Am,c1,c2,rfl,_,_,hp1,hg1⟩;have HP1:=zA hp1;have HG1:=zA hg1;clear hp1 hg1;go_wp2_with fail;refine(zPC v HB.out).mono ?_;rintro e2 w2 ⟨rfl,hg2⟩;have HG2:=zA hg2;clear hg2;go_wp2_with fail;go_ret;exact⟨rfl,HP1.out.new HG2.out,zC HG1.out HG2.out⟩
theorem Pa.last {C:Pc} {s:Ps} {w:World} (h:Pa C s w):((C.N:Int) - 1)=((C.L.length - 1:Nat):Int):=by
 have:=h.cx.n;have:=h.cx.lst.pos;omega
theorem Pa.sets {C:Pc} {s s':Ps} {w w':World} (h:Pa C s w) (hg:w.grownBy w' (some C.g)) (hb:Bx w' C.g 69 (psV C s')) (hk:s'.k≤C.L.length - 1):Pa C s' w':=
 ⟨h.cx,h.keep.grown hg h.keep.size (fun b e=>by injection e with e;have:=h.cx.lo;omega),hb,hk⟩
theorem Pa.fail0 {C:Pc} {s:Ps} {w:World} {e:Nat} (h:Pa C s w) (hb:s.bad=0) (he:e≠0) (hl:((C.N:Int) - 1)=((C.L.length - 1:Nat):Int)):Pa C (zBw C.L e s) (((w.setCell ⟨C.g,2,none⟩ (.int .i64 (e:Int))).setCell ⟨C.g,3,none⟩ (.int .i64 ((zL C.L s.k).pos:Int))).setCell ⟨C.g,1,none⟩ (.int .i64 ((C.N:Int) - 1))):=by
 refine h.sets (zC (zC (zK _ _ _ _) (zK _ _ _ _)) (zK _ _ _ _)) ?_ (yAC _);have:=((h.box.set 2 (.int .i64 (e:Int))).set 3 (.int .i64 ((zL C.L s.k).pos:Int))).set 1 (.int .i64 ((C.N:Int) - 1));have e1:psV C (zBw C.L e s)=(((psV C s).set 2 (.int .i64 (e:Int))).set 3 (.int .i64 ((zL C.L s.k).pos:Int))).set 1 (.int .i64 ((C.N:Int) - 1)):=by
  unfold psV zBw zPB;simp[hb,he,hl]
 rw[e1];exact this
theorem Pa.fail1 {C:Pc} {s:Ps} {w:World} {e:Nat} (h:Pa C s w) (hb:¬s.bad=0) (hl:((C.N:Int) - 1)=((C.L.length - 1:Nat):Int)):Pa C (zBw C.L e s) (w.setCell ⟨C.g,1,none⟩ (.int .i64 ((C.N:Int) - 1))):=by
 refine h.sets (zK _ _ _ _) ?_ (yAC _);have:=h.box.set 1 (.int .i64 ((C.N:Int) - 1));have e1:psV C (zBw C.L e s)=(psV C s).set 1 (.int .i64 ((C.N:Int) - 1)):=by
  unfold psV zBw zPB;simp[hb,hl]
 rw[e1];exact this
theorem zBq {C:Pc} {s:Ps} {w:World} (h:Pa C s w) (e:Nat) (he:e≠0):
 Calls prog 177 #[.pointer (some ⟨C.g,0,none⟩),.int .i64 (e:Int)] w (zQ0 C (zBw C.L e s) w):=by
 have x2:=h.c2;have x0:=h.c0;have x1:=h.c1;have f1:=h.f 1;have hlen:C.N≤4097:=h.cx.n4;have hl:=zA h.last;have HP:=zA h
 by_cases hb:s.bad=0
 · have e1:((s.bad:Int)==0)=true:=by rw[hb];rfl
   clear x0 x1 f1 h;have HB:=zA hb;clear hb;go_enter func177,ntmps177;go_wp2_with fail;refine(zEc HP.out).mono ?_;rintro e1 w1 ⟨As,Am,c1,c2,rfl,_,_,hp1,hg1⟩;have HP1:=zA hp1;have HG1:=zA hg1;have y0:=hp1.c0;have y1:=hp1.c1;have y2:=hp1.c2;have y3:=hp1.c3;have g1:=hp1.f 1;have g2:=hp1.f 2;have g3:=hp1.f 3;clear hp1 hg1 x2;have hf:=zR5;go_wp2_with fail
   go_end0
   exact⟨rfl,HP1.out.fail0 HB.out he hl.out,zC (zAF HG1.out _) (zC (zC (zK _ _ _ _) (zK _ _ _ _)) (zK _ _ _ _))⟩
 · have e1:((s.bad:Int)==0)=false:=by rw[yA];omega
   go_enter func177,ntmps177;go_wp2_with fail
   go_end0
   exact⟨rfl,HP.out.fail1 hb hl.out,zK _ _ _ _⟩
theorem Pa.stepI {C:Pc} {s:Ps} {w:World} (h:Pa C s w) (hk:s.k < C.L.length - 1) {z:Int} (hz:z=(s.k:Int)+1):Pa C (zB s) (w.setCell ⟨C.g,1,none⟩ (.int .i64 z)):=
 h.to (k':=s.k+1) (by omega) hk
theorem zu {C:Pc} {s:Ps} {w:World} (h:Pa C s w):
 Calls prog 142 #[.pointer (some ⟨C.g,0,none⟩)] w (zQ0 C (zY C.L s) w):=by
 have HP:=zA h;clear h;go_enter func142,ntmps142;go_wp2_with fail;refine(zEc HP.out).mono ?_;rintro e1 w1 ⟨As,Am,c1,c2,rfl,_,_,hp1,hg1⟩;have HP1:=zA hp1;have HG1:=zA hg1;clear hp1 hg1
 by_cases hk:(zL C.L s.k).kind=6
 · have e6:(((zL C.L s.k).kind:Int)==6)=true:=by rw[hk];rfl
   by_cases hw:zBf (zL C.L s.k).text=2
   · have e2:((zBf (zL C.L s.k).text:Int)==2)=true:=by rw[hw];rfl
     have HQ:=zA (show zY C.L s=zBw C.L 6 s by unfold zY;rw[if_pos ⟨hk,hw⟩]);clear hk hw;go_wp2_with (go_at_call 103;refine(zCI _ _).mono ?_;rintro e3 w3 ⟨rfl,rfl⟩);refine(zBq (HP1.out.alloc _) 6 (by decide)).mono ?_;rintro e2 w2 ⟨rfl,hp2,hg2⟩;have HP2:=zA hp2;have HG2:=zA hg2;clear hp2 hg2;go_wp2_with fail;refine bodyPost_ret (v:=.tuple #[]) (by simp[results,results142,go_sem]) rfl ?_;rw[HQ.out];exact⟨rfl,HP2.out,zC (zAF HG1.out _) (zC (zG _ _ _) HG2.out)⟩
   · have e2:((zBf (zL C.L s.k).text:Int)==2)=false:=by rw[yA];omega
     have HQ:=zA (show zY C.L s=zBw C.L 5 s by unfold zY;rw[if_neg (fun h=>hw h.2)]);clear hk hw;go_wp2_with (go_at_call 103;refine(zCI _ _).mono ?_;rintro e3 w3 ⟨rfl,rfl⟩);refine(zBq (HP1.out.alloc _) 5 (by decide)).mono ?_;rintro e2 w2 ⟨rfl,hp2,hg2⟩;have HP2:=zA hp2;have HG2:=zA hg2;clear hp2 hg2;go_wp2_with fail
     go_end0
     rw[HQ.out];exact⟨rfl,HP2.out,zC (zAF HG1.out _) (zC (zG _ _ _) HG2.out)⟩
 · have e6:(((zL C.L s.k).kind:Int)==6)=false:=by rw[yA];omega
   have HQ:=zA (show zY C.L s=zBw C.L 5 s by unfold zY;rw[if_neg (fun h=>hk h.1)]);clear hk;go_wp2_with fail;refine(zBq (HP1.out.alloc _) 5 (by decide)).mono ?_;rintro e2 w2 ⟨rfl,hp2,hg2⟩;have HP2:=zA hp2;have HG2:=zA hg2;clear hp2 hg2;go_wp2_with fail
   go_end0
   rw[HQ.out];exact⟨rfl,HP2.out,zC (zAF HG1.out _) (zC (zG _ _ _) HG2.out)⟩
def zRh (b:Bool) (s:Ps):Ps:=if b=true then zB s else s
theorem zAV {C:Pc} {s:Ps} {w:World} (h:Pa C s w) (v:List UInt8) {b:Bool} (hb:onP C.L v s=b):
 Calls prog 95 #[.pointer (some ⟨C.g,0,none⟩),.string ⟨v.toArray⟩] w (zRR C (zRh b s) b w):=by
 have HP:=zA h;have HB:=zA hb;have hlen:C.N≤4097:=h.cx.n4;have hkN:=h.kN;clear h hb;go_enter func95,ntmps95;go_wp2_with fail;refine(zAL HP.out v HB.out).mono ?_;rintro e1 w1 ⟨rfl,hp1,hg1⟩;have HP1:=zA hp1;have HG1:=zA hg1;have x1:=hp1.c1;have f1:=hp1.f 1;clear hp1 hg1;cases b with
 | false=>
  go_wp2_with fail;go_ret;exact⟨rfl,HP1.out,zAF HG1.out _⟩
 | true=>
  go_wp2_with fail;go_ret;exact⟨rfl,HP1.out.stepI (HP1.out.cx.lst.on HP1.out.hi HB.out) (by omega),zC (zAF HG1.out _) (zK _ _ _ _)⟩
theorem zr {C:Pc} {s:Ps} {w:World} (h:Pa C s w) (v:List UInt8):
 Calls prog 138 #[.pointer (some ⟨C.g,0,none⟩),.string ⟨v.toArray⟩] w (zQ0 C (zN C.L v s) w):=by
 have HP:=zA h;clear h
 by_cases hb:onP C.L v s=true
 · have HQ:=zA (show zN C.L v s=zB s by unfold zN;rw[if_pos hb]);have HB:=zA hb;clear hb;go_enter func138,ntmps138;go_wp2_with fail;refine(zAV HP.out v HB.out).mono ?_;rintro e1 w1 ⟨rfl,hp1,hg1⟩;have HP1:=zA hp1;have HG1:=zA hg1;clear hp1 hg1;go_wp2_with fail
   go_end0
   rw[HQ.out];exact⟨rfl,HP1.out,HG1.out⟩
 · have HQ:=zA (show zN C.L v s=zY C.L s by unfold zN;rw[if_neg hb]);have HB:=zA (show onP C.L v s=false by simpa using hb);clear hb;go_enter func138,ntmps138;go_wp2_with fail;refine(zAV HP.out v HB.out).mono ?_;rintro e1 w1 ⟨rfl,hp1,hg1⟩;have HP1:=zA (show Pa C s w1 from hp1);have HG1:=zA hg1;clear hp1 hg1;go_wp2_with fail;refine(zu HP1.out).mono ?_;rintro e2 w2 ⟨rfl,hp2,hg2⟩;have HP2:=zA hp2;have HG2:=zA hg2;clear hp2 hg2;go_wp2_with fail
   go_end0
   rw[HQ.out];exact⟨rfl,HP2.out,zC HG1.out HG2.out⟩
theorem zCa {C:Pc} {s:Ps} {w:World} (h:Pa C s w):
 Calls prog 96 #[.pointer (some ⟨C.g,0,none⟩)] w (zRS C (zd C.L s) w):=by
 have HP:=zA h;have hlen:C.N≤4097:=h.cx.n4;have hkN:=h.kN;clear h;go_enter func96,ntmps96;go_wp2_with fail;refine(zEc HP.out).mono ?_;rintro e1 w1 ⟨As,Am,c1,c2,rfl,_,_,hp1,hg1⟩;have HG1:=zA (zAF hg1 (some C.g))
 by_cases hk:(zL C.L s.k).kind=1
 · have e6:(((zL C.L s.k).kind:Int) !=1)=false:=by rw[hk];rfl
   have HQ:=zA (show zd C.L s=((zL C.L s.k).text,zB s) by unfold zd;rw[if_pos hk]);have HK:=zA (hp1.cx.lst.lt hp1.hi (by omega));obtain⟨W,hW⟩:∃W,w1.alloc (.cells #[.int .i64 ((zL C.L s.k).kind:Int),.string ⟨(zL C.L s.k).text.toArray⟩,.slice As (zL C.L s.k).str.length c1,.int .i64 (zL C.L s.k).nk,.int .i64 (zL C.L s.k).nn,.bool false,.slice Am (zL C.L s.k).mag.length c2,.int .i64 ((zL C.L s.k).pos:Int),.bool (zL C.L s.k).nl] 44)=W:=⟨_,rfl⟩;have hgW:w1.grownBy W none:=by rw[←hW];exact zG _ _ _
   have HBW:=zA (show Bx W w1.heap.size 44 (zP5 (zL C.L s.k) As Am c1 c2) by rw[←hW];exact Bx.new w1 (zP5 (zL C.L s.k) As Am c1 c2) 44);have HPW:=zA (hp1.new hgW);have HGW:=zA (zAF hgW (some C.g));have x1:=HPW.out.c1;have f1:=HPW.out.f 1;obtain⟨z0,z1,z2,z3,z4,z5,z6,z7,z8⟩:=HBW.out.nine;have hlt:=hp1.lt;clear hk hp1 hg1 hgW;go_wp2_with fail;go_ret;rw[HQ.out];exact⟨rfl,HPW.out.stepI HK.out (by omega),zC HG1.out (zC HGW.out (zK _ _ _ _))⟩
 · have e6:(((zL C.L s.k).kind:Int) !=1)=true:=by rw[bne_iff_ne];omega
   have HQ:=zA (show zd C.L s=([],zY C.L s) by unfold zd;rw[if_neg hk]);have HP1:=zA hp1;clear hk hp1 hg1;go_wp2_with fail;refine(zu (HP1.out.alloc _)).mono ?_;rintro e2 w2 ⟨rfl,hp2,hg2⟩;have HP2:=zA hp2;have HG2:=zA hg2;clear hp2 hg2;go_wp2_with fail;go_ret;rw[HQ.out];exact⟨rfl,HP2.out,zC HG1.out (zC (zG _ _ _) HG2.out)⟩
theorem zCQ {L:List Tok} {s:Ps} {t:Tok} {v:List UInt8} (h:zL L s.k=t):onP L v s=isT t v:=by unfold onP;rw[h]
theorem zBJ {C:Pc} {s:Ps} {w:World} (h:Pa C s w):
 Calls prog 94 #[.pointer (some ⟨C.g,0,none⟩)] w (zQ0 C (zC9 C.L s) w):=by
 have HP:=zA h;obtain⟨⟨kd,tx,st,nk,nn,mg,ps,nl⟩,htk⟩:∃tk,zL C.L s.k=tk:=⟨_,rfl⟩;have HT:=zA htk;obtain⟨b0,hb0⟩:∃b,onP C.L [59] s=b:=⟨_,rfl⟩;obtain⟨b1,hb1⟩:∃b,isT ⟨kd,tx,st,nk,nn,mg,ps,nl⟩ [125]=b:=⟨_,rfl⟩;have HQ:=zA (show zC9 C.L s=if b0=true then zB s else if(b1 || kd==0 || nl)=true then s else zY C.L s by unfold zC9;rw[hb0,zCQ htk,htk,hb1]);have HB0:=zA hb0;have HB1:=zA hb1;clear h hb0 hb1 htk;go_enter func94,ntmps94;go_upto_region 1 with(fail);refine(zf HP.out HT.out).mono ?_;rintro e1 w1 ⟨As,Am,c1,c2,rfl,hs1,hm1,hp1,hg1⟩;obtain⟨W,hW⟩:∃W,w1.alloc (.cells #[.int .i64 (kd:Int),.string ⟨tx.toArray⟩,.slice As st.length c1,.int .i64 nk,.int .i64 nn,.bool false,.slice Am mg.length c2,.int .i64 (ps:Int),.bool nl] 44)=W:=⟨_,rfl⟩;have hgW:w1.grownBy W none:=by rw[←hW];exact zG _ _ _
 have HBW:=zA (show Bx W w1.heap.size 44 [.int .i64 (kd:Int),.string ⟨tx.toArray⟩,.slice As st.length c1,.int .i64 nk,.int .i64 nn,.bool false,.slice Am mg.length c2,.int .i64 (ps:Int),.bool nl] by rw[←hW];exact Bx.new w1 [.int .i64 (kd:Int),.string ⟨tx.toArray⟩,.slice As st.length c1,.int .i64 nk,.int .i64 nn,.bool false,.slice Am mg.length c2,.int .i64 (ps:Int),.bool nl] 44);have HPW:=zA (hp1.new hgW);have HGW:=zA (zC hg1 hgW);obtain⟨X,hX⟩:∃X,w1.heap.size=X:=⟨_,rfl⟩;have hXg:C.g < X:=by rw[←hX];exact hp1.lt
 rw[hX]at HBW;clear hs1 hm1 hp1 hg1 hgW;go_upto_region 1 with(fail);clear hW
 (try rw[hX])
 clear hX;go_wp2_with fail;refine(zAV HPW.out [59] HB0.out).mono ?_;rintro e2 w2 ⟨rfl,hp2,hg2⟩;have HP2:=zA hp2;have HG2:=zA (zC (zAF HGW.out (some C.g)) hg2);have HB2:=zA (HBW.out.grown hg2 (by simp;omega));clear hp2 hg2 HBW;obtain⟨z0,z1,z2,z3,z4,z5,z6,z7,z8⟩:=HB2.out.nine;cases b0 with
 | true=>
  go_wp2_with fail;refine bodyPost_ret (v:=.tuple #[]) (by simp[results,results94,go_sem]) rfl ?_;rw[HQ.out];exact⟨rfl,HP2.out,HG2.out⟩
 | false=>
  go_wp2_with fail;refine(zB7 [125] HB1.out).mono ?_;rintro e3 w3 ⟨rfl,hg3⟩;have HP3:=zA (HP2.out.new hg3);have HG3:=zA (zC HG2.out (zAF hg3 _));have HB3:=zA (HB2.out.grown hg3 (by simp));clear hg3 HB2 z0 z1 z2 z3 z4 z5 z6 z7 z8;obtain⟨z0,z1,z2,z3,z4,z5,z6,z7,z8⟩:=HB3.out.nine;cases b1 with
  | true=>
   go_wp2_with fail;refine bodyPost_ret (v:=.tuple #[]) (by simp[results,results94,go_sem]) rfl ?_;rw[HQ.out];exact⟨rfl,HP3.out,HG3.out⟩
  | false=>
   by_cases hk:kd=0
   · subst hk;go_wp2_with fail;refine bodyPost_ret (v:=.tuple #[]) (by simp[results,results94,go_sem]) rfl ?_;rw[HQ.out];exact⟨rfl,HP3.out,HG3.out⟩
   · have e0:((kd:Int)==0)=false:=by rw[yA];omega
     have E0:=zA (show(kd==0)=false by rw[yA];omega);clear hk;cases nl with
     | true=>
      go_wp2_with fail;refine bodyPost_ret (v:=.tuple #[]) (by simp[results,results94,go_sem]) rfl ?_;rw[HQ.out,E0.out];exact⟨rfl,HP3.out,HG3.out⟩
     | false=>
      go_wp2_with fail;refine(zu HP3.out).mono ?_;rintro e4 w4 ⟨rfl,hp4,hg4⟩;have HP4:=zA hp4;have HG4:=zA (zC HG3.out hg4);clear hp4 hg4;go_wp2_with fail
      go_end0
      rw[HQ.out,E0.out];exact⟨rfl,HP4.out,HG4.out⟩
theorem zGi {C:Pc} {s:Ps} {w:World} (h:Pa C s w) {b:Bool} (hb:zEN C.L s=b):
 Calls prog 181 #[.pointer (some ⟨C.g,0,none⟩)] w (zJW C s b w):=by
 have HP:=zA h;obtain⟨⟨kd,tx,st,nk,nn,mg,ps,nl⟩,htk⟩:∃tk,zL C.L s.k=tk:=⟨_,rfl⟩;have HT:=zA htk;obtain⟨b0,hb0⟩:∃b,isT ⟨kd,tx,st,nk,nn,mg,ps,nl⟩ [59]=b:=⟨_,rfl⟩;obtain⟨b1,hb1⟩:∃b,isT ⟨kd,tx,st,nk,nn,mg,ps,nl⟩ [125]=b:=⟨_,rfl⟩;have HQ:=zA (show b=(nl || kd==0 || b0 || b1) by rw[←hb];unfold zEN;rw[zCQ htk,zCQ htk,htk,hb0,hb1]);have HB0:=zA hb0;have HB1:=zA hb1;clear h hb0 hb1 htk hb;go_enter func181,ntmps181;go_upto_region 2 with(fail);refine(zf HP.out HT.out).mono ?_;rintro e1 w1 ⟨As,Am,c1,c2,rfl,hs1,hm1,hp1,hg1⟩;obtain⟨W,hW⟩:∃W,w1.alloc (.cells #[.int .i64 (kd:Int),.string ⟨tx.toArray⟩,.slice As st.length c1,.int .i64 nk,.int .i64 nn,.bool false,.slice Am mg.length c2,.int .i64 (ps:Int),.bool nl] 44)=W:=⟨_,rfl⟩;have hgW:w1.grownBy W none:=by rw[←hW];exact zG _ _ _
 have HBW:=zA (show Bx W w1.heap.size 44 [.int .i64 (kd:Int),.string ⟨tx.toArray⟩,.slice As st.length c1,.int .i64 nk,.int .i64 nn,.bool false,.slice Am mg.length c2,.int .i64 (ps:Int),.bool nl] by rw[←hW];exact Bx.new w1 [.int .i64 (kd:Int),.string ⟨tx.toArray⟩,.slice As st.length c1,.int .i64 nk,.int .i64 nn,.bool false,.slice Am mg.length c2,.int .i64 (ps:Int),.bool nl] 44);have HPW:=zA (hp1.new hgW);have HGW:=zA (zC hg1 hgW);obtain⟨X,hX⟩:∃X,w1.heap.size=X:=⟨_,rfl⟩;have hXg:C.g < X:=by rw[←hX];exact hp1.lt
 rw[hX]at HBW;clear hs1 hm1 hp1 hg1 hgW;go_upto_region 2 with(fail);clear hW
 (try rw[hX])
 clear hX;obtain⟨z0,z1,z2,z3,z4,z5,z6,z7,z8⟩:=HBW.out.nine;cases nl with
 | true=>
  go_wp2_with fail;go_ret;exact⟨zD (by rw[HQ.out];rfl),HPW.out,HGW.out⟩
 | false=>
  by_cases hk:kd=0
  · subst hk;go_wp2_with fail;go_ret;exact⟨zD (by rw[HQ.out];rfl),HPW.out,HGW.out⟩
  · have e0:((kd:Int)==0)=false:=by rw[yA];omega
    have E0:=zA (show(kd==0)=false by rw[yA];omega);clear hk;go_wp2_with fail;refine(zB7 [59] HB0.out).mono ?_;rintro e3 w3 ⟨rfl,hg3⟩;have HP3:=zA (HPW.out.new hg3);have HG3:=zA (zC HGW.out hg3);have HB3:=zA (HBW.out.grown hg3 (by simp));clear hg3 HBW z0 z1 z2 z3 z4 z5 z6 z7 z8;obtain⟨z0,z1,z2,z3,z4,z5,z6,z7,z8⟩:=HB3.out.nine;cases b0 with
    | true=>
     go_wp2_with fail;go_ret;exact⟨zD (by rw[HQ.out,E0.out];rfl),HP3.out,HG3.out⟩
    | false=>
     go_wp2_with fail;refine(zB7 [125] HB1.out).mono ?_;rintro e4 w4 ⟨rfl,hg4⟩;have HP4:=zA (HP3.out.new hg4);have HG4:=zA (zC HG3.out hg4);clear hg4;go_wp2_with fail;go_ret;exact⟨zD (by rw[HQ.out,E0.out];rfl),HP4.out,HG4.out⟩
theorem zAS {w:World} (k:Int) (A:Option Addr) (n c:Nat):
 Calls prog 58 #[.int .i64 k,.slice A n c] w fun e w'=>e=.returned (.agg #[.int .i64 k,.string ⟨#[]⟩,.slice none 0 0,.int .i64 0,.int .i64 0,.bool false,.slice none 0 0,.slice none 0 0,.slice A n c])∧w.grownBy w' none:=by
 go_enter func58,ntmps58;obtain⟨q0,q1,q2,q3,q4,q5,q6,q7,q8⟩:=(Bx.new w [.int .i64 k,.string ⟨#[]⟩,.slice none 0 0,.int .i64 0,.int .i64 0,.bool false,.slice none 0 0,.slice none 0 0,.slice A n c] 72).nine;go_wp2_with fail;refine bodyPost_ret (v:=.agg #[.int .i64 k,.string ⟨#[]⟩,.slice none 0 0,.int .i64 0,.int .i64 0,.bool false,.slice none 0 0,.slice none 0 0,.slice A n c]) (by simp[results,results58,go_sem,q0,q1,q2,q3,q4,q5,q6,q7,q8]) rfl ?_;exact⟨rfl,zG _ _ _⟩
theorem zBz {w:World} (k:Int) (nb:ByteArray) (A:Option Addr) (n c:Nat):
 Calls prog 139 #[.int .i64 k,.string nb,.slice A n c] w fun e w'=>e=.returned (.agg #[.int .i64 k,.string nb,.slice none 0 0,.int .i64 0,.int .i64 0,.bool false,.slice none 0 0,.slice none 0 0,.slice A n c])∧w.grownBy w' none:=by
 go_enter func139,ntmps139;obtain⟨q0,q1,q2,q3,q4,q5,q6,q7,q8⟩:=(Bx.new w [.int .i64 k,.string nb,.slice none 0 0,.int .i64 0,.int .i64 0,.bool false,.slice none 0 0,.slice none 0 0,.slice A n c] 72).nine;go_wp2_with fail;refine bodyPost_ret (v:=.agg #[.int .i64 k,.string nb,.slice none 0 0,.int .i64 0,.int .i64 0,.bool false,.slice none 0 0,.slice none 0 0,.slice A n c]) (by simp[results,results139,go_sem,q0,q1,q2,q3,q4,q5,q6,q7,q8]) rfl ?_;exact⟨rfl,zG _ _ _⟩
theorem zAa {C:Pc} {s:Ps} {w:World} (h:Pa C s w) (j:Nat) (jz:Int) (hj:jz=(j:Int)) (hjl:j≤10000) {kd:Nat} {tx:List UInt8} {st:List UInt16} {nk nn:Int} {mg:List Nat} {ps:Nat} {nl:Bool} (ht:zL C.L (min (s.k+j) (C.N - 1))=⟨kd,tx,st,nk,nn,mg,ps,nl⟩):
 Calls prog 146 #[.pointer (some ⟨C.g,0,none⟩),.int .i64 jz] w (zRT C s kd tx st nk nn mg ps nl w):=by
 have hkN:=h.kN;have hlen:C.N≤4097:=h.cx.n4;obtain⟨i,hi⟩:∃i,min (s.k+j) (C.N - 1)=i:=⟨_,rfl⟩;rw[hi]at ht;have hiN:i < C.N:=by omega
 obtain⟨W,hW⟩:∃W,w.alloc (.cells zAp.toArray 44)=W:=⟨_,rfl⟩;have hg0:w.grownBy W none:=by rw[←hW];exact zG w _ none
 have hB0:Bx W w.heap.size 44 zAp:=by rw[←hW];exact Bx.new w zAp 44
 have HP0:=zA h;have HP:=zA (h.new hg0);obtain⟨gT,As,Am,c1,c2,hA,hlt,t⟩:=HP.out.at_ i hiN;have x0:=HP.out.c0;have x1:=HP.out.c1;rw[hA]at x0;rw[ht]at t;have HT:=zA t;obtain⟨y0,y1,y2,y3,y4,y5,y6,y7,y8,_,_⟩:=t;obtain⟨k,hk⟩:∃k,s.k=k:=⟨_,rfl⟩;rw[hk]at x1 hkN hi;have hmin2:min ((k:Int)+jz) ((C.N:Int) - 1)=(i:Int):=by omega
 have hmin:(if(C.N:Int) - 1 < (k:Int)+jz then(C.N:Int) - 1 else(k:Int)+jz)=(i:Int):=by subst hj;split<;>omega
 have hj0:0≤jz:=by omega
 have hj1:jz≤10000:=by omega
 have HG0:=zA hg0;have HB0:=zA hB0;obtain⟨z0,z1,z2,z3,z4,z5,z6,z7,z8⟩:=hB0.nine;obtain⟨f0,f1,f2,f3,f4,f5,f6,f7,f8⟩:=hB0.nineF;obtain⟨X,hX⟩:∃X,w.heap.size=X:=⟨_,rfl⟩;have HX:=zA hX;unfold zAp at hW;clear hA h hg0 hB0 ht hi hj hk hjl;go_enter func146,ntmps146;go_upto_region 1 with(fail);clear hW;rw[hX]at z0 z1 z2 z3 z4 z5 z6 z7 z8 f0 f1 f2 f3 f4 f5 f6 f7 f8 HB0;clear hX;go_region
 all_goals go_wp2_with fail
 all_goals
  refine zIR (F:=fun V=>Bx V X 44 [.int .i64 (kd:Int),.string ⟨tx.toArray⟩,.slice As st.length c1,.int .i64 nk,.int .i64 nn,.bool false,.slice Am mg.length c2,.int .i64 (ps:Int),.bool nl]∧W.grownBy V (some X)) ⟨(HB0.out.set9 rfl).drew,zC zA6 (zAk _ _)⟩ ?_;rintro V ⟨hb,hg⟩;obtain⟨q0,q1,q2,q3,q4,q5,q6,q7,q8⟩:=hb.nine;refine bodyPost_ret (v:=.agg #[.int .i64 (kd:Int),.string ⟨tx.toArray⟩,.slice As st.length c1,.int .i64 nk,.int .i64 nn,.bool false,.slice Am mg.length c2,.int .i64 (ps:Int),.bool nl]) (by simp[results,results146,go_sem,q0,q1,q2,q3,q4,q5,q6,q7,q8]) rfl ?_;have hz:Fz W (fun _=>False) (some X):=.box HB0.out (by decide) (by decide) (by simp);have hXg:C.g < X:=by rw[←HX.out];exact HP0.out.lt
  refine⟨As,Am,c1,c2,rfl,zBO HT.out.str (.inl rfl) hg hz,zBO HT.out.mag (.inr rfl) hg hz,HP.out.grown hg (fun b e=>by injection e with e;omega),?_⟩;exact zBP HG0.out (by rw[←HX.out];exact yAC _) hg
def zGj (n:Nat):Int:=if n=9 then -1 else(n:Int)
theorem zP6 {nk nn:Int} {st:List UInt16} {mg:List Nat} {ps:Nat} {nl:Bool} {As Am:Option Addr} {c1 c2:Nat} {W:World}:Calls prog 208 #[.agg #[.int .i64 5,.string ⟨#[124]⟩,.slice As st.length c1,.int .i64 nk,.int .i64 nn,.bool false,.slice Am mg.length c2,.int .i64 (ps:Int),.bool nl]] W fun e w'=>e=.returned (.int .i64 0)∧W.grownBy w' none:=by
 go_enter func208,ntmps208;go_wp2_with fail;go_ret;exact⟨rfl,zG _ _ _⟩
theorem zP7 {nk nn:Int} {st:List UInt16} {mg:List Nat} {ps:Nat} {nl:Bool} {As Am:Option Addr} {c1 c2:Nat} {W:World}:Calls prog 208 #[.agg #[.int .i64 5,.string ⟨#[94]⟩,.slice As st.length c1,.int .i64 nk,.int .i64 nn,.bool false,.slice Am mg.length c2,.int .i64 (ps:Int),.bool nl]] W fun e w'=>e=.returned (.int .i64 1)∧W.grownBy w' none:=by
 go_enter func208,ntmps208;go_wp2_with fail;go_ret;exact⟨rfl,zG _ _ _⟩
theorem zP8 {nk nn:Int} {st:List UInt16} {mg:List Nat} {ps:Nat} {nl:Bool} {As Am:Option Addr} {c1 c2:Nat} {W:World}:Calls prog 208 #[.agg #[.int .i64 5,.string ⟨#[38]⟩,.slice As st.length c1,.int .i64 nk,.int .i64 nn,.bool false,.slice Am mg.length c2,.int .i64 (ps:Int),.bool nl]] W fun e w'=>e=.returned (.int .i64 2)∧W.grownBy w' none:=by
 go_enter func208,ntmps208;go_wp2_with fail;go_ret;exact⟨rfl,zG _ _ _⟩
theorem zP9 {nk nn:Int} {st:List UInt16} {mg:List Nat} {ps:Nat} {nl:Bool} {As Am:Option Addr} {c1 c2:Nat} {W:World}:Calls prog 208 #[.agg #[.int .i64 5,.string ⟨#[61,61]⟩,.slice As st.length c1,.int .i64 nk,.int .i64 nn,.bool false,.slice Am mg.length c2,.int .i64 (ps:Int),.bool nl]] W fun e w'=>e=.returned (.int .i64 3)∧W.grownBy w' none:=by
 go_enter func208,ntmps208;go_wp2_with fail;go_ret;exact⟨rfl,zG _ _ _⟩
theorem zQA {nk nn:Int} {st:List UInt16} {mg:List Nat} {ps:Nat} {nl:Bool} {As Am:Option Addr} {c1 c2:Nat} {W:World}:Calls prog 208 #[.agg #[.int .i64 5,.string ⟨#[33,61]⟩,.slice As st.length c1,.int .i64 nk,.int .i64 nn,.bool false,.slice Am mg.length c2,.int .i64 (ps:Int),.bool nl]] W fun e w'=>e=.returned (.int .i64 3)∧W.grownBy w' none:=by
 go_enter func208,ntmps208;go_wp2_with fail;go_ret;exact⟨rfl,zG _ _ _⟩
theorem zQB {nk nn:Int} {st:List UInt16} {mg:List Nat} {ps:Nat} {nl:Bool} {As Am:Option Addr} {c1 c2:Nat} {W:World}:Calls prog 208 #[.agg #[.int .i64 5,.string ⟨#[61,61,61]⟩,.slice As st.length c1,.int .i64 nk,.int .i64 nn,.bool false,.slice Am mg.length c2,.int .i64 (ps:Int),.bool nl]] W fun e w'=>e=.returned (.int .i64 3)∧W.grownBy w' none:=by
 go_enter func208,ntmps208;go_wp2_with fail;go_ret;exact⟨rfl,zG _ _ _⟩
theorem zQC {nk nn:Int} {st:List UInt16} {mg:List Nat} {ps:Nat} {nl:Bool} {As Am:Option Addr} {c1 c2:Nat} {W:World}:Calls prog 208 #[.agg #[.int .i64 5,.string ⟨#[33,61,61]⟩,.slice As st.length c1,.int .i64 nk,.int .i64 nn,.bool false,.slice Am mg.length c2,.int .i64 (ps:Int),.bool nl]] W fun e w'=>e=.returned (.int .i64 3)∧W.grownBy w' none:=by
 go_enter func208,ntmps208;go_wp2_with fail;go_ret;exact⟨rfl,zG _ _ _⟩
theorem zQD {nk nn:Int} {st:List UInt16} {mg:List Nat} {ps:Nat} {nl:Bool} {As Am:Option Addr} {c1 c2:Nat} {W:World}:Calls prog 208 #[.agg #[.int .i64 5,.string ⟨#[60]⟩,.slice As st.length c1,.int .i64 nk,.int .i64 nn,.bool false,.slice Am mg.length c2,.int .i64 (ps:Int),.bool nl]] W fun e w'=>e=.returned (.int .i64 4)∧W.grownBy w' none:=by
 go_enter func208,ntmps208;go_wp2_with fail;go_ret;exact⟨rfl,zG _ _ _⟩
theorem zQE {nk nn:Int} {st:List UInt16} {mg:List Nat} {ps:Nat} {nl:Bool} {As Am:Option Addr} {c1 c2:Nat} {W:World}:Calls prog 208 #[.agg #[.int .i64 5,.string ⟨#[62]⟩,.slice As st.length c1,.int .i64 nk,.int .i64 nn,.bool false,.slice Am mg.length c2,.int .i64 (ps:Int),.bool nl]] W fun e w'=>e=.returned (.int .i64 4)∧W.grownBy w' none:=by
 go_enter func208,ntmps208;go_wp2_with fail;go_ret;exact⟨rfl,zG _ _ _⟩
theorem zQF {nk nn:Int} {st:List UInt16} {mg:List Nat} {ps:Nat} {nl:Bool} {As Am:Option Addr} {c1 c2:Nat} {W:World}:Calls prog 208 #[.agg #[.int .i64 5,.string ⟨#[60,61]⟩,.slice As st.length c1,.int .i64 nk,.int .i64 nn,.bool false,.slice Am mg.length c2,.int .i64 (ps:Int),.bool nl]] W fun e w'=>e=.returned (.int .i64 4)∧W.grownBy w' none:=by
 go_enter func208,ntmps208;go_wp2_with fail;go_ret;exact⟨rfl,zG _ _ _⟩
theorem zNk {nk nn:Int} {st:List UInt16} {mg:List Nat} {ps:Nat} {nl:Bool} {As Am:Option Addr} {c1 c2:Nat} {W:World}:Calls prog 208 #[.agg #[.int .i64 5,.string ⟨#[62,61]⟩,.slice As st.length c1,.int .i64 nk,.int .i64 nn,.bool false,.slice Am mg.length c2,.int .i64 (ps:Int),.bool nl]] W fun e w'=>e=.returned (.int .i64 4)∧W.grownBy w' none:=by
 go_enter func208,ntmps208;go_wp2_with fail;go_ret;exact⟨rfl,zG _ _ _⟩
theorem zNl {nk nn:Int} {st:List UInt16} {mg:List Nat} {ps:Nat} {nl:Bool} {As Am:Option Addr} {c1 c2:Nat} {W:World}:Calls prog 208 #[.agg #[.int .i64 5,.string ⟨#[105,110]⟩,.slice As st.length c1,.int .i64 nk,.int .i64 nn,.bool false,.slice Am mg.length c2,.int .i64 (ps:Int),.bool nl]] W fun e w'=>e=.returned (.int .i64 4)∧W.grownBy w' none:=by
 go_enter func208,ntmps208;go_wp2_with fail;go_ret;exact⟨rfl,zG _ _ _⟩
theorem zNm {nk nn:Int} {st:List UInt16} {mg:List Nat} {ps:Nat} {nl:Bool} {As Am:Option Addr} {c1 c2:Nat} {W:World}:Calls prog 208 #[.agg #[.int .i64 5,.string ⟨#[60,60]⟩,.slice As st.length c1,.int .i64 nk,.int .i64 nn,.bool false,.slice Am mg.length c2,.int .i64 (ps:Int),.bool nl]] W fun e w'=>e=.returned (.int .i64 5)∧W.grownBy w' none:=by
 go_enter func208,ntmps208;go_wp2_with fail;go_ret;exact⟨rfl,zG _ _ _⟩
theorem zNn {nk nn:Int} {st:List UInt16} {mg:List Nat} {ps:Nat} {nl:Bool} {As Am:Option Addr} {c1 c2:Nat} {W:World}:Calls prog 208 #[.agg #[.int .i64 5,.string ⟨#[62,62]⟩,.slice As st.length c1,.int .i64 nk,.int .i64 nn,.bool false,.slice Am mg.length c2,.int .i64 (ps:Int),.bool nl]] W fun e w'=>e=.returned (.int .i64 5)∧W.grownBy w' none:=by
 go_enter func208,ntmps208;go_wp2_with fail;go_ret;exact⟨rfl,zG _ _ _⟩
theorem zNo {nk nn:Int} {st:List UInt16} {mg:List Nat} {ps:Nat} {nl:Bool} {As Am:Option Addr} {c1 c2:Nat} {W:World}:Calls prog 208 #[.agg #[.int .i64 5,.string ⟨#[62,62,62]⟩,.slice As st.length c1,.int .i64 nk,.int .i64 nn,.bool false,.slice Am mg.length c2,.int .i64 (ps:Int),.bool nl]] W fun e w'=>e=.returned (.int .i64 5)∧W.grownBy w' none:=by
 go_enter func208,ntmps208;go_wp2_with fail;go_ret;exact⟨rfl,zG _ _ _⟩
theorem zNp {nk nn:Int} {st:List UInt16} {mg:List Nat} {ps:Nat} {nl:Bool} {As Am:Option Addr} {c1 c2:Nat} {W:World}:Calls prog 208 #[.agg #[.int .i64 5,.string ⟨#[43]⟩,.slice As st.length c1,.int .i64 nk,.int .i64 nn,.bool false,.slice Am mg.length c2,.int .i64 (ps:Int),.bool nl]] W fun e w'=>e=.returned (.int .i64 6)∧W.grownBy w' none:=by
 go_enter func208,ntmps208;go_wp2_with fail;go_ret;exact⟨rfl,zG _ _ _⟩
theorem zNq {nk nn:Int} {st:List UInt16} {mg:List Nat} {ps:Nat} {nl:Bool} {As Am:Option Addr} {c1 c2:Nat} {W:World}:Calls prog 208 #[.agg #[.int .i64 5,.string ⟨#[45]⟩,.slice As st.length c1,.int .i64 nk,.int .i64 nn,.bool false,.slice Am mg.length c2,.int .i64 (ps:Int),.bool nl]] W fun e w'=>e=.returned (.int .i64 6)∧W.grownBy w' none:=by
 go_enter func208,ntmps208;go_wp2_with fail;go_ret;exact⟨rfl,zG _ _ _⟩
theorem zNr {nk nn:Int} {st:List UInt16} {mg:List Nat} {ps:Nat} {nl:Bool} {As Am:Option Addr} {c1 c2:Nat} {W:World}:Calls prog 208 #[.agg #[.int .i64 5,.string ⟨#[42]⟩,.slice As st.length c1,.int .i64 nk,.int .i64 nn,.bool false,.slice Am mg.length c2,.int .i64 (ps:Int),.bool nl]] W fun e w'=>e=.returned (.int .i64 7)∧W.grownBy w' none:=by
 go_enter func208,ntmps208;go_wp2_with fail;go_ret;exact⟨rfl,zG _ _ _⟩
theorem zNs {nk nn:Int} {st:List UInt16} {mg:List Nat} {ps:Nat} {nl:Bool} {As Am:Option Addr} {c1 c2:Nat} {W:World}:Calls prog 208 #[.agg #[.int .i64 5,.string ⟨#[47]⟩,.slice As st.length c1,.int .i64 nk,.int .i64 nn,.bool false,.slice Am mg.length c2,.int .i64 (ps:Int),.bool nl]] W fun e w'=>e=.returned (.int .i64 7)∧W.grownBy w' none:=by
 go_enter func208,ntmps208;go_wp2_with fail;go_ret;exact⟨rfl,zG _ _ _⟩
theorem zNt {nk nn:Int} {st:List UInt16} {mg:List Nat} {ps:Nat} {nl:Bool} {As Am:Option Addr} {c1 c2:Nat} {W:World}:Calls prog 208 #[.agg #[.int .i64 5,.string ⟨#[37]⟩,.slice As st.length c1,.int .i64 nk,.int .i64 nn,.bool false,.slice Am mg.length c2,.int .i64 (ps:Int),.bool nl]] W fun e w'=>e=.returned (.int .i64 7)∧W.grownBy w' none:=by
 go_enter func208,ntmps208;go_wp2_with fail;go_ret;exact⟨rfl,zG _ _ _⟩
theorem zJY {tx:List UInt8} {nk nn:Int} {st:List UInt16} {mg:List Nat} {ps:Nat} {nl:Bool} {As Am:Option Addr} {c1 c2:Nat} {W:World} (n0:(tx==[124])=false) (n1:(tx==[94])=false) (n2:(tx==[38])=false) (n3:(tx==[61,61])=false) (n4:(tx==[33,61])=false) (n5:(tx==[61,61,61])=false) (n6:(tx==[33,61,61])=false) (n7:(tx==[60])=false) (n8:(tx==[62])=false) (n9:(tx==[60,61])=false) (n10:(tx==[62,61])=false) (n11:(tx==[105,110])=false) (n12:(tx==[60,60])=false) (n13:(tx==[62,62])=false) (n14:(tx==[62,62,62])=false) (n15:(tx==[43])=false) (n16:(tx==[45])=false) (n17:(tx==[42])=false) (n18:(tx==[47])=false) (n19:(tx==[37])=false):Calls prog 208 #[.agg #[.int .i64 5,.string ⟨tx.toArray⟩,.slice As st.length c1,.int .i64 nk,.int .i64 nn,.bool false,.slice Am mg.length c2,.int .i64 (ps:Int),.bool nl]] W fun e w'=>e=.returned (.int .i64 (-1))∧W.grownBy w' none:=by
 go_enter func208,ntmps208;go_wp2_with fail;go_ret;exact⟨rfl,zG _ _ _⟩
theorem zLl {kd:Nat} {tx:List UInt8} {nk nn:Int} {st:List UInt16} {mg:List Nat} {ps:Nat} {nl:Bool} {As Am:Option Addr} {c1 c2:Nat} {W:World} (hk:kd≠5) (hi:isT ⟨kd,tx,st,nk,nn,mg,ps,nl⟩ [105,110]=false):Calls prog 208 #[.agg #[.int .i64 (kd:Int),.string ⟨tx.toArray⟩,.slice As st.length c1,.int .i64 nk,.int .i64 nn,.bool false,.slice Am mg.length c2,.int .i64 (ps:Int),.bool nl]] W fun e w'=>e=.returned (.int .i64 (-1))∧W.grownBy w' none:=by
 have e5:((kd:Int) !=5)=true:=by rw[bne_iff_ne];omega
 have HI:=zA hi;clear hk hi;go_enter func208,ntmps208;go_wp2_with fail;refine(zB7 [105,110] HI.out).mono ?_;rintro e3 w3 ⟨rfl,hg3⟩;have HG3:=zA hg3;clear hg3;go_wp2_with fail;go_ret;exact⟨rfl,zC (zG _ _ _) HG3.out⟩
theorem zNu {nk nn:Int} {st:List UInt16} {mg:List Nat} {ps:Nat} {nl:Bool} {As Am:Option Addr} {c1 c2:Nat} {W:World}:Calls prog 208 #[.agg #[.int .i64 6,.string ⟨#[105,110]⟩,.slice As st.length c1,.int .i64 nk,.int .i64 nn,.bool false,.slice Am mg.length c2,.int .i64 (ps:Int),.bool nl]] W fun e w'=>e=.returned (.int .i64 4)∧W.grownBy w' none:=by
 obtain⟨V,hV⟩:∃V,W.alloc (.cells #[.int .i64 6,.string ⟨#[105,110]⟩,.slice As st.length c1,.int .i64 nk,.int .i64 nn,.bool false,.slice Am mg.length c2,.int .i64 (ps:Int),.bool nl] 44)=V:=⟨_,rfl⟩;have hg:=zA (show W.grownBy V none by rw[←hV];exact zG _ _ _);have HB:=zA (show Bx V W.heap.size 44 [.int .i64 6,.string ⟨#[105,110]⟩,.slice As st.length c1,.int .i64 nk,.int .i64 nn,.bool false,.slice Am mg.length c2,.int .i64 (ps:Int),.bool nl] by rw[←hV];exact Bx.new W [.int .i64 6,.string ⟨#[105,110]⟩,.slice As st.length c1,.int .i64 nk,.int .i64 nn,.bool false,.slice Am mg.length c2,.int .i64 (ps:Int),.bool nl] 44);obtain⟨z0,z1,z2,z3,z4,z5,z6,z7,z8⟩:=HB.out.nine;go_enter func208,ntmps208;go_wp2_with fail;refine(zB7 (kd:=6) (tx:=[105,110]) [105,110] rfl).mono ?_;rintro e3 w3 ⟨rfl,hg3⟩;have HG3:=zA hg3;obtain⟨y0,y1,y2,y3,y4,y5,y6,y7,y8⟩:=(HB.out.grown hg3 (by simp)).nine;clear hg3;go_wp2_with fail;go_ret;exact⟨rfl,zC hg.out HG3.out⟩
theorem zIS {kd:Nat} {tx:List UInt8} {nk nn:Int} {st:List UInt16} {mg:List Nat} {ps:Nat} {nl:Bool} {As Am:Option Addr} {c1 c2:Nat} {W:World}:Calls prog 208 #[.agg #[.int .i64 (kd:Int),.string ⟨tx.toArray⟩,.slice As st.length c1,.int .i64 nk,.int .i64 nn,.bool false,.slice Am mg.length c2,.int .i64 (ps:Int),.bool nl]] W fun e w'=>e=.returned (.int .i64 (zGj (zCi ⟨kd,tx,st,nk,nn,mg,ps,nl⟩)))∧W.grownBy w' none:=by
 by_cases hk:kd=5
 · subst hk;have e:zCi ⟨5,tx,st,nk,nn,mg,ps,nl⟩=zID tx:=by unfold zCi;rw[if_pos (.inl rfl)]
   rw[e]
   by_cases n0:tx=[124]
   · subst n0;exact zP6
   by_cases n1:tx=[94]
   · subst n1;exact zP7
   by_cases n2:tx=[38]
   · subst n2;exact zP8
   by_cases n3:tx=[61,61]
   · subst n3;exact zP9
   by_cases n4:tx=[33,61]
   · subst n4;exact zQA
   by_cases n5:tx=[61,61,61]
   · subst n5;exact zQB
   by_cases n6:tx=[33,61,61]
   · subst n6;exact zQC
   by_cases n7:tx=[60]
   · subst n7;exact zQD
   by_cases n8:tx=[62]
   · subst n8;exact zQE
   by_cases n9:tx=[60,61]
   · subst n9;exact zQF
   by_cases n10:tx=[62,61]
   · subst n10;exact zNk
   by_cases n11:tx=[105,110]
   · subst n11;exact zNl
   by_cases n12:tx=[60,60]
   · subst n12;exact zNm
   by_cases n13:tx=[62,62]
   · subst n13;exact zNn
   by_cases n14:tx=[62,62,62]
   · subst n14;exact zNo
   by_cases n15:tx=[43]
   · subst n15;exact zNp
   by_cases n16:tx=[45]
   · subst n16;exact zNq
   by_cases n17:tx=[42]
   · subst n17;exact zNr
   by_cases n18:tx=[47]
   · subst n18;exact zNs
   by_cases n19:tx=[37]
   · subst n19;exact zNt
   have e2:zID tx=9:=by unfold zID;simp[n0,n1,n2,n3,n4,n5,n6,n7,n8,n9,n10,n11,n12,n13,n14,n15,n16,n17,n18,n19]
   rw[e2];exact zJY (yA.2 n0) (yA.2 n1) (yA.2 n2) (yA.2 n3) (yA.2 n4) (yA.2 n5) (yA.2 n6) (yA.2 n7) (yA.2 n8) (yA.2 n9) (yA.2 n10) (yA.2 n11) (yA.2 n12) (yA.2 n13) (yA.2 n14) (yA.2 n15) (yA.2 n16) (yA.2 n17) (yA.2 n18) (yA.2 n19)
 · by_cases hi:isT ⟨kd,tx,st,nk,nn,mg,ps,nl⟩ [105,110]=true
   · have h6:kd=6∧tx=[105,110]:=by
      unfold isT at hi;simp at hi;exact⟨by omega,hi.1⟩
     obtain⟨rfl,rfl⟩:=h6;exact zNu
   · have hi':isT ⟨kd,tx,st,nk,nn,mg,ps,nl⟩ [105,110]=false:=by simpa using hi
     have e:zCi ⟨kd,tx,st,nk,nn,mg,ps,nl⟩=9:=by
      unfold zCi;rw[if_neg];rintro(h | h)
      · exact hk h
      · exact hi h
     rw[e];exact zLl hk hi'
def NodR (C:Pc) (Q:Nat→Prop) (r:Tr×Ps) (w:World) (e:Ending) (w':World):Prop:=
 ∃d0 d1 d2 d3 d4 d5 d6 d7 d8,e=.returned (.agg #[d0,d1,d2,d3,d4,d5,d6,d7,d8])∧TrC w' (fun b=>Q b∨w.heap.size≤b) r.1 [d0,d1,d2,d3,d4,d5,d6,d7,d8]∧Pa C r.2 w'∧w.grownBy w' (some C.g)
def zPD (C:Pc) (a:World) (r:Tr×Ps) (e:Ending) (w':World):Prop:=
 ∃d0 d1 d2 d3 d4 d5 d6 d7 d8,e=.returned (.agg #[d0,d1,d2,d3,d4,d5,d6,d7,d8])∧TrC w' (a.heap.size≤·) r.1 [d0,d1,d2,d3,d4,d5,d6,d7,d8]∧Pa C r.2 w'∧a.grownBy w' (some C.g)
def zc (C:Pc) (s:Ps) (w:World):Ph→Prop
 | .program []=>Calls prog 34 #[.pointer (some ⟨C.g,0,none⟩)] w (zCP C (zF C.L (.program []) s) w)
 | .block=>Calls prog 145 #[.pointer (some ⟨C.g,0,none⟩)] w (zCP C (zF C.L .block s) w)
 | .item=>Calls prog 60 #[.pointer (some ⟨C.g,0,none⟩)] w (zCP C (zF C.L .item s) w)
 | .declares=>Calls prog 93 #[.pointer (some ⟨C.g,0,none⟩)] w (zCP C (zF C.L .declares s) w)
 | .func k n=>Calls prog 97 #[.pointer (some ⟨C.g,0,none⟩),.int .i64 k,.string ⟨n.toArray⟩] w (zCP C (zF C.L (.func k n) s) w)
 | .params=>Calls prog 144 #[.pointer (some ⟨C.g,0,none⟩)] w (LstQ C (zF C.L .params s) w)
 | .statement=>Calls prog 98 #[.pointer (some ⟨C.g,0,none⟩)] w (zCP C (zF C.L .statement s) w)
 | .simple=>Calls prog 148 #[.pointer (some ⟨C.g,0,none⟩)] w (zCP C (zF C.L .simple s) w)
 | .word v=>Calls prog 147 #[.pointer (some ⟨C.g,0,none⟩),.string ⟨v.toArray⟩] w (zCP C (zF C.L (.word v) s) w)
 | .within=>Calls prog 178 #[.pointer (some ⟨C.g,0,none⟩)] w (zCP C (zF C.L .within s) w)
 | .clause v=>Calls prog 197 #[.pointer (some ⟨C.g,0,none⟩),.string ⟨v.toArray⟩] w (zCP C (zF C.L (.clause v) s) w)
 | .loop=>Calls prog 179 #[.pointer (some ⟨C.g,0,none⟩)] w (zCP C (zF C.L .loop s) w)
 | .jump k=>Calls prog 180 #[.pointer (some ⟨C.g,0,none⟩),.int .i64 k] w (zCP C (zF C.L (.jump k) s) w)
 | .tries=>Calls prog 182 #[.pointer (some ⟨C.g,0,none⟩)] w (zCP C (zF C.L .tries s) w)
 | .assign=>Calls prog 140 #[.pointer (some ⟨C.g,0,none⟩)] w (zCP C (zF C.L .assign s) w)
 | .body l=>∀(a:World) (A:Option Addr) (n c:Nat),l.length=n→n≤4097→a.grownBy w (some C.g)→C.g < a.heap.size→RowP w (a.heap.size≤·) (.slice A n c) l→Calls prog 173 #[.pointer (some ⟨C.g,0,none⟩),.slice A n c] w (zPD C a (zF C.L (.body l) s))
 | .cond=>Calls prog 175 #[.pointer (some ⟨C.g,0,none⟩)] w (zCP C (zF C.L .cond s) w)
 | .either=>Calls prog 196 #[.pointer (some ⟨C.g,0,none⟩)] w (zCP C (zF C.L .either s) w)
 | .both x=>∀(Q:Nat→Prop) (d0 d1 d2 d3 d4 d5 d6 d7 d8:Value),(∀b,Q b→C.g < b)→TrC w Q x [d0,d1,d2,d3,d4,d5,d6,d7,d8]→Calls prog 202 #[.pointer (some ⟨C.g,0,none⟩),.agg #[d0,d1,d2,d3,d4,d5,d6,d7,d8]] w (NodR C Q (zF C.L (.both x) s) w)
 | .level n=>Calls prog 201 #[.pointer (some ⟨C.g,0,none⟩),.int .i64 (n:Int)] w (zCP C (zF C.L (.level n) s) w)
 | .unary=>Calls prog 207 #[.pointer (some ⟨C.g,0,none⟩)] w (zCP C (zF C.L .unary s) w)
 | .calls=>Calls prog 214 #[.pointer (some ⟨C.g,0,none⟩)] w (zCP C (zF C.L .calls s) w)
 | .head=>Calls prog 217 #[.pointer (some ⟨C.g,0,none⟩)] w (zCP C (zF C.L .head s) w)
 | .args=>Calls prog 218 #[.pointer (some ⟨C.g,0,none⟩)] w (LstQ C (zF C.L .args s) w)
 | .list v=>Calls prog 221 #[.pointer (some ⟨C.g,0,none⟩),.string ⟨v.toArray⟩] w (LstQ C (zF C.L (.list v) s) w)
 | .primary=>Calls prog 220 #[.pointer (some ⟨C.g,0,none⟩)] w (zCP C (zF C.L .primary s) w)
 | .object=>Calls prog 222 #[.pointer (some ⟨C.g,0,none⟩)] w (zCP C (zF C.L .object s) w)
 | .prop=>Calls prog 223 #[.pointer (some ⟨C.g,0,none⟩)] w (zCP C (zF C.L .prop s) w)
 | _=>True
def KP (C:Pc) (N:Nat):Prop:=∀(q:Ph) (s:Ps) (w:World),Pre C.L q s→zZ C.L q s < N→Pa C s w→zc C s w q
section
variable {C:Pc} {p q:Ph} {s s1:Ps} {w:World}
theorem KP.rank (K:KP C (zZ C.L p s)) (hq:Pre C.L q s1) (h:Pa C s1 w) (h1:s.k≤s1.k) (h2:ze q s1 < ze p s):zc C s1 w q:=K q s1 w hq (zGJ h1 h2) h
theorem KP.more (K:KP C (zZ C.L p s)) (hq:Pre C.L q s1) (h:Pa C s1 w) (h1:s.k < s1.k):zc C s1 w q:=K q s1 w hq (zGI h1 hq.1 h.cx.lst.pos) h
end
theorem TrC.sto {w:World} {F:Nat→Prop} {t:Tr} {e0 e1 e2 e3 e4 e5 e6 e7 e8:Value} (h:TrC w F t [e0,e1,e2,e3,e4,e5,e6,e7,e8]):(∀(v:World) (a:Addr),(store a e0).run prog v=stored prog v a e0 .plain)∧(∀(v:World) (a:Addr),(store a e1).run prog v=stored prog v a e1 .plain)∧(∀(v:World) (a:Addr),(store a e2).run prog v=stored prog v a e2 .plain)∧(∀(v:World) (a:Addr),(store a e3).run prog v=stored prog v a e3 .plain)∧(∀(v:World) (a:Addr),(store a e4).run prog v=stored prog v a e4 .plain)∧(∀(v:World) (a:Addr),(store a e5).run prog v=stored prog v a e5 .plain)∧(∀(v:World) (a:Addr),(store a e6).run prog v=stored prog v a e6 .plain)∧(∀(v:World) (a:Addr),(store a e7).run prog v=stored prog v a e7 .plain)∧(∀(v:World) (a:Addr),(store a e8).run prog v=stored prog v a e8 .plain):=by
 have h1:=h.one;simp only[List.all_cons,List.all_nil,Bool.and_eq_true,Bool.and_true]at h1;obtain⟨h0,h1,h2,h3,h4,h5,h6,h7,h8⟩:=h1;exact⟨fun v a=>run_store _ _ _ _ _ h0,fun v a=>run_store _ _ _ _ _ h1,fun v a=>run_store _ _ _ _ _ h2,fun v a=>run_store _ _ _ _ _ h3,fun v a=>run_store _ _ _ _ _ h4,fun v a=>run_store _ _ _ _ _ h5,fun v a=>run_store _ _ _ _ _ h6,fun v a=>run_store _ _ _ _ _ h7,fun v a=>run_store _ _ _ _ _ h8⟩
theorem Bx.gg {w w':World} {R b:Nat} {T:TypeId} {cs:List Value} (h:Bx w R T cs) (hg:w.grownBy w' (some b)) (hne:b≠R):Bx w' R T cs:=h.grown hg (by simpa using hne)
def zFO:List Value:=[.int .i64 0,.string ⟨#[]⟩,.slice none 0 0,.int .i64 0,.int .i64 0,.bool false,.slice none 0 0,.slice none 0 0,.slice none 0 0]
structure FinN (C:Pc) (Q:Nat→Prop) (r:Tr×Ps) (w:World) (X:Nat) (d0 d1 d2 d3 d4 d5 d6 d7 d8:Value) (V:World):Prop where
 box:Bx V X 72 [d0,d1,d2,d3,d4,d5,d6,d7,d8]
 tree:TrC V (fun b=>Q b∨w.heap.size≤b) r.1 [d0,d1,d2,d3,d4,d5,d6,d7,d8]
 pa:Pa C r.2 V
 grown:w.grownBy V (some C.g)
theorem zNv {C:Pc} {Q:Nat→Prop} {r:Tr×Ps} {w W:World} {X:Nat} {cs:List Value} {d0 d1 d2 d3 d4 d5 d6 d7 d8:Value} (hB:Bx W X 72 cs) (hl:cs.length=9) (hX:w.heap.size≤X) (hgX:C.g < X) (hT:TrC W (fun b=>(Q b∨w.heap.size≤b)∧b≠X) r.1 [d0,d1,d2,d3,d4,d5,d6,d7,d8]) (hP:Pa C r.2 W) (hG:w.grownBy W (some C.g)):
 FinN C Q r w X d0 d1 d2 d3 d4 d5 d6 d7 d8 (((((((((W.setCell ⟨X,0,none⟩ d0).setCell ⟨X,1,none⟩ d1).setCell ⟨X,2,none⟩ d2).setCell ⟨X,3,none⟩ d3).setCell ⟨X,4,none⟩ d4).setCell ⟨X,5,none⟩ d5).setCell ⟨X,6,none⟩ d6).setCell ⟨X,7,none⟩ d7).setCell ⟨X,8,none⟩ d8):=by
 have hg:=zA6 (w:=W) (R:=X) (v0:=d0) (v1:=d1) (v2:=d2) (v3:=d3) (v4:=d4) (v5:=d5) (v6:=d6) (v7:=d7) (v8:=d8);refine⟨hB.set9 hl,?_,hP.grown hg (fun b e=>by injection e with e;omega),zBP hG hX hg⟩;have h1:=TrC.keep hg (.box hB (by decide) (by decide) (fun h=>h.2 rfl)) _ _ hT;exact .sub (fun b hb _=>hb.1) _ _ h1
theorem FinN.ans {C:Pc} {Q:Nat→Prop} {r:Tr×Ps} {w V:World} {X:Nat} {d0 d1 d2 d3 d4 d5 d6 d7 d8:Value} (h:FinN C Q r w X d0 d1 d2 d3 d4 d5 d6 d7 d8 V):NodR C Q r w (.returned (.agg #[d0,d1,d2,d3,d4,d5,d6,d7,d8])) V:=
 ⟨_,_,_,_,_,_,_,_,_,rfl,h.tree,h.pa,h.grown⟩
theorem zLm {P:Program} {f:Func} {Ret:Ending→World→Prop} {a:Act} {C:Pc} {Q:Nat→Prop} {r:Tr×Ps} {w W:World} {X:Nat} {d0 d1 d2 d3 d4 d5 d6 d7 d8:Value} (h:FinN C Q r w X d0 d1 d2 d3 d4 d5 d6 d7 d8 W) (k:∀V,FinN C Q r w X d0 d1 d2 d3 d4 d5 d6 d7 d8 V→bodyPost P f Ret .ret a V):bodyPost P f Ret .ret a W:=k W h
structure PutN (T:TypeId) (C:Pc) (s:Ps) (w W:World) (R:Nat) (d0 d1 d2 d3 d4 d5 d6 d7 d8:Value) (V:World):Prop where
 box:Bx V R T [d0,d1,d2,d3,d4,d5,d6,d7,d8]
 pa:Pa C s V
 grown:w.grownBy V (some C.g)
 from_:W.grownBy V (some R)
theorem zNw {T:TypeId} {C:Pc} {s:Ps} {w W:World} {R:Nat} {cs:List Value} {d0 d1 d2 d3 d4 d5 d6 d7 d8:Value} (hB:Bx W R T cs) (hl:cs.length=9) (hR:w.heap.size≤R) (hgR:C.g < R) (hP:Pa C s W) (hG:w.grownBy W (some C.g)):
 PutN T C s w W R d0 d1 d2 d3 d4 d5 d6 d7 d8 (((((((((W.setCell ⟨R,0,none⟩ d0).setCell ⟨R,1,none⟩ d1).setCell ⟨R,2,none⟩ d2).setCell ⟨R,3,none⟩ d3).setCell ⟨R,4,none⟩ d4).setCell ⟨R,5,none⟩ d5).setCell ⟨R,6,none⟩ d6).setCell ⟨R,7,none⟩ d7).setCell ⟨R,8,none⟩ d8):=by
 have hg:=zA6 (w:=W) (R:=R) (v0:=d0) (v1:=d1) (v2:=d2) (v3:=d3) (v4:=d4) (v5:=d5) (v6:=d6) (v7:=d7) (v8:=d8);exact⟨hB.set9 hl,hP.grown hg (fun b e=>by injection e with e;omega),zBP hG hR hg,hg⟩
theorem zIT {w3 w4:World} {P:Nat→Prop} {l:List Tr} {cs:List Value} {n:Nat} (hn:n=l.length) (h:TrsC w3 P l cs) (hl:n≤4097) (hP:P w3.heap.size) (hg:(w3.alloc (.cells cs.toArray 72)).grownBy w4 none):RowP w4 P (.slice (some ⟨w3.heap.size,0,none⟩) n n) l:=
 (RowP.lit hn h hP (by unfold maxLen;omega)).new hg
theorem zNx {w3 w4:World} {P:Nat→Prop} {x y:Tr} {e0 e1 e2 e3 e4 e5 e6 e7 e8 a0 a1 a2 a3 a4 a5 a6 a7 a8:Value} (k:Int) (n:List UInt8) (h1:TrC w3 P x [e0,e1,e2,e3,e4,e5,e6,e7,e8]) (h2:TrC w3 P y [a0,a1,a2,a3,a4,a5,a6,a7,a8]) (hP:P w3.heap.size) (hg:(w3.alloc (.cells #[e0,e1,e2,e3,e4,e5,e6,e7,e8,a0,a1,a2,a3,a4,a5,a6,a7,a8] 72)).grownBy w4 none):TrC w4 P (trN k n [x,y]) (zRe k n (.slice (some ⟨w3.heap.size,0,none⟩) 2 2)):=
 (zIT (l:=[x,y]) (cs:=[e0,e1,e2,e3,e4,e5,e6,e7,e8]++[a0,a1,a2,a3,a4,a5,a6,a7,a8]) rfl (TrsC.cons h1 (.single h2)) (by simp) hP hg).treeN
end Go.Proofs.YtlohaclgbfhijaaGreatDoor
