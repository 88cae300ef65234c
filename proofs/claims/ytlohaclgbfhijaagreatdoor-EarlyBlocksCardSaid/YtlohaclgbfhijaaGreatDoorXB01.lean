/- Joined for the claim EarlyBlocks: the parser, the lexer and the trees as they are walked, made short by a program of mine. -/
import Derived.Test.YtlohaclgbfhijaaGreatDoorCards
import Derived.Test.YtlohaclgbfhijaaGreatDoorTie
import Derived.ProofKit
import Derived.OpenShut
import Derived.Deep.DeepHandedRow
import Derived.Lib.LaidTab
import Derived.Lib.LaidU8
import Derived.Deep.Slices
import Derived.Lib.SliceRun
import Derived.Deep.CutBlock
import Derived.Deep.DeepCutAuto
import Derived.Laws.OwnMore
import Derived.Deep.RegionLaw
import Derived.Deep.RegionHeld3
import Derived.Test.YtlohaclgbfhijaaGreatDoorE01
import Derived.Test.YtlohaclgbfhijaaGreatDoorE02
import Derived.Test.YtlohaclgbfhijaaGreatDoorE03
import Derived.Test.YtlohaclgbfhijaaGreatDoorE04
import Derived.Test.YtlohaclgbfhijaaGreatDoorE05
import Derived.Test.YtlohaclgbfhijaaGreatDoorE06
import Derived.Test.YtlohaclgbfhijaaGreatDoorE07
import Derived.Test.YtlohaclgbfhijaaGreatDoorE08
import Derived.Test.YtlohaclgbfhijaaGreatDoorE09
import Derived.Test.YtlohaclgbfhijaaGreatDoorE10
import Derived.Test.YtlohaclgbfhijaaGreatDoorE11
import Derived.Test.YtlohaclgbfhijaaGreatDoorE12
import Derived.Test.YtlohaclgbfhijaaGreatDoorE13
import Derived.Test.YtlohaclgbfhijaaGreatDoorE14
import Derived.Test.YtlohaclgbfhijaaGreatDoorE15
import Derived.Test.YtlohaclgbfhijaaGreatDoorE16
import Derived.Test.YtlohaclgbfhijaaGreatDoorE17
import Derived.Test.YtlohaclgbfhijaaGreatDoorE18
import Derived.Test.YtlohaclgbfhijaaGreatDoorE19
import Derived.Test.YtlohaclgbfhijaaGreatDoorE20
import Derived.Test.YtlohaclgbfhijaaGreatDoorE21
import Derived.Test.YtlohaclgbfhijaaGreatDoorE22
import Derived.Test.YtlohaclgbfhijaaGreatDoorE23
import Derived.Test.YtlohaclgbfhijaaGreatDoorE24
import Derived.Test.YtlohaclgbfhijaaGreatDoorE25
set_option maxHeartbeats 16000000
set_option maxRecDepth 1000000
namespace Go.Proofs.YtlohaclgbfhijaaGreatDoor
open Go.Proofs.Tryz
open Go.RowKit
def ndV (x:Nd) (s:NdSl):List Value:=[.int .i64 x.kind,.string ⟨x.name.toArray⟩,.slice s.As x.str.length s.cs,.int .i64 x.nk,.int .i64 x.nn,.bool x.neg,.slice s.Am x.mag.length s.cm,.slice s.Ak x.kids.length s.ck]
section
variable {w w':World} {B B' n:Nat} {A:Option Addr} {ts:List Nd}
theorem NdsR.nil (h:n=0):NdsR w B A n []:=⟨h.symm,fun h0=>by omega⟩
end
section
variable {w w' w'':World} {v v' v'':Value}
theorem Kept.frozen (h:Kept w w' v v') {p:Addr} (hp:p.block < w.heap.size) (hne:v.ownBlock≠some p.block):w'.frozen? p=w.frozen? p:=World.frozen?_of_block (h.block p.block hp hne)
end
section Zq
open Go.ChangeShapes Go.WideShapes Go.ChangeAt Go.RowKit Go.Lib
section
variable {H:Type} {enc:TypeId×Value→H} {W:World} {base:Nat}
theorem Tryz.laidOut:laidOutB prog=true:=by kernel_rfl
theorem zSL {W':World} {sp':Nat→Bool}:∀{ts:List TypeId} {vs:List Value} {ds:List (DataW H)} {ps:List MemPlace},(∀t∈ts,prog.readableRec t=true∧t < prog.types.size)→
 DataW.TrodAll enc prog W 0 (fun _=>true) true ts vs ds ps→Below W.heap.size W W'→(∀x∈ps,x.block < W.heap.size)→(∀p∈ps,sp' p.block=true)→DataW.TrodAll enc prog W' 0 sp' true ts vs ds ps:=by
 intro ts
 induction ts with
 | nil=>
  intro vs ds ps _ h _ _ _;obtain⟨rfl,rfl,rfl⟩:=trodAll_nil h;exact trodAll_mk0
 | cons t ts ih=>
  intro vs ds ps hr h hb hlt hs;obtain⟨v,vs',d,ds',p,q,rfl,rfl,rfl,h0,r0⟩:=trodAll_cons h;have ht:=hr t (by simp);exact trodAll_cons_mk (WideElems.Trod_stays Tryz.laidOut ht.1 ht.2 h0 (fun x hx=>hb.same (hlt x (by simp[hx]))) (fun x hx=>hs x (by simp[hx])))
   (ih (fun t' h'=>hr t' (by simp[h'])) r0 hb (fun x hx=>hlt x (by simp[hx])) (fun x hx=>hs x (by simp[hx])))
theorem zSM {P:Program} {f:Func} {s:ChangeSpec} {apart fresh handsOn again:Bool} {W W':World} {args:Array Value} {v:Value} {ds gs:List (DataW H)} {before pa pv:List MemPlace}
 (hW:DataW.Whole enc P f.params.toList s.vars apart W args.toList ds gs before)
 (hres:∀(b:Nat) (sp:Nat→Bool) (hd:Bool),DataW.TrodAll enc P W' b sp hd f.resultTypes.toList (v.resultList f.resultTypes.size) (s.fn H (ds++gs)).results [])
 (hargs:∀sp:Nat→Bool,(∀p∈before,sp p.block=true)→DataW.TrodAll enc P W' 0 sp true f.params.toList args.toList (s.fn H (ds++gs)).args pa)
 (hvars:∀sp:Nat→Bool,(∀p∈before,sp p.block=true)→DataW.TrodVars enc P W' sp s.vars (s.fn H (ds++gs)).vars pv)
 (hps:before=pa++pv) (hb:Below W.heap.size W W')
 (hok:∀(j:Nat) (t:TypeId) (r:Value),f.resultTypes[j]? =some t→(v.resultList f.resultTypes.size)[j]? =some r→Value.okWide P W' .any 0 t r):
 s.post enc P f apart fresh handsOn again W args v W':=by
 have hlt:∀p∈before,p.block < W.heap.size:=fun p hp=>hW.lt p hp;have hold:∀p∈before,(fun b=>decide (b < W.heap.size)) p.block=true:=fun p hp=>by simpa using hlt p hp
 refine⟨ds,gs,before,[],pa,pv,hW,hres _ _ _,hargs _ hold,hvars _ hold,World.keptBut_mono (fun p hp=>⟨hp,?_⟩) (hb.frame (·∈before)),fun _=>?_⟩
 · rw[hps,List.mem_append]at hp;exact Or.inr hp
 · obtain⟨_,_,_,_,_,hz,hn⟩:=hW;refine⟨hok,_,_,([]++pa)++pv,⟨[]++pa,pv,trodAll_append (hargs _ (fun _ _=>rfl)) (hres _ _ _),hvars _ (fun _ _=>rfl),rfl,?_,?_⟩,?_⟩
   · intro b off hp;have hin:MemPlace.cell b off∈before:=by rw[hps];simpa using hp
     rw[hb.frozen (hlt _ hin)];exact hz b off hin
   · intro ha;have:=hn ha;rw[hps]at this;simpa using this
   · intro p hp _;rw[hps];simpa using hp
end
def zTd:DataW Unit→List Int
 | .agg l=>l.map fun d=>match d with | .lit (.int _ z)=>z | _=>0
 | _=>[]
def zTJ (h:Array Obj):Array Obj:=
 ((h.modify 3 fun
  | .cells _ t frozen=>.cells (Lib.pow10Tab.map fun z=>Value.int .u64 z).toArray t frozen
  | o=>o).modify 4 fun
  | .cells _ t frozen=>.cells ((zTd Rows.laid_math_bits_deBruijn32tab).map fun z=>Value.int .u8 z).toArray t frozen
  | o=>o).modify 5 fun
  | .cells _ t frozen=>.cells ((zTd Rows.laid_math_bits_deBruijn64tab).map fun z=>Value.int .u8 z).toArray t frozen
  | o=>o
end Zq
section Zq
open Go.ChangeShapes Go.WideShapes Go.ChangeAt Go.RowKit Go.Lib
def zSt (h:Array Obj):Array Obj:=
 (h.modify 0 fun
  | .cells _ t frozen=>.cells (((List.range 256).map fun c=>Value.int .u8 (firstT c:Int)).toArray) t frozen
  | o=>o).modify 1 fun
  | .cells _ t frozen=>.cells (((List.range 16).flatMap fun i=>[Value.int .u8 (accLo i:Int),Value.int .u8 (accHi i:Int)]).toArray) t frozen
  | o=>o
noncomputable def zSB (os:Os):World:=
 let w:=World.holding prog os ⟨#[],#[],[]⟩
 {w with heap:=zSt (zTJ w.heap)}
end Zq
section Zq
open Go.ChangeShapes Go.WideShapes Go.ChangeAt Go.RowKit
theorem zSP:prog.cellsOf 48=8:=by kernel_rfl
theorem zSu:prog.cellsOf 27=1:=by kernel_rfl
theorem zSa:prog.cellsOf 39=2:=by kernel_rfl
theorem zSb:prog.cellsOf 42=2:=by kernel_rfl
theorem zSN:prog.cellsOf 3=1:=by kernel_rfl
theorem zTK:prog.cellsOf 9=1:=by kernel_rfl
theorem zSv:prog.cellsOf 4=1:=by kernel_rfl
theorem zTL:prog.cellsOf 24=1:=by kernel_rfl
theorem zTM:prog.cellsOf 87=1:=by kernel_rfl
theorem zSw:prog.cellsOf 22=1:=by kernel_rfl
theorem zSx:prog.cellsOf 40=1:=by kernel_rfl
theorem zSy:prog.cellsOf 32=1:=by kernel_rfl
theorem zSk:prog.cellsOf 25=1:=by kernel_rfl
section
variable {H:Type} {enc:TypeId×Value→H} {W:World}
theorem zSC {t e:TypeId} {k:IntKind} {fuel:Nat} {cs:List Value} {x:DataW H×List MemPlace} (ht:prog.underlying t=some (.slice e)) (he:prog.underlying e=some (.int k)) (hc:prog.cellsOf e=1)
 (h:DataW.trod enc prog W 0 (fun _=>true) true fuel t cs=some x):
 ∃(A:Option Addr) (n c:Nat) (zs:List Int),cs=[.slice A n c]∧n≤c∧c≤maxLen∧zs.length=n∧(∀z∈zs,(Lit.int k z).wf=true)∧Reads W W.heap.size 1 A n (zs.map (Value.int k)):=by
 rcases open_ints ht he hc h with⟨hcs,_⟩ | ⟨a,len,cap,zs,hcs,_,hl,hm,hz,_,hcell,hwf⟩
 · exact⟨none,0,0,[],hcs,yAC _,yAE _,rfl,fun z hz=>(by cases hz),Reads.none_⟩
 · simp only[if_true]at hz;have hlen:(zs.take len).length=len:=by rw[List.length_take];omega
   refine⟨some a,len,cap,zs.take len,hcs,hl,hm,hlen,fun z hz'=>hwf z (List.mem_of_mem_take hz'),by rw[List.length_map,hlen,Nat.mul_one],fun hn=>⟨a,rfl,?_,fun j u hu=>?_⟩⟩
   · have h0:=hcell 0 (by omega);have:=World.block_lt_of_cell? W _ h0;rwa [zDe]at this
   · have hj:j < len:=by
      have:=(List.getElem?_eq_some_iff.1 hu).1;rw[List.length_map,hlen]at this;exact this
     rw[hcell j (by omega),←hu,List.getElem?_map,List.getElem?_take,if_pos hj];have hzj:j < zs.length:=by omega
     simp[yAB hzj]
theorem zTN {fuel:Nat} {cs:List Value} {x:DataW H×List MemPlace} (h:DataW.trod enc prog W 0 (fun _=>true) true fuel 39 cs=some x):
 ∃k n:Int,cs=[.int .i64 k,.int .i64 n]∧(Lit.int .i64 k).wf=true∧(Lit.int .i64 n).wf=true:=by
 obtain⟨y0,y1,m,_,hl,h0,h1⟩:=trod_struct2 underlying39 h;rw[zSa]at hl;simp only[zSN]at h0 h1
 match cs,hl with
 | [a,b],_=>
  obtain⟨k,e0,_,w0⟩:=DataW.trod_int underlying3 h0;obtain⟨n,e1,_,w1⟩:=DataW.trod_int underlying3 h1;simp only[List.drop_zero,List.take_succ_cons,List.take_zero,List.drop_succ_cons,List.cons.injEq,and_true]at e0 e1;subst e0 e1;exact⟨k,n,rfl,w0,w1⟩
theorem zTO {fuel:Nat} {cs:List Value} {x:DataW H×List MemPlace} (h:DataW.trod enc prog W 0 (fun _=>true) true fuel 42 cs=some x):
 ∃(b:Bool) (A:Option Addr) (n c:Nat) (zs:List Int),cs=[.bool b,.slice A n c]∧n≤c∧c≤maxLen∧zs.length=n∧(∀z∈zs,(Lit.int .u32 z).wf=true)∧Reads W W.heap.size 1 A n (zs.map (Value.int .u32)):=by
 obtain⟨y0,y1,m,_,hl,h0,h1⟩:=trod_struct2 underlying42 h;rw[zSb]at hl;simp only[zSv,zSx]at h0 h1
 match cs,hl with
 | [a,b],_=>
  obtain⟨k,e0,_⟩:=DataW.trod_bool underlying4 h0;obtain⟨A,n,c,zs,e1,h2,h3,h4,h5,h6⟩:=zSC underlying40 underlying87 zTM h1;simp only[List.drop_zero,List.take_succ_cons,List.take_zero,List.drop_succ_cons,List.cons.injEq,and_true]at e0 e1;subst e0 e1;exact⟨k,A,n,c,zs,rfl,h2,h3,h4,h5,h6⟩
theorem zSz (s:ByteArray):(⟨s.toList.toArray⟩:ByteArray)=s:=by
 rw[ByteArray.toList_eq]
theorem zS0 {fuel:Nat} {cs:List Value} {d:DataW H×List MemPlace} (h:DataW.trod enc prog W 0 (fun _=>true) true fuel 48 cs=some d):
 ∃x s,cs=ndV x s∧NdR W W.heap.size x s:=by
 obtain⟨xs,m,_,_,hl,hxl,hf⟩:=DataW.trod_struct underlying48 h;rw[zSP]at hl
 match cs,hl with
 | [a0,a1,a2,a3,a4,a5,a6,a7],_=>
  match xs,hxl with
  | [y0,y1,y2,y3,y4,y5],_=>
   have f0:DataW.trod enc prog W 0 (fun _=>true) true m 3 (([a0,a1,a2,a3,a4,a5,a6,a7].drop 0).take (prog.cellsOf 3))=[y0,y1,y2,y3,y4,y5][0]? :=hf 0 _ rfl;have f1:DataW.trod enc prog W 0 (fun _=>true) true m 9 (([a0,a1,a2,a3,a4,a5,a6,a7].drop 1).take (prog.cellsOf 9))=[y0,y1,y2,y3,y4,y5][1]? :=hf 1 _ rfl;have f2:DataW.trod enc prog W 0 (fun _=>true) true m 22 (([a0,a1,a2,a3,a4,a5,a6,a7].drop 2).take (prog.cellsOf 22))=[y0,y1,y2,y3,y4,y5][2]? :=hf 2 _ rfl;have f3:DataW.trod enc prog W 0 (fun _=>true) true m 39 (([a0,a1,a2,a3,a4,a5,a6,a7].drop 3).take (prog.cellsOf 39))=[y0,y1,y2,y3,y4,y5][3]? :=hf 3 _ rfl;have f4:DataW.trod enc prog W 0 (fun _=>true) true m 42 (([a0,a1,a2,a3,a4,a5,a6,a7].drop 5).take (prog.cellsOf 42))=[y0,y1,y2,y3,y4,y5][4]? :=hf 4 _ rfl;have f5:DataW.trod enc prog W 0 (fun _=>true) true m 32 (([a0,a1,a2,a3,a4,a5,a6,a7].drop 7).take (prog.cellsOf 32))=[y0,y1,y2,y3,y4,y5][5]? :=hf 5 _ rfl;simp only[zSN,zTK,zSw,zSa,zSb,zSy,List.drop_zero,List.take_succ_cons,List.take_zero,List.drop_succ_cons,List.getElem?_cons_zero,List.getElem?_cons_succ]at f0 f1 f2 f3 f4 f5;obtain⟨k,e0,_,w0⟩:=DataW.trod_int underlying3 f0;obtain⟨nm,e1,_,w1⟩:=DataW.trod_string underlying9 f1;obtain⟨As,ns,cs',zs,e2,s1,s2,s3,s4,s5⟩:=zSC underlying22 underlying24 zTL f2;obtain⟨nk,nn,e3,w3,w4⟩:=zTN f3;obtain⟨ng,Am,nm2,cm,zm,e4,m1,m2,m3,m4,m5⟩:=zTO f4;obtain⟨Ak,nk2,ck,zk,e5,k1,k2,k3,k4,k5⟩:=zSC underlying32 underlying3 zSN f5;simp only[List.cons.injEq,and_true]at e0 e1 e2 e3 e4 e5;obtain⟨e3,e3'⟩:=e3;obtain⟨e4,e4'⟩:=e4;subst e0 e1 e2 e3 e3' e4 e4' e5;subst s3 m3 k3;have hu:zAD (zs.map fun n=>UInt16.ofNat n.toNat)=zs.map (Value.int .u16):=by
    unfold zAD;rw[List.map_map];refine List.map_congr_left fun z hz=>?_;have hw:=bounds_u16 (s4 z hz);show Value.int .u16 _=_;have e:((UInt16.ofNat z.toNat).toNat:Int)=z:=by simp;omega
    exact congrArg _ e
   have hm:zRX (zm.map fun n=>n.toNat)=zm.map (Value.int .u32):=by
    unfold zRX;rw[List.map_map];refine List.map_congr_left fun z hz=>?_;have hw:=bounds_u32 (m4 z hz);have e:((z.toNat:Nat):Int)=z:=by omega
    exact congrArg _ e
   refine⟨⟨k,nm.toList,zs.map fun n=>UInt16.ofNat n.toNat,nk,nn,ng,zm.map fun n=>n.toNat,zk⟩,⟨As,Am,Ak,cs',cm,ck⟩,?_,?_⟩
   · unfold ndV;simp only[zSz,List.length_map]
   · refine⟨?_,?_,?_,?_,?_,?_,fun y hy=>?_,fun y hy=>bounds_i64 (k4 y hy),bounds_i64 w0,bounds_i64 w3,bounds_i64 w4,?_⟩
     · show Reads W W.heap.size 1 As (List.map _ zs).length (zAD _);rw[hu,List.length_map];exact s5
     · show Reads W W.heap.size 1 Am (List.map _ zm).length (zRX _);rw[hm,List.length_map];exact m5
     · exact k5
     · show(List.map _ zs).length≤_∧_;rw[List.length_map];exact⟨s1,s2⟩
     · show(List.map _ zm).length≤_∧_;rw[List.length_map];exact⟨m1,m2⟩
     · exact⟨k1,k2⟩
     · obtain⟨z,hz,rfl⟩:=List.mem_map.1 hy;have hw:=bounds_u32 (m4 z hz);omega
     · show nm.toList.length≤_;rw[ByteArray.toList_eq];have:nm.data.toList.length=nm.size:=by simp
       rw[this];unfold maxLen at w1;omega
theorem zSl {fuel:Nat} {cs:List Value} {d:DataW H×List MemPlace} (h:DataW.trod enc prog W 0 (fun _=>true) true fuel 25 cs=some d):
 ∃(A:Option Addr) (n c:Nat) (ts:List Nd),cs=[.slice A n c]∧n≤c∧c≤maxLen∧NdsR W W.heap.size A n ts:=by
 rcases Go.Deep.open_slice underlying25 h with⟨hcs,_⟩ | ⟨a,len,cap,m,n,D,Pl,hcs,_,hl,hm,hmm,_,hx⟩
 · exact⟨none,0,0,[],hcs,yAC _,yAE _,NdsR.nil rfl⟩
 · simp only[if_true]at hmm;subst hmm;have each:∀i,i < len→∃p:Nd×NdSl,W.cells? 0 (a.add (i*8)) 8=some (ndV p.1 p.2)∧NdR W W.heap.size p.1 p.2:=by
    intro i hi;obtain⟨cs',h1,h2⟩:=hx i (by omega);rw[zSP]at h1;obtain⟨x,s,rfl,hR⟩:=zS0 h2;exact⟨(x,s),h1,hR⟩
   obtain⟨f,hf⟩:∃f:Nat→Nd×NdSl,∀i,i < len→W.cells? 0 (a.add (i*8)) 8=some (ndV (f i).1 (f i).2)∧NdR W W.heap.size (f i).1 (f i).2:=by
    classical
    refine⟨fun i=>if hi:i < len then Classical.choose (each i hi)else(zBg,⟨none,none,none,0,0,0⟩),fun i hi=>?_⟩;simp only[dif_pos hi];exact Classical.choose_spec (each i hi)
   refine⟨some a,len,m,(List.range len).map fun i=>(f i).1,hcs,hl,hm,by simp,fun h0=>?_⟩;have hat:∀i,i < len→∀j,j < 8→W.cell? (a.add (i*8+j))=(ndV (f i).1 (f i).2)[j]? :=by
    intro i hi j hj;have:=(World.cells?_some (hf i hi).1).2.2 j hj;rwa [zIm]at this
   have hc0:=hat 0 h0 0 (by omega);rw[Nat.zero_mul,Nat.zero_add,Addr.add_zero]at hc0;have hsp:a.spot=none:=by
    cases hsp:a.spot with
    | none=>rfl
    | some s=>
     exfalso;simp only[World.cell?,hsp]at hc0;split at hc0
     · simp[ndV]at hc0
     · cases hc0
   obtain⟨b,o,sp⟩:=a;simp only at hsp;subst hsp;refine⟨b,o,rfl,World.block_lt_of_cell? W _ hc0,fun i hi=>?_⟩;have hi':i < len:=by simpa using hi
   have hg:((List.range len).map fun i=>(f i).1)[i]=(f i).1:=by simp
   rw[hg];have hk:∀j,j < 8→W.cell? ⟨b,o+i*8+j,none⟩=(ndV (f i).1 (f i).2)[j]? :=fun j hj=>by
    have:=hat i hi' j hj;rw[Addr.add_lit,←Nat.add_assoc]at this;exact this
   exact⟨(f i).2,⟨hk 0 (by omega),hk 1 (by omega),hk 2 (by omega),hk 3 (by omega),hk 4 (by omega),hk 5 (by omega),hk 6 (by omega),hk 7 (by omega)⟩,(hf i hi').2⟩
theorem zSm {base:Nat} {v:Value} {d:DataW H} {p:List MemPlace} (hv:Value.okWide prog W .any base 27 v) (h:DataW.Trod enc prog W 0 (fun _=>true) true 27 v d p):
 ∃(A:Option Addr) (n c:Nat) (ts:List Nd),v=.agg #[.slice A n c]∧n≤c∧c≤maxLen∧NdsR W W.heap.size A n ts:=by
 obtain⟨cs,rfl,hs⟩:=okWide_struct underlying27 hv;obtain⟨fuel,hf⟩:=h;obtain⟨y0,m,_,hl,h0⟩:=trod_struct1 underlying27 hf;rw[zSu]at hs;simp only[zSk]at h0;obtain⟨l⟩:=cs
 match l,hs with
 | [a],_=>
  obtain⟨A,n,c,ts,e,h1,h2,h3⟩:=zSl h0;have e':[a]=[.slice A n c]:=e;obtain rfl:a=.slice A n c:=by injection e'
  exact⟨A,n,c,ts,rfl,h1,h2,h3⟩
end
end Zq
def At (ts:List Nd) (n:Nat) (t:Tr):Prop:=∃a b,ts=a++flatT n t++b∧a.length=n
def AtL (ts:List Nd) (n:Nat) (l:List Tr):Prop:=∃a b,ts=a++flatL n l++b∧a.length=n
theorem At.get {ts:List Nd} {n:Nat} {t:Tr} (h:At ts n t):ts[n]? =some (t.laid n):=by
 obtain⟨a,b,rfl,hl⟩:=h;rw[List.append_assoc,List.getElem?_append_right (by omega),hl,Nat.sub_self,List.getElem?_append_left (by rw[flatT_len];exact zBi t)];exact zE4 n t
theorem At.le {ts:List Nd} {n:Nat} {t:Tr} (h:At ts n t):n+t.size≤ts.length:=by
 obtain⟨a,b,rfl,hl⟩:=h;simp only[List.length_append,flatT_len];omega
theorem At.subs {ts:List Nd} {n:Nat} {x:Nd} {l:List Tr} (h:At ts n (.mk x l)):AtL ts (n+1) l:=by
 obtain⟨a,b,rfl,hl⟩:=h;rw[zA2];exact⟨a++[{x with kids:=zAM (n+1) l}],b,by simp,by simp[hl]⟩
theorem AtL.head {ts:List Nd} {n:Nat} {t:Tr} {l:List Tr} (h:AtL ts n (t::l)):At ts n t:=by
 obtain⟨a,b,rfl,hl⟩:=h;rw[zAU];exact⟨a,flatL (n+t.size) l++b,by simp,hl⟩
theorem AtL.tail {ts:List Nd} {n:Nat} {t:Tr} {l:List Tr} (h:AtL ts n (t::l)):AtL ts (n+t.size) l:=by
 obtain⟨a,b,rfl,hl⟩:=h;rw[zAU];exact⟨a++flatT n t,b,by simp,by simp[hl,flatT_len]⟩
theorem AtL.kid {ts:List Nd}:∀{l:List Tr} {n:Nat} (_:AtL ts n l) (i:Nat) (hi:i < l.length),∃p:Nat,(zAM n l)[i]? =some (p:Int)∧At ts p l[i]∧n≤p:=by
 intro l
 induction l with
 | nil=>intro n h i hi;simp at hi
 | cons t r ih=>
  intro n h i hi;cases i with
  | zero=>exact⟨n,rfl,h.head,yAC _⟩
  | succ i=>
   obtain⟨p,h1,h2,h3⟩:=ih h.tail i (by simpa using hi);exact⟨p,by simpa [zAM]using h1,h2,by omega⟩
theorem At.whole (t:Tr):At (flatT 0 t) 0 t:=⟨[],[],by simp,rfl⟩
theorem zTs {ts:List Nd} {t:Tr} (h:May ts t):zO3 ts=true:=by
 have hx:=zE4 0 t;rw[←h.flat]at hx;unfold zO3;cases ts with
 | nil=>cases hx
 | cons x r=>
  have hx:x=t.laid 0:=Option.some.inj hx;simp only[Bool.and_eq_true,decide_eq_true_eq,beq_iff_eq];refine⟨⟨⟨⟨h.len,by rw[hx,zF4];exact h.kind⟩,?_⟩,h.each⟩,?_⟩
  · rw[h.flat];exact zE6 t
  · rw[h.flat,zF3];exact h.nest
theorem zSQ {ts:List Nd} {n:Nat} {t:Tr} (h:At ts n t):atN ts (n:Int)=t.laid n:=by
 unfold atN;rw[yAG,Int.toNat_natCast,h.get];rfl
mutual
def dangT:Tr→Bool
 | .mk x l=>if x.kind=8∧l.length=2 then true else if x.kind=8∨x.kind=9∨x.kind=10∨x.kind=18 then dangL l else false
def dangL:List Tr→Bool
 | []=>false
 | t::r=>match r with | []=>dangT t | _::_=>dangL r
end
theorem zTP (x:Nd) (l:List Tr):dangT (.mk x l)=if x.kind=8∧l.length=2 then true else if x.kind=8∨x.kind=9∨x.kind=10∨x.kind=18 then dangL l else false:=by rw[dangT]
theorem zS1:dangL []=false:=by rw[dangL]
theorem zS2 (t:Tr):dangL [t]=dangT t:=by rw[dangL]
theorem zS3 (t s:Tr) (r:List Tr):dangL (t::s::r)=dangL (s::r):=by rw[dangL]
def zSE (l:List Tr):List Int:=l.map (·.nd.kind)
def zSn:List Nat→Nat→List Int→Bool
 | _,_,[]=>true
 | [],r,k::ks=>zD6 r k&&zSn [] r ks
 | s::l,r,k::ks=>zD6 s k&&zSn l r ks
def zT0 (l:List Tr) (i:Nat):Int:=(zSE l).getD i 0
def zTt (l:List Tr) (i:Nat):Bool:=match l[i]? with | none=>false | some t=>dangT t
def zSV (k:Int) (l:List Tr):Bool:=
 zD5 k&&decide ((zAA k l.length).1.length≤l.length)
 &&zSn (zAA k l.length).1 (zAA k l.length).2 (zSE l)
 &&(if k=16 then(zT0 l 1==17 || zT0 l 2==4)else if k=8∧l.length=3 then !(zTt l 1)else true)
mutual
def goodT:Tr→Bool
 | .mk x l=>zh x&&zSV x.kind l&&goodL l
def goodL:List Tr→Bool
 | []=>true
 | t::r=>goodT t&&goodL r
end
theorem zSF (x:Nd) (l:List Tr):goodT (.mk x l)=(zh x&&zSV x.kind l&&goodL l):=by rw[goodT]
theorem zSR:goodL []=true:=by rw[goodL]
theorem zSJ (t:Tr) (r:List Tr):goodL (t::r)=(goodT t&&goodL r):=by rw[goodL]
theorem zSo:∀(l:List Tr),dangL l=match l.getLast? with | none=>false | some t=>dangT t:=by
 intro l
 induction l with
 | nil=>rw[zS1];rfl
 | cons t r ih=>
  cases r with
  | nil=>rw[zS2];rfl
  | cons s r=>rw[zS3,ih,List.getLast?_cons_cons]
theorem zSW:∀{ts:List Nd} {l:List Tr} {n:Nat} (_:AtL ts n l),(l=[]∧(zAM n l).getLast? =none)∨∃(p:Nat) (t:Tr),(zAM n l).getLast? =some (p:Int)∧l.getLast? =some t∧At ts p t∧t.size≤sizes l:=by
 intro ts l
 induction l with
 | nil=>intro n _;exact .inl ⟨rfl,rfl⟩
 | cons t r ih=>
  intro n h;right;rcases ih h.tail with⟨hr,_⟩ | ⟨p,s,h1,h2,h3,h4⟩
  · subst hr;exact⟨n,t,rfl,rfl,h.head,by rw[zI];omega⟩
  · cases r with
    | nil=>cases h2
    | cons s' r'=>
     refine⟨p,s,?_,by rw[List.getLast?_cons_cons];exact h2,h3,by rw[zI];omega⟩;show((n:Int)::zAM (n+t.size) (s'::r')).getLast? =_;rw[show zAM (n+t.size) (s'::r')=((n+t.size:Nat):Int)::zAM (n+t.size+s'.size) r' from rfl]at h1⊢;rw[List.getLast?_cons_cons];exact h1
theorem zTh {ts:List Nd}:∀(f:Nat) (n:Nat) (t:Tr),At ts n t→t.size≤f→zMa f ts (n:Int)=dangT t:=by
 intro f
 induction f with
 | zero=>intro n t _ h;have:=zBi t;omega
 | succ f ih=>
  intro n t h hf;cases t with
  | mk x l=>
   rw[zb]at hf;rw[zTP];unfold zMa;have e1:(atN ts (n:Int)).kind=x.kind:=by rw[zSQ h];rfl
   have e2:(atN ts (n:Int)).kids=zAM (n+1) l:=by rw[zSQ h];rfl
   rw[e1,e2,zDN];congr 1;congr 1;rw[zSo];rcases zSW h.subs with⟨hl,h1⟩ | ⟨p,s,h1,h2,h3,h4⟩
   · rw[h1,hl];rfl
   · rw[h1,h2];exact ih p s h3 (by omega)
theorem zS4 {ts:List Nd} {n:Nat} {t:Tr} (h:At ts n t):zCm ts (n:Int)=dangT t:=zTh _ n t h (by have:=h.le;omega)
theorem zTu {ts:List Nd}:∀(l:List Tr) (n:Nat) (s:List Nat) (r:Nat),AtL ts n l→zBT ts s r (zAM n l)=zSn s r (zSE l):=by
 intro l
 induction l with
 | nil=>intro n s r _;cases s<;>rfl
 | cons t l ih=>
  intro n s r h;have h1:(atN ts (n:Int)).kind=t.nd.kind:=by rw[zSQ h.head,zF4]
  cases s with
  | nil=>
   show(zD6 r (atN ts (n:Int)).kind&&zBT ts [] r (zAM (n+t.size) l))=(zD6 r t.nd.kind&&zSn [] r (zSE l));rw[h1,ih _ _ _ h.tail]
  | cons a s=>
   show(zD6 a (atN ts (n:Int)).kind&&zBT ts s r (zAM (n+t.size) l))=(zD6 a t.nd.kind&&zSn s r (zSE l));rw[h1,ih _ _ _ h.tail]
theorem zTQ:∀(ks:List Int) (l:List Nat),zSn l 0 ks=true→ks.length≤l.length:=by
 intro ks
 induction ks with
 | nil=>intro l _;simp
 | cons k r ih=>
  intro l h;cases l with
  | nil=>
   unfold zSn at h;simp[zD6]at h
  | cons s l=>
   unfold zSn at h;rw[Bool.and_eq_true]at h;have:=ih l h.2;simp only[List.length_cons];omega
theorem zR9 {ts:List Nd} {n:Nat} {l:List Tr} (h:AtL ts n l) {i:Nat} (hi:i < l.length):∃p:Nat,(zAM n l).getD i 0=(p:Int)∧At ts p l[i]:=by
 obtain⟨p,h1,h2,_⟩:=h.kid i hi;exact⟨p,by rw[yAG,h1];rfl,h2⟩
theorem zS5 {l:List Tr} {i:Nat} (hi:i < l.length):zT0 l i=l[i].nd.kind:=by
 unfold zT0 zSE;rw[yAG,List.getElem?_map,yAB hi];rfl
theorem zTi {ts:List Nd} {n:Nat} {x:Nd} {l:List Tr} (h:At ts n (.mk x l)):zCE ts ((Tr.mk x l).laid n)=zSV x.kind l:=by
 have hk:((Tr.mk x l).laid n).kind=x.kind:=rfl;have hs:((Tr.mk x l).laid n).kids=zAM (n+1) l:=rfl;unfold zCE zSV;rw[hk,hs,zDN,zTu l (n+1) _ _ h.subs]
 by_cases h1:decide ((zAA x.kind l.length).1.length≤l.length)=true
 · rw[h1]
   by_cases h2:zSn (zAA x.kind l.length).1 (zAA x.kind l.length).2 (zSE l)=true
   · rw[h2];congr 1
     by_cases h16:x.kind=16
     · rw[if_pos h16,if_pos h16];have hl:l.length=3:=by
        rw[h16]at h1 h2;have h3:3≤l.length:=of_decide_eq_true h1;have h4:=zTQ _ _ h2;unfold zSE at h4;rw[List.length_map]at h4;exact Nat.le_antisymm h4 h3
       obtain⟨p,e1,a1⟩:=zR9 h.subs (i:=1) (by omega);obtain⟨q,e2,a2⟩:=zR9 h.subs (i:=2) (by omega);rw[e1,e2,zSQ a1,zSQ a2,zF4,zF4,zS5 (by omega),zS5 (by omega)]
     · rw[if_neg h16,if_neg h16]
       by_cases h8:x.kind=8∧l.length=3
       · rw[if_pos h8,if_pos h8];obtain⟨p,e1,a1⟩:=zR9 h.subs (i:=1) (by omega);rw[e1,zS4 a1];unfold zTt;rw[yAB (by omega)]
       · rw[if_neg h8,if_neg h8]
   · rw[Bool.not_eq_true]at h2;rw[h2];simp
 · rw[Bool.not_eq_true]at h1;rw[h1];simp
theorem zTR {ts:List Nd} (a b:List Nd) (n:Nat):zCx ts n (a++b)=(zCx ts n a&&zCx ts (n+a.length) b):=by
 induction a generalizing n with
 | nil=>simp[zCx]
 | cons x r ih=>
  show(_&&zCx ts (n+1) (r++b))=_;rw[ih];show _=((_&&zCx ts (n+1) r)&&zCx ts (n+(r.length+1)) b);rw[show n+1+r.length=n+(r.length+1) by omega];simp only[Bool.and_assoc]
theorem zSS (x:Nd) (ks:List Int):zh {x with kids:=ks}=zh x:=rfl
theorem zSc (s:Nat):zD6 s 1=false:=by
 have f:∀{p:Prop} [Decidable p] {a b:Bool},a=false→b=false→(if p then a else b)=false:=fun h1 h2=>by split<;>assumption
 unfold zD6
 repeat' refine f ?_ ?_
 all_goals rfl
theorem zTS:∀(ks:List Int) (s:List Nat) (r:Nat),zSn s r ks=true→∀k∈ks,k≠1:=by
 intro ks
 induction ks with
 | nil=>intro s r _ k hk;cases hk
 | cons a ks ih=>
  intro s r h k hk;cases s with
  | nil=>
   unfold zSn at h;rw[Bool.and_eq_true]at h;rcases List.mem_cons.1 hk with rfl | hk
   · intro e;rw[e,zSc]at h;cases h.1
   · exact ih _ _ h.2 k hk
  | cons b s=>
   unfold zSn at h;rw[Bool.and_eq_true]at h;rcases List.mem_cons.1 hk with rfl | hk
   · intro e;rw[e,zSc]at h;cases h.1
   · exact ih _ _ h.2 k hk
mutual
theorem eachT {ts:List Nd} (n:Nat) (t:Tr) (h:At ts n t) (h1:n=0∨t.nd.kind≠1):zCx ts n (flatT n t)=goodT t:=by
 cases t with
 | mk x l=>
  rw[zA2,zSF];show(!(decide (0 < n)&&x.kind==1)&&zh {x with kids:=zAM (n+1) l}&&zCE ts ((Tr.mk x l).laid n)&&zCx ts (n+1) (flatL (n+1) l))=_;have e:(decide (0 < n)&&x.kind==1)=false:=by
   rcases h1 with h1 | h1
   · subst h1;rfl
   · have:(x.kind==1)=false:=yA.2 h1;rw[this,Bool.and_false]
  rw[e,zSS,zTi h,Bool.not_false,Bool.true_and]
  by_cases h2:zSV x.kind l=true
  · rw[eachL (n+1) l h.subs (by omega) (by
     unfold zSV at h2;simp only[Bool.and_eq_true]at h2;intro t ht;exact zTS _ _ _ h2.1.2 _ (List.mem_map_of_mem ht))]
  · rw[Bool.not_eq_true]at h2;rw[h2];simp
theorem eachL {ts:List Nd} (n:Nat) (l:List Tr) (h:AtL ts n l) (h0:0 < n) (h1:∀t∈l,t.nd.kind≠1):zCx ts n (flatL n l)=goodL l:=by
 cases l with
 | nil=>rw[zAb,zSR];rfl
 | cons t r=>
  rw[zAU,zSJ,zTR,flatT_len,eachT n t h.head (.inr (h1 t (List.mem_cons_self ..))),eachL (n+t.size) r h.tail (by omega) fun s hs=>h1 s (List.mem_cons_of_mem _ hs)]
end
structure Good (t:Tr):Prop where
 size:t.size≤4096
 kind:t.nd.kind=1
 good:goodT t=true
 nest:depT t≤48
theorem zSd {t:Tr}:May (flatT 0 t) t↔Good t:=by
 have he:=eachT (ts:=flatT 0 t) 0 t (At.whole t) (.inl rfl);constructor
 · intro h;exact⟨by have:=h.len;rw[flatT_len]at this;exact this,h.kind,by rw[←he];exact h.each,h.nest⟩
 · intro h;exact⟨rfl,by rw[flatT_len];exact h.size,by rw[he];exact h.good,h.nest,h.kind⟩
theorem zTT {ts:List Nd} {t:Tr} (h:May ts t):Good t:=by
 have e:=h.flat
 subst e;exact zSd.1 h
theorem zSe {ts:List Nd}:zO3 ts=true↔∃t,ts=flatT 0 t∧Good t:=by
 constructor
 · intro h;obtain⟨t,ht⟩:=zMc h;exact⟨t,ht.flat,zTT ht⟩
 · rintro⟨t,rfl,h⟩;exact zTs (zSd.2 h)
def zT5:List (List UInt8):=[[101,108,115,101],[99,97,116,99,104],[102,105,110,97,108,108,121],[63],[63,63],[124,124],[38,38],[40],[46],[91],[61],[44],[58],[61,62]]
structure Stop (t:Tok):Prop where
 name:t.kind≠1
 binds:zCi t=9
 words:∀w∈zT5,isT t w=false
 asgn:t.kind=5→¬t.text∈zO2
 post:t.kind=5→t.text∈zFT→t.nl=true
section
variable {L1 L2:List Tok} {a d m:Nat} {lo:Bool} {s:Ps} {w:List UInt8}
variable {R1 R2:Ph→Ps→Tr×Ps}
end
theorem zTj {k:Int}:∀{ts:List Nd} {j:Nat} {y:Nd},ts[j]? =some y→k∈y.kids→1≤(zAI ts).count k:=by
 intro ts j y h hk;refine List.count_pos_iff.2 ?_;unfold zAI;rw[List.mem_flatMap];exact⟨y,List.mem_of_getElem? h,hk⟩
theorem zS6 {k:Int}:∀{ts:List Nd} {n j:Nat} {x y:Nd},n < j→ts[n]? =some x→ts[j]? =some y→k∈x.kids→k∈y.kids→2≤(zAI ts).count k:=by
 intro ts
 induction ts with
 | nil=>intro n j x y _ h;cases h
 | cons z r ih=>
  intro n j x y hnj hx hy hkx hky;rw[zCJ,List.count_append];obtain⟨j,rfl⟩:∃i,j=i+1:=⟨j - 1,by omega⟩;cases n with
  | zero=>
   obtain rfl:z=x:=Option.some.inj hx;have h1:1≤z.kids.count k:=List.count_pos_iff.2 hkx;have h2:1≤(zAI r).count k:=zTj (j:=j) hy hky;omega
  | succ n=>
   have:=ih (n:=n) (j:=j) (by omega) hx hy hkx hky;omega
theorem zSp {ts:List Nd} {t:Tr} (h:ts=flatT 0 t) {n j:Nat} {x y:Nd} {k:Nat} (hx:ts[n]? =some x) (hy:ts[j]? =some y) (hkx:(k:Int)∈x.kids) (hky:(k:Int)∈y.kids):n=j:=by
 have hc:(zAI ts).count (k:Int)≤1:=by rw[h,countT];split<;>omega
 rcases Nat.lt_trichotomy n j with h1 | h1 | h1
 · have:=zS6 h1 hx hy hkx hky;omega
 · exact h1
 · have:=zS6 h1 hy hx hky hkx;omega
theorem zS7 {n k:Nat}:∀(ks l:List Int),(∀j∈ks,0≤j)→k < l.length→(upK n l ks)[k]? =if(k:Int)∈ks then some (n:Int)else l[k]? :=by
 intro ks
 induction ks with
 | nil=>intro l _ _;rfl
 | cons j r ih=>
  intro l hj hk;show(upK n (l.set j.toNat n) r)[k]? =_;rw[ih _ (fun i hi=>hj i (List.mem_cons_of_mem _ hi)) (by rw[List.length_set];exact hk)];have h0:=hj j List.mem_cons_self
  by_cases h1:(k:Int)∈r
  · rw[if_pos h1,if_pos (List.mem_cons_of_mem _ h1)]
  · rw[if_neg h1,List.getElem?_set]
    by_cases h2:(k:Int)=j
    · subst h2;rw[if_pos (Int.toNat_natCast k),if_pos List.mem_cons_self,if_pos (by rw[Int.toNat_natCast];exact hk)]
    · rw[if_neg (by omega),if_neg (by intro h;rcases List.mem_cons.1 h with h | h;exact h2 h;exact h1 h)]
theorem zTv {ts:List Nd} (hf:Fwd ts) {n k:Nat} {x:Nd} (hx:ts[n]? =some x) (hk:(k:Int)∈x.kids) (hu:∀j y,ts[j]? =some y→(k:Int)∈y.kids→n=j):∀m,n < m→m≤ts.length→(zFU ts m)[k]? =some (n:Int):=by
 have hkl:=(hf n x hx _ hk).2;intro m
 induction m with
 | zero=>intro h;omega
 | succ m ih=>
  intro h hm;have hy:=yAB (show m < ts.length by omega);rw[zFU,zS7 _ _ (fun j hj=>by rw[zAv hy]at hj;have:=(hf m _ hy j hj).1;omega) (by rw[zHz];omega),zAv hy]
  by_cases h1:(k:Int)∈ts[m].kids
  · rw[if_pos h1,hu m _ hy h1]
  · rw[if_neg h1];refine ih ?_ (by omega);rcases Nat.lt_or_ge n m with h2 | h2
    · exact h2
    · obtain rfl:n=m:=by omega
      rw[hx]at hy;cases hy;exact absurd hk h1
theorem zS8 {ts:List Nd} (h:zO3 ts=true) {n k:Nat} {x:Nd} (hx:ts[n]? =some x) (hk:(k:Int)∈x.kids):upA (upN ts) (k:Int)=(n:Int):=by
 obtain⟨t,ht⟩:=zMc h;have hf:=(zKu h).1.fwd;have hn:=(List.getElem?_eq_some_iff.1 hx).1;have:=zTv hf hx hk (fun j y hy hky=>zSp ht.flat hx hy hk hky) ts.length hn (yAC _);unfold upA upN;rw[Int.toNat_natCast,yAG,this];rfl
theorem zTw (ts:List Nd):(chN ts=(0,0)∧zO3 ts=true)∨((chN ts).2=2∧zO3 ts=false)∨((chN ts).2=5∧zO3 ts=true):=by
 unfold chN;split
 · rename_i hm
   have:∀f n,zQn ts (upN ts) f n=(0,0)∨(zQn ts (upN ts) f n).2=5:=by
    intro f
    induction f with
    | zero=>intro n;exact .inl rfl
    | succ f ih=>
     intro n;unfold zQn;split
     · exact .inr rfl
     · exact ih _
   rcases this ts.length 0 with h | h
   · exact .inl ⟨h,hm⟩
   · exact .inr (.inr ⟨h,hm⟩)
 · rename_i hm
   exact .inr (.inl ⟨rfl,Bool.eq_false_iff.2 hm⟩)
section
variable {ts x:List Nd}
theorem zTx {ts:List Nd} (h:zO3 ts=true) {k:Nat} (h0:0 < k) (hk:k < ts.length):∃(n:Nat) (y:Nd),ts[n]? =some y∧(k:Int)∈y.kids:=by
 obtain⟨t,ht⟩:=zMc h;have hc:(zAI ts).count (k:Int)=1:=by
  have hl:=flatT_len 0 t;rw[←ht.flat]at hl;rw[ht.flat,countT,if_pos (by omega)]
 have:(k:Int)∈zAI ts:=List.count_pos_iff.1 (by omega);unfold zAI at this;obtain⟨y,hy,hky⟩:=List.mem_flatMap.1 this;obtain⟨n,hn,rfl⟩:=List.getElem_of_mem hy;exact⟨n,_,yAB hn,hky⟩
theorem zSO {ts:List Nd} (h:zO3 ts=true):upA (upN ts) 0= -1:=by
 have hE:=(zKu h).1;have h0:=(zKu h).2.1;have:∀m,m≤ts.length→(zFU ts m)[0]? =some (-1):=by
  intro m
  induction m with
  | zero=>
   intro _;unfold zFU;rw[List.getElem?_set,if_pos rfl,if_pos (by simpa using h0)]
  | succ m ih=>
   intro hm;have hy:=yAB (show m < ts.length by omega);rw[zFU,show(0:Nat)=0 from rfl,zS7 (k:=0) _ _ (fun j hj=>by rw[zAv hy]at hj;have:=(hE.fwd m _ hy j hj).1;omega) (by rw[zHz];exact h0),if_neg,ih (by omega)];intro hk;rw[zAv hy]at hk;have:=(hE.fwd m _ hy _ hk).1;omega
 unfold upA upN;rw[yAG,show(0:Int).toNat=0 from rfl,this _ (yAC _)];rfl
theorem zT1 {ts:List Nd} {up:List Int} (hu:UpOk up):∀(f k:Nat),k < up.length→∀n∈(zHy ts up f (k:Int)).1,∃m:Nat,n=(m:Int)∧m < k:=by
 intro f
 induction f with
 | zero=>intro k _ n hn;cases hn
 | succ f ih=>
  intro k hk n hn;have h1:=hu.get hk;unfold zHy at hn;split at hn
  · cases hn
  · rename_i h2
    split at hn
    · cases hn
    · obtain⟨m,hm⟩:∃m:Nat,upA up (k:Int)=(m:Int):=⟨(upA up (k:Int)).toNat,by omega⟩;rw[hm]at hn h1;rcases List.mem_cons.1 hn with h3 | h3
      · exact⟨m,h3,by omega⟩
      · obtain⟨q,h4,h5⟩:=ih m (by omega) n h3;exact⟨q,h4,by omega⟩
theorem zSf {ts:List Nd} (h:knK ts 0=1) (n:Int):hiN ts n 0=false:=by
 unfold hiN;rw[h,if_pos];exact .inr (.inr ⟨rfl,by decide⟩)
theorem zSq {α:Type} {f g:α→Bool}:∀{l:List α},(∀a∈l,f a=g a)→l.any f=l.any g:=by
 intro l
 induction l with
 | nil=>intro _;rfl
 | cons a r ih=>intro h;rw[List.any_cons,List.any_cons,h a List.mem_cons_self,ih fun b hb=>h b (List.mem_cons_of_mem _ hb)]
theorem zS9 {ts:List Nd} (h:zO3 ts=true):wrN ts (upN ts) 0=twN (zAj ts 0):=by
 have hk:=(zKu h).2.2.2;have hu:=zSO h;have e:hiN ts 0 (-1)=false:=by unfold hiN;rw[if_pos (.inl (by decide))]
 unfold wrN;rw[hu,e,hk,Bool.or_false];cases twN (zAj ts 0)<;>rfl
end
def shN (y:Nd):Nd:={y with kids:=y.kids.map (·+1)}
theorem zST:∀(l:List Tr) (n:Nat),zAM (n+1) l=(zAM n l).map (·+1):=by
 intro l
 induction l with
 | nil=>intro n;rfl
 | cons t r ih=>
  intro n;show((n+1:Nat):Int)::zAM (n+1+t.size) r=((n:Int)+1)::(zAM (n+t.size) r).map (·+1);rw[←ih,show n+1+t.size=n+t.size+1 by omega];rfl
mutual
theorem flatT_sh (n:Nat) (t:Tr):flatT (n+1) t=(flatT n t).map shN:=by
 cases t with
 | mk x l=>rw[zA2,zA2,List.map_cons,flatL_sh (n+1) l,zST];rfl
theorem flatL_sh (n:Nat) (l:List Tr):flatL (n+1) l=(flatL n l).map shN:=by
 cases l with
 | nil=>rw[zAb,zAb];rfl
 | cons t r=>rw[zAU,zAU,List.map_append,flatT_sh n t,show n+1+t.size=n+t.size+1 by omega,flatL_sh (n+t.size) r]
end
def zSA (ts:List Nd):List Nd:=match ts with
 | []=>[]
 | y::r=>{zBg with kind:=1,kids:=[1]}::{shN y with kind:=4}::r.map shN
def inB (t:Tr):Tr:=.mk {zBg with kind:=1} [.mk {t.nd with kind:=4} t.subs]
theorem zTU (t:Tr):zSA (flatT 0 t)=flatT 0 (inB t):=by
 cases t with
 | mk x l=>
  unfold inB;rw[zA2,zA2,zAU,zAb,List.append_nil,Tr.nd,Tr.subs,zA2,flatL_sh (0+1) l,zST l (0+1)];rfl
theorem zTk {x:Nd} (h1:x.kind=1) (h:zh x=true):zh {x with kind:=4}=true:=by
 unfold zh at h⊢;rw[h1]at h;exact h
theorem zTV {t:Tr} (h:Good t) (hs:t.size < 4096) (hd:depT t < 48):Good (inB t):=by
 cases t with
 | mk x l=>
  have hx:x.kind=1:=h.kind;have hg:=h.good;rw[zb]at hs;rw[zPH]at hd;rw[zSF]at hg;simp only[Bool.and_eq_true]at hg;unfold inB;rw[Tr.nd,Tr.subs];refine⟨?_,rfl,?_,?_⟩
  · rw[zb,zI,zJ,zb];omega
  · have h4:zSV 4 l=true:=by rw[←hg.1.2,hx];rfl
    rw[zSF,zSJ,zSR,zSF,zTk hx hg.1.1,hg.2,h4];rfl
  · rw[zPH,zKA,zHw,zPH];omega
structure BlkT (ts x:List Nd):Prop where
 may:zO3 ts=true
 mayx:zO3 x=true
 len:x.length=ts.length+1
 same:∀j:Nat,0 < j→j < ts.length→atN x ((j+1:Nat):Int)=shN (atN ts (j:Int))
 one:atN x 1={shN (atN ts 0)with kind:=4}
 root:atN x 0={zBg with kind:=1,kids:=[1]}
theorem zTA {ts:List Nd} {j:Nat}:atN ts (j:Int)=ts.getD j zBg:=by unfold atN;rw[Int.toNat_natCast]
theorem zTy {ts:List Nd} (h:zO3 ts=true) (hs:ts.length < 4096) (hd:zIj ts < 48):BlkT ts (zSA ts):=by
 obtain⟨t,rfl,hg⟩:=zSe.1 h;rw[zF3]at hd;rw[flatT_len]at hs;have hx:zO3 (zSA (flatT 0 t))=true:=by
  rw[zTU];exact zSe.2 ⟨_,rfl,zTV hg hs hd⟩
 cases hq:flatT 0 t with
 | nil=>rw[hq]at h;cases h
 | cons y r=>
  rw[hq]at h hx;refine⟨h,hx,by unfold zSA;simp,fun j h0 hj=>?_,rfl,rfl⟩;obtain⟨j,rfl⟩:∃i,j=i+1:=⟨j - 1,by omega⟩;have hj:j < r.length:=by simpa using hj
  rw[zTA,zTA];unfold zSA;simp only[yAG,List.getElem?_cons_succ,List.getElem?_map,yAB hj];rfl
section
variable {ts x:List Nd}
theorem BlkT.kid (g:BlkT ts x) {j:Nat} (hj:j < ts.length) {k:Int} (hk:k∈(atN ts (j:Int)).kids):∃m:Nat,k=(m:Int)∧j < m∧m < ts.length:=by
 have hx:=yAB hj;rw[zAv hx]at hk;have:=(zKu g.may).1.fwd j _ hx k hk;exact⟨k.toNat,by omega,by omega,by omega⟩
theorem BlkT.knk (g:BlkT ts x) {j:Nat} (h0:0 < j) (hj:j < ts.length):knK x ((j+1:Nat):Int)=knK ts (j:Int):=by
 unfold knK;rw[g.same j h0 hj];rfl
theorem BlkT.nmn (g:BlkT ts x) {j:Nat} (h0:0 < j) (hj:j < ts.length):nmN x ((j+1:Nat):Int)=nmN ts (j:Int):=by
 unfold nmN;rw[g.same j h0 hj];rfl
theorem BlkT.map (g:BlkT ts x) {α:Type} {f h:Int→α} {j:Nat} (hj:j < ts.length) (hf:∀m:Nat,0 < m→m < ts.length→f ((m+1:Nat):Int)=h (m:Int)):(shN (atN ts (j:Int))).kids.map f=(atN ts (j:Int)).kids.map h:=by
 show((atN ts (j:Int)).kids.map (·+1)).map f=_;rw[List.map_map];refine List.map_congr_left fun k hk=>?_;obtain⟨m,rfl,h1,h2⟩:=g.kid hj hk;exact hf m (by omega) h2
theorem BlkT.flat (g:BlkT ts x) {α:Type} {f h:Int→List α} {j:Nat} (hj:j < ts.length) (hf:∀m:Nat,0 < m→m < ts.length→f ((m+1:Nat):Int)=h (m:Int)):(shN (atN ts (j:Int))).kids.flatMap f=(atN ts (j:Int)).kids.flatMap h:=by
 rw[List.flatMap_def,List.flatMap_def,g.map hj hf]
theorem BlkT.decl (g:BlkT ts x) {j:Nat} (h0:0 < j) (hj:j < ts.length):zEB x ((j+1:Nat):Int)=zEB ts (j:Int):=by
 unfold zEB;rw[g.same j h0 hj];exact g.map hj fun m h1 h2=>g.nmn h1 h2
theorem BlkT.blk (g:BlkT ts x) {j:Nat} (h0:0 < j) (hj:j < ts.length):zGz x ((j+1:Nat):Int)=zGz ts (j:Int):=by
 unfold zGz;rw[g.knk h0 hj,g.decl h0 hj,g.nmn h0 hj]
theorem BlkT.par (g:BlkT ts x) {j:Nat} (h0:0 < j) (hj:j < ts.length):zG0 x ((j+1:Nat):Int)=zG0 ts (j:Int):=by
 unfold zG0;rw[g.knk h0 hj,g.nmn h0 hj]
theorem BlkT.kid0s (g:BlkT ts x) {j:Nat} (hj:j < ts.length) (hk:knK ts (j:Int)=10∨knK ts (j:Int)=18):∃m:Nat,zKC (atN ts (j:Int))=(m:Int)∧zKC (shN (atN ts (j:Int)))=((m+1:Nat):Int)∧j < m∧m < ts.length:=by
 have hx:=yAB hj;have hne:(atN ts (j:Int)).kids≠[]:=by
  unfold knK at hk;rw[zAv hx]at hk⊢;exact(zKu g.may).1.first _ (List.getElem_mem hj) hk
 cases hq:(atN ts (j:Int)).kids with
 | nil=>exact absurd hq hne
 | cons a r=>
  obtain⟨m,rfl,h1,h2⟩:=g.kid hj (k:=a) (by rw[hq];exact List.mem_cons_self);refine⟨m,?_,?_,h1,h2⟩
  · unfold zKC;rw[hq];rfl
  · unfold zKC shN;rw[hq];rfl
theorem BlkT.names (g:BlkT ts x) {j:Nat} (h0:0 < j) (hj:j < ts.length):zAj x ((j+1:Nat):Int)=zAj ts (j:Int):=by
 unfold zAj;rw[g.knk h0 hj,g.nmn h0 hj,g.same j h0 hj,g.flat hj fun m h1 h2=>g.blk h1 h2,g.flat hj fun m h1 h2=>g.par h1 h2]
 by_cases h10:knK ts (j:Int)=10
 · obtain⟨m,e1,e2,h1,h2⟩:=g.kid0s hj (.inl h10);rw[e1,e2,g.knk (by omega) h2,g.decl (by omega) h2]
 · rw[if_neg (show¬(knK ts (j:Int)=10∧zMg (knK x (zKC (shN (atN ts (j:Int)))))=true)from fun h=>h10 h.1),if_neg (show¬(knK ts (j:Int)=10∧zMg (knK ts (zKC (atN ts (j:Int))))=true)from fun h=>h10 h.1)]
theorem BlkT.k1 (g:BlkT ts x):knK x 1=4:=by unfold knK;rw[g.one]
theorem BlkT.k0 (g:BlkT ts x):knK x 0=1:=by unfold knK;rw[g.root]
theorem BlkT.names1 (g:BlkT ts x):zAj x 1=zAj ts 0:=by
 have h:=(zKu g.may).2;unfold zAj;rw[g.k1,h.2.2,if_pos (.inr rfl),if_pos (.inl rfl),g.one];exact g.flat (j:=0) h.1 fun m h1 h2=>g.blk h1 h2
theorem BlkT.names0 (g:BlkT ts x):zAj x 0=[]:=by
 unfold zAj;rw[g.k0,if_pos (.inl rfl),g.root];show zGz x 1++[]=[];unfold zGz;rw[g.k1];rfl
theorem BlkT.up (g:BlkT ts x) {k:Nat} (hk:k < ts.length):upA (upN x) ((k+1:Nat):Int)=upA (upN ts) (k:Int)+1:=by
 have hl:=g.len;rcases Nat.eq_zero_or_pos k with h | h
 · subst h;have hx:=yAB (show 0 < x.length by omega);have hr:x[0]={zBg with kind:=1,kids:=[1]}:=by rw[←zAv hx];exact g.root
   have:=zS8 g.mayx (n:=0) (k:=1) hx (by rw[hr];exact List.mem_cons_self);rw[show(((0:Nat):Int))=0 from rfl,zSO g.may];exact this
 · obtain⟨n,y,hy,hky⟩:=zTx g.may h hk;have hn:=(List.getElem?_eq_some_iff.1 hy).1;have hx:=yAB (show n+1 < x.length by omega);rw[zS8 g.may hy hky];refine zS8 g.mayx hx ?_;rw[←zAv hx];rw[←zAv hy]at hky;have hm:((k+1:Nat):Int)∈(shN (atN ts (n:Int))).kids:=List.mem_map.2 ⟨_,hky,rfl⟩;cases n with
   | zero=>
    have:=g.one;rw[show((0+1:Nat):Int)=1 from rfl,this];exact hm
   | succ n=>rw[g.same _ (Nat.succ_pos _) hn];exact hm
theorem BlkT.fun_ (g:BlkT ts x) {m:Nat} (hm:m < ts.length):zJ5 (knK x ((m+1:Nat):Int))=zJ5 (knK ts (m:Int)):=by
 rcases Nat.eq_zero_or_pos m with h | h
 · subst h;rw[show((0+1:Nat):Int)=1 from rfl,g.k1,show((0:Nat):Int)=0 from rfl,(zKu g.may).2.2.2];rfl
 · rw[g.knk h hm]
theorem zSX (ts:List Nd) (up:List Int) (f:Nat) (n:Int):zHy ts up (f+1) n=if upA up n < 0 then([], -1)else if zJ5 (knK ts (upA up n))=true then([],upA up n)else(upA up n::(zHy ts up f (upA up n)).1,(zHy ts up f (upA up n)).2):=by rw[zHy]
def shA (q:List Int×Int):List Int×Int:=if q.2 < 0 then(q.1.map (·+1)++[0], -1)else(q.1.map (·+1),q.2+1)
theorem BlkT.aro (g:BlkT ts x):∀(f k:Nat),k < ts.length→k < f→zHy x (upN x) (f+1) ((k+1:Nat):Int)=shA (zHy ts (upN ts) f (k:Int)):=by
 intro f
 induction f with
 | zero=>intro k _ h;omega
 | succ f ih=>
  intro k hk hf;have hu:=(zRY (zKu g.may).1).get (n:=k) (by rw[zPJ];exact hk);rw[zSX x _ (f+1),zSX ts _ f,g.up hk]
  by_cases h1:upA (upN ts) (k:Int) < 0
  · have h2:upA (upN ts) (k:Int)+1=0:=by omega
    rw[if_pos h1,h2,g.k0,if_neg (by decide),if_neg (by decide),zSX,zSO g.mayx,if_pos (by decide)];rfl
  · obtain⟨m,hm⟩:∃m:Nat,upA (upN ts) (k:Int)=(m:Int):=⟨(upA (upN ts) (k:Int)).toNat,by omega⟩;have hmk:m < k:=by omega
    rw[hm,show(m:Int)+1=((m+1:Nat):Int)from rfl,g.fun_ (show m < ts.length by omega),if_neg (show¬(((m+1:Nat):Int) < 0) by omega),if_neg (show¬((m:Int) < 0) by omega)]
    by_cases h2:zJ5 (knK ts (m:Int))=true
    · rw[if_pos h2,if_pos h2];unfold shA;rw[if_neg (by dsimp only;omega)];rfl
    · rw[if_neg h2,if_neg h2,ih m (by omega) (by omega)];unfold shA;dsimp only;split<;>rfl
theorem BlkT.arn (g:BlkT ts x) {k:Nat} (hk:k < ts.length):arN x (upN x) ((k+1:Nat):Int)=shA (arN ts (upN ts) (k:Int)):=by
 unfold arN;rw[Int.toNat_natCast,Int.toNat_natCast];exact g.aro (k+1) k hk (yAF _)
theorem BlkT.lab (g:BlkT ts x):∀(f h n:Nat),0 < n→n < ts.length→ts.length≤f+n→ts.length≤h+n→zMh x f ((n+1:Nat):Int)=zMh ts h (n:Int):=by
 intro f
 induction f with
 | zero=>intro h n _ h1 h2;omega
 | succ f ih=>
  intro h n h0 h1 h2 h3;obtain⟨h,rfl⟩:∃i,h=i+1:=⟨h - 1,by omega⟩;unfold zMh;rw[g.knk h0 h1,g.same n h0 h1]
  by_cases h18:knK ts (n:Int)=18
  · rw[if_pos h18,if_pos h18];obtain⟨m,e1,e2,h4,h5⟩:=g.kid0s h1 (.inr h18);rw[e1,e2];exact ih h m (by omega) h5 (by omega) (by omega)
  · rw[if_neg h18,if_neg h18]
theorem BlkT.jump (g:BlkT ts x) (y:Nd) {tl:List Int} (ht:tl=[]∨tl=[0]):∀(l:List Int),(∀n∈l,∃m:Nat,n=(m:Int)∧m < ts.length)→juN x (shN y) (l.map (·+1)++tl)=juN ts y l:=by
 intro l
 induction l with
 | nil=>
  intro _;rcases ht with rfl | rfl
  · rfl
  · show juN x (shN y) [0]=false;unfold juN;rw[g.k0];simp[juN,zQm]
 | cons n r ih=>
  intro hl;obtain⟨m,rfl,hm⟩:=hl n List.mem_cons_self;have hr:=ih fun a ha=>hl a (List.mem_cons_of_mem _ ha);rw[List.map_cons,List.cons_append,show(m:Int)+1=((m+1:Nat):Int)from rfl];unfold juN;rw[hr];rcases Nat.eq_zero_or_pos m with h | h
  · subst h;have h1:=(zKu g.may).2.2.2;rw[show((0+1:Nat):Int)=1 from rfl,show((0:Nat):Int)=0 from rfl,h1,g.k1];simp[zQm]
  · have hla:laN x ((m+1:Nat):Int)=laN ts (m:Int):=g.lab _ _ m h hm (by have:=g.len;omega) (by omega);rw[g.knk h hm,g.nmn h hm,hla];rfl
theorem BlkT.par_of (g:BlkT ts x) {j:Nat} (h0:0 < j) (hj:j < ts.length):∃m:Nat,upA (upN ts) (j:Int)=(m:Int)∧m < j:=by
 have h:=(zRY (zKu g.may).1).get3 (n:=j) (by rw[zPJ];exact hj);exact⟨(upA (upN ts) (j:Int)).toNat,by omega,by omega⟩
theorem BlkT.hid (g:BlkT ts x) {j m:Nat} (h0:0 < j) (hj:j < ts.length) (hm:m < ts.length):hiN x ((j+1:Nat):Int) ((m+1:Nat):Int)=hiN ts (j:Int) (m:Int):=by
 rcases Nat.eq_zero_or_pos m with h | h
 · subst h;refine Eq.trans ?_ (zSf (zKu g.may).2.2.2 _).symm;unfold hiN;rw[show((0+1:Nat):Int)=1 from rfl,g.k1,if_pos (.inr (.inr ⟨rfl,by decide⟩))]
 · unfold hiN;rw[g.knk h0 hj,g.knk h hm,g.names h0 hj,g.names h hm];have e1:(((m+1:Nat):Int) < 0)=((m:Int) < 0):=by apply propext;omega
   simp only[e1]
theorem zTl {α β:Type} {f:α→β} {p:β→Bool}:∀(l:List α),(l.map f).any p=l.any fun a=>p (f a):=by
 intro l
 induction l with
 | nil=>rfl
 | cons a r ih=>rw[List.map_cons,List.any_cons,List.any_cons,ih]
theorem BlkT.wr (g:BlkT ts x) {j:Nat} (h0:0 < j) (hj:j < ts.length):wrN x (upN x) ((j+1:Nat):Int)=wrN ts (upN ts) (j:Int):=by
 obtain⟨m,hm,hmj⟩:=g.par_of h0 hj;have hin:=zT1 (ts:=ts) (zRY (zKu g.may).1) ((j:Int).toNat+1) j (by rw[zPJ];exact hj);have hin:∀n∈(arN ts (upN ts) (j:Int)).1,∃m:Nat,n=(m:Int)∧m < ts.length:=fun n hn=>by
  obtain⟨q,h1,h2⟩:=hin n hn;exact⟨q,h1,by omega⟩
 have hz:∃tl:List Int,(tl=[]∨tl=[0])∧(shA (arN ts (upN ts) (j:Int))).1=(arN ts (upN ts) (j:Int)).1.map (·+1)++tl:=by
  unfold shA;split
  · exact⟨[0],.inr rfl,rfl⟩
  · exact⟨[],.inl rfl,by simp⟩
 have hn2:decide ((shA (arN ts (upN ts) (j:Int))).2 < 0)=decide ((arN ts (upN ts) (j:Int)).2 < 0):=by
  unfold shA;split
  · rename_i h;rw[decide_eq_true h];rfl
  · rename_i h;rw[yAI h,yAI (by dsimp only;omega)]
 obtain⟨tl,ht,e0⟩:=hz;have e1:((arN ts (upN ts) (j:Int)).1.map (·+1)++tl).any (fun k=>knK x k==18&&decide (nmN x k=nmN x ((j+1:Nat):Int)))=(arN ts (upN ts) (j:Int)).1.any (fun k=>knK ts k==18&&decide (nmN ts k=nmN ts (j:Int))):=by
  have e2:tl.any (fun k=>knK x k==18&&decide (nmN x k=nmN x ((j+1:Nat):Int)))=false:=by
   rcases ht with rfl | rfl
   · rfl
   · simp[g.k0]
  rw[List.any_append,e2,Bool.or_false,zTl];refine zSq fun k hk=>?_;obtain⟨q,rfl,h2⟩:=hin k hk;rw[g.nmn h0 hj,show(q:Int)+1=((q+1:Nat):Int)from rfl];rcases Nat.eq_zero_or_pos q with h | h
  · subst h;rw[show((0:Nat):Int)=0 from rfl,show((0+1:Nat):Int)=1 from rfl,(zKu g.may).2.2.2,g.k1];rfl
  · rw[g.knk h h2,g.nmn h h2]
 have e3:=g.jump (atN ts (j:Int)) ht _ hin;have e4:=g.hid h0 hj (show m < ts.length by omega);have e5:(knK x ((m+1:Nat):Int)==6)=(knK ts (m:Int)==6):=by
  rcases Nat.eq_zero_or_pos m with h | h
  · subst h;rw[show((0+1:Nat):Int)=1 from rfl,show((0:Nat):Int)=0 from rfl,(zKu g.may).2.2.2,g.k1];rfl
  · rw[g.knk h (by omega)]
 have e6:decide ((shN (atN ts (j:Int))).kids=[])=decide ((atN ts (j:Int)).kids=[]):=by
  unfold shN;simp
 unfold wrN;rw[g.names h0 hj,g.up hj,hm,show(m:Int)+1=((m+1:Nat):Int)from rfl,e4,g.knk h0 hj,g.same j h0 hj,g.arn hj,e0,e1,e3,e5,e6,hn2]
theorem BlkT.wr1 (g:BlkT ts x):wrN x (upN x) ((0+1:Nat):Int)=wrN ts (upN ts) ((0:Nat):Int):=by
 have hu:=g.up (zKu g.may).2.1;rw[show((0:Nat):Int)=0 from rfl,zSO g.may]at hu;have e:hiN x 1 0=false:=zSf g.k0 _;rw[show((0:Nat):Int)=0 from rfl,zS9 g.may,show((0+1:Nat):Int)=1 from rfl];unfold wrN;rw[show upA (upN x) 1=0 from hu,e,g.k1,g.names1,Bool.or_false];cases twN (zAj ts 0)<;>rfl
theorem BlkT.wrs (g:BlkT ts x) {j:Nat} (hj:j < ts.length):wrN x (upN x) ((j+1:Nat):Int)=wrN ts (upN ts) (j:Int):=by
 rcases Nat.eq_zero_or_pos j with h | h
 · subst h;exact g.wr1
 · exact g.wr h hj
def shC (q:Nat×Nat):Nat×Nat:=if q.2=0 then(0,0)else(q.1+1,q.2)
theorem BlkT.chs (g:BlkT ts x):∀(f n:Nat),n+f≤ts.length→zQn x (upN x) f (n+1)=shC (zQn ts (upN ts) f n):=by
 intro f
 induction f with
 | zero=>intro n _;rfl
 | succ f ih=>
  intro n hn;unfold zQn;rw[g.wrs (show n < ts.length by omega),ih (n+1) (by omega)]
  by_cases h:wrN ts (upN ts) (n:Int)=true
  · rw[if_pos h,if_pos h];rfl
  · rw[if_neg h,if_neg h]
theorem zTB (g:BlkT ts x):chN x=shC (chN ts):=by
 have h0:wrN x (upN x) ((0:Nat):Int)=false:=by
  rw[show((0:Nat):Int)=0 from rfl,zS9 g.mayx,g.names0];rfl
 unfold chN;rw[if_pos g.may,if_pos g.mayx,g.len];rw[zQn,if_neg (by rw[h0];decide)];exact g.chs ts.length 0 (by omega)
end
theorem zTW {w:World} {base base' n size:Nat} {e:TypeId} {v:Value} {xs:List Value} (h:w.ownsRow base e size v n xs) (hb:base'≤base):w.ownsRow base' e size v n xs:=by
 refine⟨h.1,?_⟩;rcases h.2 with h1 | ⟨g,cap,cur,h1,h2,h3⟩
 · exact .inl h1
 · exact .inr ⟨g,cap,cur,h1,yAD hb h2,h3⟩
theorem zTC {w w':World} {b1 b2:Nat} {e1 e2:TypeId} {s1 s2 n1 n2:Nat} {v1 v2:Value} {xs ys:List Value} (h1:w.ownsRow b1 e1 s1 v1 n1 xs) (h2:w.ownsRow b2 e2 s2 v2 n2 ys) (hne:e1≠e2) (hg:w.grownBy w' v2.ownBlock):w'.ownsRow b1 e1 s1 v1 n1 xs:=by
 refine h1.kept hg ?_;rcases h1.2 with⟨rfl,_⟩ | ⟨g,cap,cur,rfl,_,hgg,_⟩
 · exact .inl rfl
 · right;rcases h2.2 with⟨rfl,_⟩ | ⟨g2,cap2,cur2,rfl,_,hgg2,_⟩
   · simp[Value.ownBlock]
   · intro e;simp only[Value.ownBlock,Option.some.injEq]at e;subst e;rw[hgg]at hgg2;injection hgg2 with hgg2;injection hgg2 with _ h4 _;exact hne h4
structure NdP (x:Nd):Prop where
 limb:∀y∈x.mag,y < 4294967296
 kin:∀y∈x.kids, -9223372036854775808≤y∧y≤9223372036854775807
 kb: -9223372036854775808≤x.kind∧x.kind≤9223372036854775807
 nkb: -9223372036854775808≤x.nk∧x.nk≤9223372036854775807
 nnb: -9223372036854775808≤x.nn∧x.nn≤9223372036854775807
 nm:x.name.length≤9223372036854775807
theorem NdR.p {w:World} {B:Nat} {x:Nd} {s:NdSl} (h:NdR w B x s):NdP x:=⟨h.limb,h.kin,h.kb,h.nkb,h.nnb,h.nm⟩
theorem NdsR.p {w:World} {B n:Nat} {A:Option Addr} {ts:List Nd} (h:NdsR w B A n ts):∀x∈ts,NdP x:=by
 intro x hx;obtain⟨i,hi,rfl⟩:=List.getElem_of_mem hx;obtain⟨b,o,_,_,hat⟩:=h.2 (by rw[←h.1];omega);obtain⟨s,_,h2⟩:=hat i hi;exact h2.p
theorem zTX {w:World} {base n c:Nat} {e:TypeId} {A:Option Addr} {xs:List Value} (h:w.ownsRow base e 1 (.slice A n c) n xs):n≤c∧c≤maxLen:=by
 obtain⟨A',c',hv,h1,h2⟩:=zR h;injection hv with _ _ hc;subst hc;exact⟨h1,h2⟩
def zR7:List Nd→List NdSl→List Value
 | x::r,s::q=>ndV x s++zR7 r q
 | _,_=>[]
theorem zSY (x:Nd) (s:NdSl):(ndV x s).length=8:=rfl
theorem zSG (x:Nd) (s:NdSl):∀{ts:List Nd} {ss:List NdSl},ss.length=ts.length→zR7 (ts++[x]) (ss++[s])=zR7 ts ss++ndV x s
 | [],[],_=>by show ndV x s++[]=[]++ndV x s;simp
 | y::r,t::q,h=>by
  show ndV y t++zR7 (r++[x]) (q++[s])=ndV y t++zR7 r q++ndV x s;rw[zSG x s (by simpa using h),List.append_assoc]
 | [],_::_,h=>by cases h
 | _::_,[],h=>by cases h
theorem zSK {j:Nat} (hj:j < 8):∀{ts:List Nd} {ss:List NdSl} {i:Nat} {x:Nd} {s:NdSl},ts[i]? =some x→ss[i]? =some s→(zR7 ts ss)[i*8+j]? =(ndV x s)[j]?
 | y::r,t::q,0,x,s,h1,h2=>by
  obtain rfl:y=x:=Option.some.inj h1;obtain rfl:t=s:=Option.some.inj h2;show(ndV y t++zR7 r q)[0*8+j]? =_;rw[List.getElem?_append_left (by rw[zSY];omega),Nat.zero_mul,Nat.zero_add]
 | y::r,t::q,i+1,x,s,h1,h2=>by
  show(ndV y t++zR7 r q)[(i+1)*8+j]? =_;rw[List.getElem?_append_right (by rw[zSY];omega),zSY,show(i+1)*8+j - 8=i*8+j by omega];exact zSK hj (by simpa using h1) (by simpa using h2)
 | [],_,_,_,_,h1,_=>by cases h1
 | _::_,[],_,_,_,_,h2=>by cases h2
def bkN (k:Nat) (x:Nd):Nd:=if k=0 then{shN x with kind:=4}else shN x
theorem zSg (k:Nat) (x:Nd):(bkN k x).kids=x.kids.map (·+1):=by unfold bkN;split<;>rfl
theorem zTD (k:Nat) (x:Nd):(bkN k x).str=x.str:=by unfold bkN;split<;>rfl
theorem zSZ (k:Nat) (x:Nd):(bkN k x).mag=x.mag:=by unfold bkN;split<;>rfl
theorem zSh (k:Nat) (x:Nd) (s:NdSl):ndV (bkN k x) s=[.int .i64 (bkN k x).kind,.string ⟨x.name.toArray⟩,.slice s.As x.str.length s.cs,.int .i64 x.nk,.int .i64 x.nn,.bool x.neg,.slice s.Am x.mag.length s.cm,.slice s.Ak x.kids.length s.ck]:=by
 unfold ndV bkN;split<;>simp[shN]
theorem zSD {ts:List Nd} (h:0 < ts.length):(zSA ts).length=ts.length+1:=by
 cases ts with
 | nil=>exact absurd h (Nat.lt_irrefl _)
 | cons y r=>simp[zSA]
theorem zTe {ts:List Nd} {k:Nat} {x:Nd} (hx:ts[k]? =some x):(zSA ts)[k+1]? =some (bkN k x):=by
 cases ts with
 | nil=>cases hx
 | cons y r=>
  cases k with
  | zero=>
   obtain rfl:y=x:=Option.some.inj hx;rfl
  | succ k=>
   have h:r[k]? =some x:=by simpa using hx
   show(r.map shN)[k]? =_;rw[List.getElem?_map,h];rfl
theorem zTm {ts:List Nd} (h:0 < ts.length):(zSA ts).take 1=[{zBg with kind:=1,kids:=[1]}]:=by
 cases ts with
 | nil=>exact absurd h (Nat.lt_irrefl _)
 | cons y r=>rfl
theorem zSi {ts:List Nd} {k:Nat} {x:Nd} (hx:ts[k]? =some x):(zSA ts).take (k+1+1)=(zSA ts).take (k+1)++[bkN k x]:=by
 rw[List.take_add_one (i:=k+1),zTe hx];rfl
theorem zTE {ts:List Nd} (hm:zO3 ts=true) {j:Nat} {x:Nd} (hx:ts[j]? =some x):∀k∈x.kids,0≤k∧k < 4096:=by
 obtain⟨hE,_,_,_⟩:=zKu hm;intro k hk;have:=hE.fwd j x hx k hk;have:=hE.len;omega
theorem zT2 {ts:List Nd} (hm:zO3 ts=true) (hp:∀x∈ts,NdP x):∀y∈zSA ts,NdP y:=by
 intro y hy;obtain⟨i,hi,rfl⟩:=List.getElem_of_mem hy;have h0:=(zKu hm).2.1;rw[zSD h0]at hi;cases i with
 | zero=>
  have e:(zSA ts)[0]'(by rw[zSD h0];exact hi)={zBg with kind:=1,kids:=[1]}:=by
   have h1:(zSA ts)[0]? =some {zBg with kind:=1,kids:=[1]}:=by
    cases ts with
    | nil=>exact absurd h0 (Nat.lt_irrefl _)
    | cons y r=>rfl
   have h2:=yAB (l:=zSA ts) (i:=0) (by rw[zSD h0];exact hi);rw[h2]at h1;exact Option.some.inj h1
  rw[e];refine⟨fun z hz=>(by cases hz),fun z hz=>?_,by decide,by decide,by decide,by decide⟩;have:z=1:=by simpa using hz
  omega
 | succ j=>
  have hx:=yAB (show j < ts.length by omega);have h1:=zTe hx;have e:(zSA ts)[j+1]'(by rw[zSD h0];exact hi)=bkN j ts[j]:=by
   have h2:=yAB (l:=zSA ts) (i:=j+1) (by rw[zSD h0];exact hi);rw[h2]at h1;exact Option.some.inj h1
  rw[e];have hpx:=hp ts[j] (List.getElem_mem _);refine⟨by rw[zSZ];exact hpx.limb,fun z hz=>?_,?_,?_,?_,?_⟩
  · rw[zSg]at hz;obtain⟨k,hk,rfl⟩:=List.mem_map.1 hz;have:=zTE hm hx k hk;omega
  · unfold bkN;split
    · exact(show(-9223372036854775808:Int)≤4∧(4:Int)≤9223372036854775807 from by decide)
    · exact hpx.kb
  · unfold bkN;split<;>exact hpx.nkb
  · unfold bkN;split<;>exact hpx.nnb
  · unfold bkN;split<;>exact hpx.nm
theorem zT3 {ts:List Nd} {up:List Int}:∀(f n:Nat),(zQn ts up f n).1≤n+f:=by
 intro f
 induction f with
 | zero=>intro n;exact yAE _
 | succ f ih=>
  intro n;unfold zQn;split
  · exact Nat.le_add_right _ _
  · have:=ih (n+1);omega
theorem zT4 {ts:List Nd} {a e:Nat} (h:chN ts=(a,e)):a≤ts.length:=by
 unfold chN at h;split at h
 · have:=zT3 (ts:=ts) (up:=upN ts) ts.length 0;rw[h]at this;simpa using this
 · simp only[Prod.mk.injEq]at h;omega
theorem zTn:∀(l:List Nd),(zAI (l.map shN)).length=(zAI l).length:=by
 intro l
 induction l with
 | nil=>rfl
 | cons y r ih=>
  rw[List.map_cons,zCJ,zCJ,List.length_append,List.length_append,ih];simp[shN]
theorem zTY {ts:List Nd} (h:0 < ts.length):(zAI (zSA ts)).length=(zAI ts).length+1:=by
 cases ts with
 | nil=>exact absurd h (Nat.lt_irrefl _)
 | cons y r=>
  unfold zSA;rw[zCJ,zCJ,zCJ,List.length_append,List.length_append,List.length_append,zTn];simp[shN];omega
theorem zTf {A:Option Addr} {c B n j:Nat} {ts:List Nd} {w:World} (hN:NdsR w B A n ts) (hB:B≤w.heap.size) (hc:n≤c) (hm:zO3 ts=true) (hj:j < n):
 Calls prog 28 #[.agg #[.slice A n c],.int .i64 (j:Int)] w fun e w'=>∃v,e=.returned v∧MadeS w w' v (zAj ts (j:Int)):=by
 obtain⟨hE,h0,hk,_⟩:=zKu hm;obtain⟨W,hW⟩:∃W,w.alloc (.cells #[.slice A n c] 27)=W:=⟨_,rfl⟩;have bW:Below w.heap.size w W:=by rw[←hW];exact(Below.refl _ _).alloc (yAC _) _
 have sW:W.heap.size=w.heap.size+1:=by rw[←hW];simp
 obtain⟨X,hX⟩:∃X,w.heap.size=X:=⟨_,rfl⟩;have a0:W.cell? ⟨X,0,none⟩=some (.slice A n c):=by rw[←hW,←hX,World.cell?_alloc_at _ _ _ _ rfl];rfl
 have hXW:X < W.heap.size:=by omega
 have hBW:B≤W.heap.size:=by omega
 have HA0:=zA a0;have HNW:=zA (hN.below (bW.mono hB));have HBW:=zA bW;have CM:=zA (zKs (w:=W) HNW.out hBW hc (by omega) hm);have HE:=zA hE;have g0:¬((j:Int) < 0):=by omega
 have g1:¬((n:Int)≤(j:Int)):=by omega
 have g2:decide ((n:Int)≤(j:Int))=false:=yAI g1;have g3:decide ((j:Int) < 0)=false:=yAI g0;clear hN hB bW sW hm hE hk h0;go_enter func28,ntmps28;go_upto_region 1 with(fail);clear hW hX;go_wp2_with fail;refine CM.out.mono ?_;rintro e1 w1 ⟨rfl,hb1⟩;have a1:=(hb1.cell (p:=⟨X,0,none⟩) hXW).trans HA0.out;have CN:=zA (zFA (c:=c) (w:=w1) (HNW.out.below (hb1.mono hBW)) (yAD hBW hb1.size) HE.out hj);have HB1:=zA (HBW.out.trans (hb1.mono HBW.out.size));clear hb1 a0 HA0 CM HNW HBW;go_wp2_with fail;refine CN.out.mono ?_;rintro e2 w2 ⟨v,rfl,hv⟩;have HV:=zA hv;clear hv CN;go_wp2_with fail;go_ret;exact⟨v,rfl,HV.out.back HB1.out⟩
section
variable {P:Program} {w:World} {ops:Array Oper} {o:Oper} {a:Act} {K:Act→World→Prop} {Q:Exit→Act→World→Prop} {E:Prop}
theorem zTF (hgd:o.guard=none) (s x:Operand) (t:TypeId)
 (ho:o.op=.call {callee:=.builtin .append,args:=#[s,x],argTypes:=#[t,t]})
 (base:Nat) (e:TypeId) (i:TypeInfo) (z:Value) (bytes:Nat) (ht:P.underlying t=some (.slice e)) (hi:P.info? e=some i) (hz:i.zero=some z)
 (hsize:i.size=1) (hby:i.bytes=bytes) (hzs:z.cells.size=1)
 (v:Value) (n:Nat) (xs:List Value) (hs:a.eval s=v) (hown:w.ownsRow base e 1 v n xs) (hbase:base≤w.heap.size)
 (ad:Addr) (m c:Nat) (news:List Value) (hx:a.eval x=.slice (some ad) m c) (hl:news.length=m) (hnews:∀j u,news[j]? =some u→w.cell? (ad.add j)=some u) (h1:∀u∈news,u.oneCell'=true)
 (hm:0 < m) (hsz:n+m≤1099511627776) (hb2:bytes≤128)
 (h:∀v' w',w'.ownsRow base e 1 v' (n+m) (xs++news)→Kept w w' v v'→K (a.put o.dst v') w'):
 if Region.wanted o (yielded ops a.tmps)=true then Oper.wp P o a w K Q else E:=by
 refine step_append_lies w hgd s x t ho base e i z 1 bytes ht hi hz hsize hby hzs (by omega) v n xs hs hown ad m c news hx (by omega) hnews h1 hm (by unfold maxLen;omega) ?_ hbase _ rfl ?_
 · calc (n+m)*bytes≤1099511627776*128:=Nat.mul_le_mul hsz hb2
    _≤140737488355328:=by omega
 · intro gg cap w' h2 h3 h4 _;refine h _ w' h2 ⟨h3.os,h3.tape,h3.output,h3.size,fun k hk hne=>h3.block k hk (fun e=>hne e.symm),?_⟩;rcases h4 with e | e
   · exact .inl e.symm
   · exact .inr ⟨gg,rfl,by omega⟩
end
def zSU:List Nd→Nat
 | []=>0
 | x::r=>1+x.str.length+x.mag.length+x.kids.length+x.name.length+zSU r
theorem zTZ (a b:List Nd):zSU (a++b)=zSU a+zSU b:=by
 induction a with
 | nil=>simp[zSU]
 | cons x r ih=>simp only[List.cons_append,zSU,ih];omega
theorem zTG {ts:List Nd} {k:Nat} {x:Nd} (h:ts[k]? =some x):zSU (ts.take (k+1))=zSU (ts.take k)+(1+x.str.length+x.mag.length+x.kids.length+x.name.length):=by
 obtain⟨hl,rfl⟩:=List.getElem?_eq_some_iff.1 h;rw[yAK hl,zTZ];simp[zSU]
theorem zTb {ts:List Nd} {x:Nd} (h:x∈ts):x.str.length+x.mag.length+x.kids.length+x.name.length≤zSU ts:=by
 induction ts with
 | nil=>cases h
 | cons y r ih=>
  rcases List.mem_cons.1 h with rfl | h
  · simp only[zSU];omega
  · have:=ih h;simp only[zSU];omega
theorem zTH (ts:List Nd):(zAI ts).length+ts.length≤zSU ts:=by
 induction ts with
 | nil=>exact yAC _
 | cons x r ih=>rw[zCJ,List.length_append,List.length_cons];simp only[zSU];omega
structure FewP (ts:List Nd):Prop where
 len:ts.length≤20000
 all:(zAI ts).length≤20000
 each:∀x∈ts,x.str.length≤20000∧x.mag.length≤20000∧x.kids.length≤20000∧x.name.length≤20000
theorem zTz {ts:List Nd} (h:zSU ts≤20000):FewP ts:=by
 have h1:=zTH ts;refine⟨by omega,by omega,fun x hx=>?_⟩;have:=zTb hx;omega
def WgtAt (ts:List Nd) (k:Nat) (a:Nat):Prop:=(a≤20000→a=zSU (ts.take k))∧a≤200000
theorem WgtAt.start (ts:List Nd):WgtAt ts 0 0:=⟨fun _=>by simp[zSU],by omega⟩
theorem WgtAt.step {ts:List Nd} {k a:Nat} {x:Nd} (h:WgtAt ts k a) (ha:a≤20000) (hx:ts[k]? =some x) {p q r s:Nat} (hp:p=min x.str.length 20001) (hq:q=min x.mag.length 20001) (hr:r=min x.kids.length 20001) (hs:s=min x.name.length 20001):WgtAt ts (k+1) (a+1+p+q+r+s):=by
 have h1:=h.1 ha;refine⟨fun hle=>?_,by omega⟩;rw[zTG hx,←h1];omega
theorem WgtAt.done {ts:List Nd} {a:Nat} (h:WgtAt ts ts.length a) (ha:a≤20000):FewP ts:=by
 have:=h.1 ha;rw[List.take_of_length_le (yAC _)]at this;exact zTz (by omega)
theorem zSj (L:Nat):(if(20001:Int) < (L:Int)then(20001:Int)else(L:Int))=((min L 20001:Nat):Int):=by split<;>omega
def zT6 (ts:List Nd) (w:World) (e:Ending) (w':World):Prop:=∃q:Bool,e=.returned (.bool q)∧(q=true→FewP ts)∧Below w.heap.size w w'
theorem zSr {A:Option Addr} {c B n:Nat} {ts:List Nd} {w:World} (hN:NdsR w B A n ts) (hB:B≤w.heap.size) (hl:n≤20000):
 Calls prog 53 #[.agg #[.slice A n c],.int .i64 20000] w fun e w'=>∃r:Nat,e=.returned (.int .i64 (r:Int))∧(r≤20000→FewP ts)∧Below w.heap.size w w':=by
 obtain⟨W,hW⟩:∃W,w.alloc (.cells #[.slice A n c] 27)=W:=⟨_,rfl⟩;have hbW:Below w.heap.size w W:=by rw[←hW];exact(Below.refl _ _).alloc (yAC _) _
 have hsW:W.heap.size=w.heap.size+1:=by rw[←hW];simp
 have hNW:=zA ((hN.below (hbW.mono hB)));have hcW:W.cell? ⟨w.heap.size,0,none⟩=some (.slice A n c):=by rw[←hW,World.cell?_alloc_at _ _ _ _ rfl];rfl
 have HBW:=zA hbW;have HLN:=zA hN.1;have HB:=zA hB;clear hbW hN;go_enter func53,ntmps53;go_upto_region 1 with(fail);have HW:=zA hW;clear hW;have hltW:w.heap.size < W.heap.size:=by omega
 go_wp2_with fail
 go_loopw [5,6] (fun v i wr=>∃(k a:Nat),k≤n∧v=.int .i64 (a:Int)∧i=.int .i64 (k:Int)∧Hid (WgtAt ts k a)∧Hid (Below W.heap.size W wr)) (fun _ i _=>n - (intOf i).toNat)
 case atStart=>exact⟨0,0,yAE _,rfl,rfl,WgtAt.start ts,Below.refl _ _⟩
 case round=>
  obtain⟨k,a,hk,rfl,rfl,hat,hbr⟩:=hrel;have hsz:=hbr.out.size;have hcx:wr.cell? ⟨w.heap.size,0,none⟩=some (.slice A n c):=(hbr.out.cell (p:=⟨w.heap.size,0,none⟩) hltW).trans hcW;have hab:=hat.out.2
  by_cases hlt:k < n
  · have h1:(k:Int) < (n:Int):=by omega
    have h2:decide ((k:Int) < (n:Int))=true:=decide_eq_true h1
    by_cases hle:a≤20000
    · have h3:(a:Int)≤20000:=by omega
      have h4:decide ((a:Int)≤20000)=true:=decide_eq_true h3;obtain⟨b,o,x,s,rfl,hbB,hx,hC,hR⟩:=(hNW.out.below (hbr.out.mono (by omega))).get hlt;obtain⟨kc0,kc1,kc2,kc3,kc4,kc5,kc6,kc7⟩:=hC;have HX:=zA hx;clear hx hR;go_upto_region 6 with(fail);obtain⟨W1,hW1⟩:∃W1,wr.alloc (.cells #[.int .i64 x.kind,.string ⟨x.name.toArray⟩,.slice s.As x.str.length s.cs,.int .i64 x.nk,.int .i64 x.nn,.bool x.neg,.slice s.Am x.mag.length s.cm,.slice s.Ak x.kids.length s.ck] 48)=W1:=⟨_,rfl⟩;rw[hW1];have p1:W1.cell? ⟨wr.heap.size,1,none⟩=some (.string ⟨x.name.toArray⟩):=by rw[←hW1,World.cell?_alloc_at _ _ _ _ rfl];rfl
      have p2:W1.cell? ⟨wr.heap.size,2,none⟩=some (.slice s.As x.str.length s.cs):=by rw[←hW1,World.cell?_alloc_at _ _ _ _ rfl];rfl
      have p6:W1.cell? ⟨wr.heap.size,6,none⟩=some (.slice s.Am x.mag.length s.cm):=by rw[←hW1,World.cell?_alloc_at _ _ _ _ rfl];rfl
      have p7:W1.cell? ⟨wr.heap.size,7,none⟩=some (.slice s.Ak x.kids.length s.ck):=by rw[←hW1,World.cell?_alloc_at _ _ _ _ rfl];rfl
      have HB1:=zA (show Below W.heap.size W W1 from by rw[←hW1];exact hbr.out.alloc hsz _);obtain⟨X,hX⟩:∃X,wr.heap.size=X:=⟨_,rfl⟩;rw[hX]at p1 p2 p6 p7;rw[hX];clear hW1 kc0 kc1 kc2 kc3 kc4 kc5 kc6 kc7 hcx hX hbr hsz;go_wp2_with fail
      go_roundw
      case rel=>
       exact⟨k+1,_,by omega,by first | (rw[zSj,zSj,zSj,zSj];rfl) | exact congrArg (Value.int IntKind.i64) (by omega),by go_num,hat.out.step hle HX.out rfl rfl rfl rfl,HB1.out⟩
      case measure=>simp[intOf];omega
    · have h3:¬(a:Int)≤20000:=by omega
      have h4:decide ((a:Int)≤20000)=false:=yAI h3;go_wp2_with fail;go_ret;exact⟨a,rfl,fun h=>absurd h hle,HBW.out.trans (hbr.out.mono (by omega))⟩
  · have h1:¬(k:Int) < (n:Int):=by omega
    have h2:decide ((k:Int) < (n:Int))=false:=yAI h1;obtain rfl:k=n:=by omega
    have hdn:=zA (fun h:a≤20000=>(show WgtAt ts ts.length a by rw[HLN.out];exact hat.out).done h);go_wp2_with fail;go_ret;exact⟨a,rfl,hdn.out,HBW.out.trans (hbr.out.mono (by omega))⟩
theorem zTo {A:Option Addr} {c B n:Nat} {ts:List Nd} {w:World} (hN:NdsR w B A n ts) (hB:B≤w.heap.size):
 Calls prog 26 #[.agg #[.slice A n c]] w (zT6 ts w):=by
 by_cases h:n≤20000
 · have h1:(n:Int)≤20000:=by omega
   have h2:decide ((n:Int)≤20000)=true:=decide_eq_true h1;have CW:=zA (fun(W:World) (hb:Below w.heap.size w W)=>zSr (c:=c) (hN.below (hb.mono hB)) (yAD hB hb.size) h);clear hN;go_enter func26,ntmps26;go_wp2_with fail;refine(CW.out _ ((Below.refl _ _).alloc (yAC _) _)).mono ?_;rintro e1 w1 ⟨r,rfl,hr,hb1⟩;have HB1:=zA (((Below.refl w.heap.size w).alloc (yAC _) _).trans (hb1.mono (by simp)));have HR:=zA hr;clear hb1 hr
   by_cases hrl:r≤20000
   · have h3:(r:Int)≤20000:=by omega
     have h4:decide ((r:Int)≤20000)=true:=decide_eq_true h3;go_wp2_with fail;go_ret;exact⟨true,rfl,fun _=>HR.out hrl,HB1.out⟩
   · have h3:¬(r:Int)≤20000:=by omega
     have h4:decide ((r:Int)≤20000)=false:=yAI h3;go_wp2_with fail;go_ret;exact⟨false,rfl,fun h=>(by cases h),HB1.out⟩
 · have h1:¬(n:Int)≤20000:=by omega
   have h2:decide ((n:Int)≤20000)=false:=yAI h1;go_enter func26,ntmps26;go_wp2_with fail;go_ret;exact⟨false,rfl,fun h=>(by cases h),(Below.refl _ _).alloc (yAC _) _⟩
def zTp:List Value:=[.int .i64 0,.string ⟨#[]⟩,.slice none 0 0,.int .i64 0,.int .i64 0,.bool false,.slice none 0 0,.slice none 0 0]
theorem Tryz.info_node:(prog.info? 48).map (fun i=>(i.zero,i.size,i.bytes))=some (some (.agg zTp.toArray),8,120):=by kernel_rfl
def Nb8 (w:World) (N:Nat) (v0 v1 v2 v3 v4 v5 v6 v7:Value):Prop:=
 (w.cell? ⟨N,0,none⟩=some v0∧w.cell? ⟨N,1,none⟩=some v1∧w.cell? ⟨N,2,none⟩=some v2∧w.cell? ⟨N,3,none⟩=some v3∧w.cell? ⟨N,4,none⟩=some v4∧w.cell? ⟨N,5,none⟩=some v5∧w.cell? ⟨N,6,none⟩=some v6∧w.cell? ⟨N,7,none⟩=some v7)∧∀j,j < 8→w.frozen? ⟨N,j,none⟩=false
section
variable {w w':World} {N D:Nat} {v0 v1 v2 v3 v4 v5 v6 v7:Value}
theorem Nb8.below (h:Nb8 w N v0 v1 v2 v3 v4 v5 v6 v7) (hb:Below D w w') (hd:N < D):Nb8 w' N v0 v1 v2 v3 v4 v5 v6 v7:=by
 have hc:∀j,w'.cell? ⟨N,j,none⟩=w.cell? ⟨N,j,none⟩:=fun j=>hb.cell (p:=⟨N,j,none⟩) hd;have hf:∀j,w'.frozen? ⟨N,j,none⟩=w.frozen? ⟨N,j,none⟩:=fun j=>hb.frozen (p:=⟨N,j,none⟩) hd;unfold Nb8;rw[hc,hc,hc,hc,hc,hc,hc,hc];exact⟨h.1,fun j hj=>by rw[hf];exact h.2 j hj⟩
theorem zTg {N i j:Nat} (h:i≠j):(⟨N,i,none⟩:Addr)≠⟨N,j,none⟩:=fun e=>h (by injection e)
theorem Nb8.set7 (h:Nb8 w N v0 v1 v2 v3 v4 v5 v6 v7) (u:Value):Nb8 (w.setCell ⟨N,7,none⟩ u) N v0 v1 v2 v3 v4 v5 v6 u:=by
 obtain⟨⟨h0,h1,h2,h3,h4,h5,h6,h7⟩,hf⟩:=h;refine⟨⟨?_,?_,?_,?_,?_,?_,?_,World.cell?_setCell_same _ _ _ h7⟩,fun j hj=>by rw[World.frozen?_setCell];exact hf j hj⟩
 all_goals (rw[World.cell?_setCell_other _ _ _ _ (zTg (by decide))];assumption)
end
theorem Nb8.new (w:World) (N:Nat) (hN:w.heap.size=N) (e:TypeId) (v0 v1 v2 v3 v4 v5 v6 v7:Value):Nb8 (w.alloc (.cells #[v0,v1,v2,v3,v4,v5,v6,v7] e)) N v0 v1 v2 v3 v4 v5 v6 v7:=by
 subst hN;refine⟨⟨?_,?_,?_,?_,?_,?_,?_,?_⟩,fun j _=>World.frozen?_alloc_new _ _ _ _⟩<;>(rw[World.cell?_alloc_at _ _ _ _ rfl];rfl)
theorem zR8 {w:World} {base g s n:Nat} {e e2:TypeId} {v:Value} {xs cur:List Value} (h:w.ownsRow base e s v n xs) (hg:w.heap[g]? =some (.cells cur.toArray e2)) (hne:e≠e2):v.ownBlock≠some g:=by
 rcases h.2 with⟨rfl,_⟩ | ⟨g1,cap,cur1,rfl,_,hgg,_⟩
 · simp[Value.ownBlock]
 · intro e1;simp only[Value.ownBlock,Option.some.injEq]at e1;subst e1;rw[hgg]at hg;injection hg with hg;injection hg with _ h4 _;exact hne h4
theorem zTI {w w':World} {base g s n:Nat} {e e2:TypeId} {v:Value} {xs cur:List Value} (h:w.ownsRow base e s v n xs) (hg:w.heap[g]? =some (.cells cur.toArray e2)) (hne:e≠e2) (hw:w.grownBy w' (some g)):w'.ownsRow base e s v n xs:=
 h.kept hw (by
  have:=zR8 h hg hne;cases hv:v.ownBlock with
  | none=>exact .inl rfl
  | some q=>rw[hv]at this;exact .inr (fun e=>this e))
structure NdB (w:World) (base:Nat) (x:Nd) (s:NdSl):Prop where
 str:Reads w base 1 s.As x.str.length (zAD x.str)
 mag:Reads w base 1 s.Am x.mag.length (zRX x.mag)
 kids:w.ownsRow base 3 1 (.slice s.Ak x.kids.length s.ck) x.kids.length (zBC x.kids)
 cs:x.str.length≤s.cs∧s.cs≤maxLen
 cm:x.mag.length≤s.cm∧s.cm≤maxLen
theorem NdB.r {w:World} {base:Nat} {x:Nd} {s:NdSl} (h:NdB w base x s) (hp:NdP x) (hb:base≤w.heap.size):NdR w w.heap.size x s:=
 ⟨h.str.more hb,h.mag.more hb,Reads.of_own h.kids,h.cs,h.cm,zTX h.kids,hp.limb,hp.kin,hp.kb,hp.nkb,hp.nnb,hp.nm⟩
theorem NdB.map {w w':World} {base:Nat} {x:Nd} {s:NdSl} (h:NdB w base x s) (hb:Below base w w') (hk:∀(v:Value) (n:Nat) (xs:List Value),w.ownsRow base 3 1 v n xs→w'.ownsRow base 3 1 v n xs):NdB w' base x s:=
 ⟨h.str.below hb,h.mag.below hb,hk _ _ _ h.kids,h.cs,h.cm⟩
structure TrB (w:World) (base:Nat) (ts:List Nd) (ss:List NdSl) (v:Value):Prop where
 len:ss.length=ts.length
 own:w.ownsRow base 48 8 v ts.length (zR7 ts ss)
 part:∀(i:Nat) (x:Nd) (s:NdSl),ts[i]? =some x→ss[i]? =some s→NdB w base x s
 size:base≤w.heap.size
theorem TrB.below {w w':World} {base:Nat} {ts:List Nd} {ss:List NdSl} {v:Value} (h:TrB w base ts ss v) (hb:Below w.heap.size w w'):TrB w' base ts ss v:=
 ⟨h.len,zCH h.own hb,fun i x s h1 h2=>(h.part i x s h1 h2).map (hb.mono h.size) fun _ _ _ ho=>zCH ho hb,yAD h.size hb.size⟩
theorem TrB.reads {w:World} {base c n:Nat} {A:Option Addr} {ts:List Nd} {ss:List NdSl} (h:TrB w base ts ss (.slice A n c)) (hn:ts.length=n) (hp:∀x∈ts,NdP x):NdsR w w.heap.size A n ts:=by
 subst hn;refine⟨rfl,fun h0=>?_⟩;obtain⟨g,cap,hv,hb,hlt⟩:=h.own.form h0;have hA:A=some ⟨g,0,none⟩:=by injection hv
 have hc:c=cap:=by injection hv
 subst hA hc;refine⟨g,0,rfl,hlt,fun i hi=>?_⟩;have h1:ts[i]? =some ts[i]:=yAB hi;have hi2:i < ss.length:=by rw[h.len];exact hi
 have h2:ss[i]? =some ss[i]:=yAB hi2;have hat:∀j,j < 8→w.cell? ⟨g,0+i*8+j,none⟩=(ndV ts[i] ss[i])[j]? :=fun j hj=>by
  rw[h.own.cellAt (0+i*8+j) (by omega),Nat.zero_add];exact zSK hj h1 h2
 exact⟨ss[i],⟨hat 0 (by omega),hat 1 (by omega),hat 2 (by omega),hat 3 (by omega),hat 4 (by omega),hat 5 (by omega),hat 6 (by omega),hat 7 (by omega)⟩,(h.part i _ _ h1 h2).r (hp _ (List.getElem_mem hi)) h.size⟩
theorem TrB.snoc {w1 w':World} {base:Nat} {ts:List Nd} {ss:List NdSl} {v v':Value} {x:Nd} {s:NdSl} (h:TrB w1 base ts ss v) (hn:NdB w1 base x s)
 (ho:w'.ownsRow base 48 8 v' (ts.length+1) (zR7 ts ss++ndV x s)) (hg:w1.grownBy w' v.ownBlock):TrB w' base (ts++[x]) (ss++[s]) v':=by
 have hb:Below base w1 w':=(Below.refl _ _).grown hg h.size fun k hk=>(h.own.lt k hk).1;have hap:∀(v1:Value) (n:Nat) (xs:List Value),w1.ownsRow base 3 1 v1 n xs→w'.ownsRow base 3 1 v1 n xs:=
  fun v1 n xs ho1=>zTC ho1 h.own (by decide) hg
 refine⟨by simp[h.len],?_,fun i y t hy ht=>?_,yAD h.size hg.size⟩
 · rw[zSG x s h.len,List.length_append];exact ho
 · by_cases hi:i < ts.length
   · rw[List.getElem?_append_left hi]at hy;rw[List.getElem?_append_left (by rw[h.len];exact hi)]at ht;exact(h.part i y t hy ht).map hb hap
   · have hl:=(List.getElem?_eq_some_iff.1 hy).1;rw[List.length_append,List.length_singleton]at hl;rw[List.getElem?_append_right (by omega),show i - ts.length=0 by omega]at hy;rw[List.getElem?_append_right (by rw[h.len];omega),show i - ss.length=0 by rw[h.len];omega]at ht;obtain rfl:x=y:=Option.some.inj hy;obtain rfl:s=t:=Option.some.inj ht;exact hn.map hb hap
structure BkS (W wr:World) (Bx:Nat) (ts:List Nd) (A:Option Addr) (n c:Nat):Prop where
 box:∃cur:List Value,wr.heap[Bx]? =some (.cells cur.toArray 27)
 cell:wr.cell? ⟨Bx,0,none⟩=some (.slice A n c)
 fz:wr.frozen? ⟨Bx,0,none⟩=false
 len:ts.length=n
 tr:∃ss,TrB wr W.heap.size ts ss (.slice A n c)
 below:Below W.heap.size W wr
 bx:W.heap.size≤Bx
section
variable {W wr w':World} {Bx n c:Nat} {ts:List Nd} {A:Option Addr}
theorem BkS.lt (h:BkS W wr Bx ts A n c):Bx < wr.heap.size:=by
 obtain⟨cur,hc⟩:=h.box;rcases Nat.lt_or_ge Bx wr.heap.size with h' | h'
 · exact h'
 · rw[Array.getElem?_eq_none h']at hc;cases hc
theorem BkS.go (h:BkS W wr Bx ts A n c) (hb:Below wr.heap.size wr w'):BkS W w' Bx ts A n c:=by
 obtain⟨cur,hc⟩:=h.box;obtain⟨ss,ht⟩:=h.tr;exact⟨⟨cur,(hb.block Bx h.lt).trans hc⟩,(hb.cell (p:=⟨Bx,0,none⟩) h.lt).trans h.cell,(hb.frozen (p:=⟨Bx,0,none⟩) h.lt).trans h.fz,h.len,⟨ss,ht.below hb⟩,h.below.trans (hb.mono h.below.size),h.bx⟩
theorem BkS.cap (h:BkS W wr Bx ts A n c):n≤c∧c≤maxLen:=by
 obtain⟨ss,ht⟩:=h.tr;obtain⟨A',c',hv,h1,h2⟩:=zR ht.own;injection hv with _ _ e;subst e;rw[h.len]at h1;exact⟨h1,h2⟩
theorem BkS.reads (h:BkS W wr Bx ts A n c) (hp:∀x∈ts,NdP x):NdsR wr wr.heap.size A n ts:=by
 obtain⟨ss,ht⟩:=h.tr;exact ht.reads h.len hp
theorem BkS.more {A':Option Addr} {N c':Nat} {x:Nd} {s:NdSl} {ss:List NdSl} (h:BkS W wr Bx ts A n c) (ht:TrB wr W.heap.size ts ss (.slice A n c)) (hnd:NdB wr W.heap.size x s)
 (ho:w'.ownsRow W.heap.size 48 8 (.slice A' N c') N (zR7 ts ss++ndV x s)) (hN:n+1=N) (hk:Kept wr w' (.slice A n c) (.slice A' N c')):
 BkS W (w'.setCell ⟨Bx,0,none⟩ (.slice A' N c')) Bx (ts++[x]) A' N c':=by
 obtain⟨cur,hc⟩:=h.box;have hlen:=h.len;have hB:=zR8 ht.own hc (by decide);have hw:=h.lt;have e1:w'.heap[Bx]? =wr.heap[Bx]? :=hk.block Bx hw hB;have hc1:=e1.trans hc;have hcell:w'.cell? ⟨Bx,0,none⟩=some (.slice A n c):=(World.cell?_of_block (show _=wr.heap[(⟨Bx,0,none⟩:Addr).block]? from e1)).trans h.cell;have hgr:wr.grownBy w' (Value.slice A n c).ownBlock:=⟨hk.os,hk.tape,hk.output,hk.size,fun i hi hr=>hk.block i hi (fun e=>hr e.symm)⟩;have ht2:TrB w' W.heap.size (ts++[x]) (ss++[s]) (.slice A' N c'):=TrB.snoc ht hnd (by rw[hlen,hN];exact ho) hgr;have hbx:Below W.heap.size w' (w'.setCell ⟨Bx,0,none⟩ (.slice A' N c')):=(Below.refl _ _).setCell h.bx _;refine⟨⟨cur.set 0 (.slice A' N c'),?_⟩,World.cell?_setCell_same _ _ _ hcell,?_,by simp[hlen,hN],⟨ss++[s],ht2.len,zTI ht2.own hc1 (by decide) (zK _ _ _ _),fun i y t hy hs=>(ht2.part i y t hy hs).map hbx fun v m xs hr=>zTI hr hc1 (by decide) (zK _ _ _ _),yAD ht2.size hbx.size⟩,?_,h.bx⟩
 · simp only[World.setCell,Array.getElem?_modify,if_true,hc1,Option.map_some];simp
 · rw[World.frozen?_setCell];exact(World.frozen?_of_block (show _=wr.heap[(⟨Bx,0,none⟩:Addr).block]? from e1)).trans h.fz
 · refine(h.below.grown hgr h.below.size fun k hk2=>?_).setCell h.bx _;exact(ht.own.lt k hk2).1
end
def zTq:Nd:={zBg with kind:=1,kids:=[1]}
def sl1 (G:Nat):NdSl:=⟨none,none,some ⟨G,0,none⟩,0,0,1⟩
theorem BkS.start (W:World) {G:Nat} (hG:W.heap.size=G):
 BkS W (((W.alloc (.cells #[.int .i64 1] 3)).alloc (.cells (ndV zTq (sl1 G)).toArray 48)).alloc (.cells #[.slice (some ⟨G+1,0,none⟩) 1 1] 27)) (G+2) [zTq] (some ⟨G+1,0,none⟩) 1 1:=by
 subst hG;obtain⟨W1,hW1⟩:∃W1,W.alloc (.cells #[.int .i64 1] 3)=W1:=⟨_,rfl⟩;obtain⟨W2,hW2⟩:∃W2,W1.alloc (.cells (ndV zTq (sl1 W.heap.size)).toArray 48)=W2:=⟨_,rfl⟩;have s1:W1.heap.size=W.heap.size+1:=by rw[←hW1];simp
 have s2:W2.heap.size=W.heap.size+2:=by rw[←hW2];simp[s1]
 have b1:Below W.heap.size W W1:=by rw[←hW1];exact(Below.refl _ _).alloc (yAC _) _
 have b2:Below W1.heap.size W1 W2:=by rw[←hW2];exact(Below.refl _ _).alloc (yAC _) _
 have b12:=b1.trans (b2.mono b1.size);obtain⟨o,ho⟩:∃o,Obj.cells #[.slice (some ⟨W.heap.size+1,0,none⟩) 1 1] 27=o:=⟨_,rfl⟩;have b3:Below W2.heap.size W2 (W2.alloc o):=(Below.refl _ _).alloc (yAC _) _;have r1:W1.ownsRow W.heap.size 3 1 (.slice (some ⟨W.heap.size,0,none⟩) 1 1) 1 (zBC [1]):=by
  rw[←hW1];exact World.ownsRow_lit (base:=W.heap.size) (e:=3) (size:=1) W #[.int .i64 1] 1 (yAC _) (by decide) rfl
 have r2:W2.ownsRow W.heap.size 48 8 (.slice (some ⟨W.heap.size+1,0,none⟩) 1 1) 1 (ndV zTq (sl1 W.heap.size)):=by
  rw[←hW2,←s1];exact World.ownsRow_lit (base:=W.heap.size) (e:=48) (size:=8) W1 (ndV zTq (sl1 W.heap.size)).toArray 1 b1.size (by decide) rfl
 rw[hW1,hW2,ho];have hn:=heap_alloc_new W2 o;rw[s2]at hn;refine⟨⟨[.slice (some ⟨W.heap.size+1,0,none⟩) 1 1],by rw[hn,←ho]⟩,?_,?_,rfl,⟨[sl1 W.heap.size],rfl,zCH r2 b3,fun i y s hy hs=>?_,yAD b12.size b3.size⟩,b12.trans (b3.mono b12.size),by omega⟩
 · subst ho;rw[World.cell?_alloc_at _ _ _ _ s2.symm];rfl
 · subst ho;rw[←s2];exact World.frozen?_alloc_new _ _ _ _
 · have hi:i=0:=by
    have:=(List.getElem?_eq_some_iff.1 hy).1;simp at this;omega
   subst hi;obtain rfl:=Option.some.inj hy;obtain rfl:=Option.some.inj hs;exact⟨Reads.none_,Reads.none_,zCH (zCH r1 b2) b3,⟨yAC _,yAE _⟩,⟨yAC _,yAE _⟩⟩
structure KdS (wr wq:World) (Y:Nat) (v0 v1 v2 v3 v4 v5 v6:Value) (ks:List Int) (A:Option Addr) (k c:Nat):Prop where
 nb:Nb8 wq Y v0 v1 v2 v3 v4 v5 v6 (.slice A k c)
 own:wq.ownsRow (Y+1) 3 1 (.slice A k c) k (zBC ks)
 len:ks.length=k
 below:Below Y wr wq
 size:Y+1≤wq.heap.size
theorem Kept.pre {w0 w w':World} {v v':Value} (hb:Below w0.heap.size w0 w) (h:Kept w w' v v'):Kept w0 w' v v':=
 ⟨h.os.trans hb.os,h.tape.trans hb.tape,h.output.trans hb.output,yAD hb.size h.size,fun i hi hne=>(h.block i (yAA hi hb.size) hne).trans (hb.block i hi),by
  rcases h.own with e | ⟨r,e,hr⟩
  · exact .inl e
  · exact .inr ⟨r,e,yAD hb.size hr⟩⟩
theorem Nb8.set0 {w:World} {N:Nat} {v0 v1 v2 v3 v4 v5 v6 v7:Value} (h:Nb8 w N v0 v1 v2 v3 v4 v5 v6 v7) (u:Value):Nb8 (w.setCell ⟨N,0,none⟩ u) N u v1 v2 v3 v4 v5 v6 v7:=by
 obtain⟨⟨h0,h1,h2,h3,h4,h5,h6,h7⟩,hf⟩:=h;refine⟨⟨World.cell?_setCell_same _ _ _ h0,?_,?_,?_,?_,?_,?_,?_⟩,fun j hj=>by rw[World.frozen?_setCell];exact hf j hj⟩
 all_goals (rw[World.cell?_setCell_other _ _ _ _ (zTg (by decide))];assumption)
theorem KdS.kind {wr wq:World} {Y k c:Nat} {v0 v1 v2 v3 v4 v5 v6:Value} {ks:List Int} {A:Option Addr} (h:KdS wr wq Y v0 v1 v2 v3 v4 v5 v6 ks A k c) (u:Value):KdS wr (wq.setCell ⟨Y,0,none⟩ u) Y u v1 v2 v3 v4 v5 v6 ks A k c:=
 ⟨h.nb.set0 u,zBK h.own (zK _ _ _ _) (yAF _),h.len,h.below.setCell (yAC _) _,by have:=h.size;simp only[World.setCell];simp;omega⟩
theorem KdS.new {wr:World} {Y:Nat} (hY:wr.heap.size=Y) (e:TypeId) (v0 v1 v2 v3 v4 v5 v6 v7:Value):KdS wr ((wr.alloc (.cells #[v0,v1,v2,v3,v4,v5,v6,v7] e)).setCell ⟨Y,7,none⟩ (.slice none 0 0)) Y v0 v1 v2 v3 v4 v5 v6 [] none 0 0:=by
 refine⟨(Nb8.new wr Y hY e v0 v1 v2 v3 v4 v5 v6 v7).set7 _,yAJ _ _ _ _,rfl,((Below.refl Y wr).alloc (Nat.le_of_eq hY.symm) _).setCell (p:=⟨Y,7,none⟩) (yAC _) _,?_⟩;simp only[World.setCell];simp;omega
theorem KdS.step {wr wq w':World} {Y k c N c':Nat} {v0 v1 v2 v3 v4 v5 v6:Value} {ks:List Int} {j:Int} {A A':Option Addr} (h:KdS wr wq Y v0 v1 v2 v3 v4 v5 v6 ks A k c)
 (ho:w'.ownsRow (Y+1) 3 1 (.slice A' N c') N (zBC ks++[.int .i64 j])) (hN:k+1=N) (hk:Kept wq w' (.slice A k c) (.slice A' N c')):
 KdS wr (w'.setCell ⟨Y,7,none⟩ (.slice A' N c')) Y v0 v1 v2 v3 v4 v5 v6 (ks++[j]) A' N c':=by
 have b:Below (Y+1) wq w':=hk.below (fun i hi=>(h.own.lt i hi).1) h.size;have e:zBC (ks++[j])=zBC ks++[.int .i64 j]:=by simp[zBC]
 refine⟨(h.nb.below b (yAF _)).set7 _,?_,by simp[h.len,hN],(h.below.trans (b.mono (Nat.le_succ _))).setCell (yAC _) _,?_⟩
 · rw[e];exact zBK ho (zK _ _ _ _) (yAF _)
 · have:=b.size;have:=h.size;simp only[World.setCell];simp;omega
theorem zSH {A A':Option Addr} {c d B n:Nat} {xs:List (List UInt8)} {w:World} (hn:xs.length=n) (hB:B≤w.heap.size) (ha:Reads w B 1 A n (zBQ xs)) (hb:Reads w B 1 A' n (zBQ xs)) (hl:n≤9223372036854775807):
 Calls prog 29 #[.slice A n c,.slice A' n d] w fun e w'=>e=.returned (.bool true)∧Below w.heap.size w w':=by
 have HN:=zA hn;have HA:=zA ha;have HB:=zA hb;have e2:((n:Int) !=(n:Int))=false:=by simp
 clear hn ha hb;go_enter func29,ntmps29;go_wp2_with fail
 go_loopw [5] (fun i wr=>∃k:Nat,k≤n∧i=.int .i64 k∧Hid (Below w.heap.size w wr)) (fun i _=>n - (intOf i).toNat)
 case atStart=>exact⟨0,yAE _,rfl,Below.refl _ _⟩
 case round=>
  obtain⟨k,hk,rfl,hbr⟩:=hrel
  by_cases hlt:k < n
  · have hx:k < xs.length:=by rw[HN.out];exact hlt
    obtain⟨ba,oa,rfl,_,hca1⟩:=(HA.out.below (hbr.out.mono hB)).spotV (by omega);have hca:=hca1 k (.string ⟨xs[k].toArray⟩) (by simp[zBQ,yAB hx]);obtain⟨bb,ob,rfl,_,hcb1⟩:=(HB.out.below (hbr.out.mono hB)).spotV (by omega);have hcb:=hcb1 k (.string ⟨xs[k].toArray⟩) (by simp[zBQ,yAB hx]);obtain⟨x,hxx⟩:∃x:ByteArray,⟨xs[k].toArray⟩=x:=⟨_,rfl⟩;rw[hxx]at hca hcb;have e1:(x.toList !=x.toList)=false:=by simp
    clear hca1 hcb1 hxx hx;go_wp2_with fail
    go_quiet (fail)
    go_wp2_with fail
    go_roundw
    case rel=>exact⟨k+1,by omega,by go_num,zk hbr.out _⟩
    case measure=>simp[intOf];omega
  · go_wp2_with fail;go_ret;exact⟨rfl,hbr.out⟩
theorem zTc {A:Option Addr} {c B n:Nat} {ts:List Nd} {w:World} (hN:NdsR w B A n ts) (hB:B≤w.heap.size) (hc:n≤c) (ht:(zAI ts).length≤1000000) (hq:zO3 ts=true) (h0:0 < n) (hl:n≤4096) (hf:Fwd ts) {nd:Nat} (hd:zIj ts=nd):
 Calls prog 21 #[.agg #[.slice A n c]] w fun e w'=>e=.returned (.int .i64 (nd:Int))∧Below w.heap.size w w':=by
 obtain⟨W,hW⟩:∃W,w.alloc (.cells #[.slice A n c] 27)=W:=⟨_,rfl⟩;have hb0:Below w.heap.size w W:=by rw[←hW];exact(Below.refl _ _).alloc (yAC _) _
 have hX1:w.heap.size < W.heap.size:=by rw[←hW];simp
 have x0:W.cell? ⟨w.heap.size,0,none⟩=some (.slice A n c):=by rw[←hW,World.cell?_alloc_at _ _ _ _ rfl];rfl
 have CM:=zA (zKs (c:=c) (hN.below (hb0.mono hB)) (yAD hB hb0.size) hc ht hq);have HN:=zA hN;have HB0:=zA hb0;obtain⟨dl,hdl⟩:∃dl,zG4 ts=dl:=⟨_,rfl⟩;have hmx:=zA (show zD8 dl=nd by rw[←hdl];exact hd);have CD:=zA (fun(w1:World) (hb:Below w.heap.size w w1)=>zIB (c:=c) (hN.below (hb.mono hB)) (yAD hB hb.size) h0 hl hf (zPj ht) hdl);obtain⟨X,hX⟩:∃X,w.heap.size=X:=⟨_,rfl⟩;go_enter func21,ntmps21;go_upto_region 1 with(fail);clear hN ht hb0 hq hd hdl hW hf;rw[hX]at x0 hX1;clear hX;go_wp2_with fail;refine CM.out.mono ?_;rintro e1 w1 ⟨rfl,hb1⟩;have y0:=(hb1.cell (p:=⟨X,0,none⟩) hX1).trans x0;have HB1:=zA (HB0.out.trans (hb1.mono HB0.out.size));clear hb1;have CD1:=zA (CD.out w1 HB1.out);go_wp2_with fail;refine CD1.out.mono ?_;rintro e2 w2 ⟨A3,c3,rfl,hq3,hc3,hr3,hb3⟩;have HB2:=zA (HB1.out.trans (hb3.mono HB1.out.size));have CX:=zA (zKZ (c:=c3) hq3 h0 (by omega) hr3 hmx.out);clear hq3 hr3 hb3;go_wp2_with fail;refine CX.out.mono ?_;rintro e3 w3 ⟨rfl,rfl⟩;go_wp2_with fail;go_ret;exact⟨rfl,HB2.out⟩
theorem FewP.allB {ts:List Nd} (h:FewP ts):(zAI ts).length≤1000000:=by have:=h.all;omega
theorem zSs {ts:List Nd} (h:zO3 ts=true):zBU ts=true:=by
 obtain⟨t,ht⟩:=zMc h;rw[ht.flat];exact zE6 t
theorem zTr {w:World} {B n:Nat} {b o:Nat} {l:List Int} (h:Reads w B 1 (some ⟨b,o,none⟩) n (zBC l)) {q:Nat} (hq:q < l.length) (hn:l.length=n):w.cell? ⟨b,o+q,none⟩=some (.int .i64 l[q]):=by
 obtain⟨b',o',e,_,hc⟩:=h.spotV (by omega);injection e with e;injection e with e1 e2 _;subst e1 e2;exact zDT (x:={zBg with kids:=l}) hc hq
theorem zSI (A:Option Addr) (n c:Nat) (ts:List Nd) (hc:n≤c) (_hm:c≤maxLen) (w:World) (hN:NdsR w w.heap.size A n ts) (hT:Tab w∧Tabs w):
 Calls prog 10 #[.agg #[.slice A n c]] w fun e w'=>e=.returned (.bool true)∧Below w.heap.size w w':=by
 obtain⟨W,hW⟩:∃W,w.alloc (.cells #[.slice A n c] 27)=W:=⟨_,rfl⟩;have hbW:Below w.heap.size w W:=by rw[←hW];exact(Below.refl _ _).alloc (yAC _) _
 have hX1:w.heap.size < W.heap.size:=by rw[←hW];simp
 have x0:W.cell? ⟨w.heap.size,0,none⟩=some (.slice A n c):=by rw[←hW,World.cell?_alloc_at _ _ _ _ rfl];rfl
 obtain⟨X,hX⟩:∃X,w.heap.size=X:=⟨_,rfl⟩;have HBW:=zA hbW;have HNW:=zA ((hN.below hbW).more hbW.size);have HLN:=zA hN.1;have HNP:=zA hN.p;have HTW:=zA (hT.1.below hT.1.lt hbW);have HT8:=zA (hT.2.grow hbW);have CF:=zA (fun(x:World) (hb:Below W.heap.size W x)=>zJ2 (HTW.out.below HTW.out.lt hb) (HT8.out.grow hb));have CW:=zA (fun(x:World) (hb:Below W.heap.size W x)=>zTo (c:=c) (HNW.out.below hb) hb.size);have CE:=zA (fun(x:World) (hb:Below W.heap.size W x) (hf:FewP ts)=>zKv (c:=c) (HNW.out.below hb) hb.size hc hf.allB);have CM:=zA (fun(x:World) (hb:Below W.heap.size W x) (hf:FewP ts) (q:Bool) (hq:zO3 ts=q)=>zKs (c:=c) (HNW.out.below hb) hb.size hc hf.allB hq);have CNT:=zA (fun(x:World) (hb:Below W.heap.size W x) (hf:FewP ts) (hq:zO3 ts=true) (h0:0 < n) (hl:n≤4096) (nd:Nat) (hd:zIj ts=nd)=>zTc (c:=c) (HNW.out.below hb) hb.size hc hf.allB hq h0 hl (zEG (zSs hq)) hd);have CN:=zA (fun(x:World) (hb:Below W.heap.size W x) (hm:zO3 ts=true) (h0:0 < n)=>(show Calls prog 28 #[.agg #[.slice A n c],.int .i64 0] x (fun e w'=>∃v,e=.returned v∧MadeS x w' v (zAj ts 0))from zTf (c:=c) (j:=0) (HNW.out.below hb) hb.size hc hm h0));go_enter func10,ntmps10;go_upto_region 1 with(fail);clear hN hbW hT hW;rw[hX]at x0 hX1;have HCX:=zA (fun(x:World) (hb:Below W.heap.size W x)=>(hb.cell (p:=⟨X,0,none⟩) hX1).trans x0);clear hX x0;go_wp2_with fail;refine(CF.out W (Below.refl _ _)).mono ?_;rintro e1 w1 ⟨rfl,hb1⟩;have HB1:=zA hb1;have y1:=HCX.out w1 hb1;clear hb1;go_wp2_with fail;refine(CW.out w1 HB1.out).mono ?_;rintro e2 w2 ⟨q,rfl,hf,hb2⟩;have HB2:=zA (zDh HB1.out hb2);have y2:=HCX.out w2 HB2.out;clear hb2 y1 HB1;cases q with
 | false=>
  clear hf;go_wp2_with fail;refine(CF.out w2 HB2.out).mono ?_;rintro e3 w3 ⟨rfl,hb3⟩;have HB3:=zA (zDh HB2.out hb3);clear hb3;go_wp2_with fail;go_ret;exact⟨rfl,HBW.out.trans (HB3.out.mono HBW.out.size)⟩
 | true=>
  have HF:=zA (hf rfl);clear hf;obtain⟨q,hq⟩:∃q,zO3 ts=q:=⟨_,rfl⟩;have C2:=zA (CM.out w2 HB2.out HF.out q hq);have HQ:=zA hq;clear hq;go_wp2_with fail;refine C2.out.mono ?_;rintro e3 w3 ⟨rfl,hb3⟩;have HB3:=zA (zDh HB2.out hb3);have y3:=HCX.out w3 HB3.out;clear hb3 y2 HB2 C2;have CF3:=zA (CF.out w3 HB3.out);cases q with
  | false=>
   go_wp2_with fail;refine CF3.out.mono ?_;rintro e4 w4 ⟨rfl,hb4⟩;have HB4:=zA (zDh HB3.out hb4);clear hb4;go_wp2_with fail;go_ret;exact⟨rfl,HBW.out.trans (HB4.out.mono HBW.out.size)⟩
  | true=>
   have hl0:0 < n:=by rw[←HLN.out];exact(zKu HQ.out).2.1
   have hn20:n≤4096:=by rw[←HLN.out];exact(zKu HQ.out).1.len
   have l0:((n:Int)==0)=false:=yA.2 (by omega)
   by_cases hbig:4096≤n
   · have l1:(4096:Int)≤(n:Int):=by omega
     have l2:decide ((4096:Int)≤(n:Int))=true:=decide_eq_true l1;go_wp2_with fail;refine CF3.out.mono ?_;rintro e4 w4 ⟨rfl,hb4⟩;have HB4:=zA (zDh HB3.out hb4);clear hb4;go_wp2_with fail;go_ret;exact⟨rfl,HBW.out.trans (HB4.out.mono HBW.out.size)⟩
   · have l1:¬(4096:Int)≤(n:Int):=by omega
     have l2:decide ((4096:Int)≤(n:Int))=false:=yAI l1;obtain⟨nd,hnd⟩:∃nd,zIj ts=nd:=⟨_,rfl⟩;have C3:=zA (CNT.out w3 HB3.out HF.out HQ.out hl0 hn20 nd hnd);have HND:=zA hnd;clear hnd CF3;go_wp2_with fail;refine C3.out.mono ?_;rintro e4 w4 ⟨rfl,hb4⟩;have HB4:=zA (zDh HB3.out hb4);have y4:=HCX.out w4 HB4.out;clear hb4 y3 HB3 C3
     by_cases hdp:48≤nd
     · have d1:(48:Int)≤(nd:Int):=by omega
       have d2:decide ((48:Int)≤(nd:Int))=true:=decide_eq_true d1;have CF4:=zA (CF.out w4 HB4.out);go_wp2_with fail;refine CF4.out.mono ?_;rintro e5 w5 ⟨rfl,hb5⟩;have HB5:=zA (zDh HB4.out hb5);clear hb5;go_wp2_with fail;go_ret;exact⟨rfl,HBW.out.trans (HB5.out.mono HBW.out.size)⟩
     · have d1:¬(48:Int)≤(nd:Int):=by omega
       have d2:decide ((48:Int)≤(nd:Int))=false:=yAI d1;have HBK:=zA (zTy HQ.out (by rw[HLN.out];omega) (by rw[HND.out];omega));go_upto_region 6 with(fail);obtain⟨G,hG⟩:∃G,w4.heap.size=G:=⟨_,rfl⟩;have hS0:BkS w4 _ (G+1+1) [zTq] (some ⟨G+1,0,none⟩) 1 1:=BkS.start w4 hG;obtain⟨V,hV⟩:∃V,((w4.alloc (.cells #[.int .i64 1] 3)).alloc (.cells #[.int .i64 1,.string ⟨#[]⟩,.slice none 0 0,.int .i64 0,.int .i64 0,.bool false,.slice none 0 0,.slice (some ⟨G,0,none⟩) 1 1] 48)).alloc (.cells #[.slice (some ⟨G+1,0,none⟩) 1 1] 27)=V:=⟨_,rfl⟩;have hS1:BkS w4 V (G+1+1) [zTq] (some ⟨G+1,0,none⟩) 1 1:=by rw[←hV];exact hS0
       rw[hG,hV];obtain⟨Bx,hBx⟩:∃Bx,G+1+1=Bx:=⟨_,rfl⟩;rw[hBx]at hS1⊢;have HS:=zA (show BkS w4 V Bx ((zSA ts).take 1) (some ⟨G+1,0,none⟩) 1 1 from by rw[zTm (by rw[HLN.out];exact hl0)];exact hS1);clear hV hBx hG hS0 hS1;obtain⟨i0,hi0,hz0,hz1,hz2⟩:=info_parts Tryz.info_int;obtain⟨j0,hj0,hy0,hy1,hy2⟩:=info_parts Tryz.info_node;go_wp2_with fail
       go_loopw [4] (fun i wr=>∃(k:Nat) (Ar:Option Addr) (cr:Nat),k≤n∧i=.int .i64 (k:Int)∧Hid (BkS w4 wr Bx ((zSA ts).take (k+1)) Ar (k+1) cr)) (fun i _=>n - (intOf i).toNat)
       case atStart=>exact⟨0,_,_,yAE _,rfl,HS.out⟩
       case round=>
        clear HS y4;obtain⟨wu,hwu⟩:∃wu,wu=wr:=⟨_,rfl⟩;subst hwu;obtain⟨k,Ar,cr,hk,rfl,hS⟩:=hrel;have HBr:=zA (zDh HB4.out hS.out.below);have yr:=HCX.out wu HBr.out
        by_cases hlt:k < n
        · have h1:(k:Int) < (n:Int):=by omega
          have h2:decide ((k:Int) < (n:Int))=true:=decide_eq_true h1;obtain⟨b,o,x,⟨sAs,sAm,sAk,scs,scm,sck⟩,rfl,hbB,hx,hC,hR⟩:=(HNW.out.below HBr.out).get hlt;obtain⟨kc0,kc1,kc2,kc3,kc4,kc5,kc6,kc7⟩:=hC;simp only at kc0 kc1 kc2 kc3 kc4 kc5 kc6 kc7;have HXs:=zA hx;have HR:=zA hR;have hxl:x.kids.length≤20000:=(HF.out.each x (List.mem_of_getElem? hx)).2.2.1;have hbr:b < wu.heap.size:=yAA hbB HBr.out.size;obtain⟨L,hL⟩:∃L,x.kids.length=L:=⟨_,rfl⟩;rw[hL]at kc7 hxl;have HLk:=zA hL;clear hx hR hL;go_upto_region 10 with(fail);obtain⟨Y,hY⟩:∃Y,wu.heap.size=Y:=⟨_,rfl⟩;obtain⟨W1,hW1⟩:∃W1,wu.alloc (.cells #[.int .i64 x.kind,.string ⟨x.name.toArray⟩,.slice sAs x.str.length scs,.int .i64 x.nk,.int .i64 x.nn,.bool x.neg,.slice sAm x.mag.length scm,.slice sAk L sck] 48)=W1:=⟨_,rfl⟩;have hK0:=KdS.new hY 48 (.int .i64 x.kind) (.string ⟨x.name.toArray⟩) (.slice sAs x.str.length scs) (.int .i64 x.nk) (.int .i64 x.nn) (.bool x.neg) (.slice sAm x.mag.length scm) (.slice sAk L sck);have nb1:=Nb8.new wu Y hY 48 (.int .i64 x.kind) (.string ⟨x.name.toArray⟩) (.slice sAs x.str.length scs) (.int .i64 x.nk) (.int .i64 x.nn) (.bool x.neg) (.slice sAm x.mag.length scm) (.slice sAk L sck);rw[hW1]at hK0 nb1⊢;rw[hY];have HK0:=zA hK0;have p7:=nb1.1.2.2.2.2.2.2.2;have f7:=nb1.2 7 (by omega);have HY:=zA hY;clear hW1 hK0 nb1 hY kc0 kc1 kc2 kc3 kc4 kc5 kc6;go_upto_region 11 with(fail);obtain⟨W2,hW2⟩:∃W2,W1.setCell ⟨Y,7,none⟩ (.slice none 0 0)=W2:=⟨_,rfl⟩;rw[hW2]at HK0⊢;clear hW2 p7 f7;go_wp2_with fail
          go_loopw [6] (fun i wq=>∃(p:Nat) (Ak:Option Addr) (ck:Nat),p≤L∧i=.int .i64 (p:Int)∧Hid (KdS wu wq Y (.int .i64 x.kind) (.string ⟨x.name.toArray⟩) (.slice sAs x.str.length scs) (.int .i64 x.nk) (.int .i64 x.nn) (.bool x.neg) (.slice sAm x.mag.length scm) ((x.kids.take p).map (·+1)) Ak p ck)) (fun i _=>L - (intOf i).toNat)
          case atStart=>exact⟨0,none,0,yAE _,rfl,HK0.out⟩
          case round=>
           clear HK0 yr;obtain⟨p,Ak,ck,hp,rfl,hK⟩:=hrel;have hbq:Below wu.heap.size wu wr:=by rw[HY.out];exact hK.out.below
           have HBq:=zA (zDh HBr.out hbq);have yq:=HCX.out wr HBq.out;have c7:=(hbq.cell (p:=⟨b,o+k*8+7,none⟩) hbr).trans kc7;clear kc7;obtain⟨⟨p0,p1,p2,p3,p4,p5,p6,p7⟩,pf⟩:=hK.out.nb
           by_cases hlp:p < L
           · have g1:(p:Int) < (L:Int):=by omega
             have g2:decide ((p:Int) < (L:Int))=true:=decide_eq_true g1;have hpl:p < x.kids.length:=by rw[HLk.out];exact hlp
             have hkr:Reads wr W.heap.size 1 sAk x.kids.length (zBC x.kids):=HR.out.kids.below (hbq.mono HBr.out.size);obtain⟨bk,ok,rfl,hbk,_⟩:=hkr.spotV (by omega);have hca:=zTr hkr hpl rfl;have hj:=zTE HQ.out HXs.out _ (List.getElem_mem hpl);have HTK:=zA (show(x.kids.take (p+1)).map (·+1)=(x.kids.take p).map (·+1)++[x.kids[p]+1]from by rw[yAK hpl,List.map_append];rfl);obtain⟨j,hjx⟩:∃j,x.kids[p]=j:=⟨_,rfl⟩;rw[hjx]at hca hj HTK;have hwr:IntKind.i64.wrap (j+1)=j+1:=by rw[IntKind.wrap_i64];omega
             obtain⟨wl,hwl⟩:∃wl,wr.alloc (.cells #[.int .i64 (j+1)] 3)=wl:=⟨_,rfl⟩;have bl:Below wr.heap.size wr wl:=by rw[←hwl];exact(Below.refl _ _).alloc (yAC _) _
             have hYw:Y < wr.heap.size:=hK.out.size;have l7:=(bl.cell (p:=⟨Y,7,none⟩) hYw).trans p7;have q7:=pf 7 (by omega);have r7:=(bl.frozen (p:=⟨Y,7,none⟩) hYw).trans q7;have yl:=(bl.cell (p:=⟨X,0,none⟩) (yAA hX1 HBq.out.size)).trans yq;have dl:=(bl.cell (p:=⟨b,o+k*8+7,none⟩) (yAA hbr hbq.size)).trans c7;have el:=(bl.cell (p:=⟨bk,ok+p,none⟩) (yAA hbk HBq.out.size)).trans hca;have HKL:=zA ((zCH hK.out.own bl).drew);have hY1:Y+1≤wl.drew.heap.size:=yAD hK.out.size bl.size;have HNE:=zA (fun e=>by have:=(hK.out.own.lt Y e).1;omega:(Value.slice Ak p ck).ownBlock≠some Y);have HNW2:=zA (show∀q u,[Value.int .i64 (j+1)][q]? =some u→wl.cell? ⟨wr.heap.size,0+q,none⟩=some u from by
              intro q u hu;rw[←hwl,World.cell?_alloc_at _ _ _ _ rfl];simpa using hu)
             have HONE:=zA (show∀u∈[Value.int .i64 (j+1)],u.oneCell'=true from by
              intro u hu;obtain rfl:u=.int .i64 (j+1):=by simpa using hu
              rfl)
             have BL:=zA bl.drew;clear hkr hjx pf bl p0 p1 p2 p3 p4 p5 p6 hbq;go_wp2_with fail;go_region_law (refine zTF rfl _ _ 32 rfl (Y+1) 3 i0 (.int .i64 0) 8 underlying32 hi0 hz0 hz1 hz2 rfl (.slice Ak p ck) p (zBC ((x.kids.take p).map (·+1))) rfl HKL.out hY1 ⟨wr.heap.size,0,none⟩ 1 1 [.int .i64 (j+1)] rfl rfl (fun q u hu=>by rw[Addr.add_lit];exact HNW2.out q u hu) HONE.out (by omega) (by omega) (by decide) ?_;intro v' w' ho' hk';have hcA:=(hk'.cell (p:=⟨Y,7,none⟩) hY1 HNE.out).trans l7;have hfA:=(hk'.frozen (p:=⟨Y,7,none⟩) hY1 HNE.out).trans r7;obtain⟨An,cn,rfl,_,_⟩:=zR ho')
             all_goals
              go_wp2_with fail
              go_roundw
              case rel=>exact⟨p+1,An,cn,by omega,by go_num,by rw[HTK.out];exact hK.out.step ho' rfl (hk'.pre BL.out)⟩
              case measure=>simp[intOf];omega
           · have g1:¬(p:Int) < (L:Int):=by omega
             have g2:decide ((p:Int) < (L:Int))=false:=yAI g1;obtain rfl:p=L:=by omega
             have hke:x.kids.take p=x.kids:=List.take_of_length_le (by rw[HLk.out];exact yAC _);rw[hke]at hK;obtain⟨kv,hkv⟩:∃kv,(bkN k x).kind=kv:=⟨_,rfl⟩;have HKV:=zA hkv;have q0:=pf 0 (by omega);have hsb:=hS.out.below.size;have HFIN:∀wz:World,KdS wu wz Y (.int .i64 kv) (.string ⟨x.name.toArray⟩) (.slice sAs x.str.length scs) (.int .i64 x.nk) (.int .i64 x.nn) (.bool x.neg) (.slice sAm x.mag.length scm) (x.kids.map (·+1)) Ak p ck→
              BkS w4 wz Bx ((zSA ts).take (k+1)) Ar (k+1) cr∧NdB wz w4.heap.size (bkN k x) ⟨sAs,sAm,Ak,scs,scm,ck⟩∧Below W.heap.size W wz:=by
              intro wz hz;have hb2:Below wu.heap.size wu wz:=by rw[HY.out];exact hz.below
              have hb3:=zDh HBr.out hb2;have hw4:=HB4.out.size;refine⟨hS.out.go hb2,⟨?_,?_,?_,?_,?_⟩,hb3⟩
              · rw[zTD];exact(HR.out.str.below (hb2.mono HBr.out.size)).more hw4
              · rw[zSZ];exact(HR.out.mag.below (hb2.mono HBr.out.size)).more hw4
              · have h:=zTW hz.own (show w4.heap.size≤Y+1 by have:=HY.out;omega);rw[zSg,List.length_map,HLk.out];exact h
              · rw[zTD];exact HR.out.cs
              · rw[zSZ];exact HR.out.cm
             have HFI:=zA HFIN;clear HFIN hke hkv
             by_cases hk0:k=0
             · have z0:((k:Int)==0)=true:=by rw[hk0];rfl
               have hK2:=hK.out.kind (.int .i64 4);have HK4:=zA (show kv=4 from by rw[←HKV.out,hk0];rfl);clear hk0;go_upto_region 17 with(fail);obtain⟨wz,hwz⟩:∃wz,wr.setCell ⟨Y,0,none⟩ (.int .i64 4)=wz:=⟨_,rfl⟩;rw[hwz]at hK2⊢;rw[←HK4.out]at hK2;have HZ:=zA hK2;clear hK2 hwz z0 hK p0 p1 p2 p3 p4 p5 p6 p7 pf q0 HK4;obtain⟨hSz,hnd,hbz⟩:=HFI.out wz HZ.out;obtain⟨⟨p0,p1,p2,p3,p4,p5,p6,p7⟩,_⟩:=HZ.out.nb;have hcz:=hSz.cell;obtain⟨ss,ht⟩:=hSz.tr;have hto:=ht.own;rw[hSz.len]at hto;have HTO:=zA hto;have HTB:=zA ht;have HND2:=zA hnd;have HSZ:=zA hSz;have hbw:=hSz.below.size;obtain⟨cur,hcur⟩:=hSz.box;have HNB:=zA (zR8 hto hcur (by decide));have hBlz:=hSz.lt;have HFZ:=zA hSz.fz;clear ht hto hcur hSz hnd hbz c7 yq HBq hsb;go_wp2_with (at_builtin;refine zCn rfl _ _ 25 rfl w4.heap.size 48 j0 (.agg zTp.toArray) 8 120 underlying25 hj0 hy0 hy1 hy2 rfl (by decide) (.slice Ar (k+1) cr) (k+1) (zR7 ((zSA ts).take (k+1)) ss) rfl HTO.out hbw [.int .i64 kv,.string ⟨x.name.toArray⟩,.slice sAs x.str.length scs,.int .i64 x.nk,.int .i64 x.nn,.bool x.neg,.slice sAm x.mag.length scm,.slice Ak p ck] 1 1 rfl rfl rfl (by omega) (by decide) ?_;intro v' w' ho' hk';have hcA:=(hk'.cell (p:=⟨Bx,0,none⟩) hBlz HNB.out).trans hcz;have hfA:=(hk'.frozen (p:=⟨Bx,0,none⟩) hBlz HNB.out).trans HFZ.out;obtain⟨Aw,cw,rfl,_,_⟩:=zR ho')
               go_roundw
               case rel=>
                refine⟨k+1,Aw,cw,by omega,by go_num,?_⟩;rw[zSi HXs.out];refine HSZ.out.more (x:=bkN k x) (s:=⟨sAs,sAm,Ak,scs,scm,ck⟩) HTB.out HND2.out ?_ rfl hk';rw[zSh,HKV.out,HLk.out];exact ho'
               case measure=>simp[intOf];omega
             · have z0:((k:Int)==0)=false:=yA.2 (by omega);have hkx:x.kind=kv:=by rw[←HKV.out];unfold bkN;rw[if_neg hk0];rfl
               rw[hkx]at hK;go_upto_region 17 with(fail);obtain⟨wz,hwz⟩:∃wz,wz=wr:=⟨_,rfl⟩;subst hwz;have HZ:=zA hK;clear hK hk0 hkx z0 p0 p1 p2 p3 p4 p5 p6 p7 pf q0;obtain⟨hSz,hnd,hbz⟩:=HFI.out wz HZ.out;obtain⟨⟨p0,p1,p2,p3,p4,p5,p6,p7⟩,_⟩:=HZ.out.nb;have hcz:=hSz.cell;obtain⟨ss,ht⟩:=hSz.tr;have hto:=ht.own;rw[hSz.len]at hto;have HTO:=zA hto;have HTB:=zA ht;have HND2:=zA hnd;have HSZ:=zA hSz;have hbw:=hSz.below.size;obtain⟨cur,hcur⟩:=hSz.box;have HNB:=zA (zR8 hto hcur (by decide));have hBlz:=hSz.lt;have HFZ:=zA hSz.fz;clear ht hto hcur hSz hnd hbz c7 yq HBq hsb;go_wp2_with (at_builtin;refine zCn rfl _ _ 25 rfl w4.heap.size 48 j0 (.agg zTp.toArray) 8 120 underlying25 hj0 hy0 hy1 hy2 rfl (by decide) (.slice Ar (k+1) cr) (k+1) (zR7 ((zSA ts).take (k+1)) ss) rfl HTO.out hbw [.int .i64 kv,.string ⟨x.name.toArray⟩,.slice sAs x.str.length scs,.int .i64 x.nk,.int .i64 x.nn,.bool x.neg,.slice sAm x.mag.length scm,.slice Ak p ck] 1 1 rfl rfl rfl (by omega) (by decide) ?_;intro v' w' ho' hk';have hcA:=(hk'.cell (p:=⟨Bx,0,none⟩) hBlz HNB.out).trans hcz;have hfA:=(hk'.frozen (p:=⟨Bx,0,none⟩) hBlz HNB.out).trans HFZ.out;obtain⟨Aw,cw,rfl,_,_⟩:=zR ho')
               go_roundw
               case rel=>
                refine⟨k+1,Aw,cw,by omega,by go_num,?_⟩;rw[zSi HXs.out];refine HSZ.out.more (x:=bkN k x) (s:=⟨sAs,sAm,Ak,scs,scm,ck⟩) HTB.out HND2.out ?_ rfl hk';rw[zSh,HKV.out,HLk.out];exact ho'
               case measure=>simp[intOf];omega
        · have h1:¬(k:Int) < (n:Int):=by omega
          have h2:decide ((k:Int) < (n:Int))=false:=yAI h1;have hkn:k=n:=by omega
          subst hkn;have e:(zSA ts).take (k+1)=zSA ts:=List.take_of_length_le (by rw[zSD (by rw[HLN.out];exact hl0),HLN.out];exact yAC _);rw[e]at hS;have hcx:=hS.out.cell;have hBlu:=hS.out.lt;have hcap:=hS.out.cap;have HRX:=zA (hS.out.reads (zT2 HQ.out HNP.out));have HKX:=zA (show(zAI (zSA ts)).length≤1000000 from by rw[zTY (by rw[HLN.out];exact hl0)];have:=HF.out.all;omega);obtain⟨⟨ca,ce⟩,hch⟩:∃q,chN ts=q:=⟨_,rfl⟩;obtain⟨cb,hcb,hcs⟩:∃cb,chN (zSA ts)=(cb,ce)∧((ca=0∧ce=0∧cb=0)∨(ce=5∧cb=ca+1)):=by
           have h:=zTB HBK.out;have h2:=zTw ts;rw[hch]at h h2;rcases h2 with⟨h2,_⟩ | ⟨_,h3⟩ | ⟨h2,_⟩
           · simp only[Prod.mk.injEq]at h2;obtain⟨rfl,rfl⟩:=h2;exact⟨0,h,.inl ⟨rfl,rfl,rfl⟩⟩
           · rw[HQ.out]at h3;cases h3
           · simp only at h2;subst h2;exact⟨ca+1,h,.inr ⟨rfl,rfl⟩⟩
          have hca:=zT4 hch;rw[HLN.out]at hca;have hwr:IntKind.i64.wrap ((ca:Int)+1)=(ca:Int)+1:=by rw[IntKind.wrap_i64];omega
          have C5:=zA (by have h:=CE.out wu HBr.out HF.out;rw[hch]at h;exact h);have C6:=zA (fun(v:World) (hb:Below wu.heap.size wu v)=>by have h:=zKv (c:=cr) (HRX.out.below hb) hb.size hcap.1 HKX.out;rw[hcb]at h;exact h);have D1:=zA (fun(v:World) (hb:Below wu.heap.size wu v)=>CF.out v (zDh HBr.out hb));have D2:=zA (fun(v:World) (hb:Below wu.heap.size wu v)=>CN.out v (zDh HBr.out hb) HQ.out hl0);have D3:=zA (fun(v:World) (hb:Below wu.heap.size wu v)=>(show Calls prog 28 #[.agg #[.slice Ar (k+1) cr],.int .i64 1] v (fun e w'=>∃z,e=.returned z∧MadeS v w' z (zAj ts 0))from by have h:=zTf (c:=cr) (j:=1) (HRX.out.below hb) hb.size hcap.1 HBK.out.mayx (by omega);rw[show((1:Nat):Int)=1 from rfl,HBK.out.names1]at h;exact h));obtain⟨l,hl⟩:∃l,zAj ts 0=l:=⟨_,rfl⟩;rw[hl]at D2 D3;have HXu:=zA (fun(v:World) (hb:Below wu.heap.size wu v)=>(hb.cell (p:=⟨Bx,0,none⟩) hBlu).trans hcx);clear hS e hch hcb hl HBK HND CM CNT CE CN HNW CW;go_wp2_with fail;refine C5.out.mono ?_;rintro e5 w5 ⟨rfl,hb5⟩;have HB5:=zA hb5;have y5:=HCX.out w5 (zDh HBr.out hb5);have x5:=HXu.out w5 hb5;have C7:=zA (C6.out w5 hb5);clear hb5 C5 C6 yr hcx;go_wp2_with fail;refine C7.out.mono ?_;rintro e6 w6 ⟨rfl,hb6⟩;have HB6:=zA (zDh HB5.out hb6);have y6:=HCX.out w6 (zDh HBr.out HB6.out);have x6:=HXu.out w6 HB6.out;clear hb6 C7 y5 x5;go_upto_region 20 with(fail);have E1:=zA (show Calls prog 22 #[] w6.drew (fun ev w'=>ev=.returned (.bool true)∧Below w6.drew.heap.size w6.drew w')from D1.out w6.drew HB6.out.drew);have E2:=zA (fun(v:World) (hb:Below w6.heap.size w6 v)=>D2.out v (zDh HB6.out hb));have E3:=zA (fun(v:World) (hb:Below w6.heap.size w6 v)=>D3.out v (zDh HB6.out hb));have hX6:X < w6.heap.size:=yAA hX1 (yAD HBr.out.size HB6.out.size);have hB6:Bx < w6.heap.size:=yAA hBlu HB6.out.size;have HB7:=zA (zDh HBr.out HB6.out);clear D1 D2 D3 HXu HRX HKX
          go_cut [2] (fun v2 wx=>v2=.bool true∧Hid (Below w6.heap.size w6 wx))
          case first=>
           rcases hcs with⟨rfl,rfl,rfl⟩ | ⟨rfl,rfl⟩
           · refine wp_region_any (by kernel_rfl) ?_
             try (change wpAny _ _ _ _ _ _ _ (World.drew _))
             refine wpAny_ready (rs:=[0]) (by kernel_rfl) (by simp) ?_;refine AllReady.cons rfl (fun K hK=>?_) AllReady.nil
             go_simp
             go_at_call 22
             (with_reducible refine E1.out.mono ?_)
             rintro eb wb ⟨rfl,hbb⟩;have HD1:=zA (show Below w6.heap.size w6 wb from⟨hbb.os,hbb.tape,hbb.output,hbb.size,hbb.block⟩);have yb:=(HD1.out.cell (p:=⟨X,0,none⟩) hX6).trans y6;have xb:=(HD1.out.cell (p:=⟨Bx,0,none⟩) hB6).trans x6;clear hbb
             go_simp
             (refine hK _ _ ?_;clear hK K)
             refine wpAny_take (i:=1) (v:=?_) rfl (by kernel_rfl) (by kernel_rfl) (by kernel_rfl) (fun _ _ _ h=>h) (Or.inl ⟨by kernel_rfl,?_⟩) ?_;rotate_left
             · intro w;go_simp;try with_reducible rfl
             refine wpAny_take (i:=2) (v:=?_) rfl (by kernel_rfl) (by kernel_rfl) (by kernel_rfl) (fun _ _ _ h=>h) (Or.inl ⟨by kernel_rfl,?_⟩) ?_;rotate_left
             · intro w;go_simp;try with_reducible rfl
             refine wpAny_take (i:=3) (v:=?_) rfl (by kernel_rfl) (by kernel_rfl) (by kernel_rfl) (fun _ _ _ h=>h) (Or.inl ⟨by kernel_rfl,?_⟩) ?_;rotate_left
             · intro w;go_simp;try with_reducible rfl
             refine wpAny_take (i:=4) (v:=?_) rfl (by kernel_rfl) (by kernel_rfl) (by kernel_rfl) (fun _ _ _ h=>h) (Or.inl ⟨by kernel_rfl,?_⟩) ?_;rotate_left
             · intro w;go_simp;try with_reducible rfl
             refine wpAny_take (i:=5) (v:=?_) rfl (by kernel_rfl) (by kernel_rfl) (by kernel_rfl) (fun _ _ _ h=>h) (Or.inl ⟨by kernel_rfl,?_⟩) ?_;rotate_left
             · intro w;go_simp;try with_reducible rfl
             refine wpAny_take (i:=6) (v:=?_) rfl (by kernel_rfl) (by kernel_rfl) (by kernel_rfl) (fun _ _ _ h=>h) (Or.inl ⟨by kernel_rfl,?_⟩) ?_;rotate_left
             · intro w;go_simp;try with_reducible rfl
             refine wpAny_take (i:=7) (v:=?_) rfl (by kernel_rfl) (by kernel_rfl) (by kernel_rfl) (fun _ _ _ h=>h) (Or.inl ⟨by kernel_rfl,?_⟩) ?_;rotate_left
             · intro w;go_simp;try with_reducible rfl
             refine wpAny_take (i:=8) (v:=?_) rfl (by kernel_rfl) (by kernel_rfl) (by kernel_rfl) (fun _ _ _ h=>h) (Or.inl ⟨by kernel_rfl,?_⟩) ?_;rotate_left
             · intro w;go_simp;try with_reducible rfl
             refine wpAny_take (i:=9) (v:=?_) rfl (by kernel_rfl) (by kernel_rfl) (by kernel_rfl) (fun _ _ _ h=>h) (Or.inl ⟨by kernel_rfl,?_⟩) ?_;rotate_left
             · intro w;go_simp;try with_reducible rfl
             refine wpAny_take (i:=10) (v:=?_) rfl (by kernel_rfl) (by kernel_rfl) (by kernel_rfl) (fun _ _ _ h=>h) (Or.inl ⟨by kernel_rfl,?_⟩) ?_;rotate_left
             · intro w;go_simp;try with_reducible rfl
             refine wpAny_take (i:=11) (v:=?_) rfl (by kernel_rfl) (by kernel_rfl) (by kernel_rfl) (fun _ _ _ h=>h) (Or.inl ⟨by kernel_rfl,?_⟩) ?_;rotate_left
             · intro w;go_simp;try with_reducible rfl
             refine wpAny_take (i:=12) (v:=?_) rfl (by kernel_rfl) (by kernel_rfl) (by kernel_rfl) (fun _ _ _ h=>h) (Or.inl ⟨by kernel_rfl,?_⟩) ?_;rotate_left
             · intro w;go_simp;try with_reducible rfl
             refine wpAny_take (i:=13) (v:=?_) rfl (by kernel_rfl) (by kernel_rfl) (by kernel_rfl) (fun _ _ _ h=>h) (Or.inl ⟨by kernel_rfl,?_⟩) ?_;rotate_left
             · intro w;go_simp;try with_reducible rfl
             refine wpAny_take (i:=14) (v:=undef) rfl (by kernel_rfl) (by kernel_rfl) (by kernel_rfl) (fun _ _ _ h=>h) (Or.inr ⟨by kernel_rfl,rfl⟩) ?_;refine wpAny_take (i:=15) (v:=undef) rfl (by kernel_rfl) (by kernel_rfl) (by kernel_rfl) (fun _ _ _ h=>h) (Or.inr ⟨by kernel_rfl,rfl⟩) ?_;refine wpAny_take (i:=16) (v:=undef) rfl (by kernel_rfl) (by kernel_rfl) (by kernel_rfl) (fun _ _ _ h=>h) (Or.inr ⟨by kernel_rfl,rfl⟩) ?_;refine wpAny_take (i:=17) (v:=undef) rfl (by kernel_rfl) (by kernel_rfl) (by kernel_rfl) (fun _ _ _ h=>h) (Or.inr ⟨by kernel_rfl,rfl⟩) ?_;refine wpAny_take (i:=18) (v:=undef) rfl (by kernel_rfl) (by kernel_rfl) (by kernel_rfl) (fun _ _ _ h=>h) (Or.inr ⟨by kernel_rfl,rfl⟩) ?_;refine wpAny_take (i:=19) (v:=undef) rfl (by kernel_rfl) (by kernel_rfl) (by kernel_rfl) (fun _ _ _ h=>h) (Or.inr ⟨by kernel_rfl,rfl⟩) ?_;refine wpAny_take (i:=20) (v:=undef) rfl (by kernel_rfl) (by kernel_rfl) (by kernel_rfl) (fun _ _ _ h=>h) (Or.inr ⟨by kernel_rfl,rfl⟩) ?_;refine wpAny_take (i:=21) (v:=undef) rfl (by kernel_rfl) (by kernel_rfl) (by kernel_rfl) (fun _ _ _ h=>h) (Or.inr ⟨by kernel_rfl,rfl⟩) ?_;refine wpAny_take (i:=22) (v:=?_) rfl (by kernel_rfl) (by kernel_rfl) (by kernel_rfl) (fun _ _ _ h=>h) (Or.inl ⟨by kernel_rfl,?_⟩) ?_;rotate_left
             · intro w;go_simp;try with_reducible rfl
             refine wpAny_take (i:=23) (v:=?_) rfl (by kernel_rfl) (by kernel_rfl) (by kernel_rfl) (fun _ _ _ h=>h) (Or.inl ⟨by kernel_rfl,?_⟩) ?_;rotate_left
             · intro w;go_simp;try with_reducible rfl
             refine wpAny_take (i:=24) (v:=?_) rfl (by kernel_rfl) (by kernel_rfl) (by kernel_rfl) (fun _ _ _ h=>h) (Or.inl ⟨by kernel_rfl,?_⟩) ?_;rotate_left
             · intro w;go_simp;try with_reducible rfl
             refine wpAny_ready (rs:=[25,27]) (by kernel_rfl) (by simp) ?_;refine AllReady.cons rfl (fun K hK=>?_) (AllReady.cons rfl (fun K hK=>?_) AllReady.nil)
             all_goals (go_simp;(refine hK _ _ ?_;clear hK K))
             refine wpAny_ready (rs:=[26,27]) (by kernel_rfl) (by simp) ?_;refine AllReady.cons rfl (fun K hK=>?_) (AllReady.cons rfl (fun K hK=>?_) AllReady.nil)
             go_simp
             go_at_call 28
             (with_reducible refine(E2.out wb HD1.out).mono ?_)
             rintro ec wc ⟨z,rfl,hz⟩;obtain⟨Al,cl,rfl,hlc,hlm,hlr⟩:=hz.form;have HD2:=zA (zDh HD1.out hz.below);have HL1:=zA hlr;have HLM:=zA (show l.length≤9223372036854775807 from yAD hlc hlm);have yc:=(HD2.out.cell (p:=⟨X,0,none⟩) hX6).trans y6;have xc:=(HD2.out.cell (p:=⟨Bx,0,none⟩) hB6).trans x6;clear hz hlc hlm hlr
             go_simp
             (refine hK _ _ ?_;clear hK K)
             refine wpAny_ready (rs:=[27]) (by kernel_rfl) (by simp) ?_;refine AllReady.cons rfl (fun K hK=>?_) AllReady.nil
             go_simp
             (refine hK _ _ ?_;clear hK K)
             rotate_left
             go_simp
             (refine hK _ _ ?_;clear hK K)
             refine wpAny_ready (rs:=[26]) (by kernel_rfl) (by simp) ?_;refine AllReady.cons rfl (fun K hK=>?_) AllReady.nil
             go_simp
             go_at_call 28
             (with_reducible refine(E2.out wb HD1.out).mono ?_)
             rintro ec wc ⟨z,rfl,hz⟩;obtain⟨Al,cl,rfl,hlc,hlm,hlr⟩:=hz.form;have HD2:=zA (zDh HD1.out hz.below);have HL1:=zA hlr;have HLM:=zA (show l.length≤9223372036854775807 from yAD hlc hlm);have yc:=(HD2.out.cell (p:=⟨X,0,none⟩) hX6).trans y6;have xc:=(HD2.out.cell (p:=⟨Bx,0,none⟩) hB6).trans x6;clear hz hlc hlm hlr
             go_simp
             (refine hK _ _ ?_;clear hK K)
             rotate_left;refine wpAny_ready (rs:=[25]) (by kernel_rfl) (by simp) ?_;refine AllReady.cons rfl (fun K hK=>?_) AllReady.nil
             go_simp
             (refine hK _ _ ?_;clear hK K)
             refine wpAny_ready (rs:=[26]) (by kernel_rfl) (by simp) ?_;refine AllReady.cons rfl (fun K hK=>?_) AllReady.nil
             go_simp
             go_at_call 28
             (with_reducible refine(E2.out wb HD1.out).mono ?_)
             rintro ec wc ⟨z,rfl,hz⟩;obtain⟨Al,cl,rfl,hlc,hlm,hlr⟩:=hz.form;have HD2:=zA (zDh HD1.out hz.below);have HL1:=zA hlr;have HLM:=zA (show l.length≤9223372036854775807 from yAD hlc hlm);have yc:=(HD2.out.cell (p:=⟨X,0,none⟩) hX6).trans y6;have xc:=(HD2.out.cell (p:=⟨Bx,0,none⟩) hB6).trans x6;clear hz hlc hlm hlr
             go_simp
             (refine hK _ _ ?_;clear hK K)
             all_goals
              refine wpAny_ready (rs:=[28]) (by kernel_rfl) (by simp) ?_;refine AllReady.cons rfl (fun K hK=>?_) AllReady.nil
              go_simp
              go_at_call 28
              (with_reducible refine(E3.out wc HD2.out).mono ?_)
              rintro ed wd ⟨z2,rfl,hz⟩;obtain⟨Bl,dl,rfl,hlc,hlm,hlr⟩:=hz.form;have HD3:=zA (zDh HD2.out hz.below);have HL2:=zA hlr;have HL3:=zA ((HL1.out.below hz.below).more hz.below.size);have yd:=(HD3.out.cell (p:=⟨X,0,none⟩) hX6).trans y6;have xd:=(HD3.out.cell (p:=⟨Bx,0,none⟩) hB6).trans x6;clear hz hlc hlm hlr
              go_simp
              (refine hK _ _ ?_;clear hK K)
              refine wpAny_ready (rs:=[29]) (by kernel_rfl) (by simp) ?_;refine AllReady.cons rfl (fun K hK=>?_) AllReady.nil
              go_simp
              go_at_call 29
              (with_reducible refine(zSH (xs:=l) rfl (yAC _) HL3.out HL2.out HLM.out).mono ?_)
              rintro ee we ⟨rfl,hbe⟩;have HD4:=zA (zDh HD3.out hbe);clear hbe
              go_simp
              (refine hK _ _ ?_;clear hK K)
              refine wpAny_take (i:=30) (v:=?_) rfl (by kernel_rfl) (by kernel_rfl) (by kernel_rfl) (fun _ _ _ h=>h) (Or.inl ⟨by kernel_rfl,?_⟩) ?_;rotate_left
              · intro w;go_simp;try with_reducible rfl
              refine wpAny_take (i:=31) (v:=?_) rfl (by kernel_rfl) (by kernel_rfl) (by kernel_rfl) (fun _ _ _ h=>h) (Or.inl ⟨by kernel_rfl,?_⟩) ?_;rotate_left
              · intro w;go_simp;try with_reducible rfl
              refine wpAny_done (by kernel_rfl) ?_ _;go_wp2_with fail;go_meet;exact⟨rfl,HD4.out⟩
           · refine wp_region_any (by kernel_rfl) ?_
             try (change wpAny _ _ _ _ _ _ _ (World.drew _))
             refine wpAny_ready (rs:=[0]) (by kernel_rfl) (by simp) ?_;refine AllReady.cons rfl (fun K hK=>?_) AllReady.nil
             go_simp
             go_at_call 22
             (with_reducible refine E1.out.mono ?_)
             rintro eb wb ⟨rfl,hbb⟩;have HD1:=zA (show Below w6.heap.size w6 wb from⟨hbb.os,hbb.tape,hbb.output,hbb.size,hbb.block⟩);have yb:=(HD1.out.cell (p:=⟨X,0,none⟩) hX6).trans y6;have xb:=(HD1.out.cell (p:=⟨Bx,0,none⟩) hB6).trans x6;clear hbb
             go_simp
             (refine hK _ _ ?_;clear hK K)
             refine wpAny_take (i:=1) (v:=?_) rfl (by kernel_rfl) (by kernel_rfl) (by kernel_rfl) (fun _ _ _ h=>h) (Or.inl ⟨by kernel_rfl,?_⟩) ?_;rotate_left
             · intro w;go_simp;try with_reducible rfl
             refine wpAny_take (i:=2) (v:=?_) rfl (by kernel_rfl) (by kernel_rfl) (by kernel_rfl) (fun _ _ _ h=>h) (Or.inl ⟨by kernel_rfl,?_⟩) ?_;rotate_left
             · intro w;go_simp;try with_reducible rfl
             refine wpAny_take (i:=3) (v:=?_) rfl (by kernel_rfl) (by kernel_rfl) (by kernel_rfl) (fun _ _ _ h=>h) (Or.inl ⟨by kernel_rfl,?_⟩) ?_;rotate_left
             · intro w;go_simp;try with_reducible rfl
             refine wpAny_take (i:=4) (v:=?_) rfl (by kernel_rfl) (by kernel_rfl) (by kernel_rfl) (fun _ _ _ h=>h) (Or.inl ⟨by kernel_rfl,?_⟩) ?_;rotate_left
             · intro w;go_simp;try with_reducible rfl
             refine wpAny_take (i:=5) (v:=?_) rfl (by kernel_rfl) (by kernel_rfl) (by kernel_rfl) (fun _ _ _ h=>h) (Or.inl ⟨by kernel_rfl,?_⟩) ?_;rotate_left
             · intro w;go_simp;try with_reducible rfl
             refine wpAny_take (i:=6) (v:=?_) rfl (by kernel_rfl) (by kernel_rfl) (by kernel_rfl) (fun _ _ _ h=>h) (Or.inl ⟨by kernel_rfl,?_⟩) ?_;rotate_left
             · intro w;go_simp;try with_reducible rfl
             refine wpAny_take (i:=7) (v:=?_) rfl (by kernel_rfl) (by kernel_rfl) (by kernel_rfl) (fun _ _ _ h=>h) (Or.inl ⟨by kernel_rfl,?_⟩) ?_;rotate_left
             · intro w;go_simp;try with_reducible rfl
             refine wpAny_take (i:=8) (v:=?_) rfl (by kernel_rfl) (by kernel_rfl) (by kernel_rfl) (fun _ _ _ h=>h) (Or.inl ⟨by kernel_rfl,?_⟩) ?_;rotate_left
             · intro w;go_simp;try with_reducible rfl
             refine wpAny_take (i:=9) (v:=?_) rfl (by kernel_rfl) (by kernel_rfl) (by kernel_rfl) (fun _ _ _ h=>h) (Or.inl ⟨by kernel_rfl,?_⟩) ?_;rotate_left
             · intro w;go_simp;try with_reducible rfl
             refine wpAny_take (i:=10) (v:=undef) rfl (by kernel_rfl) (by kernel_rfl) (by kernel_rfl) (fun _ _ _ h=>h) (Or.inr ⟨by kernel_rfl,rfl⟩) ?_;refine wpAny_take (i:=11) (v:=undef) rfl (by kernel_rfl) (by kernel_rfl) (by kernel_rfl) (fun _ _ _ h=>h) (Or.inr ⟨by kernel_rfl,rfl⟩) ?_;refine wpAny_take (i:=12) (v:=?_) rfl (by kernel_rfl) (by kernel_rfl) (by kernel_rfl) (fun _ _ _ h=>h) (Or.inl ⟨by kernel_rfl,?_⟩) ?_;rotate_left
             · intro w;go_simp;try with_reducible rfl
             refine wpAny_take (i:=13) (v:=?_) rfl (by kernel_rfl) (by kernel_rfl) (by kernel_rfl) (fun _ _ _ h=>h) (Or.inl ⟨by kernel_rfl,?_⟩) ?_;rotate_left
             · intro w;go_simp;try with_reducible rfl
             refine wpAny_take (i:=14) (v:=?_) rfl (by kernel_rfl) (by kernel_rfl) (by kernel_rfl) (fun _ _ _ h=>h) (Or.inl ⟨by kernel_rfl,?_⟩) ?_;rotate_left
             · intro w;go_simp;try with_reducible rfl
             refine wpAny_take (i:=15) (v:=?_) rfl (by kernel_rfl) (by kernel_rfl) (by kernel_rfl) (fun _ _ _ h=>h) (Or.inl ⟨by kernel_rfl,?_⟩) ?_;rotate_left
             · intro w;go_simp;try with_reducible rfl
             refine wpAny_take (i:=16) (v:=?_) rfl (by kernel_rfl) (by kernel_rfl) (by kernel_rfl) (fun _ _ _ h=>h) (Or.inl ⟨by kernel_rfl,?_⟩) ?_;rotate_left
             · intro w;go_simp;try with_reducible rfl
             refine wpAny_take (i:=17) (v:=?_) rfl (by kernel_rfl) (by kernel_rfl) (by kernel_rfl) (fun _ _ _ h=>h) (Or.inl ⟨by kernel_rfl,?_⟩) ?_;rotate_left
             · intro w;go_simp;try with_reducible rfl
             refine wpAny_take (i:=18) (v:=?_) rfl (by kernel_rfl) (by kernel_rfl) (by kernel_rfl) (fun _ _ _ h=>h) (Or.inl ⟨by kernel_rfl,?_⟩) ?_;rotate_left
             · intro w;go_simp;try with_reducible rfl
             refine wpAny_take (i:=19) (v:=?_) rfl (by kernel_rfl) (by kernel_rfl) (by kernel_rfl) (fun _ _ _ h=>h) (Or.inl ⟨by kernel_rfl,?_⟩) ?_;rotate_left
             · intro w;go_simp;try with_reducible rfl
             refine wpAny_take (i:=20) (v:=?_) rfl (by kernel_rfl) (by kernel_rfl) (by kernel_rfl) (fun _ _ _ h=>h) (Or.inl ⟨by kernel_rfl,?_⟩) ?_;rotate_left
             · intro w;go_simp;try with_reducible rfl
             refine wpAny_take (i:=21) (v:=?_) rfl (by kernel_rfl) (by kernel_rfl) (by kernel_rfl) (fun _ _ _ h=>h) (Or.inl ⟨by kernel_rfl,?_⟩) ?_;rotate_left
             · intro w;go_simp;try with_reducible rfl
             refine wpAny_take (i:=22) (v:=?_) rfl (by kernel_rfl) (by kernel_rfl) (by kernel_rfl) (fun _ _ _ h=>h) (Or.inl ⟨by kernel_rfl,?_⟩) ?_;rotate_left
             · intro w;go_simp;try with_reducible rfl
             refine wpAny_take (i:=23) (v:=?_) rfl (by kernel_rfl) (by kernel_rfl) (by kernel_rfl) (fun _ _ _ h=>h) (Or.inl ⟨by kernel_rfl,?_⟩) ?_;rotate_left
             · intro w;go_simp;try with_reducible rfl
             refine wpAny_take (i:=24) (v:=?_) rfl (by kernel_rfl) (by kernel_rfl) (by kernel_rfl) (fun _ _ _ h=>h) (Or.inl ⟨by kernel_rfl,?_⟩) ?_;rotate_left
             · intro w;go_simp;try with_reducible rfl
             refine wpAny_ready (rs:=[25,27]) (by kernel_rfl) (by simp) ?_;refine AllReady.cons rfl (fun K hK=>?_) (AllReady.cons rfl (fun K hK=>?_) AllReady.nil)
             all_goals (go_simp;(refine hK _ _ ?_;clear hK K))
             refine wpAny_ready (rs:=[26,27]) (by kernel_rfl) (by simp) ?_;refine AllReady.cons rfl (fun K hK=>?_) (AllReady.cons rfl (fun K hK=>?_) AllReady.nil)
             go_simp
             go_at_call 28
             (with_reducible refine(E2.out wb HD1.out).mono ?_)
             rintro ec wc ⟨z,rfl,hz⟩;obtain⟨Al,cl,rfl,hlc,hlm,hlr⟩:=hz.form;have HD2:=zA (zDh HD1.out hz.below);have HL1:=zA hlr;have HLM:=zA (show l.length≤9223372036854775807 from yAD hlc hlm);have yc:=(HD2.out.cell (p:=⟨X,0,none⟩) hX6).trans y6;have xc:=(HD2.out.cell (p:=⟨Bx,0,none⟩) hB6).trans x6;clear hz hlc hlm hlr
             go_simp
             (refine hK _ _ ?_;clear hK K)
             refine wpAny_ready (rs:=[27]) (by kernel_rfl) (by simp) ?_;refine AllReady.cons rfl (fun K hK=>?_) AllReady.nil
             go_simp
             (refine hK _ _ ?_;clear hK K)
             rotate_left
             go_simp
             (refine hK _ _ ?_;clear hK K)
             refine wpAny_ready (rs:=[26]) (by kernel_rfl) (by simp) ?_;refine AllReady.cons rfl (fun K hK=>?_) AllReady.nil
             go_simp
             go_at_call 28
             (with_reducible refine(E2.out wb HD1.out).mono ?_)
             rintro ec wc ⟨z,rfl,hz⟩;obtain⟨Al,cl,rfl,hlc,hlm,hlr⟩:=hz.form;have HD2:=zA (zDh HD1.out hz.below);have HL1:=zA hlr;have HLM:=zA (show l.length≤9223372036854775807 from yAD hlc hlm);have yc:=(HD2.out.cell (p:=⟨X,0,none⟩) hX6).trans y6;have xc:=(HD2.out.cell (p:=⟨Bx,0,none⟩) hB6).trans x6;clear hz hlc hlm hlr
             go_simp
             (refine hK _ _ ?_;clear hK K)
             rotate_left;refine wpAny_ready (rs:=[25]) (by kernel_rfl) (by simp) ?_;refine AllReady.cons rfl (fun K hK=>?_) AllReady.nil
             go_simp
             (refine hK _ _ ?_;clear hK K)
             refine wpAny_ready (rs:=[26]) (by kernel_rfl) (by simp) ?_;refine AllReady.cons rfl (fun K hK=>?_) AllReady.nil
             go_simp
             go_at_call 28
             (with_reducible refine(E2.out wb HD1.out).mono ?_)
             rintro ec wc ⟨z,rfl,hz⟩;obtain⟨Al,cl,rfl,hlc,hlm,hlr⟩:=hz.form;have HD2:=zA (zDh HD1.out hz.below);have HL1:=zA hlr;have HLM:=zA (show l.length≤9223372036854775807 from yAD hlc hlm);have yc:=(HD2.out.cell (p:=⟨X,0,none⟩) hX6).trans y6;have xc:=(HD2.out.cell (p:=⟨Bx,0,none⟩) hB6).trans x6;clear hz hlc hlm hlr
             go_simp
             (refine hK _ _ ?_;clear hK K)
             all_goals
              refine wpAny_ready (rs:=[28]) (by kernel_rfl) (by simp) ?_;refine AllReady.cons rfl (fun K hK=>?_) AllReady.nil
              go_simp
              go_at_call 28
              (with_reducible refine(E3.out wc HD2.out).mono ?_)
              rintro ed wd ⟨z2,rfl,hz⟩;obtain⟨Bl,dl,rfl,hlc,hlm,hlr⟩:=hz.form;have HD3:=zA (zDh HD2.out hz.below);have HL2:=zA hlr;have HL3:=zA ((HL1.out.below hz.below).more hz.below.size);have yd:=(HD3.out.cell (p:=⟨X,0,none⟩) hX6).trans y6;have xd:=(HD3.out.cell (p:=⟨Bx,0,none⟩) hB6).trans x6;clear hz hlc hlm hlr
              go_simp
              (refine hK _ _ ?_;clear hK K)
              refine wpAny_ready (rs:=[29]) (by kernel_rfl) (by simp) ?_;refine AllReady.cons rfl (fun K hK=>?_) AllReady.nil
              go_simp
              go_at_call 29
              (with_reducible refine(zSH (xs:=l) rfl (yAC _) HL3.out HL2.out HLM.out).mono ?_)
              rintro ee we ⟨rfl,hbe⟩;have HD4:=zA (zDh HD3.out hbe);clear hbe
              go_simp
              (refine hK _ _ ?_;clear hK K)
              refine wpAny_take (i:=30) (v:=?_) rfl (by kernel_rfl) (by kernel_rfl) (by kernel_rfl) (fun _ _ _ h=>h) (Or.inl ⟨by kernel_rfl,?_⟩) ?_;rotate_left
              · intro w;go_simp;try with_reducible rfl
              refine wpAny_take (i:=31) (v:=?_) rfl (by kernel_rfl) (by kernel_rfl) (by kernel_rfl) (fun _ _ _ h=>h) (Or.inl ⟨by kernel_rfl,?_⟩) ?_;rotate_left
              · intro w;go_simp;try with_reducible rfl
              refine wpAny_done (by kernel_rfl) ?_ _;go_wp2_with fail;go_meet;exact⟨rfl,HD4.out⟩
          case rest=>
           obtain⟨rfl,hbc⟩:=hcut;have HBz:=zA (zDh HB7.out hbc.out);go_wp2_with fail;go_ret;exact⟨rfl,HBW.out.trans (HBz.out.mono HBW.out.size)⟩
end Go.Proofs.YtlohaclgbfhijaaGreatDoor
