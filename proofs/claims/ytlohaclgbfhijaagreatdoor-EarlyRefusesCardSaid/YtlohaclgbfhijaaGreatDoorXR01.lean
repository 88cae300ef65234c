/- Joined for the claim EarlyRefuses: the parser, the lexer and the trees as they are walked, made short by a program of mine. -/
import Derived.Test.YtlohaclgbfhijaaGreatDoorCards
import Derived.Test.YtlohaclgbfhijaaGreatDoorTie
import Derived.ProofKit
import Derived.OpenShut
import Derived.Deep.DeepHandedRow
import Derived.Lib.LaidTab
import Derived.Lib.LaidU8
import Derived.Deep.Slices
import Derived.Lib.SliceRun
import Derived.Deep.CutBlock
import Derived.Deep.DeepCutAuto
import Derived.Laws.OwnMore
import Derived.Deep.RegionLaw
import Derived.Deep.RegionHeld3
import Derived.Test.YtlohaclgbfhijaaGreatDoorE01
import Derived.Test.YtlohaclgbfhijaaGreatDoorE02
import Derived.Test.YtlohaclgbfhijaaGreatDoorE03
import Derived.Test.YtlohaclgbfhijaaGreatDoorE04
import Derived.Test.YtlohaclgbfhijaaGreatDoorE05
import Derived.Test.YtlohaclgbfhijaaGreatDoorE06
import Derived.Test.YtlohaclgbfhijaaGreatDoorE07
import Derived.Test.YtlohaclgbfhijaaGreatDoorE08
import Derived.Test.YtlohaclgbfhijaaGreatDoorE09
import Derived.Test.YtlohaclgbfhijaaGreatDoorE10
import Derived.Test.YtlohaclgbfhijaaGreatDoorE11
import Derived.Test.YtlohaclgbfhijaaGreatDoorE12
import Derived.Test.YtlohaclgbfhijaaGreatDoorE13
import Derived.Test.YtlohaclgbfhijaaGreatDoorE14
import Derived.Test.YtlohaclgbfhijaaGreatDoorE15
import Derived.Test.YtlohaclgbfhijaaGreatDoorE16
import Derived.Test.YtlohaclgbfhijaaGreatDoorE17
import Derived.Test.YtlohaclgbfhijaaGreatDoorE18
import Derived.Test.YtlohaclgbfhijaaGreatDoorE19
import Derived.Test.YtlohaclgbfhijaaGreatDoorE20
import Derived.Test.YtlohaclgbfhijaaGreatDoorE21
import Derived.Test.YtlohaclgbfhijaaGreatDoorE22
import Derived.Test.YtlohaclgbfhijaaGreatDoorE23
import Derived.Test.YtlohaclgbfhijaaGreatDoorE24
import Derived.Test.YtlohaclgbfhijaaGreatDoorE25
set_option maxHeartbeats 16000000
set_option maxRecDepth 1000000
namespace Go.Proofs.YtlohaclgbfhijaaGreatDoor
open Go.Proofs.Tryz
open Go.RowKit
theorem zTh (l:List UInt16):∀u∈zAD l,u.oneCell'=true:=by
 intro u hu;obtain⟨_,_,rfl⟩:=List.mem_map.1 hu;rfl
theorem Made.drew {w0 w:World} {e:TypeId} {v:Value} {xs:List Value} (h:Made w0 w e v xs):Made w0 w.drew e v xs:=⟨h.own.drew,h.below.drew⟩
theorem zTi (l:List Int):∀u∈zBC l,u.oneCell'=true:=by
 intro u hu;obtain⟨_,_,rfl⟩:=List.mem_map.1 hu;rfl
theorem zTj (l:List Nat):(zRX l).length=l.length:=by simp[zRX]
theorem zTk (l:List Nat):∀u∈zRX l,u.oneCell'=true:=by
 intro u hu;obtain⟨_,_,rfl⟩:=List.mem_map.1 hu;rfl
def ndV (x:Nd) (s:NdSl):List Value:=[.int .i64 x.kind,.string ⟨x.name.toArray⟩,.slice s.As x.str.length s.cs,.int .i64 x.nk,.int .i64 x.nn,.bool x.neg,.slice s.Am x.mag.length s.cm,.slice s.Ak x.kids.length s.ck]
section
variable {w w':World} {B B' n:Nat} {A:Option Addr} {ts:List Nd}
theorem NdsR.nil (h:n=0):NdsR w B A n []:=⟨h.symm,fun h0=>by omega⟩
end
section
variable {w w' w'':World} {v v' v'':Value}
theorem Kept.frozen (h:Kept w w' v v') {p:Addr} (hp:p.block < w.heap.size) (hne:v.ownBlock≠some p.block):w'.frozen? p=w.frozen? p:=World.frozen?_of_block (h.block p.block hp hne)
end
section Zq
open Go.ChangeShapes Go.WideShapes Go.ChangeAt Go.RowKit Go.Lib
section
variable {H:Type} {enc:TypeId×Value→H} {W:World} {base:Nat}
theorem Tryz.laidOut:laidOutB prog=true:=by kernel_rfl
theorem zSW {W':World} {sp':Nat→Bool}:∀{ts:List TypeId} {vs:List Value} {ds:List (DataW H)} {ps:List MemPlace},(∀t∈ts,prog.readableRec t=true∧t < prog.types.size)→
 DataW.TrodAll enc prog W 0 (fun _=>true) true ts vs ds ps→Below W.heap.size W W'→(∀x∈ps,x.block < W.heap.size)→(∀p∈ps,sp' p.block=true)→DataW.TrodAll enc prog W' 0 sp' true ts vs ds ps:=by
 intro ts
 induction ts with
 | nil=>
  intro vs ds ps _ h _ _ _;obtain⟨rfl,rfl,rfl⟩:=trodAll_nil h;exact trodAll_mk0
 | cons t ts ih=>
  intro vs ds ps hr h hb hlt hs;obtain⟨v,vs',d,ds',p,q,rfl,rfl,rfl,h0,r0⟩:=trodAll_cons h;have ht:=hr t (by simp);exact trodAll_cons_mk (WideElems.Trod_stays Tryz.laidOut ht.1 ht.2 h0 (fun x hx=>hb.same (hlt x (by simp[hx]))) (fun x hx=>hs x (by simp[hx])))
   (ih (fun t' h'=>hr t' (by simp[h'])) r0 hb (fun x hx=>hlt x (by simp[hx])) (fun x hx=>hs x (by simp[hx])))
theorem zSX {P:Program} {f:Func} {s:ChangeSpec} {apart fresh handsOn again:Bool} {W W':World} {args:Array Value} {v:Value} {ds gs:List (DataW H)} {before pa pv:List MemPlace}
 (hW:DataW.Whole enc P f.params.toList s.vars apart W args.toList ds gs before)
 (hres:∀(b:Nat) (sp:Nat→Bool) (hd:Bool),DataW.TrodAll enc P W' b sp hd f.resultTypes.toList (v.resultList f.resultTypes.size) (s.fn H (ds++gs)).results [])
 (hargs:∀sp:Nat→Bool,(∀p∈before,sp p.block=true)→DataW.TrodAll enc P W' 0 sp true f.params.toList args.toList (s.fn H (ds++gs)).args pa)
 (hvars:∀sp:Nat→Bool,(∀p∈before,sp p.block=true)→DataW.TrodVars enc P W' sp s.vars (s.fn H (ds++gs)).vars pv)
 (hps:before=pa++pv) (hb:Below W.heap.size W W')
 (hok:∀(j:Nat) (t:TypeId) (r:Value),f.resultTypes[j]? =some t→(v.resultList f.resultTypes.size)[j]? =some r→Value.okWide P W' .any 0 t r):
 s.post enc P f apart fresh handsOn again W args v W':=by
 have hlt:∀p∈before,p.block < W.heap.size:=fun p hp=>hW.lt p hp;have hold:∀p∈before,(fun b=>decide (b < W.heap.size)) p.block=true:=fun p hp=>by simpa using hlt p hp
 refine⟨ds,gs,before,[],pa,pv,hW,hres _ _ _,hargs _ hold,hvars _ hold,World.keptBut_mono (fun p hp=>⟨hp,?_⟩) (hb.frame (·∈before)),fun _=>?_⟩
 · rw[hps,List.mem_append]at hp;exact Or.inr hp
 · obtain⟨_,_,_,_,_,hz,hn⟩:=hW;refine⟨hok,_,_,([]++pa)++pv,⟨[]++pa,pv,trodAll_append (hargs _ (fun _ _=>rfl)) (hres _ _ _),hvars _ (fun _ _=>rfl),rfl,?_,?_⟩,?_⟩
   · intro b off hp;have hin:MemPlace.cell b off∈before:=by rw[hps];simpa using hp
     rw[hb.frozen (hlt _ hin)];exact hz b off hin
   · intro ha;have:=hn ha;rw[hps]at this;simpa using this
   · intro p hp _;rw[hps];simpa using hp
end
def zT6:DataW Unit→List Int
 | .agg l=>l.map fun d=>match d with | .lit (.int _ z)=>z | _=>0
 | _=>[]
def zTl (h:Array Obj):Array Obj:=
 ((h.modify 3 fun
  | .cells _ t frozen=>.cells (Lib.pow10Tab.map fun z=>Value.int .u64 z).toArray t frozen
  | o=>o).modify 4 fun
  | .cells _ t frozen=>.cells ((zT6 Rows.laid_math_bits_deBruijn32tab).map fun z=>Value.int .u8 z).toArray t frozen
  | o=>o).modify 5 fun
  | .cells _ t frozen=>.cells ((zT6 Rows.laid_math_bits_deBruijn64tab).map fun z=>Value.int .u8 z).toArray t frozen
  | o=>o
end Zq
section Zq
open Go.ChangeShapes Go.WideShapes Go.ChangeAt Go.RowKit Go.Lib
def zTI (h:Array Obj):Array Obj:=
 (h.modify 0 fun
  | .cells _ t frozen=>.cells (((List.range 256).map fun c=>Value.int .u8 (firstT c:Int)).toArray) t frozen
  | o=>o).modify 1 fun
  | .cells _ t frozen=>.cells (((List.range 16).flatMap fun i=>[Value.int .u8 (accLo i:Int),Value.int .u8 (accHi i:Int)]).toArray) t frozen
  | o=>o
noncomputable def zSH (os:Os):World:=
 let w:=World.holding prog os ⟨#[],#[],[]⟩
 {w with heap:=zTI (zTl w.heap)}
end Zq
section Zq
open Go.ChangeShapes Go.WideShapes Go.ChangeAt Go.RowKit
theorem zSf:prog.cellsOf 48=8:=by kernel_rfl
theorem zTJ:prog.cellsOf 27=1:=by kernel_rfl
theorem zSv:prog.cellsOf 39=2:=by kernel_rfl
theorem zSw:prog.cellsOf 42=2:=by kernel_rfl
theorem zSY:prog.cellsOf 3=1:=by kernel_rfl
theorem zTm:prog.cellsOf 9=1:=by kernel_rfl
theorem zTK:prog.cellsOf 4=1:=by kernel_rfl
theorem zTn:prog.cellsOf 24=1:=by kernel_rfl
theorem zTo:prog.cellsOf 87=1:=by kernel_rfl
theorem zTL:prog.cellsOf 22=1:=by kernel_rfl
theorem zTM:prog.cellsOf 40=1:=by kernel_rfl
theorem zTN:prog.cellsOf 32=1:=by kernel_rfl
theorem zS8:prog.cellsOf 25=1:=by kernel_rfl
section
variable {H:Type} {enc:TypeId×Value→H} {W:World}
theorem zSI {t e:TypeId} {k:IntKind} {fuel:Nat} {cs:List Value} {x:DataW H×List MemPlace} (ht:prog.underlying t=some (.slice e)) (he:prog.underlying e=some (.int k)) (hc:prog.cellsOf e=1)
 (h:DataW.trod enc prog W 0 (fun _=>true) true fuel t cs=some x):
 ∃(A:Option Addr) (n c:Nat) (zs:List Int),cs=[.slice A n c]∧n≤c∧c≤maxLen∧zs.length=n∧(∀z∈zs,(Lit.int k z).wf=true)∧Reads W W.heap.size 1 A n (zs.map (Value.int k)):=by
 rcases open_ints ht he hc h with⟨hcs,_⟩ | ⟨a,len,cap,zs,hcs,_,hl,hm,hz,_,hcell,hwf⟩
 · exact⟨none,0,0,[],hcs,yAC _,yAE _,rfl,fun z hz=>(by cases hz),Reads.none_⟩
 · simp only[if_true]at hz;have hlen:(zs.take len).length=len:=by rw[List.length_take];omega
   refine⟨some a,len,cap,zs.take len,hcs,hl,hm,hlen,fun z hz'=>hwf z (List.mem_of_mem_take hz'),by rw[List.length_map,hlen,Nat.mul_one],fun hn=>⟨a,rfl,?_,fun j u hu=>?_⟩⟩
   · have h0:=hcell 0 (by omega);have:=World.block_lt_of_cell? W _ h0;rwa [zDe]at this
   · have hj:j < len:=by
      have:=(List.getElem?_eq_some_iff.1 hu).1;rw[List.length_map,hlen]at this;exact this
     rw[hcell j (by omega),←hu,List.getElem?_map,List.getElem?_take,if_pos hj];have hzj:j < zs.length:=by omega
     simp[yAB hzj]
theorem zTp {fuel:Nat} {cs:List Value} {x:DataW H×List MemPlace} (h:DataW.trod enc prog W 0 (fun _=>true) true fuel 39 cs=some x):
 ∃k n:Int,cs=[.int .i64 k,.int .i64 n]∧(Lit.int .i64 k).wf=true∧(Lit.int .i64 n).wf=true:=by
 obtain⟨y0,y1,m,_,hl,h0,h1⟩:=trod_struct2 underlying39 h;rw[zSv]at hl;simp only[zSY]at h0 h1
 match cs,hl with
 | [a,b],_=>
  obtain⟨k,e0,_,w0⟩:=DataW.trod_int underlying3 h0;obtain⟨n,e1,_,w1⟩:=DataW.trod_int underlying3 h1;simp only[List.drop_zero,List.take_succ_cons,List.take_zero,List.drop_succ_cons,List.cons.injEq,and_true]at e0 e1;subst e0 e1;exact⟨k,n,rfl,w0,w1⟩
theorem zTq {fuel:Nat} {cs:List Value} {x:DataW H×List MemPlace} (h:DataW.trod enc prog W 0 (fun _=>true) true fuel 42 cs=some x):
 ∃(b:Bool) (A:Option Addr) (n c:Nat) (zs:List Int),cs=[.bool b,.slice A n c]∧n≤c∧c≤maxLen∧zs.length=n∧(∀z∈zs,(Lit.int .u32 z).wf=true)∧Reads W W.heap.size 1 A n (zs.map (Value.int .u32)):=by
 obtain⟨y0,y1,m,_,hl,h0,h1⟩:=trod_struct2 underlying42 h;rw[zSw]at hl;simp only[zTK,zTM]at h0 h1
 match cs,hl with
 | [a,b],_=>
  obtain⟨k,e0,_⟩:=DataW.trod_bool underlying4 h0;obtain⟨A,n,c,zs,e1,h2,h3,h4,h5,h6⟩:=zSI underlying40 underlying87 zTo h1;simp only[List.drop_zero,List.take_succ_cons,List.take_zero,List.drop_succ_cons,List.cons.injEq,and_true]at e0 e1;subst e0 e1;exact⟨k,A,n,c,zs,rfl,h2,h3,h4,h5,h6⟩
theorem zTO (s:ByteArray):(⟨s.toList.toArray⟩:ByteArray)=s:=by
 rw[ByteArray.toList_eq]
theorem zTP {fuel:Nat} {cs:List Value} {d:DataW H×List MemPlace} (h:DataW.trod enc prog W 0 (fun _=>true) true fuel 48 cs=some d):
 ∃x s,cs=ndV x s∧NdR W W.heap.size x s:=by
 obtain⟨xs,m,_,_,hl,hxl,hf⟩:=DataW.trod_struct underlying48 h;rw[zSf]at hl
 match cs,hl with
 | [a0,a1,a2,a3,a4,a5,a6,a7],_=>
  match xs,hxl with
  | [y0,y1,y2,y3,y4,y5],_=>
   have f0:DataW.trod enc prog W 0 (fun _=>true) true m 3 (([a0,a1,a2,a3,a4,a5,a6,a7].drop 0).take (prog.cellsOf 3))=[y0,y1,y2,y3,y4,y5][0]? :=hf 0 _ rfl;have f1:DataW.trod enc prog W 0 (fun _=>true) true m 9 (([a0,a1,a2,a3,a4,a5,a6,a7].drop 1).take (prog.cellsOf 9))=[y0,y1,y2,y3,y4,y5][1]? :=hf 1 _ rfl;have f2:DataW.trod enc prog W 0 (fun _=>true) true m 22 (([a0,a1,a2,a3,a4,a5,a6,a7].drop 2).take (prog.cellsOf 22))=[y0,y1,y2,y3,y4,y5][2]? :=hf 2 _ rfl;have f3:DataW.trod enc prog W 0 (fun _=>true) true m 39 (([a0,a1,a2,a3,a4,a5,a6,a7].drop 3).take (prog.cellsOf 39))=[y0,y1,y2,y3,y4,y5][3]? :=hf 3 _ rfl;have f4:DataW.trod enc prog W 0 (fun _=>true) true m 42 (([a0,a1,a2,a3,a4,a5,a6,a7].drop 5).take (prog.cellsOf 42))=[y0,y1,y2,y3,y4,y5][4]? :=hf 4 _ rfl;have f5:DataW.trod enc prog W 0 (fun _=>true) true m 32 (([a0,a1,a2,a3,a4,a5,a6,a7].drop 7).take (prog.cellsOf 32))=[y0,y1,y2,y3,y4,y5][5]? :=hf 5 _ rfl;simp only[zSY,zTm,zTL,zSv,zSw,zTN,List.drop_zero,List.take_succ_cons,List.take_zero,List.drop_succ_cons,List.getElem?_cons_zero,List.getElem?_cons_succ]at f0 f1 f2 f3 f4 f5;obtain⟨k,e0,_,w0⟩:=DataW.trod_int underlying3 f0;obtain⟨nm,e1,_,w1⟩:=DataW.trod_string underlying9 f1;obtain⟨As,ns,cs',zs,e2,s1,s2,s3,s4,s5⟩:=zSI underlying22 underlying24 zTn f2;obtain⟨nk,nn,e3,w3,w4⟩:=zTp f3;obtain⟨ng,Am,nm2,cm,zm,e4,m1,m2,m3,m4,m5⟩:=zTq f4;obtain⟨Ak,nk2,ck,zk,e5,k1,k2,k3,k4,k5⟩:=zSI underlying32 underlying3 zSY f5;simp only[List.cons.injEq,and_true]at e0 e1 e2 e3 e4 e5;obtain⟨e3,e3'⟩:=e3;obtain⟨e4,e4'⟩:=e4;subst e0 e1 e2 e3 e3' e4 e4' e5;subst s3 m3 k3;have hu:zAD (zs.map fun n=>UInt16.ofNat n.toNat)=zs.map (Value.int .u16):=by
    unfold zAD;rw[List.map_map];refine List.map_congr_left fun z hz=>?_;have hw:=bounds_u16 (s4 z hz);show Value.int .u16 _=_;have e:((UInt16.ofNat z.toNat).toNat:Int)=z:=by simp;omega
    exact congrArg _ e
   have hm:zRX (zm.map fun n=>n.toNat)=zm.map (Value.int .u32):=by
    unfold zRX;rw[List.map_map];refine List.map_congr_left fun z hz=>?_;have hw:=bounds_u32 (m4 z hz);have e:((z.toNat:Nat):Int)=z:=by omega
    exact congrArg _ e
   refine⟨⟨k,nm.toList,zs.map fun n=>UInt16.ofNat n.toNat,nk,nn,ng,zm.map fun n=>n.toNat,zk⟩,⟨As,Am,Ak,cs',cm,ck⟩,?_,?_⟩
   · unfold ndV;simp only[zTO,List.length_map]
   · refine⟨?_,?_,?_,?_,?_,?_,fun y hy=>?_,fun y hy=>bounds_i64 (k4 y hy),bounds_i64 w0,bounds_i64 w3,bounds_i64 w4,?_⟩
     · show Reads W W.heap.size 1 As (List.map _ zs).length (zAD _);rw[hu,List.length_map];exact s5
     · show Reads W W.heap.size 1 Am (List.map _ zm).length (zRX _);rw[hm,List.length_map];exact m5
     · exact k5
     · show(List.map _ zs).length≤_∧_;rw[List.length_map];exact⟨s1,s2⟩
     · show(List.map _ zm).length≤_∧_;rw[List.length_map];exact⟨m1,m2⟩
     · exact⟨k1,k2⟩
     · obtain⟨z,hz,rfl⟩:=List.mem_map.1 hy;have hw:=bounds_u32 (m4 z hz);omega
     · show nm.toList.length≤_;rw[ByteArray.toList_eq];have:nm.data.toList.length=nm.size:=by simp
       rw[this];unfold maxLen at w1;omega
theorem zS9 {fuel:Nat} {cs:List Value} {d:DataW H×List MemPlace} (h:DataW.trod enc prog W 0 (fun _=>true) true fuel 25 cs=some d):
 ∃(A:Option Addr) (n c:Nat) (ts:List Nd),cs=[.slice A n c]∧n≤c∧c≤maxLen∧NdsR W W.heap.size A n ts:=by
 rcases Go.Deep.open_slice underlying25 h with⟨hcs,_⟩ | ⟨a,len,cap,m,n,D,Pl,hcs,_,hl,hm,hmm,_,hx⟩
 · exact⟨none,0,0,[],hcs,yAC _,yAE _,NdsR.nil rfl⟩
 · simp only[if_true]at hmm;subst hmm;have each:∀i,i < len→∃p:Nd×NdSl,W.cells? 0 (a.add (i*8)) 8=some (ndV p.1 p.2)∧NdR W W.heap.size p.1 p.2:=by
    intro i hi;obtain⟨cs',h1,h2⟩:=hx i (by omega);rw[zSf]at h1;obtain⟨x,s,rfl,hR⟩:=zTP h2;exact⟨(x,s),h1,hR⟩
   obtain⟨f,hf⟩:∃f:Nat→Nd×NdSl,∀i,i < len→W.cells? 0 (a.add (i*8)) 8=some (ndV (f i).1 (f i).2)∧NdR W W.heap.size (f i).1 (f i).2:=by
    classical
    refine⟨fun i=>if hi:i < len then Classical.choose (each i hi)else(zBg,⟨none,none,none,0,0,0⟩),fun i hi=>?_⟩;simp only[dif_pos hi];exact Classical.choose_spec (each i hi)
   refine⟨some a,len,m,(List.range len).map fun i=>(f i).1,hcs,hl,hm,by simp,fun h0=>?_⟩;have hat:∀i,i < len→∀j,j < 8→W.cell? (a.add (i*8+j))=(ndV (f i).1 (f i).2)[j]? :=by
    intro i hi j hj;have:=(World.cells?_some (hf i hi).1).2.2 j hj;rwa [zIm]at this
   have hc0:=hat 0 h0 0 (by omega);rw[Nat.zero_mul,Nat.zero_add,Addr.add_zero]at hc0;have hsp:a.spot=none:=by
    cases hsp:a.spot with
    | none=>rfl
    | some s=>
     exfalso;simp only[World.cell?,hsp]at hc0;split at hc0
     · simp[ndV]at hc0
     · cases hc0
   obtain⟨b,o,sp⟩:=a;simp only at hsp;subst hsp;refine⟨b,o,rfl,World.block_lt_of_cell? W _ hc0,fun i hi=>?_⟩;have hi':i < len:=by simpa using hi
   have hg:((List.range len).map fun i=>(f i).1)[i]=(f i).1:=by simp
   rw[hg];have hk:∀j,j < 8→W.cell? ⟨b,o+i*8+j,none⟩=(ndV (f i).1 (f i).2)[j]? :=fun j hj=>by
    have:=hat i hi' j hj;rw[Addr.add_lit,←Nat.add_assoc]at this;exact this
   exact⟨(f i).2,⟨hk 0 (by omega),hk 1 (by omega),hk 2 (by omega),hk 3 (by omega),hk 4 (by omega),hk 5 (by omega),hk 6 (by omega),hk 7 (by omega)⟩,(hf i hi').2⟩
theorem zTA {base:Nat} {v:Value} {d:DataW H} {p:List MemPlace} (hv:Value.okWide prog W .any base 27 v) (h:DataW.Trod enc prog W 0 (fun _=>true) true 27 v d p):
 ∃(A:Option Addr) (n c:Nat) (ts:List Nd),v=.agg #[.slice A n c]∧n≤c∧c≤maxLen∧NdsR W W.heap.size A n ts:=by
 obtain⟨cs,rfl,hs⟩:=okWide_struct underlying27 hv;obtain⟨fuel,hf⟩:=h;obtain⟨y0,m,_,hl,h0⟩:=trod_struct1 underlying27 hf;rw[zTJ]at hs;simp only[zS8]at h0;obtain⟨l⟩:=cs
 match l,hs with
 | [a],_=>
  obtain⟨A,n,c,ts,e,h1,h2,h3⟩:=zS9 h0;have e':[a]=[.slice A n c]:=e;obtain rfl:a=.slice A n c:=by injection e'
  exact⟨A,n,c,ts,rfl,h1,h2,h3⟩
end
end Zq
def At (ts:List Nd) (n:Nat) (t:Tr):Prop:=∃a b,ts=a++flatT n t++b∧a.length=n
def AtL (ts:List Nd) (n:Nat) (l:List Tr):Prop:=∃a b,ts=a++flatL n l++b∧a.length=n
theorem At.get {ts:List Nd} {n:Nat} {t:Tr} (h:At ts n t):ts[n]? =some (t.laid n):=by
 obtain⟨a,b,rfl,hl⟩:=h;rw[List.append_assoc,List.getElem?_append_right (by omega),hl,Nat.sub_self,List.getElem?_append_left (by rw[flatT_len];exact zBi t)];exact zE4 n t
theorem At.le {ts:List Nd} {n:Nat} {t:Tr} (h:At ts n t):n+t.size≤ts.length:=by
 obtain⟨a,b,rfl,hl⟩:=h;simp only[List.length_append,flatT_len];omega
theorem At.subs {ts:List Nd} {n:Nat} {x:Nd} {l:List Tr} (h:At ts n (.mk x l)):AtL ts (n+1) l:=by
 obtain⟨a,b,rfl,hl⟩:=h;rw[zA2];exact⟨a++[{x with kids:=zAM (n+1) l}],b,by simp,by simp[hl]⟩
theorem AtL.head {ts:List Nd} {n:Nat} {t:Tr} {l:List Tr} (h:AtL ts n (t::l)):At ts n t:=by
 obtain⟨a,b,rfl,hl⟩:=h;rw[zAU];exact⟨a,flatL (n+t.size) l++b,by simp,hl⟩
theorem AtL.tail {ts:List Nd} {n:Nat} {t:Tr} {l:List Tr} (h:AtL ts n (t::l)):AtL ts (n+t.size) l:=by
 obtain⟨a,b,rfl,hl⟩:=h;rw[zAU];exact⟨a++flatT n t,b,by simp,by simp[hl,flatT_len]⟩
theorem AtL.kid {ts:List Nd}:∀{l:List Tr} {n:Nat} (_:AtL ts n l) (i:Nat) (hi:i < l.length),∃p:Nat,(zAM n l)[i]? =some (p:Int)∧At ts p l[i]∧n≤p:=by
 intro l
 induction l with
 | nil=>intro n h i hi;simp at hi
 | cons t r ih=>
  intro n h i hi;cases i with
  | zero=>exact⟨n,rfl,h.head,yAC _⟩
  | succ i=>
   obtain⟨p,h1,h2,h3⟩:=ih h.tail i (by simpa using hi);exact⟨p,by simpa [zAM]using h1,h2,by omega⟩
theorem At.whole (t:Tr):At (flatT 0 t) 0 t:=⟨[],[],by simp,rfl⟩
theorem zUJ {ts:List Nd} {t:Tr} (h:May ts t):zO3 ts=true:=by
 have hx:=zE4 0 t;rw[←h.flat]at hx;unfold zO3;cases ts with
 | nil=>cases hx
 | cons x r=>
  have hx:x=t.laid 0:=Option.some.inj hx;simp only[Bool.and_eq_true,decide_eq_true_eq,beq_iff_eq];refine⟨⟨⟨⟨h.len,by rw[hx,zF4];exact h.kind⟩,?_⟩,h.each⟩,?_⟩
  · rw[h.flat];exact zE6 t
  · rw[h.flat,zF3];exact h.nest
theorem zSg {ts:List Nd} {n:Nat} {t:Tr} (h:At ts n t):atN ts (n:Int)=t.laid n:=by
 unfold atN;rw[yAG,Int.toNat_natCast,h.get];rfl
section
variable {P:Program} {w0 w:World} {ops:Array Oper} {rest:List Oper} {o:Oper} {a:Act} {Q:Exit→Act→World→Prop}
theorem zTB (hgd:o.guard=none) (s x:Operand) (t:TypeId)
 (ho:o.op=.call {callee:=.builtin .append,args:=#[s,x],argTypes:=#[t,t]})
 (e:TypeId) (i:TypeInfo) (z:Value) (bytes:Nat) (ht:P.underlying t=some (.slice e)) (hi:P.info? e=some i) (hz:i.zero=some z)
 (hsize:i.size=1) (hby:i.bytes=bytes) (hzs:z.cells.size=1)
 (v:Value) (xs:List Value) (hs:a.eval s=v) (hm:Made w0 w e v xs)
 (B:Nat) (A:Option Addr) (m c:Nat) (news:List Value) (hx:a.eval x=.slice A m c) (hr:Reads w B 1 A m news) (h1:∀u∈news,u.oneCell'=true)
 (hsz:xs.length+m≤70368744177664) (hb2:bytes≤2)
 (h:∀v' w',Made w0 w' e v' (xs++news)→wpList P ops Q rest (a.put o.dst v') w'):wpList P ops Q (o::rest) a w:=by
 have hl:news.length=m:=by have:=hr.1;omega
 subst hl;have hby2:(xs.length+news.length)*bytes≤140737488355328:=by
  calc (xs.length+news.length)*bytes≤70368744177664*2:=Nat.mul_le_mul hsz hb2
   _≤140737488355328:=by omega
 obtain⟨v',w',hrun,h2,h3,_⟩:=zEo (P:=P) w w0.heap.size t o.type e i z 1 bytes ht hi hz hsize hby hzs (by omega) v xs.length xs hm.own B A news.length c news hr h1 (by unfold maxLen;omega) hby2 hm.below.size;refine wpList_plain hgd fun K hK=>?_;unfold Oper.wp execOp;simp only[ho,resolve,invoke,builtin,Sem.run_bind,Sem.run_pure,Result.andThen_ok,List.map_toArray,List.map_cons,List.map_nil,hs,hx,hrun];refine hK _ _ (h v' w' ⟨by rw[List.length_append];exact h2,hm.below.grown h3 hm.below.size (fun k hk=>(hm.own.lt k hk).1)⟩)
end
theorem Made.empty (w:World) (e:TypeId):Made w (w.alloc (.cells #[] e)) e (.slice (some ⟨w.heap.size,0,none⟩) 0 0) []:=
 ⟨World.ownsRow_made w #[] 0 (yAC _) (yAE _) rfl,(Below.refl _ _).alloc (yAC _) _⟩
theorem zSZ {A:Option Addr} {c B:Nat} {xs:List UInt16} {w:World} (hB:B≤w.heap.size) (ha:Reads w B 1 A xs.length (zAD xs)) (hl:xs.length≤70368744177664):
 Calls prog 17 #[.slice A xs.length c] w fun e w'=>∃v,e=.returned v∧Made w w' 24 v (zAD xs):=by
 obtain⟨i0,hi0,hz0,hz1,hz2⟩:=info_parts Tryz.info_u16;have ha':=ha.alloc hB (.cells #[] 24);go_enter func17,ntmps17;go_wp2_with (at_builtin;refine zTB rfl _ _ 22 rfl 24 i0 _ 2 underlying22 hi0 hz0 hz1 hz2 rfl _ _ rfl (Made.empty w _) _ _ _ c _ rfl ha' (zTh _) (by simp;omega) (by omega) ?_;intro v' w' hm');go_ret;exact⟨_,rfl,hm'⟩
mutual
def dangT:Tr→Bool
 | .mk x l=>if x.kind=8∧l.length=2 then true else if x.kind=8∨x.kind=9∨x.kind=10∨x.kind=18 then dangL l else false
def dangL:List Tr→Bool
 | []=>false
 | t::r=>match r with | []=>dangT t | _::_=>dangL r
end
theorem zTr (x:Nd) (l:List Tr):dangT (.mk x l)=if x.kind=8∧l.length=2 then true else if x.kind=8∨x.kind=9∨x.kind=10∨x.kind=18 then dangL l else false:=by rw[dangT]
theorem zTQ:dangL []=false:=by rw[dangL]
theorem zTR (t:Tr):dangL [t]=dangT t:=by rw[dangL]
theorem zTS (t s:Tr) (r:List Tr):dangL (t::s::r)=dangL (s::r):=by rw[dangL]
def zSE (l:List Tr):List Int:=l.map (·.nd.kind)
def zSe:List Nat→Nat→List Int→Bool
 | _,_,[]=>true
 | [],r,k::ks=>zD6 r k&&zSe [] r ks
 | s::l,r,k::ks=>zD6 s k&&zSe l r ks
def zUV (l:List Tr) (i:Nat):Int:=(zSE l).getD i 0
def zUK (l:List Tr) (i:Nat):Bool:=match l[i]? with | none=>false | some t=>dangT t
def zSN (k:Int) (l:List Tr):Bool:=
 zD5 k&&decide ((zAA k l.length).1.length≤l.length)
 &&zSe (zAA k l.length).1 (zAA k l.length).2 (zSE l)
 &&(if k=16 then(zUV l 1==17 || zUV l 2==4)else if k=8∧l.length=3 then !(zUK l 1)else true)
mutual
def goodT:Tr→Bool
 | .mk x l=>zh x&&zSN x.kind l&&goodL l
def goodL:List Tr→Bool
 | []=>true
 | t::r=>goodT t&&goodL r
end
theorem zSF (x:Nd) (l:List Tr):goodT (.mk x l)=(zh x&&zSN x.kind l&&goodL l):=by rw[goodT]
theorem zSB:goodL []=true:=by rw[goodL]
theorem zSC (t:Tr) (r:List Tr):goodL (t::r)=(goodT t&&goodL r):=by rw[goodL]
theorem zTT (a b:List Tr):goodL (a++b)=(goodL a&&goodL b):=by
 induction a with
 | nil=>rw[zSB];simp
 | cons t r ih=>rw[List.cons_append,zSC,zSC,ih,Bool.and_assoc]
theorem zTC:∀(l:List Tr),dangL l=match l.getLast? with | none=>false | some t=>dangT t:=by
 intro l
 induction l with
 | nil=>rw[zTQ];rfl
 | cons t r ih=>
  cases r with
  | nil=>rw[zTR];rfl
  | cons s r=>rw[zTS,ih,List.getLast?_cons_cons]
theorem zSo:∀{ts:List Nd} {l:List Tr} {n:Nat} (_:AtL ts n l),(l=[]∧(zAM n l).getLast? =none)∨∃(p:Nat) (t:Tr),(zAM n l).getLast? =some (p:Int)∧l.getLast? =some t∧At ts p t∧t.size≤sizes l:=by
 intro ts l
 induction l with
 | nil=>intro n _;exact .inl ⟨rfl,rfl⟩
 | cons t r ih=>
  intro n h;right;rcases ih h.tail with⟨hr,_⟩ | ⟨p,s,h1,h2,h3,h4⟩
  · subst hr;exact⟨n,t,rfl,rfl,h.head,by rw[zI];omega⟩
  · cases r with
    | nil=>cases h2
    | cons s' r'=>
     refine⟨p,s,?_,by rw[List.getLast?_cons_cons];exact h2,h3,by rw[zI];omega⟩;show((n:Int)::zAM (n+t.size) (s'::r')).getLast? =_;rw[show zAM (n+t.size) (s'::r')=((n+t.size:Nat):Int)::zAM (n+t.size+s'.size) r' from rfl]at h1⊢;rw[List.getLast?_cons_cons];exact h1
theorem zT9 {ts:List Nd}:∀(f:Nat) (n:Nat) (t:Tr),At ts n t→t.size≤f→zMa f ts (n:Int)=dangT t:=by
 intro f
 induction f with
 | zero=>intro n t _ h;have:=zBi t;omega
 | succ f ih=>
  intro n t h hf;cases t with
  | mk x l=>
   rw[zb]at hf;rw[zTr];unfold zMa;have e1:(atN ts (n:Int)).kind=x.kind:=by rw[zSg h];rfl
   have e2:(atN ts (n:Int)).kids=zAM (n+1) l:=by rw[zSg h];rfl
   rw[e1,e2,zDN];congr 1;congr 1;rw[zTC];rcases zSo h.subs with⟨hl,h1⟩ | ⟨p,s,h1,h2,h3,h4⟩
   · rw[h1,hl];rfl
   · rw[h1,h2];exact ih p s h3 (by omega)
theorem zTU {ts:List Nd} {n:Nat} {t:Tr} (h:At ts n t):zCm ts (n:Int)=dangT t:=zT9 _ n t h (by have:=h.le;omega)
theorem zUL {ts:List Nd}:∀(l:List Tr) (n:Nat) (s:List Nat) (r:Nat),AtL ts n l→zBT ts s r (zAM n l)=zSe s r (zSE l):=by
 intro l
 induction l with
 | nil=>intro n s r _;cases s<;>rfl
 | cons t l ih=>
  intro n s r h;have h1:(atN ts (n:Int)).kind=t.nd.kind:=by rw[zSg h.head,zF4]
  cases s with
  | nil=>
   show(zD6 r (atN ts (n:Int)).kind&&zBT ts [] r (zAM (n+t.size) l))=(zD6 r t.nd.kind&&zSe [] r (zSE l));rw[h1,ih _ _ _ h.tail]
  | cons a s=>
   show(zD6 a (atN ts (n:Int)).kind&&zBT ts s r (zAM (n+t.size) l))=(zD6 a t.nd.kind&&zSe s r (zSE l));rw[h1,ih _ _ _ h.tail]
theorem zTs:∀(ks:List Int) (l:List Nat),zSe l 0 ks=true→ks.length≤l.length:=by
 intro ks
 induction ks with
 | nil=>intro l _;simp
 | cons k r ih=>
  intro l h;cases l with
  | nil=>
   unfold zSe at h;simp[zD6]at h
  | cons s l=>
   unfold zSe at h;rw[Bool.and_eq_true]at h;have:=ih l h.2;simp only[List.length_cons];omega
theorem zSG {ts:List Nd} {n:Nat} {l:List Tr} (h:AtL ts n l) {i:Nat} (hi:i < l.length):∃p:Nat,(zAM n l).getD i 0=(p:Int)∧At ts p l[i]:=by
 obtain⟨p,h1,h2,_⟩:=h.kid i hi;exact⟨p,by rw[yAG,h1];rfl,h2⟩
theorem zTV {l:List Tr} {i:Nat} (hi:i < l.length):zUV l i=l[i].nd.kind:=by
 unfold zUV zSE;rw[yAG,List.getElem?_map,yAB hi];rfl
theorem zUA {ts:List Nd} {n:Nat} {x:Nd} {l:List Tr} (h:At ts n (.mk x l)):zCE ts ((Tr.mk x l).laid n)=zSN x.kind l:=by
 have hk:((Tr.mk x l).laid n).kind=x.kind:=rfl;have hs:((Tr.mk x l).laid n).kids=zAM (n+1) l:=rfl;unfold zCE zSN;rw[hk,hs,zDN,zUL l (n+1) _ _ h.subs]
 by_cases h1:decide ((zAA x.kind l.length).1.length≤l.length)=true
 · rw[h1]
   by_cases h2:zSe (zAA x.kind l.length).1 (zAA x.kind l.length).2 (zSE l)=true
   · rw[h2];congr 1
     by_cases h16:x.kind=16
     · rw[if_pos h16,if_pos h16];have hl:l.length=3:=by
        rw[h16]at h1 h2;have h3:3≤l.length:=of_decide_eq_true h1;have h4:=zTs _ _ h2;unfold zSE at h4;rw[List.length_map]at h4;exact Nat.le_antisymm h4 h3
       obtain⟨p,e1,a1⟩:=zSG h.subs (i:=1) (by omega);obtain⟨q,e2,a2⟩:=zSG h.subs (i:=2) (by omega);rw[e1,e2,zSg a1,zSg a2,zF4,zF4,zTV (by omega),zTV (by omega)]
     · rw[if_neg h16,if_neg h16]
       by_cases h8:x.kind=8∧l.length=3
       · rw[if_pos h8,if_pos h8];obtain⟨p,e1,a1⟩:=zSG h.subs (i:=1) (by omega);rw[e1,zTU a1];unfold zUK;rw[yAB (by omega)]
       · rw[if_neg h8,if_neg h8]
   · rw[Bool.not_eq_true]at h2;rw[h2];simp
 · rw[Bool.not_eq_true]at h1;rw[h1];simp
theorem zTt {ts:List Nd} (a b:List Nd) (n:Nat):zCx ts n (a++b)=(zCx ts n a&&zCx ts (n+a.length) b):=by
 induction a generalizing n with
 | nil=>simp[zCx]
 | cons x r ih=>
  show(_&&zCx ts (n+1) (r++b))=_;rw[ih];show _=((_&&zCx ts (n+1) r)&&zCx ts (n+(r.length+1)) b);rw[show n+1+r.length=n+(r.length+1) by omega];simp only[Bool.and_assoc]
theorem zSh (x:Nd) (ks:List Int):zh {x with kids:=ks}=zh x:=rfl
theorem zSx (s:Nat):zD6 s 1=false:=by
 have f:∀{p:Prop} [Decidable p] {a b:Bool},a=false→b=false→(if p then a else b)=false:=fun h1 h2=>by split<;>assumption
 unfold zD6
 repeat' refine f ?_ ?_
 all_goals rfl
theorem zTu:∀(ks:List Int) (s:List Nat) (r:Nat),zSe s r ks=true→∀k∈ks,k≠1:=by
 intro ks
 induction ks with
 | nil=>intro s r _ k hk;cases hk
 | cons a ks ih=>
  intro s r h k hk;cases s with
  | nil=>
   unfold zSe at h;rw[Bool.and_eq_true]at h;rcases List.mem_cons.1 hk with rfl | hk
   · intro e;rw[e,zSx]at h;cases h.1
   · exact ih _ _ h.2 k hk
  | cons b s=>
   unfold zSe at h;rw[Bool.and_eq_true]at h;rcases List.mem_cons.1 hk with rfl | hk
   · intro e;rw[e,zSx]at h;cases h.1
   · exact ih _ _ h.2 k hk
mutual
theorem eachT {ts:List Nd} (n:Nat) (t:Tr) (h:At ts n t) (h1:n=0∨t.nd.kind≠1):zCx ts n (flatT n t)=goodT t:=by
 cases t with
 | mk x l=>
  rw[zA2,zSF];show(!(decide (0 < n)&&x.kind==1)&&zh {x with kids:=zAM (n+1) l}&&zCE ts ((Tr.mk x l).laid n)&&zCx ts (n+1) (flatL (n+1) l))=_;have e:(decide (0 < n)&&x.kind==1)=false:=by
   rcases h1 with h1 | h1
   · subst h1;rfl
   · have:(x.kind==1)=false:=yA.2 h1;rw[this,Bool.and_false]
  rw[e,zSh,zUA h,Bool.not_false,Bool.true_and]
  by_cases h2:zSN x.kind l=true
  · rw[eachL (n+1) l h.subs (by omega) (by
     unfold zSN at h2;simp only[Bool.and_eq_true]at h2;intro t ht;exact zTu _ _ _ h2.1.2 _ (List.mem_map_of_mem ht))]
  · rw[Bool.not_eq_true]at h2;rw[h2];simp
theorem eachL {ts:List Nd} (n:Nat) (l:List Tr) (h:AtL ts n l) (h0:0 < n) (h1:∀t∈l,t.nd.kind≠1):zCx ts n (flatL n l)=goodL l:=by
 cases l with
 | nil=>rw[zAb,zSB];rfl
 | cons t r=>
  rw[zAU,zSC,zTt,flatT_len,eachT n t h.head (.inr (h1 t (List.mem_cons_self ..))),eachL (n+t.size) r h.tail (by omega) fun s hs=>h1 s (List.mem_cons_of_mem _ hs)]
end
structure Good (t:Tr):Prop where
 size:t.size≤4096
 kind:t.nd.kind=1
 good:goodT t=true
 nest:depT t≤48
theorem zSy {t:Tr}:May (flatT 0 t) t↔Good t:=by
 have he:=eachT (ts:=flatT 0 t) 0 t (At.whole t) (.inl rfl);constructor
 · intro h;exact⟨by have:=h.len;rw[flatT_len]at this;exact this,h.kind,by rw[←he];exact h.each,h.nest⟩
 · intro h;exact⟨rfl,by rw[flatT_len];exact h.size,by rw[he];exact h.good,h.nest,h.kind⟩
theorem zTv {ts:List Nd} {t:Tr} (h:May ts t):Good t:=by
 have e:=h.flat
 subst e;exact zSy.1 h
theorem zSz {ts:List Nd}:zO3 ts=true↔∃t,ts=flatT 0 t∧Good t:=by
 constructor
 · intro h;obtain⟨t,ht⟩:=zMc h;exact⟨t,ht.flat,zTv ht⟩
 · rintro⟨t,rfl,h⟩;exact zUJ (zSy.2 h)
def zUa:List (List UInt8):=[[101,108,115,101],[99,97,116,99,104],[102,105,110,97,108,108,121],[63],[63,63],[124,124],[38,38],[40],[46],[91],[61],[44],[58],[61,62]]
structure Stop (t:Tok):Prop where
 name:t.kind≠1
 binds:zCi t=9
 words:∀w∈zUa,isT t w=false
 asgn:t.kind=5→¬t.text∈zO2
 post:t.kind=5→t.text∈zFT→t.nl=true
section
variable {L1 L2:List Tok} {a d m:Nat} {lo:Bool} {s:Ps} {w:List UInt8}
variable {R1 R2:Ph→Ps→Tr×Ps}
end
theorem zUB {k:Int}:∀{ts:List Nd} {j:Nat} {y:Nd},ts[j]? =some y→k∈y.kids→1≤(zAI ts).count k:=by
 intro ts j y h hk;refine List.count_pos_iff.2 ?_;unfold zAI;rw[List.mem_flatMap];exact⟨y,List.mem_of_getElem? h,hk⟩
theorem zTW {k:Int}:∀{ts:List Nd} {n j:Nat} {x y:Nd},n < j→ts[n]? =some x→ts[j]? =some y→k∈x.kids→k∈y.kids→2≤(zAI ts).count k:=by
 intro ts
 induction ts with
 | nil=>intro n j x y _ h;cases h
 | cons z r ih=>
  intro n j x y hnj hx hy hkx hky;rw[zCJ,List.count_append];obtain⟨j,rfl⟩:∃i,j=i+1:=⟨j - 1,by omega⟩;cases n with
  | zero=>
   obtain rfl:z=x:=Option.some.inj hx;have h1:1≤z.kids.count k:=List.count_pos_iff.2 hkx;have h2:1≤(zAI r).count k:=zUB (j:=j) hy hky;omega
  | succ n=>
   have:=ih (n:=n) (j:=j) (by omega) hx hy hkx hky;omega
theorem zTD {ts:List Nd} {t:Tr} (h:ts=flatT 0 t) {n j:Nat} {x y:Nd} {k:Nat} (hx:ts[n]? =some x) (hy:ts[j]? =some y) (hkx:(k:Int)∈x.kids) (hky:(k:Int)∈y.kids):n=j:=by
 have hc:(zAI ts).count (k:Int)≤1:=by rw[h,countT];split<;>omega
 rcases Nat.lt_trichotomy n j with h1 | h1 | h1
 · have:=zTW h1 hx hy hkx hky;omega
 · exact h1
 · have:=zTW h1 hy hx hky hkx;omega
theorem zTX {n k:Nat}:∀(ks l:List Int),(∀j∈ks,0≤j)→k < l.length→(upK n l ks)[k]? =if(k:Int)∈ks then some (n:Int)else l[k]? :=by
 intro ks
 induction ks with
 | nil=>intro l _ _;rfl
 | cons j r ih=>
  intro l hj hk;show(upK n (l.set j.toNat n) r)[k]? =_;rw[ih _ (fun i hi=>hj i (List.mem_cons_of_mem _ hi)) (by rw[List.length_set];exact hk)];have h0:=hj j List.mem_cons_self
  by_cases h1:(k:Int)∈r
  · rw[if_pos h1,if_pos (List.mem_cons_of_mem _ h1)]
  · rw[if_neg h1,List.getElem?_set]
    by_cases h2:(k:Int)=j
    · subst h2;rw[if_pos (Int.toNat_natCast k),if_pos List.mem_cons_self,if_pos (by rw[Int.toNat_natCast];exact hk)]
    · rw[if_neg (by omega),if_neg (by intro h;rcases List.mem_cons.1 h with h | h;exact h2 h;exact h1 h)]
theorem zUM {ts:List Nd} (hf:Fwd ts) {n k:Nat} {x:Nd} (hx:ts[n]? =some x) (hk:(k:Int)∈x.kids) (hu:∀j y,ts[j]? =some y→(k:Int)∈y.kids→n=j):∀m,n < m→m≤ts.length→(zFU ts m)[k]? =some (n:Int):=by
 have hkl:=(hf n x hx _ hk).2;intro m
 induction m with
 | zero=>intro h;omega
 | succ m ih=>
  intro h hm;have hy:=yAB (show m < ts.length by omega);rw[zFU,zTX _ _ (fun j hj=>by rw[zAv hy]at hj;have:=(hf m _ hy j hj).1;omega) (by rw[zHz];omega),zAv hy]
  by_cases h1:(k:Int)∈ts[m].kids
  · rw[if_pos h1,hu m _ hy h1]
  · rw[if_neg h1];refine ih ?_ (by omega);rcases Nat.lt_or_ge n m with h2 | h2
    · exact h2
    · obtain rfl:n=m:=by omega
      rw[hx]at hy;cases hy;exact absurd hk h1
theorem zS0 {ts:List Nd} (h:zO3 ts=true) {n k:Nat} {x:Nd} (hx:ts[n]? =some x) (hk:(k:Int)∈x.kids):upA (upN ts) (k:Int)=(n:Int):=by
 obtain⟨t,ht⟩:=zMc h;have hf:=(zKu h).1.fwd;have hn:=(List.getElem?_eq_some_iff.1 hx).1;have:=zUM hf hx hk (fun j y hy hky=>zTD ht.flat hx hy hk hky) ts.length hn (yAC _);unfold upA upN;rw[Int.toNat_natCast,yAG,this];rfl
theorem zT7 {ts:List Nd} {up:List Int}:∀(f n:Nat),zQn ts up f n=(0,0)→∀j,n≤j→j < n+f→wrN ts up (j:Int)=false:=by
 intro f
 induction f with
 | zero=>intro n _ j h1 h2;omega
 | succ f ih=>
  intro n h j h1 h2;unfold zQn at h;split at h
  · simp only[Prod.mk.injEq]at h;omega
  · rename_i hw
    rcases Nat.eq_or_lt_of_le h1 with h3 | h3
    · subst h3;exact Bool.eq_false_iff.2 hw
    · exact ih (n+1) h j h3 (by omega)
theorem zUN:∀(l a:List (List UInt8)),zRQ a l=false→∀i (h:i < l.length),l[i]∉a++l.take i:=by
 intro l
 induction l with
 | nil=>intro a _ i h;exact absurd h (Nat.not_lt_zero _)
 | cons s r ih=>
  intro a h i hi;unfold zRQ at h;rw[Bool.or_eq_false_iff]at h;cases i with
  | zero=>simpa using h.1
  | succ i=>
   have:=ih (a++[s]) h.2 i (by simpa using hi);simpa using this
theorem zS1 {ts:List Nd}:∀(ks:List Int),zBT ts [] 5 ks=true→∀k∈ks,knK ts k=7:=by
 intro ks
 induction ks with
 | nil=>intro _ k h;cases h
 | cons j r ih=>
  intro h k hk;unfold zBT at h;rw[Bool.and_eq_true]at h;rcases List.mem_cons.1 hk with rfl | h1
  · have:=h.1;unfold zD6 at this;simpa [knK]using this
  · exact ih h.2 k h1
theorem zSS {ts:List Nd} (h:zO3 ts=true) {x:Nd} (hx:x∈ts) (h6:x.kind=6):∀k∈x.kids,knK ts k=7:=by
 obtain⟨t,ht⟩:=zMc h;have h1:=(zMf ht.each hx).2;unfold zCE at h1;rw[h6,show zAA 6 x.kids.length=([5],5)from rfl]at h1;simp only[Bool.and_eq_true]at h1;have h2:=h1.1.2;intro k hk;cases hq:x.kids with
 | nil=>rw[hq]at hk;cases hk
 | cons j r=>
  rw[hq]at h2 hk;unfold zBT at h2;rw[Bool.and_eq_true]at h2;rcases List.mem_cons.1 hk with rfl | h3
  · have:=h2.1;unfold zD6 at this;simpa [knK]using this
  · exact zS1 r h2.2 k h3
theorem zSO {ts:List Nd} (h:chN ts=(0,0)):zO3 ts=true∧(∀n,n < ts.length→∀i (hi:i < (zAj ts (n:Int)).length),(zAj ts (n:Int))[i]∉(zAj ts (n:Int)).take i)∧
 (∀(n:Nat) (x:Nd),ts[n]? =some x→x.kind=6→∀k∈x.kids,∃m:Nat,∃y,k=(m:Int)∧m < ts.length∧ts[m]? =some y∧y.kids.length=1):=by
 have hm:zO3 ts=true:=by
  unfold chN at h;split at h
  · assumption
  · simp only[Prod.mk.injEq]at h;omega
 have hc:zQn ts (upN ts) ts.length 0=(0,0):=by
  unfold chN at h;rwa [if_pos hm]at h
 have hw:=fun j (hj:j < ts.length)=>zT7 ts.length 0 hc j (yAE _) (by omega);refine⟨hm,fun n hn i hi=>?_,fun n x hx h6 k hk=>?_⟩
 · have h1:=hw n hn;unfold wrN at h1;split at h1
   · cases h1
   · rename_i h2
     rw[Bool.or_eq_true,not_or]at h2;have:=zUN (zAj ts (n:Int)) [] (Bool.eq_false_iff.2 h2.1) i hi;simpa using this
 · obtain⟨hE,_,_,_⟩:=zKu hm;have h1:=hE.fwd n x hx k hk;obtain⟨m,rfl⟩:∃m:Nat,k=(m:Int):=⟨k.toNat,by omega⟩;have hml:m < ts.length:=by omega
   have hy:=yAB hml;have h7:=zSS hm (List.mem_of_getElem? hx) h6 _ hk;have hu:=zS0 hm hx hk;have h2:=hw m hml;unfold wrN at h2;rw[hu,h7]at h2;have hk6:knK ts (n:Int)=6:=by unfold knK;rw[zAv hx];exact h6
   refine⟨m,ts[m],rfl,hml,hy,?_⟩;obtain⟨t,ht⟩:=zMc hm;have hcn:=(zMe (zMf ht.each (List.getElem_mem hml)).2).opt (.inl (by unfold knK at h7;rw[zAv hy]at h7;exact h7));split at h2
   · cases h2
   · rw[if_pos rfl,hk6]at h2;have:(atN ts (m:Int)).kids≠[]:=by simpa using h2
     rw[zAv hy]at this;have:=List.length_pos_iff.2 this;omega
theorem zUO (ts:List Nd):(chN ts=(0,0)∧zO3 ts=true)∨((chN ts).2=2∧zO3 ts=false)∨((chN ts).2=5∧zO3 ts=true):=by
 unfold chN;split
 · rename_i hm
   have:∀f n,zQn ts (upN ts) f n=(0,0)∨(zQn ts (upN ts) f n).2=5:=by
    intro f
    induction f with
    | zero=>intro n;exact .inl rfl
    | succ f ih=>
     intro n;unfold zQn;split
     · exact .inr rfl
     · exact ih _
   rcases this ts.length 0 with h | h
   · exact .inl ⟨h,hm⟩
   · exact .inr (.inr ⟨h,hm⟩)
 · rename_i hm
   exact .inr (.inl ⟨rfl,Bool.eq_false_iff.2 hm⟩)
structure Grow (ts x:List Nd):Prop where
 may:zO3 ts=true
 mayx:zO3 x=true
 len:ts.length≤x.length
 same:∀j:Nat,0 < j→j < ts.length→atN x (j:Int)=atN ts (j:Int)
 kind:knK x 0=1
 kids:(atN x 0).kids=(atN ts 0).kids++[(ts.length:Int)]
section
variable {ts x:List Nd}
theorem Grow.kid (g:Grow ts x) {j:Nat} (hj:j < ts.length) {k:Int} (hk:k∈(atN ts (j:Int)).kids):∃m:Nat,k=(m:Int)∧j < m∧m < ts.length:=by
 have hx:=yAB hj;rw[zAv hx]at hk;have:=(zKu g.may).1.fwd j _ hx k hk;exact⟨k.toNat,by omega,by omega,by omega⟩
theorem Grow.knk (g:Grow ts x) {j:Nat} (hj:j < ts.length):knK x (j:Int)=knK ts (j:Int):=by
 cases j with
 | zero=>exact g.kind.trans (zKu g.may).2.2.2.symm
 | succ j=>unfold knK;rw[g.same _ (Nat.succ_pos _) hj]
theorem Grow.nmn (g:Grow ts x) {j:Nat} (h0:0 < j) (hj:j < ts.length):nmN x (j:Int)=nmN ts (j:Int):=by unfold nmN;rw[g.same _ h0 hj]
theorem Grow.decl (g:Grow ts x) {j:Nat} (h0:0 < j) (hj:j < ts.length):zEB x (j:Int)=zEB ts (j:Int):=by
 unfold zEB;rw[g.same _ h0 hj];refine List.map_congr_left fun k hk=>?_;obtain⟨m,rfl,h1,h2⟩:=g.kid hj hk;exact g.nmn (by omega) h2
theorem Grow.blk (g:Grow ts x) {j:Nat} (h0:0 < j) (hj:j < ts.length):zGz x (j:Int)=zGz ts (j:Int):=by
 unfold zGz;rw[g.knk hj,g.decl h0 hj,g.nmn h0 hj]
theorem Grow.par (g:Grow ts x) {j:Nat} (h0:0 < j) (hj:j < ts.length):zG0 x (j:Int)=zG0 ts (j:Int):=by
 unfold zG0;rw[g.knk hj,g.nmn h0 hj]
theorem zSJ {α β:Type} {f g:α→List β}:∀{l:List α},(∀a∈l,f a=g a)→l.flatMap f=l.flatMap g:=by
 intro l
 induction l with
 | nil=>intro _;rfl
 | cons a r ih=>intro h;rw[List.flatMap_cons,List.flatMap_cons,h a List.mem_cons_self,ih fun b hb=>h b (List.mem_cons_of_mem _ hb)]
theorem Grow.names (g:Grow ts x) {j:Nat} (h0:0 < j) (hj:j < ts.length):zAj x (j:Int)=zAj ts (j:Int):=by
 unfold zAj;rw[g.knk hj,g.nmn h0 hj,g.same _ h0 hj];have hk:=fun k (hk:k∈(atN ts (j:Int)).kids)=>g.kid hj hk;have e1:(atN ts (j:Int)).kids.flatMap (zGz x)=(atN ts (j:Int)).kids.flatMap (zGz ts):=zSJ fun k h=>by
  obtain⟨m,rfl,h1,h2⟩:=hk k h;exact g.blk (by omega) h2
 have e2:(atN ts (j:Int)).kids.flatMap (zG0 x)=(atN ts (j:Int)).kids.flatMap (zG0 ts):=zSJ fun k h=>by
  obtain⟨m,rfl,h1,h2⟩:=hk k h;exact g.par (by omega) h2
 rw[e1,e2]
 by_cases h10:knK ts (j:Int)=10
 · have hne:(atN ts (j:Int)).kids≠[]:=by
    have hx:=yAB hj;unfold knK at h10;rw[zAv hx]at h10⊢;exact(zKu g.may).1.first _ (List.getElem_mem hj) (.inl h10)
   obtain⟨k,hkk⟩:∃k,zKC (atN ts (j:Int))=k:=⟨_,rfl⟩;have hm:k∈(atN ts (j:Int)).kids:=by
    rw[←hkk];unfold zKC;cases hq:(atN ts (j:Int)).kids with
    | nil=>exact absurd hq hne
    | cons a r=>exact List.mem_cons_self
   obtain⟨m,rfl,h1,h2⟩:=hk k hm;rw[hkk,g.knk h2,g.decl (by omega) h2]
 · rw[if_neg (show¬(knK ts (j:Int)=10∧zMg (knK x (zKC (atN ts (j:Int))))=true)from fun h=>h10 h.1),if_neg (show¬(knK ts (j:Int)=10∧zMg (knK ts (zKC (atN ts (j:Int))))=true)from fun h=>h10 h.1)]
theorem zUP {ts:List Nd} (h:zO3 ts=true) {k:Nat} (h0:0 < k) (hk:k < ts.length):∃(n:Nat) (y:Nd),ts[n]? =some y∧(k:Int)∈y.kids:=by
 obtain⟨t,ht⟩:=zMc h;have hc:(zAI ts).count (k:Int)=1:=by
  have hl:=flatT_len 0 t;rw[←ht.flat]at hl;rw[ht.flat,countT,if_pos (by omega)]
 have:(k:Int)∈zAI ts:=List.count_pos_iff.1 (by omega);unfold zAI at this;obtain⟨y,hy,hky⟩:=List.mem_flatMap.1 this;obtain⟨n,hn,rfl⟩:=List.getElem_of_mem hy;exact⟨n,_,yAB hn,hky⟩
theorem Grow.mem (g:Grow ts x) {n k:Nat} {y:Nd} (hy:ts[n]? =some y) (hk:(k:Int)∈y.kids):∃z,x[n]? =some z∧(k:Int)∈z.kids:=by
 have hn:=(List.getElem?_eq_some_iff.1 hy).1;have hx:=yAB (show n < x.length from yAA hn g.len);refine⟨_,hx,?_⟩;rw[←zAv hx];rw[←zAv hy]at hk;cases n with
 | zero=>rw[show((0:Nat):Int)=0 from rfl]at hk⊢;rw[g.kids];exact List.mem_append_left _ hk
 | succ n=>rw[g.same _ (Nat.succ_pos _) hn];exact hk
theorem Grow.up (g:Grow ts x) {k:Nat} (h0:0 < k) (hk:k < ts.length):upA (upN x) (k:Int)=upA (upN ts) (k:Int):=by
 obtain⟨n,y,hy,hky⟩:=zUP g.may h0 hk;obtain⟨z,hz,hkz⟩:=g.mem hy hky;rw[zS0 g.mayx hz hkz,zS0 g.may hy hky]
theorem zSa {ts:List Nd} (h:zO3 ts=true):upA (upN ts) 0= -1:=by
 have hE:=(zKu h).1;have h0:=(zKu h).2.1;have:∀m,m≤ts.length→(zFU ts m)[0]? =some (-1):=by
  intro m
  induction m with
  | zero=>
   intro _;unfold zFU;rw[List.getElem?_set,if_pos rfl,if_pos (by simpa using h0)]
  | succ m ih=>
   intro hm;have hy:=yAB (show m < ts.length by omega);rw[zFU,show(0:Nat)=0 from rfl,zTX (k:=0) _ _ (fun j hj=>by rw[zAv hy]at hj;have:=(hE.fwd m _ hy j hj).1;omega) (by rw[zHz];exact h0),if_neg,ih (by omega)];intro hk;rw[zAv hy]at hk;have:=(hE.fwd m _ hy _ hk).1;omega
 unfold upA upN;rw[yAG,show(0:Int).toNat=0 from rfl,this _ (yAC _)];rfl
theorem Grow.upz (g:Grow ts x) {k:Nat} (hk:k < ts.length):upA (upN x) (k:Int)=upA (upN ts) (k:Int):=by
 rcases Nat.eq_zero_or_pos k with h | h
 · subst h;exact(zSa g.mayx).trans (zSa g.may).symm
 · exact g.up h hk
theorem Grow.aro (g:Grow ts x):∀(f k:Nat),k < ts.length→zHy x (upN x) f (k:Int)=zHy ts (upN ts) f (k:Int):=by
 intro f
 induction f with
 | zero=>intro k _;rfl
 | succ f ih=>
  intro k hk;have hu:=(zRY (zKu g.may).1).get (n:=k) (by rw[zPJ];exact hk);unfold zHy;rw[g.upz hk]
  by_cases h1:upA (upN ts) (k:Int) < 0
  · rw[if_pos h1,if_pos h1]
  · obtain⟨m,hm⟩:∃m:Nat,upA (upN ts) (k:Int)=(m:Int):=⟨(upA (upN ts) (k:Int)).toNat,by omega⟩;rw[hm,g.knk (j:=m) (by omega),ih m (by omega)]
theorem Grow.arn (g:Grow ts x) {k:Nat} (hk:k < ts.length):arN x (upN x) (k:Int)=arN ts (upN ts) (k:Int):=g.aro _ k hk
theorem zUW {ts:List Nd} {up:List Int} (hu:UpOk up):∀(f k:Nat),k < up.length→∀n∈(zHy ts up f (k:Int)).1,∃m:Nat,n=(m:Int)∧m < k:=by
 intro f
 induction f with
 | zero=>intro k _ n hn;cases hn
 | succ f ih=>
  intro k hk n hn;have h1:=hu.get hk;unfold zHy at hn;split at hn
  · cases hn
  · rename_i h2
    split at hn
    · cases hn
    · obtain⟨m,hm⟩:∃m:Nat,upA up (k:Int)=(m:Int):=⟨(upA up (k:Int)).toNat,by omega⟩;rw[hm]at hn h1;rcases List.mem_cons.1 hn with h3 | h3
      · exact⟨m,h3,by omega⟩
      · obtain⟨q,h4,h5⟩:=ih m (by omega) n h3;exact⟨q,h4,by omega⟩
theorem Grow.lab (g:Grow ts x):∀(f h n:Nat),0 < n→n < ts.length→ts.length≤f+n→ts.length≤h+n→zMh x f (n:Int)=zMh ts h (n:Int):=by
 intro f
 induction f with
 | zero=>intro h n _ h1 h2;omega
 | succ f ih=>
  intro h n h0 h1 h2 h3;obtain⟨h,rfl⟩:∃i,h=i+1:=⟨h - 1,by omega⟩;unfold zMh;rw[g.knk h1,g.same n h0 h1]
  by_cases h18:knK ts (n:Int)=18
  · rw[if_pos h18,if_pos h18];have hx:=yAB h1;have hne:(atN ts (n:Int)).kids≠[]:=by
     unfold knK at h18;rw[zAv hx]at h18⊢;exact(zKu g.may).1.first _ (List.getElem_mem h1) (.inr h18)
    obtain⟨k,hkk⟩:∃k,zKC (atN ts (n:Int))=k:=⟨_,rfl⟩;have hm:k∈(atN ts (n:Int)).kids:=by
     rw[←hkk];unfold zKC;cases hq:(atN ts (n:Int)).kids with
     | nil=>exact absurd hq hne
     | cons a r=>exact List.mem_cons_self
    obtain⟨m,rfl,h4,h5⟩:=g.kid h1 hm;rw[hkk];exact ih h m (by omega) h5 (by omega) (by omega)
  · rw[if_neg h18,if_neg h18]
theorem Grow.jump (g:Grow ts x) (y:Nd):∀(l:List Int),(∀n∈l,∃m:Nat,n=(m:Int)∧m < ts.length)→juN x y l=juN ts y l:=by
 intro l
 induction l with
 | nil=>intro _;rfl
 | cons n r ih=>
  intro hl;obtain⟨m,rfl,hm⟩:=hl n List.mem_cons_self;have hr:=ih fun a ha=>hl a (List.mem_cons_of_mem _ ha);unfold juN;rw[g.knk hm,hr];rcases Nat.eq_zero_or_pos m with h | h
  · subst h;have h1:=(zKu g.may).2.2.2;rw[show((0:Nat):Int)=0 from rfl,h1];simp
  · rw[g.nmn h hm];have:laN x (m:Int)=laN ts (m:Int):=g.lab _ _ m h hm (by have:=g.len;omega) (by omega);rw[this]
theorem Grow.par_of (g:Grow ts x) {j:Nat} (h0:0 < j) (hj:j < ts.length):∃m:Nat,upA (upN ts) (j:Int)=(m:Int)∧m < j:=by
 have h:=(zRY (zKu g.may).1).get3 (n:=j) (by rw[zPJ];exact hj);exact⟨(upA (upN ts) (j:Int)).toNat,by omega,by omega⟩
theorem zSb {ts:List Nd} (h:knK ts 0=1) (n:Int):hiN ts n 0=false:=by
 unfold hiN;rw[h,if_pos];exact .inr (.inr ⟨rfl,by decide⟩)
theorem Grow.hid (g:Grow ts x) {j:Nat} (h0:0 < j) (hj:j < ts.length):hiN x (j:Int) (upA (upN x) (j:Int))=hiN ts (j:Int) (upA (upN ts) (j:Int)):=by
 obtain⟨m,hm,hmj⟩:=g.par_of h0 hj;rw[g.up h0 hj,hm];rcases Nat.eq_zero_or_pos m with h | h
 · subst h;exact(zSb g.kind _).trans (zSb (zKu g.may).2.2.2 _).symm
 · unfold hiN;rw[g.knk hj,g.knk (show m < ts.length by omega),g.names h0 hj,g.names h (show m < ts.length by omega)]
theorem zTE {α:Type} {f g:α→Bool}:∀{l:List α},(∀a∈l,f a=g a)→l.any f=l.any g:=by
 intro l
 induction l with
 | nil=>intro _;rfl
 | cons a r ih=>intro h;rw[List.any_cons,List.any_cons,h a List.mem_cons_self,ih fun b hb=>h b (List.mem_cons_of_mem _ hb)]
theorem Grow.wr (g:Grow ts x) {j:Nat} (h0:0 < j) (hj:j < ts.length):wrN x (upN x) (j:Int)=wrN ts (upN ts) (j:Int):=by
 obtain⟨m,hm,hmj⟩:=g.par_of h0 hj;have hin:=zUW (ts:=ts) (zRY (zKu g.may).1) ((j:Int).toNat+1) j (by rw[zPJ];exact hj);have hin:∀n∈(arN ts (upN ts) (j:Int)).1,∃m:Nat,n=(m:Int)∧m < ts.length:=fun n hn=>by
  obtain⟨q,h1,h2⟩:=hin n hn;exact⟨q,h1,by omega⟩
 have e1:(arN ts (upN ts) (j:Int)).1.any (fun k=>knK x k==18&&decide (nmN x k=nmN x (j:Int)))=(arN ts (upN ts) (j:Int)).1.any (fun k=>knK ts k==18&&decide (nmN ts k=nmN ts (j:Int))):=zTE fun k hk=>by
  obtain⟨q,rfl,h2⟩:=hin k hk;rw[g.knk h2,g.nmn h0 hj];rcases Nat.eq_zero_or_pos q with h | h
  · subst h;rw[show((0:Nat):Int)=0 from rfl,(zKu g.may).2.2.2];rfl
  · rw[g.nmn h h2]
 have e2:=g.jump (atN ts (j:Int)) _ hin;have e3:=g.hid h0 hj;unfold wrN;rw[g.names h0 hj,e3,g.knk hj,g.up h0 hj,hm,g.knk (show m < ts.length by omega),g.same j h0 hj,g.arn hj,e1,e2]
theorem zSp {ts:List Nd} (h:zO3 ts=true):wrN ts (upN ts) 0=twN (zAj ts 0):=by
 have hk:=(zKu h).2.2.2;have hu:=zSa h;have e:hiN ts 0 (-1)=false:=by unfold hiN;rw[if_pos (.inl (by decide))]
 unfold wrN;rw[hu,e,hk,Bool.or_false];cases twN (zAj ts 0)<;>rfl
theorem Grow.rootn (g:Grow ts x):zAj x 0=zAj ts 0++zGz x (ts.length:Int):=by
 unfold zAj;rw[g.kind,(zKu g.may).2.2.2,if_pos (.inl rfl),if_pos (.inl rfl),g.kids,List.flatMap_append];congr 1
 · exact zSJ fun k hk=>by
    obtain⟨m,rfl,h1,h2⟩:=g.kid (j:=0) (zKu g.may).2.1 hk;exact g.blk (by omega) h2
 · simp
theorem Grow.lastup (g:Grow ts x) (hl:ts.length < x.length):upA (upN x) (ts.length:Int)=0:=by
 have hx:=yAB (show 0 < x.length by omega);refine zS0 g.mayx hx ?_;have h:(atN x ((0:Nat):Int)).kids=(atN ts 0).kids++[(ts.length:Int)]:=g.kids;rw[zAv hx]at h;rw[h];exact List.mem_append_right _ List.mem_cons_self
theorem zS2 {ts:List Nd} {up:List Int} {m:Nat} (hw:wrN ts up (m:Int)=true):∀(f n:Nat),n≤m→m < n+f→(∀j,n≤j→j < m→wrN ts up (j:Int)=false)→zQn ts up f n=(m,5):=by
 intro f
 induction f with
 | zero=>intro n h1 h2;omega
 | succ f ih=>
  intro n h1 h2 h3;unfold zQn;rcases Nat.eq_or_lt_of_le h1 with h | h
  · subst h;rw[if_pos hw]
  · rw[if_neg (by rw[h3 n (yAC _) h];decide)];exact ih (n+1) h (by omega) fun j h4 h5=>h3 j (by omega) h5
theorem zUQ {s:List UInt8}:∀(l a:List (List UInt8)),s∈a++l→zRQ a (l++[s])=true:=by
 intro l
 induction l with
 | nil=>intro a h;rw[List.append_nil]at h;unfold zRQ;simp[h]
 | cons t r ih=>
  intro a h;rw[List.cons_append];unfold zRQ;rw[ih (a++[t]) (by rw[List.append_assoc];exact h),Bool.or_true]
theorem zTY {ts:List Nd} (h:chN ts=(0,0)):∀j:Nat,j < ts.length→wrN ts (upN ts) (j:Int)=false:=by
 have hm:=(zSO h).1;unfold chN at h;rw[if_pos hm]at h;exact fun j hj=>zT7 ts.length 0 h j (yAE _) (by omega)
theorem zSq (g:Grow ts x) (h:chN ts=(0,0)) {k:Int} (hk:k=12∨k=13∨k=14) (hl:ts.length < x.length) (hn:atN x (ts.length:Int)={zBg with kind:=k}):chN x=(ts.length,5):=by
 have hr:=zTY h;have hkn:knK x (ts.length:Int)=k:=by unfold knK;rw[hn]
 have hu:=g.lastup hl;have hb:zGz x (ts.length:Int)=[]:=by unfold zGz;rw[hkn];rcases hk with rfl | rfl | rfl<;>rfl
 have ha:arN x (upN x) (ts.length:Int)=([0], -1):=by
  have h0:=(zKu g.may).2.1;unfold arN;obtain⟨i,hi⟩:∃i,ts.length=i+1:=⟨ts.length - 1,by omega⟩;rw[Int.toNat_natCast];unfold zHy;rw[hu,g.kind,if_neg (by decide),if_neg (by decide),hi];unfold zHy;rw[zSa g.mayx,if_pos (by decide)]
 have hnm:zAj x (ts.length:Int)=[]:=by
  unfold zAj;rw[hkn];rcases hk with rfl | rfl | rfl<;>rfl
 have hw:wrN x (upN x) (ts.length:Int)=true:=by
  have e:hiN x (ts.length:Int) 0=false:=zSb g.kind _;unfold wrN;rw[hu,hkn,hnm,e,ha,hn];have hju:juN x {zBg with kind:=k} [0]=false:=by
   unfold juN;rw[g.kind];simp[juN,zQm,zBg]
  rcases hk with rfl | rfl | rfl
  · simp[twN,zRQ,hju]
  · simp[twN,zRQ,hju]
  · simp[twN,zRQ]
 unfold chN;rw[if_pos g.mayx];refine zS2 hw _ 0 (yAE _) (by omega) fun j _ hj=>?_;rcases Nat.eq_zero_or_pos j with h1 | h1
 · subst h1;rw[show((0:Nat):Int)=0 from rfl,zSp g.mayx,g.rootn,hb,List.append_nil,←zSp g.may];exact hr 0 hj
 · rw[g.wr h1 hj];exact hr j hj
theorem zSi (g:Grow ts x) (hl:ts.length < x.length) {s:List UInt8} (hs:s∈zAj ts 0) (hb:zGz x (ts.length:Int)=[s]):chN x=(0,5):=by
 unfold chN;rw[if_pos g.mayx];refine zS2 (m:=0) ?_ _ 0 (yAE _) (by omega) fun j _ hj=>absurd hj (Nat.not_lt_zero _);rw[show((0:Nat):Int)=0 from rfl,zSp g.mayx,g.rootn,hb];exact zUQ _ [] (by simpa using hs)
end
theorem zUR (a b:List Tr):sizes (a++b)=sizes a+sizes b:=by
 induction a with
 | nil=>rw[zJ];simp
 | cons t r ih=>rw[List.cons_append,zI,zI,ih];omega
theorem zUC (a b:List Tr) (n:Nat):zAM n (a++b)=zAM n a++zAM (n+sizes a) b:=by
 induction a generalizing n with
 | nil=>rw[zJ];simp[zAM]
 | cons t r ih=>
  show(n:Int)::zAM (n+t.size) (r++b)=(n:Int)::zAM (n+t.size) r++zAM (n+sizes (t::r)) b;rw[ih,zI,←Nat.add_assoc];rfl
theorem zUX (a b:List Tr) (n:Nat):flatL n (a++b)=flatL n a++flatL (n+sizes a) b:=by
 induction a generalizing n with
 | nil=>rw[zAb,zJ];simp
 | cons t r ih=>rw[List.cons_append,zAU,zAU,ih,zI,←Nat.add_assoc,List.append_assoc]
theorem zUb (a b:List Tr):depL (a++b)=max (depL a) (depL b):=by
 induction a with
 | nil=>rw[zHw];simp
 | cons t r ih=>rw[List.cons_append,zKA,zKA,ih];omega
def zUH (t e:Tr):Tr:=.mk t.nd (t.subs++[e])
def zSD (ts E:List Nd):List Nd:=match ts with
 | []=>[]
 | x::r=>({x with kids:=x.kids++[(ts.length:Int)]}::r)++E
theorem zTZ (t e:Tr):zSD (flatT 0 t) (flatT t.size e)=flatT 0 (zUH t e):=by
 cases t with
 | mk x l=>
  have hl:=flatT_len 0 (.mk x l);rw[zA2]at hl⊢;unfold zUH;rw[zA2,zUX,zUC,zAU,zAb];unfold zSD;simp only[Tr.nd,Tr.subs];rw[hl,zb];simp[zAM]
theorem zUc:∀(ks:List Int) (k:Int),zSe [] 1 (ks++[k])=(zSe [] 1 ks&&zF1 k):=by
 intro ks
 induction ks with
 | nil=>intro k;simp[zSe,zD6]
 | cons a r ih=>
  intro k;show(zD6 1 a&&zSe [] 1 (r++[k]))=(zD6 1 a&&zSe [] 1 r&&zF1 k);rw[ih,Bool.and_assoc]
theorem zTb {t e:Tr} (h:Good t) (hs:t.size+e.size≤4096) (hg:goodT e=true) (hk:zF1 e.nd.kind=true) (hd:depT e≤47):Good (zUH t e):=by
 cases t with
 | mk x l=>
  have hx:x.kind=1:=h.kind;have hgt:=h.good;have hdt:=h.nest;rw[zb]at hs;rw[zPH]at hdt;rw[zSF]at hgt;simp only[Bool.and_eq_true]at hgt;refine⟨?_,h.kind,?_,?_⟩
  · unfold zUH;rw[zb,Tr.subs,zUR,zI,zJ];omega
  · unfold zUH;rw[zSF,Tr.nd,Tr.subs,zTT,hgt.2,zSC,zSB,hg,hgt.1.1];have hkk:=hgt.1.2;unfold zSN at hkk⊢;rw[hx]at hkk⊢;have e1:∀n,zAA 1 n=([],1):=fun n=>rfl;rw[e1]at hkk⊢;have ek:zSE (l++[e])=zSE l++[e.nd.kind]:=by unfold zSE;rw[List.map_append];rfl
    rw[ek,zUc,hk];simp only[Bool.and_eq_true]at hkk;rw[hkk.1.2];rfl
  · unfold zUH;rw[zPH,Tr.subs,zUb,zKA,zHw];omega
theorem zTc {ts:List Nd} {e:Tr} (h:zO3 ts=true) (hs:ts.length+e.size≤4096) (hg:goodT e=true) (hk:zF1 e.nd.kind=true) (hd:depT e≤47):Grow ts (zSD ts (flatT ts.length e)):=by
 obtain⟨t,rfl,hgt⟩:=zSz.1 h;have hl:=flatT_len 0 t;have hx:zO3 (zSD (flatT 0 t) (flatT (flatT 0 t).length e))=true:=by
  rw[hl,zTZ];exact zSz.2 ⟨_,rfl,zTb hgt (by omega) hg hk hd⟩
 cases hq:flatT 0 t with
 | nil=>rw[hq]at h;cases h
 | cons y r=>
  rw[hq]at h hx;refine⟨h,hx,by unfold zSD;simp,fun j h0 hj=>?_,?_,?_⟩
  · obtain⟨j,rfl⟩:∃i,j=i+1:=⟨j - 1,by omega⟩;unfold atN zSD;rw[Int.toNat_natCast,yAG,yAG,List.getElem?_append_left (by simpa using hj)];simp
  · have:=(zKu h).2.2.2;unfold knK atN zSD at *;simpa using this
  · unfold atN zSD;simp
theorem zSr {ts E:List Nd} {y:Nd} (h:0 < ts.length) {i:Nat} (hy:E[i]? =some y):atN (zSD ts E) ((ts.length+i:Nat):Int)=y:=by
 cases ts with
 | nil=>exact absurd h (Nat.lt_irrefl _)
 | cons x r=>
  unfold atN zSD;rw[Int.toNat_natCast,yAG,List.getElem?_append_right (by simp)];simp[hy]
theorem zTw {ts:List Nd} (h:zO3 ts=true) {x:Nd} (hx:x∈ts) (h5:x.kind=5∨x.kind=6):∀k∈x.kids,knK ts k=7:=by
 rcases h5 with h5 | h5
 · obtain⟨t,ht⟩:=zMc h;have h1:=(zMf ht.each hx).2;unfold zCE at h1;rw[h5,show zAA 5 x.kids.length=([5],5)from rfl]at h1;simp only[Bool.and_eq_true]at h1;have h2:=h1.1.2;intro k hk;cases hq:x.kids with
   | nil=>rw[hq]at hk;cases hk
   | cons j r=>
    rw[hq]at h2 hk;unfold zBT at h2;rw[Bool.and_eq_true]at h2;rcases List.mem_cons.1 hk with rfl | h3
    · have:=h2.1;unfold zD6 at this;simpa [knK]using this
    · exact zS1 r h2.2 k h3
 · exact zSS h hx h5
theorem zSP {x:Nd} (h:zh x=true) (hk:x.kind=7∨x.kind=19):zCl x.name=true∧x.name.length≤4096:=by
 by_cases hl:4096 < x.name.length
 · rw[zh,if_pos hl]at h;cases h
 · refine⟨?_,by omega⟩;rw[zh,if_neg hl]at h;rcases hk with hk | hk
   all_goals
    rw[hk]at h;split at h
    · cases h
    split at h
    · cases h
    split at h
    · cases h
    rw[if_neg (by decide),if_neg (by decide),if_neg (by decide),zF2,if_pos (by decide)]at h;exact h
theorem zSs {s:List UInt8} (h:zCl s=true) (hl:s.length≤4096):zh {zBg with kind:=7,name:=s}=true:=by
 have:¬4096 < s.length:=by omega
 simp[zh,zBg,zF2,h,this]
theorem zSj {ts:List Nd} (h:zO3 ts=true) {s:List UInt8} (hs:s∈zAj ts 0):zCl s=true∧s.length≤4096:=by
 have hk:=(zKu h).2.2.2;have h0:=(zKu h).2.1;have hf:=(zKu h).1.fwd;obtain⟨t,ht⟩:=zMc h;unfold zAj at hs;rw[if_pos (.inl hk)]at hs;obtain⟨k,hk1,hk2⟩:=List.mem_flatMap.1 hs;have hx:=yAB h0;rw[show(0:Int)=((0:Nat):Int)from rfl,zAv hx]at hk1;have h1:=hf 0 _ hx k hk1;obtain⟨m,rfl⟩:∃m:Nat,k=(m:Int):=⟨k.toNat,by omega⟩;have hy:=yAB (show m < ts.length by omega);unfold zGz at hk2;split at hk2
 · rename_i hd
   unfold zEB at hk2;rw[zAv hy]at hk2;obtain⟨j,hj1,hj2⟩:=List.mem_map.1 hk2;have h57:ts[m].kind=5∨ts[m].kind=6:=by
    unfold zMg knK at hd;rw[zAv hy]at hd;simpa using hd
   have h7:=zTw h (List.getElem_mem _) h57 j hj1;have h2:=hf m _ hy j hj1;obtain⟨i,rfl⟩:∃i:Nat,j=(i:Int):=⟨j.toNat,by omega⟩;have hz:=yAB (show i < ts.length by omega);unfold nmN at hj2;unfold knK at h7;rw[zAv hz]at hj2 h7;rw[←hj2];exact zSP (zMf ht.each (List.getElem_mem _)).1 (.inl h7)
 · split at hk2
   · rename_i h19
     unfold nmN at hk2;unfold knK at h19;rw[zAv hy]at hk2 h19;rw[List.mem_singleton.1 hk2];exact zSP (zMf ht.each (List.getElem_mem _)).1 (.inr h19)
   · cases hk2
def zUI (k:Int):Tr:=.mk {zBg with kind:=k} []
def zUD (s:List UInt8):Tr:=.mk {zBg with kind:=5} [.mk {zBg with kind:=7,name:=s} []]
def zT8 (k:Int):Nd:={zBg with kind:=k}
def zS3 (n:Nat):Nd:={zBg with kind:=5,kids:=[((n+1:Nat):Int)]}
def zTF (s:List UInt8):Nd:={zBg with kind:=7,name:=s}
theorem zTx (n:Nat) (k:Int):flatT n (zUI k)=[zT8 k]:=by unfold zUI;rw[zA2,zAb];rfl
theorem zTy (n:Nat) (s:List UInt8):flatT n (zUD s)=[zS3 n,zTF s]:=by
 unfold zUD;rw[zA2,zAU,zAb,zA2,zAb];rfl
theorem zSc {ts E:List Nd} {x:Nd} {n:Nat} (hn:ts.length=n) (hx:ts[0]? =some x):zSD ts E=ts.set 0 {x with kids:=x.kids++[(n:Int)]}++E:=by
 cases ts with
 | nil=>cases hx
 | cons y r=>
  obtain rfl:y=x:=Option.some.inj hx;subst hn;rfl
theorem zS4 {ts E:List Nd} (h:0 < ts.length):(zSD ts E).length=ts.length+E.length:=by
 cases ts with
 | nil=>exact absurd h (Nat.lt_irrefl _)
 | cons y r=>unfold zSD;simp;omega
theorem zUE {ts:List Nd} (h:chN ts=(0,0)) (hs:ts.length≤4093) {k:Int} (hk:k=12∨k=13∨k=14):chN (zSD ts [zT8 k])=(ts.length,5):=by
 have hm:=(zSO h).1;have h0:=(zKu hm).2.1;have g:=zTc (e:=zUI k) hm (by unfold zUI;rw[zb,zJ];omega) (by rcases hk with rfl | rfl | rfl<;>(unfold zUI;rw[zSF,zSB];decide)) (by rcases hk with rfl | rfl | rfl<;>rfl) (by unfold zUI;rw[zPH,zHw];omega);rw[zTx]at g;exact zSq g h hk (by rw[zS4 h0];simp) (zSr (i:=0) h0 rfl)
theorem zTz {ts:List Nd} (h:chN ts=(0,0)) (hs:ts.length≤4093) {s:List UInt8} (hn:s∈zAj ts 0):chN (zSD ts [zS3 ts.length,zTF s])=(0,5):=by
 have hm:=(zSO h).1;have h0:=(zKu hm).2.1;obtain⟨n1,n2⟩:=zSj hm hn;have hk5:zSN 5 [.mk {zBg with kind:=7,name:=s} []]=true:=rfl;have hk7:zSN 7 []=true:=by decide
 have hg:goodT (zUD s)=true:=by
  unfold zUD;rw[zSF,zSC,zSB,zSF,zSB,zSs n1 n2];show(zh {zBg with kind:=5}&&zSN 5 _&&(true&&zSN 7 []&&true&&true))=true;rw[hk5,hk7];decide
 have g:=zTc (e:=zUD s) hm (by unfold zUD;rw[zb,zI,zJ,zb,zJ];omega) hg rfl (by unfold zUD;rw[zPH,zKA,zHw,zPH,zHw];decide);rw[zTy]at g;have e1:atN (zSD ts [zS3 ts.length,zTF s]) (ts.length:Int)=zS3 ts.length:=zSr (i:=0) h0 rfl;have e2:atN (zSD ts [zS3 ts.length,zTF s]) ((ts.length+1:Nat):Int)=zTF s:=zSr (i:=1) h0 rfl;refine zSi g (by rw[zS4 h0];simp) hn ?_;unfold zGz knK;rw[e1,if_pos (show zMg (zS3 ts.length).kind=true from rfl)];unfold zEB nmN;rw[e1];show [(atN _ ((ts.length+1:Nat):Int)).name]=[s];rw[e2];rfl
theorem zTd {ts E:List Nd} {x:Nd} (hx:ts[0]? =some x):(zAI (zSD ts E)).length=(zAI ts).length+1+(zAI E).length:=by
 rw[zSc rfl hx];cases ts with
 | nil=>cases hx
 | cons y r=>
  obtain rfl:y=x:=Option.some.inj hx;rw[List.set_cons_zero,List.cons_append,zCJ,zCJ,zB3];simp;omega
theorem zUS {A:Option Addr} {c B n j:Nat} {ts:List Nd} {w:World} (hN:NdsR w B A n ts) (hB:B≤w.heap.size) (hc:n≤c) (hm:zO3 ts=true) (hj:j < n):
 Calls prog 28 #[.agg #[.slice A n c],.int .i64 (j:Int)] w fun e w'=>∃v,e=.returned v∧MadeS w w' v (zAj ts (j:Int)):=by
 obtain⟨hE,h0,hk,_⟩:=zKu hm;obtain⟨W,hW⟩:∃W,w.alloc (.cells #[.slice A n c] 27)=W:=⟨_,rfl⟩;have bW:Below w.heap.size w W:=by rw[←hW];exact(Below.refl _ _).alloc (yAC _) _
 have sW:W.heap.size=w.heap.size+1:=by rw[←hW];simp
 obtain⟨X,hX⟩:∃X,w.heap.size=X:=⟨_,rfl⟩;have a0:W.cell? ⟨X,0,none⟩=some (.slice A n c):=by rw[←hW,←hX,World.cell?_alloc_at _ _ _ _ rfl];rfl
 have hXW:X < W.heap.size:=by omega
 have hBW:B≤W.heap.size:=by omega
 have HA0:=zA a0;have HNW:=zA (hN.below (bW.mono hB));have HBW:=zA bW;have CM:=zA (zKs (w:=W) HNW.out hBW hc (by omega) hm);have HE:=zA hE;have g0:¬((j:Int) < 0):=by omega
 have g1:¬((n:Int)≤(j:Int)):=by omega
 have g2:decide ((n:Int)≤(j:Int))=false:=yAI g1;have g3:decide ((j:Int) < 0)=false:=yAI g0;clear hN hB bW sW hm hE hk h0;go_enter func28,ntmps28;go_upto_region 1 with(fail);clear hW hX;go_wp2_with fail;refine CM.out.mono ?_;rintro e1 w1 ⟨rfl,hb1⟩;have a1:=(hb1.cell (p:=⟨X,0,none⟩) hXW).trans HA0.out;have CN:=zA (zFA (c:=c) (w:=w1) (HNW.out.below (hb1.mono hBW)) (yAD hBW hb1.size) HE.out hj);have HB1:=zA (HBW.out.trans (hb1.mono HBW.out.size));clear hb1 a0 HA0 CM HNW HBW;go_wp2_with fail;refine CN.out.mono ?_;rintro e2 w2 ⟨v,rfl,hv⟩;have HV:=zA hv;clear hv CN;go_wp2_with fail;go_ret;exact⟨v,rfl,HV.out.back HB1.out⟩
theorem zSA {w:World} {base base' n size:Nat} {e:TypeId} {v:Value} {xs:List Value} (h:w.ownsRow base e size v n xs) (hb:base'≤base):w.ownsRow base' e size v n xs:=by
 refine⟨h.1,?_⟩;rcases h.2 with h1 | ⟨g,cap,cur,h1,h2,h3⟩
 · exact .inl h1
 · exact .inr ⟨g,cap,cur,h1,yAD hb h2,h3⟩
theorem zR9 {w w':World} {b1 b2:Nat} {e1 e2:TypeId} {s1 s2 n1 n2:Nat} {v1 v2:Value} {xs ys:List Value} (h1:w.ownsRow b1 e1 s1 v1 n1 xs) (h2:w.ownsRow b2 e2 s2 v2 n2 ys) (hne:e1≠e2) (hg:w.grownBy w' v2.ownBlock):w'.ownsRow b1 e1 s1 v1 n1 xs:=by
 refine h1.kept hg ?_;rcases h1.2 with⟨rfl,_⟩ | ⟨g,cap,cur,rfl,_,hgg,_⟩
 · exact .inl rfl
 · right;rcases h2.2 with⟨rfl,_⟩ | ⟨g2,cap2,cur2,rfl,_,hgg2,_⟩
   · simp[Value.ownBlock]
   · intro e;simp only[Value.ownBlock,Option.some.injEq]at e;subst e;rw[hgg]at hgg2;injection hgg2 with hgg2;injection hgg2 with _ h4 _;exact hne h4
structure NdP (x:Nd):Prop where
 limb:∀y∈x.mag,y < 4294967296
 kin:∀y∈x.kids, -9223372036854775808≤y∧y≤9223372036854775807
 kb: -9223372036854775808≤x.kind∧x.kind≤9223372036854775807
 nkb: -9223372036854775808≤x.nk∧x.nk≤9223372036854775807
 nnb: -9223372036854775808≤x.nn∧x.nn≤9223372036854775807
 nm:x.name.length≤9223372036854775807
theorem NdR.p {w:World} {B:Nat} {x:Nd} {s:NdSl} (h:NdR w B x s):NdP x:=⟨h.limb,h.kin,h.kb,h.nkb,h.nnb,h.nm⟩
theorem NdsR.p {w:World} {B n:Nat} {A:Option Addr} {ts:List Nd} (h:NdsR w B A n ts):∀x∈ts,NdP x:=by
 intro x hx;obtain⟨i,hi,rfl⟩:=List.getElem_of_mem hx;obtain⟨b,o,_,_,hat⟩:=h.2 (by rw[←h.1];omega);obtain⟨s,_,h2⟩:=hat i hi;exact h2.p
structure NdO (w:World) (base:Nat) (x:Nd) (s:NdSl):Prop where
 str:w.ownsRow base 24 1 (.slice s.As x.str.length s.cs) x.str.length (zAD x.str)
 mag:w.ownsRow base 87 1 (.slice s.Am x.mag.length s.cm) x.mag.length (zRX x.mag)
 kids:w.ownsRow base 3 1 (.slice s.Ak x.kids.length s.ck) x.kids.length (zBC x.kids)
theorem zSd {w:World} {base n c:Nat} {e:TypeId} {A:Option Addr} {xs:List Value} (h:w.ownsRow base e 1 (.slice A n c) n xs):n≤c∧c≤maxLen:=by
 obtain⟨A',c',hv,h1,h2⟩:=zR h;injection hv with _ _ hc;subst hc;exact⟨h1,h2⟩
theorem NdO.r {w:World} {base:Nat} {x:Nd} {s:NdSl} (h:NdO w base x s) (hp:NdP x):NdR w w.heap.size x s:=
 ⟨Reads.of_own h.str,Reads.of_own h.mag,Reads.of_own h.kids,zSd h.str,zSd h.mag,zSd h.kids,hp.limb,hp.kin,hp.kb,hp.nkb,hp.nnb,hp.nm⟩
theorem NdO.map {w w':World} {base base':Nat} {x:Nd} {s:NdSl} (hk:∀(e:TypeId) (v:Value) (n:Nat) (xs:List Value),(e=24∨e=87∨e=3)→w.ownsRow base e 1 v n xs→w'.ownsRow base' e 1 v n xs) (h:NdO w base x s):NdO w' base' x s:=
 ⟨hk _ _ _ _ (.inl rfl) h.str,hk _ _ _ _ (.inr (.inl rfl)) h.mag,hk _ _ _ _ (.inr (.inr rfl)) h.kids⟩
def NdSl.kb (s:NdSl):Option Nat:=s.Ak.map (·.block)
theorem zST (s:NdSl) (n:Nat):(Value.slice s.Ak n s.ck).ownBlock=s.kb:=by
 unfold NdSl.kb Value.ownBlock;cases s.Ak<;>rfl
def zR7:List Nd→List NdSl→List Value
 | x::r,s::q=>ndV x s++zR7 r q
 | _,_=>[]
theorem zSK (x:Nd) (s:NdSl):(ndV x s).length=8:=rfl
theorem zSL {j:Nat} (hj:j < 8):∀{ts:List Nd} {ss:List NdSl} {i:Nat} {x:Nd} {s:NdSl},ts[i]? =some x→ss[i]? =some s→(zR7 ts ss)[i*8+j]? =(ndV x s)[j]?
 | y::r,t::q,0,x,s,h1,h2=>by
  obtain rfl:y=x:=Option.some.inj h1;obtain rfl:t=s:=Option.some.inj h2;show(ndV y t++zR7 r q)[0*8+j]? =_;rw[List.getElem?_append_left (by rw[zSK];omega),Nat.zero_mul,Nat.zero_add]
 | y::r,t::q,i+1,x,s,h1,h2=>by
  show(ndV y t++zR7 r q)[(i+1)*8+j]? =_;rw[List.getElem?_append_right (by rw[zSK];omega),zSK,show(i+1)*8+j - 8=i*8+j by omega];exact zSL hj (by simpa using h1) (by simpa using h2)
 | [],_,_,_,_,h1,_=>by cases h1
 | _::_,[],_,_,_,_,h2=>by cases h2
theorem zSU {j:Nat} {u:Value} (hj:j < 8) {x x':Nd} {s s':NdSl} (hx:ndV x' s'=(ndV x s).set j u):∀{ts:List Nd} {ss:List NdSl} {i:Nat},ts[i]? =some x→ss[i]? =some s→(zR7 ts ss).set (i*8+j) u=zR7 (ts.set i x') (ss.set i s')
 | y::r,t::q,0,h1,h2=>by
  obtain rfl:y=x:=Option.some.inj h1;obtain rfl:t=s:=Option.some.inj h2;show(ndV y t++zR7 r q).set (0*8+j) u=ndV x' s'++zR7 r q;rw[List.set_append_left _ _ (by rw[zSK];omega),Nat.zero_mul,Nat.zero_add,hx]
 | y::r,t::q,i+1,h1,h2=>by
  show(ndV y t++zR7 r q).set ((i+1)*8+j) u=ndV y t++zR7 (r.set i x') (q.set i s');rw[List.set_append_right _ _ (by rw[zSK];omega),zSK,show(i+1)*8+j - 8=i*8+j by omega,zSU hj hx (by simpa using h1) (by simpa using h2)]
 | [],_,_,h1,_=>by cases h1
 | _::_,[],_,_,h2=>by cases h2
structure TrO (w:World) (base:Nat) (ts:List Nd) (ss:List NdSl) (v:Value):Prop where
 len:ss.length=ts.length
 own:w.ownsRow base 48 8 v ts.length (zR7 ts ss)
 part:∀(i:Nat) (x:Nd) (s:NdSl),ts[i]? =some x→ss[i]? =some s→NdO w base x s
 apart:∀(i j:Nat) (s r:NdSl),i < j→ss[i]? =some s→ss[j]? =some r→s.kb=none∨s.kb≠r.kb
theorem TrO.nil (w:World) (base:Nat):TrO w base [] [] (.slice none 0 0):=⟨rfl,yAJ _ _ _ _,fun _ _ _ h=>(by cases h),fun _ _ _ _ _ h=>(by cases h)⟩
theorem TrO.map {w w':World} {base base':Nat} {ts:List Nd} {ss:List NdSl} {v:Value} (hk:∀(e:TypeId) (n':Nat) (v:Value) (n:Nat) (xs:List Value),w.ownsRow base e n' v n xs→w'.ownsRow base' e n' v n xs) (h:TrO w base ts ss v):TrO w' base' ts ss v:=
 ⟨h.len,hk _ _ _ _ _ h.own,fun i x s h1 h2=>(h.part i x s h1 h2).map fun e v n xs _ ho=>hk e 1 v n xs ho,h.apart⟩
theorem TrO.below {w w':World} {base:Nat} {ts:List Nd} {ss:List NdSl} {v:Value} (h:TrO w base ts ss v) (hb:Below w.heap.size w w'):TrO w' base ts ss v:=h.map fun _ _ _ _ _ ho=>zCH ho hb
theorem TrO.less {w:World} {base base':Nat} {ts:List Nd} {ss:List NdSl} {v:Value} (h:TrO w base ts ss v) (hb:base'≤base):TrO w base' ts ss v:=h.map fun _ _ _ _ _ ho=>zSA ho hb
theorem TrO.grown {w w':World} {base g:Nat} {ts:List Nd} {ss:List NdSl} {v:Value} (h:TrO w base ts ss v) (hg:w.grownBy w' (some g)) (hb:g < base):TrO w' base ts ss v:=h.map fun _ _ _ _ _ ho=>zBK ho hg hb
theorem TrO.reads {w:World} {base c n:Nat} {A:Option Addr} {ts:List Nd} {ss:List NdSl} (h:TrO w base ts ss (.slice A n c)) (hn:ts.length=n) (hp:∀x∈ts,NdP x):NdsR w w.heap.size A n ts:=by
 subst hn;refine⟨rfl,fun h0=>?_⟩;obtain⟨g,cap,hv,hb,hlt⟩:=h.own.form h0;have hA:A=some ⟨g,0,none⟩:=by injection hv
 have hc:c=cap:=by injection hv
 subst hA hc;refine⟨g,0,rfl,hlt,fun i hi=>?_⟩;have h1:ts[i]? =some ts[i]:=yAB hi;have hi2:i < ss.length:=by rw[h.len];exact hi
 have h2:ss[i]? =some ss[i]:=yAB hi2;have hat:∀j,j < 8→w.cell? ⟨g,0+i*8+j,none⟩=(ndV ts[i] ss[i])[j]? :=fun j hj=>by
  rw[h.own.cellAt (0+i*8+j) (by omega),Nat.zero_add];exact zSL hj h1 h2
 exact⟨ss[i],⟨hat 0 (by omega),hat 1 (by omega),hat 2 (by omega),hat 3 (by omega),hat 4 (by omega),hat 5 (by omega),hat 6 (by omega),hat 7 (by omega)⟩,(h.part i _ _ h1 h2).r (hp _ (List.getElem_mem hi))⟩
theorem TrO.kb_lt {w:World} {base:Nat} {ts:List Nd} {ss:List NdSl} {v:Value} (h:TrO w base ts ss v) {i g:Nat} {s:NdSl} (hs:ss[i]? =some s) (hk:s.kb=some g):base≤g∧g < w.heap.size:=by
 have hi:i < ts.length:=by rw[←h.len];exact(List.getElem?_eq_some_iff.1 hs).1
 exact(h.part i _ s (yAB hi) hs).kids.lt g (by rw[zST];exact hk)
theorem zSV (xs:List Nd) (s2:List NdSl):∀{ts:List Nd} {ss:List NdSl},ss.length=ts.length→zR7 (ts++xs) (ss++s2)=zR7 ts ss++zR7 xs s2
 | [],[],_=>rfl
 | y::r,t::q,h=>by
  show ndV y t++zR7 (r++xs) (q++s2)=ndV y t++zR7 r q++zR7 xs s2;rw[zSV xs s2 (by simpa using h),List.append_assoc]
 | [],_::_,h=>by cases h
 | _::_,[],h=>by cases h
theorem TrO.cat {w0 w1 w':World} {base:Nat} {ts xs:List Nd} {ss s2:List NdSl} {v v':Value} (h:TrO w1 base ts ss v) (hl:s2.length=xs.length) (hn:∀(i:Nat) (x:Nd) (s:NdSl),xs[i]? =some x→s2[i]? =some s→NdO w1 base x s)
 (hfresh:∀s∈s2,∀g,s.kb=some g→w0.heap.size≤g) (hap2:∀(i j:Nat) (s r:NdSl),i < j→s2[i]? =some s→s2[j]? =some r→s.kb=none∨s.kb≠r.kb) (hold:TrO w0 base ts ss v)
 (ho:w'.ownsRow base 48 8 v' (ts.length+xs.length) (zR7 ts ss++zR7 xs s2)) (hg:w1.grownBy w' v.ownBlock):TrO w' base (ts++xs) (ss++s2) v':=by
 have hap:∀(e:TypeId) (v1:Value) (n:Nat) (xs:List Value),(e=24∨e=87∨e=3)→w1.ownsRow base e 1 v1 n xs→w'.ownsRow base e 1 v1 n xs:=
  fun e v1 n xs he ho1=>zR9 ho1 h.own (by rcases he with rfl | rfl | rfl<;>decide) hg
 refine⟨by simp[h.len,hl],?_,fun i y t hy ht=>?_,fun i j t r hij ht hr=>?_⟩
 · rw[zSV xs s2 h.len,List.length_append];exact ho
 · by_cases hi:i < ts.length
   · rw[List.getElem?_append_left hi]at hy;rw[List.getElem?_append_left (by rw[h.len];exact hi)]at ht;exact(h.part i y t hy ht).map hap
   · rw[List.getElem?_append_right (by omega)]at hy;rw[List.getElem?_append_right (by rw[h.len];omega),h.len]at ht;exact(hn _ y t hy ht).map hap
 · by_cases hj:j < ss.length
   · rw[List.getElem?_append_left (by omega)]at ht;rw[List.getElem?_append_left hj]at hr;exact h.apart i j t r hij ht hr
   · rw[List.getElem?_append_right (by omega)]at hr
     by_cases hi:i < ss.length
     · rw[List.getElem?_append_left hi]at ht;cases hk:t.kb with
       | none=>exact .inl rfl
       | some g=>
        refine .inr fun e=>?_;have h1:=(hold.kb_lt ht hk).2;have h2:=hfresh r (List.mem_of_getElem? hr) g e.symm;omega
     · rw[List.getElem?_append_right (by omega)]at ht;exact hap2 _ _ t r (by omega) ht hr
theorem TrO.snoc {w0 w1 w':World} {base:Nat} {ts:List Nd} {ss:List NdSl} {v v':Value} {x:Nd} {s:NdSl} (h:TrO w1 base ts ss v) (hn:NdO w1 base x s) (hfresh:∀g,s.kb=some g→w0.heap.size≤g) (hold:TrO w0 base ts ss v)
 (ho:w'.ownsRow base 48 8 v' (ts.length+1) (zR7 ts ss++ndV x s)) (hg:w1.grownBy w' v.ownBlock):TrO w' base (ts++[x]) (ss++[s]) v':=by
 refine TrO.cat (s2:=[s]) h rfl (fun i y t hy ht=>?_) (fun t ht g hg=>?_) (fun i j t r hij ht hr=>?_) hold (by rw[show zR7 [x] [s]=ndV x s from List.append_nil _];exact ho) hg
 · have hi:i=0:=by
    have:=(List.getElem?_eq_some_iff.1 hy).1;simp at this;omega
   subst hi;obtain rfl:=Option.some.inj hy;obtain rfl:=Option.some.inj ht;exact hn
 · obtain rfl:t=s:=by simpa using ht
   exact hfresh g hg
 · have:=(List.getElem?_eq_some_iff.1 hr).1;simp at this;omega
theorem TrO.at_ {w:World} {base c n g:Nat} {ts:List Nd} {ss:List NdSl} {i j:Nat} {x:Nd} {s:NdSl} (h:TrO w base ts ss (.slice (some ⟨g,0,none⟩) n c)) (hn:ts.length=n) (hj:j < 8) (hx:ts[i]? =some x) (hs:ss[i]? =some s):w.cell? ⟨g,i*8+j,none⟩=(ndV x s)[j]? :=by
 subst hn;have hi:=(List.getElem?_eq_some_iff.1 hx).1;rw[h.own.cellAt (i*8+j) (by omega)];exact zSL hj hx hs
theorem TrO.kids {w w1:World} {base c g cn n':Nat} {An:Option Addr} {ts:List Nd} {ss:List NdSl} {i:Nat} {x:Nd} {s:NdSl} {ks:List Int} (h:TrO w base ts ss (.slice (some ⟨g,0,none⟩) ts.length c)) (hx:ts[i]? =some x) (hs:ss[i]? =some s)
 (hg:w.grownBy w1 s.kb) (ho:w1.ownsRow base 3 1 (.slice An n' cn) n' (zBC ks)) (hn:ks.length=n') (hb:An.map (·.block)=s.kb∨∃r,An.map (·.block)=some r∧w.heap.size≤r):
 TrO (w1.setCell ⟨g,i*8+7,none⟩ (.slice An n' cn)) base (ts.set i {x with kids:=ks}) (ss.set i {s with Ak:=An,ck:=cn}) (.slice (some ⟨g,0,none⟩) ts.length c)∧w1.grownBy (w1.setCell ⟨g,i*8+7,none⟩ (.slice An n' cn)) (some g):=by
 subst hn;have hi:=(List.getElem?_eq_some_iff.1 hx).1;have hi2:i < ss.length:=by rw[h.len];exact hi
 have hgo:w.grownBy w1 (Value.slice s.Ak x.kids.length s.ck).ownBlock:=by rw[zST];exact hg
 have hk0:=(h.part i x s hx hs).kids;have h1o:=zR9 h.own hk0 (by decide) hgo;have st:=h1o.stored (i*8+7) (.slice An ks.length cn);have hgr:w1.grownBy (w1.setCell ⟨g,i*8+7,none⟩ (.slice An ks.length cn)) (Value.slice (some ⟨g,0,none⟩) ts.length c).ownBlock:=st.2;have hst:∀(e:TypeId) (v1:Value) (n:Nat) (xs:List Value),(e=24∨e=87∨e=3)→w1.ownsRow base e 1 v1 n xs→(w1.setCell ⟨g,i*8+7,none⟩ (.slice An ks.length cn)).ownsRow base e 1 v1 n xs:=
  fun e v1 n xs he ho1=>zR9 ho1 h1o (by rcases he with rfl | rfl | rfl<;>decide) hgr
 have hkb:∀{j:Nat} {r:NdSl},i≠j→ss[j]? =some r→r.kb=none∨r.kb≠s.kb:=by
  intro j r hij hr;rcases Nat.lt_or_gt_of_ne hij with hlt | hlt
  · rcases h.apart i j s r hlt hs hr with e | e
    · cases hrk:r.kb with
      | none=>exact .inl rfl
      | some q=>exact .inr (by rw[e];simp)
    · exact .inr (fun e2=>e e2.symm)
  · exact h.apart j i r s hlt hr hs
 refine⟨⟨by rw[List.length_set,List.length_set];exact h.len,?_,fun k y t hy ht=>?_,fun j k t r hjk ht hr=>?_⟩,st.2⟩
 · rw[List.length_set];have hc:=zSU (j:=7) (u:=.slice An ks.length cn) (by omega) (x:=x) (s:=s) (x':={x with kids:=ks}) (s':={s with Ak:=An,ck:=cn}) rfl hx hs;rw[←hc];exact st.1
 · by_cases e:i=k
   · subst e;rw[List.getElem?_set_self hi]at hy;rw[List.getElem?_set_self hi2]at ht;obtain rfl:=Option.some.inj hy;obtain rfl:=Option.some.inj ht;have hp:=h.part i x s hx hs;exact⟨hst _ _ _ _ (.inl rfl) (zR9 hp.str hk0 (by decide) hgo),hst _ _ _ _ (.inr (.inl rfl)) (zR9 hp.mag hk0 (by decide) hgo),hst _ _ _ _ (.inr (.inr rfl)) ho⟩
   · rw[List.getElem?_set_ne e]at hy ht;have hp:=h.part k y t hy ht;exact⟨hst _ _ _ _ (.inl rfl) (zR9 hp.str hk0 (by decide) hgo),hst _ _ _ _ (.inr (.inl rfl)) (zR9 hp.mag hk0 (by decide) hgo),hst _ _ _ _ (.inr (.inr rfl)) (hp.kids.kept hg (by rw[zST];exact hkb e ht))⟩
 · have hnew:∀{m:Nat} {q:NdSl},i≠m→ss[m]? =some q→An.map (·.block)=none∨q.kb=none∨An.map (·.block)≠q.kb:=by
    intro m q him hq;rcases hb with e | ⟨r0,e,hr0⟩
    · rcases hkb him hq with e2 | e2
      · exact .inr (.inl e2)
      · exact .inr (.inr (by rw[e];exact fun e3=>e2 e3.symm))
    · cases hqk:q.kb with
      | none=>exact .inr (.inl rfl)
      | some q0=>
       refine .inr (.inr fun e3=>?_);have:=(h.kb_lt hq hqk).2;rw[e]at e3;injection e3 with e3;omega
   by_cases e1:i=j
   · subst e1;rw[List.getElem?_set_self hi2]at ht;obtain rfl:=Option.some.inj ht;rw[List.getElem?_set_ne (by omega)]at hr;show An.map (·.block)=none∨An.map (·.block)≠r.kb;rcases hnew (by omega) hr with e | e | e
     · exact .inl e
     · rw[e];cases hA:An.map (·.block)with
       | none=>exact .inl rfl
       | some q=>exact .inr (by simp)
     · exact .inr e
   · rw[List.getElem?_set_ne e1]at ht
     by_cases e2:i=k
     · subst e2;rw[List.getElem?_set_self hi2]at hr;obtain rfl:=Option.some.inj hr;show t.kb=none∨t.kb≠An.map (·.block);rcases hnew (by omega) ht with e | e | e
       · rw[e];cases hA:t.kb with
         | none=>exact .inl rfl
         | some q=>exact .inr (by simp)
       · exact .inl e
       · exact .inr (fun e3=>e e3.symm)
     · rw[List.getElem?_set_ne e2]at hr;exact h.apart j k t r hjk ht hr
section
variable {P:Program} {w0 w:World} {ops:Array Oper} {rest:List Oper} {o:Oper} {a:Act} {Q:Exit→Act→World→Prop}
theorem zSt (hgd:o.guard=none) (s x:Operand) (t:TypeId)
 (ho:o.op=.call {callee:=.builtin .append,args:=#[s,x],argTypes:=#[t,t]})
 (e:TypeId) (i:TypeInfo) (z:Value) (bytes:Nat) (ht:P.underlying t=some (.slice e)) (hi:P.info? e=some i) (hz:i.zero=some z)
 (hsize:i.size=1) (hby:i.bytes=bytes) (hzs:z.cells.size=1)
 (v:Value) (xs:List Value) (hs:a.eval s=v) (hm:Made w0 w e v xs)
 (B:Nat) (A:Option Addr) (m c:Nat) (news:List Value) (hx:a.eval x=.slice A m c) (hr:Reads w B 1 A m news) (h1:∀u∈news,u.oneCell'=true)
 (hsz:xs.length+m≤17592186044416) (hb2:bytes≤8)
 (h:∀v' w',Made w0 w' e v' (xs++news)→wpList P ops Q rest (a.put o.dst v') w'):wpList P ops Q (o::rest) a w:=by
 have hl:news.length=m:=by have:=hr.1;omega
 subst hl;have hby2:(xs.length+news.length)*bytes≤140737488355328:=by
  calc (xs.length+news.length)*bytes≤17592186044416*8:=Nat.mul_le_mul hsz hb2
   _≤140737488355328:=by omega
 obtain⟨v',w',hrun,h2,h3,_⟩:=zEo (P:=P) w w0.heap.size t o.type e i z 1 bytes ht hi hz hsize hby hzs (by omega) v xs.length xs hm.own B A news.length c news hr h1 (by unfold maxLen;omega) hby2 hm.below.size;refine wpList_plain hgd fun K hK=>?_;unfold Oper.wp execOp;simp only[ho,resolve,invoke,builtin,Sem.run_bind,Sem.run_pure,Result.andThen_ok,List.map_toArray,List.map_cons,List.map_nil,hs,hx,hrun];refine hK _ _ (h v' w' ⟨by rw[List.length_append];exact h2,hm.below.grown h3 hm.below.size (fun k hk=>(hm.own.lt k hk).1)⟩)
end
theorem zSk {A:Option Addr} {c B n:Nat} {xs:List Int} {w:World} (hn:xs.length=n) (hB:B≤w.heap.size) (ha:Reads w B 1 A n (zBC xs)) (hl:n≤1000000):
 Calls prog 55 #[.slice A n c] w fun e w'=>∃v,e=.returned v∧Made w w' 3 v (zBC xs):=by
 obtain⟨i0,hi0,hz0,hz1,hz2⟩:=info_parts Tryz.info_int;have ha':=zA (ha.alloc hB (.cells #[] 3));clear ha;subst hn;go_enter func55,ntmps55;go_wp2_with (at_builtin;refine zSt rfl _ _ 32 rfl 3 i0 _ 8 underlying32 hi0 hz0 hz1 hz2 rfl _ _ rfl (Made.empty w _) _ _ _ c _ rfl ha'.out (zTi _) (by simp;omega) (by omega) ?_;intro v' w' hm');go_ret;exact⟨_,rfl,hm'⟩
section
variable {P:Program} {w0 w:World} {ops:Array Oper} {o:Oper} {a:Act} {K:Act→World→Prop} {Q:Exit→Act→World→Prop} {E:Prop}
theorem zTe (hgd:o.guard=none) (s x:Operand) (t:TypeId)
 (ho:o.op=.call {callee:=.builtin .append,args:=#[s,x],argTypes:=#[t,t]})
 (e:TypeId) (i:TypeInfo) (z:Value) (bytes:Nat) (ht:P.underlying t=some (.slice e)) (hi:P.info? e=some i) (hz:i.zero=some z)
 (hsize:i.size=1) (hby:i.bytes=bytes) (hzs:z.cells.size=1)
 (v:Value) (xs:List Value) (hs:a.eval s=v) (hm:Made w0 w e v xs)
 (B:Nat) (A:Option Addr) (m c:Nat) (news:List Value) (hx:a.eval x=.slice A m c) (hr:Reads w B 1 A m news) (h1:∀u∈news,u.oneCell'=true)
 (hsz:xs.length+m≤17592186044416) (hb2:bytes≤8)
 (h:∀v' w',Made w0 w' e v' (xs++news)→w.grownBy w' v.ownBlock→K (a.put o.dst v') w'):
 if Region.wanted o (yielded ops a.tmps)=true then Oper.wp P o a w K Q else E:=by
 have hl:news.length=m:=by have:=hr.1;omega
 subst hl;have hby2:(xs.length+news.length)*bytes≤140737488355328:=by
  calc (xs.length+news.length)*bytes≤17592186044416*8:=Nat.mul_le_mul hsz hb2
   _≤140737488355328:=by omega
 obtain⟨v',w',hrun,h2,h3,_⟩:=zEo (P:=P) w w0.heap.size t o.type e i z 1 bytes ht hi hz hsize hby hzs (by omega) v xs.length xs hm.own B A news.length c news hr h1 (by unfold maxLen;omega) hby2 hm.below.size;rw[if_pos (by simp[Region.wanted,hgd])];unfold Oper.wp execOp;simp only[ho,resolve,invoke,builtin,Sem.run_bind,Sem.run_pure,Result.andThen_ok,List.map_toArray,List.map_cons,List.map_nil,hs,hx,hrun];exact h v' w' ⟨by rw[List.length_append];exact h2,hm.below.grown h3 hm.below.size (fun k hk=>(hm.own.lt k hk).1)⟩ h3
end
theorem zSu {ng:Bool} {A:Option Addr} {c B n:Nat} {xs:List Nat} {w:World} (hn:xs.length=n) (hB:B≤w.heap.size) (ha:Reads w B 1 A n (zRX xs)) (hl:n≤1000000):
 Calls prog 54 #[.agg #[.bool ng,.slice A n c]] w fun e w'=>∃v,e=.returned (.agg #[.bool ng,v])∧Made w w' 87 v (zRX xs):=by
 obtain⟨i0,hi0,hz0,hz1,hz2⟩:=info_parts Tryz.info_u32;obtain⟨W,hW⟩:∃W,w.alloc (.cells #[.bool ng,.slice A n c] 42)=W:=⟨_,rfl⟩;have sW:W.heap.size=w.heap.size+1:=by rw[←hW];simp
 have bW:Below w.heap.size w W:=by rw[←hW];exact(Below.refl _ _).alloc (yAC _) _
 have a0:W.cell? ⟨w.heap.size,0,none⟩=some (.bool ng):=by rw[←hW,World.cell?_alloc_at _ _ _ _ rfl];rfl
 have a1:W.cell? ⟨w.heap.size,1,none⟩=some (.slice A n c):=by rw[←hW,World.cell?_alloc_at _ _ _ _ rfl];rfl
 obtain⟨V,hV⟩:∃V,W.alloc (.cells #[.bool false,.slice none 0 0] 42)=V:=⟨_,rfl⟩;have sV:V.heap.size=W.heap.size+1:=by rw[←hV];simp
 have bV:Below W.heap.size W V:=by rw[←hV];exact(Below.refl _ _).alloc (yAC _) _
 have x0:=(bV.cell (p:=⟨w.heap.size,0,none⟩) (show w.heap.size < W.heap.size by omega)).trans a0;have x1:=(bV.cell (p:=⟨w.heap.size,1,none⟩) (show w.heap.size < W.heap.size by omega)).trans a1;have z0:V.cell? ⟨W.heap.size,0,none⟩=some (.bool false):=by rw[←hV,World.cell?_alloc_at _ _ _ _ rfl];rfl
 have z1:V.cell? ⟨W.heap.size,1,none⟩=some (.slice none 0 0):=by rw[←hV,World.cell?_alloc_at _ _ _ _ rfl];rfl
 have f0:V.frozen? ⟨W.heap.size,0,none⟩=false:=by rw[←hV];exact World.frozen?_alloc_new _ _ _ _
 have f1:V.frozen? ⟨W.heap.size,1,none⟩=false:=by rw[←hV];exact World.frozen?_alloc_new _ _ _ _
 have BV:=zA (bW.trans (bV.mono bW.size));have ha':=zA (ha.below (BV.out.mono hB));obtain⟨X,hX⟩:∃X,w.heap.size=X:=⟨_,rfl⟩;have BX:=zA (show∀w',Below W.heap.size V w'→Below w.heap.size w w' from fun w' h=>BV.out.trans (h.mono bW.size));have hsV:B≤V.heap.size:=by omega
 have hVX:V.heap.size=X+2:=by omega
 have SV:=zA hVX;have HB:=zA hB;rw[sW]at z0 z1 f0 f1;rw[hX]at x0 x1 z0 z1 f0 f1;go_enter func54,ntmps54;go_upto_region 1 with(fail);have x1':(V.alloc (.cells #[] 87)).cell? ⟨X,1,none⟩=some (.slice A n c):=(((Below.refl V.heap.size V).alloc (yAC _) _).cell (p:=⟨X,1,none⟩) (show X < V.heap.size by omega)).trans x1;have x0':(V.alloc (.cells #[] 87)).cell? ⟨X,0,none⟩=some (.bool ng):=(((Below.refl V.heap.size V).alloc (yAC _) _).cell (p:=⟨X,0,none⟩) (show X < V.heap.size by omega)).trans x0;have hXV:X+1 < V.heap.size:=by omega
 have HWX:=zA (show W.heap.size=X+1 by omega);have hWV:W.heap.size≤V.heap.size:=by omega
 have hXV0:X < V.heap.size:=by omega
 clear hV hW sV bV sW bW a0 a1 hB ha BV hVX;have HX:=zA hX;clear hX;go_region_law (refine zTe rfl _ _ 40 rfl 87 i0 _ 4 underlying40 hi0 hz0 hz1 hz2 rfl _ _ rfl (Made.empty V 87).drew B A n c (zRX xs) rfl (ha'.out.alloc (by omega) _) (zTk _) (by simp;omega) (by omega) ?_;intro v' w' hm' _;have y0:=(hm'.below.cell (p:=⟨X+1,0,none⟩) hXV).trans z0;have y1:=(hm'.below.cell (p:=⟨X+1,1,none⟩) hXV).trans z1;have e0:=(hm'.below.frozen (p:=⟨X+1,0,none⟩) hXV).trans f0;have e1:=(hm'.below.frozen (p:=⟨X+1,1,none⟩) hXV).trans f1;have y2:=(hm'.below.cell (p:=⟨X,0,none⟩) hXV0).trans x0;obtain⟨A',c',rfl,_,_⟩:=zR hm'.own)
 all_goals go_wp2_with fail
 all_goals have q0:((w'.setCell ⟨X+1,0,none⟩ (.bool ng)).setCell ⟨X+1,1,none⟩ (.slice A' (zRX xs).length c')).cell? ⟨X+1,0,none⟩=some (.bool ng):=by go_simp
 all_goals have q1:((w'.setCell ⟨X+1,0,none⟩ (.bool ng)).setCell ⟨X+1,1,none⟩ (.slice A' (zRX xs).length c')).cell? ⟨X+1,1,none⟩=some (.slice A' (zRX xs).length c'):=by go_simp
 all_goals refine bodyPost_ret (v:=.agg #[.bool ng,.slice A' (zRX xs).length c']) (by simp[results,results54,go_sem,q0,q1]) rfl ?_
 all_goals exact⟨_,rfl,zSA (zBK (zBK hm'.own (zK w' (X+1) 0 (.bool ng)) hXV) (zK _ (X+1) 1 _) hXV) (by have:=HX.out;have:=SV.out;omega),BX.out _ (((hm'.below.mono hWV).setCell (by have:=HWX.out;show W.heap.size≤X+1;omega) _).setCell (by have:=HWX.out;show W.heap.size≤X+1;omega) _)⟩
def zSl:List Nd→Nat
 | []=>0
 | x::r=>1+x.str.length+x.mag.length+x.kids.length+x.name.length+zSl r
theorem zT0 (a b:List Nd):zSl (a++b)=zSl a+zSl b:=by
 induction a with
 | nil=>simp[zSl]
 | cons x r ih=>simp only[List.cons_append,zSl,ih];omega
theorem zTf {ts:List Nd} {k:Nat} {x:Nd} (h:ts[k]? =some x):zSl (ts.take (k+1))=zSl (ts.take k)+(1+x.str.length+x.mag.length+x.kids.length+x.name.length):=by
 obtain⟨hl,rfl⟩:=List.getElem?_eq_some_iff.1 h;rw[yAK hl,zT0];simp[zSl]
theorem zT1 {ts:List Nd} {x:Nd} (h:x∈ts):x.str.length+x.mag.length+x.kids.length+x.name.length≤zSl ts:=by
 induction ts with
 | nil=>cases h
 | cons y r ih=>
  rcases List.mem_cons.1 h with rfl | h
  · simp only[zSl];omega
  · have:=ih h;simp only[zSl];omega
theorem zTg (ts:List Nd):(zAI ts).length+ts.length≤zSl ts:=by
 induction ts with
 | nil=>exact yAC _
 | cons x r ih=>rw[zCJ,List.length_append,List.length_cons];simp only[zSl];omega
structure FewP (ts:List Nd):Prop where
 len:ts.length≤20000
 all:(zAI ts).length≤20000
 each:∀x∈ts,x.str.length≤20000∧x.mag.length≤20000∧x.kids.length≤20000∧x.name.length≤20000
theorem zUT {ts:List Nd} (h:zSl ts≤20000):FewP ts:=by
 have h1:=zTg ts;refine⟨by omega,by omega,fun x hx=>?_⟩;have:=zT1 hx;omega
def WgtAt (ts:List Nd) (k:Nat) (a:Nat):Prop:=(a≤20000→a=zSl (ts.take k))∧a≤200000
theorem WgtAt.start (ts:List Nd):WgtAt ts 0 0:=⟨fun _=>by simp[zSl],by omega⟩
theorem WgtAt.step {ts:List Nd} {k a:Nat} {x:Nd} (h:WgtAt ts k a) (ha:a≤20000) (hx:ts[k]? =some x) {p q r s:Nat} (hp:p=min x.str.length 20001) (hq:q=min x.mag.length 20001) (hr:r=min x.kids.length 20001) (hs:s=min x.name.length 20001):WgtAt ts (k+1) (a+1+p+q+r+s):=by
 have h1:=h.1 ha;refine⟨fun hle=>?_,by omega⟩;rw[zTf hx,←h1];omega
theorem WgtAt.done {ts:List Nd} {a:Nat} (h:WgtAt ts ts.length a) (ha:a≤20000):FewP ts:=by
 have:=h.1 ha;rw[List.take_of_length_le (yAC _)]at this;exact zUT (by omega)
theorem zS5 (L:Nat):(if(20001:Int) < (L:Int)then(20001:Int)else(L:Int))=((min L 20001:Nat):Int):=by split<;>omega
def zUd (ts:List Nd) (w:World) (e:Ending) (w':World):Prop:=∃q:Bool,e=.returned (.bool q)∧(q=true→FewP ts)∧Below w.heap.size w w'
theorem zTG {A:Option Addr} {c B n:Nat} {ts:List Nd} {w:World} (hN:NdsR w B A n ts) (hB:B≤w.heap.size) (hl:n≤20000):
 Calls prog 53 #[.agg #[.slice A n c],.int .i64 20000] w fun e w'=>∃r:Nat,e=.returned (.int .i64 (r:Int))∧(r≤20000→FewP ts)∧Below w.heap.size w w':=by
 obtain⟨W,hW⟩:∃W,w.alloc (.cells #[.slice A n c] 27)=W:=⟨_,rfl⟩;have hbW:Below w.heap.size w W:=by rw[←hW];exact(Below.refl _ _).alloc (yAC _) _
 have hsW:W.heap.size=w.heap.size+1:=by rw[←hW];simp
 have hNW:=zA ((hN.below (hbW.mono hB)));have hcW:W.cell? ⟨w.heap.size,0,none⟩=some (.slice A n c):=by rw[←hW,World.cell?_alloc_at _ _ _ _ rfl];rfl
 have HBW:=zA hbW;have HLN:=zA hN.1;have HB:=zA hB;clear hbW hN;go_enter func53,ntmps53;go_upto_region 1 with(fail);have HW:=zA hW;clear hW;have hltW:w.heap.size < W.heap.size:=by omega
 go_wp2_with fail
 go_loopw [5,6] (fun v i wr=>∃(k a:Nat),k≤n∧v=.int .i64 (a:Int)∧i=.int .i64 (k:Int)∧Hid (WgtAt ts k a)∧Hid (Below W.heap.size W wr)) (fun _ i _=>n - (intOf i).toNat)
 case atStart=>exact⟨0,0,yAE _,rfl,rfl,WgtAt.start ts,Below.refl _ _⟩
 case round=>
  obtain⟨k,a,hk,rfl,rfl,hat,hbr⟩:=hrel;have hsz:=hbr.out.size;have hcx:wr.cell? ⟨w.heap.size,0,none⟩=some (.slice A n c):=(hbr.out.cell (p:=⟨w.heap.size,0,none⟩) hltW).trans hcW;have hab:=hat.out.2
  by_cases hlt:k < n
  · have h1:(k:Int) < (n:Int):=by omega
    have h2:decide ((k:Int) < (n:Int))=true:=decide_eq_true h1
    by_cases hle:a≤20000
    · have h3:(a:Int)≤20000:=by omega
      have h4:decide ((a:Int)≤20000)=true:=decide_eq_true h3;obtain⟨b,o,x,s,rfl,hbB,hx,hC,hR⟩:=(hNW.out.below (hbr.out.mono (by omega))).get hlt;obtain⟨kc0,kc1,kc2,kc3,kc4,kc5,kc6,kc7⟩:=hC;have HX:=zA hx;clear hx hR;go_upto_region 6 with(fail);obtain⟨W1,hW1⟩:∃W1,wr.alloc (.cells #[.int .i64 x.kind,.string ⟨x.name.toArray⟩,.slice s.As x.str.length s.cs,.int .i64 x.nk,.int .i64 x.nn,.bool x.neg,.slice s.Am x.mag.length s.cm,.slice s.Ak x.kids.length s.ck] 48)=W1:=⟨_,rfl⟩;rw[hW1];have p1:W1.cell? ⟨wr.heap.size,1,none⟩=some (.string ⟨x.name.toArray⟩):=by rw[←hW1,World.cell?_alloc_at _ _ _ _ rfl];rfl
      have p2:W1.cell? ⟨wr.heap.size,2,none⟩=some (.slice s.As x.str.length s.cs):=by rw[←hW1,World.cell?_alloc_at _ _ _ _ rfl];rfl
      have p6:W1.cell? ⟨wr.heap.size,6,none⟩=some (.slice s.Am x.mag.length s.cm):=by rw[←hW1,World.cell?_alloc_at _ _ _ _ rfl];rfl
      have p7:W1.cell? ⟨wr.heap.size,7,none⟩=some (.slice s.Ak x.kids.length s.ck):=by rw[←hW1,World.cell?_alloc_at _ _ _ _ rfl];rfl
      have HB1:=zA (show Below W.heap.size W W1 from by rw[←hW1];exact hbr.out.alloc hsz _);obtain⟨X,hX⟩:∃X,wr.heap.size=X:=⟨_,rfl⟩;rw[hX]at p1 p2 p6 p7;rw[hX];clear hW1 kc0 kc1 kc2 kc3 kc4 kc5 kc6 kc7 hcx hX hbr hsz;go_wp2_with fail
      go_roundw
      case rel=>
       exact⟨k+1,_,by omega,by first | (rw[zS5,zS5,zS5,zS5];rfl) | exact congrArg (Value.int IntKind.i64) (by omega),by go_num,hat.out.step hle HX.out rfl rfl rfl rfl,HB1.out⟩
      case measure=>simp[intOf];omega
    · have h3:¬(a:Int)≤20000:=by omega
      have h4:decide ((a:Int)≤20000)=false:=yAI h3;go_wp2_with fail;go_ret;exact⟨a,rfl,fun h=>absurd h hle,HBW.out.trans (hbr.out.mono (by omega))⟩
  · have h1:¬(k:Int) < (n:Int):=by omega
    have h2:decide ((k:Int) < (n:Int))=false:=yAI h1;obtain rfl:k=n:=by omega
    have hdn:=zA (fun h:a≤20000=>(show WgtAt ts ts.length a by rw[HLN.out];exact hat.out).done h);go_wp2_with fail;go_ret;exact⟨a,rfl,hdn.out,HBW.out.trans (hbr.out.mono (by omega))⟩
theorem zUF {A:Option Addr} {c B n:Nat} {ts:List Nd} {w:World} (hN:NdsR w B A n ts) (hB:B≤w.heap.size):
 Calls prog 26 #[.agg #[.slice A n c]] w (zUd ts w):=by
 by_cases h:n≤20000
 · have h1:(n:Int)≤20000:=by omega
   have h2:decide ((n:Int)≤20000)=true:=decide_eq_true h1;have CW:=zA (fun(W:World) (hb:Below w.heap.size w W)=>zTG (c:=c) (hN.below (hb.mono hB)) (yAD hB hb.size) h);clear hN;go_enter func26,ntmps26;go_wp2_with fail;refine(CW.out _ ((Below.refl _ _).alloc (yAC _) _)).mono ?_;rintro e1 w1 ⟨r,rfl,hr,hb1⟩;have HB1:=zA (((Below.refl w.heap.size w).alloc (yAC _) _).trans (hb1.mono (by simp)));have HR:=zA hr;clear hb1 hr
   by_cases hrl:r≤20000
   · have h3:(r:Int)≤20000:=by omega
     have h4:decide ((r:Int)≤20000)=true:=decide_eq_true h3;go_wp2_with fail;go_ret;exact⟨true,rfl,fun _=>HR.out hrl,HB1.out⟩
   · have h3:¬(r:Int)≤20000:=by omega
     have h4:decide ((r:Int)≤20000)=false:=yAI h3;go_wp2_with fail;go_ret;exact⟨false,rfl,fun h=>(by cases h),HB1.out⟩
 · have h1:¬(n:Int)≤20000:=by omega
   have h2:decide ((n:Int)≤20000)=false:=yAI h1;go_enter func26,ntmps26;go_wp2_with fail;go_ret;exact⟨false,rfl,fun h=>(by cases h),(Below.refl _ _).alloc (yAC _) _⟩
def zT2:List Value:=[.int .i64 0,.string ⟨#[]⟩,.slice none 0 0,.int .i64 0,.int .i64 0,.bool false,.slice none 0 0,.slice none 0 0]
theorem Tryz.info_node:(prog.info? 48).map (fun i=>(i.zero,i.size,i.bytes))=some (some (.agg zT2.toArray),8,120):=by kernel_rfl
theorem zT3 {A:Option Addr} {c B n:Nat} {xs:List UInt16} {w:World} (hn:xs.length=n) (hB:B≤w.heap.size) (ha:Reads w B 1 A n (zAD xs)) (hl:n≤1000000):
 Calls prog 17 #[.slice A n c] w fun e w'=>∃A' c',e=.returned (.slice A' n c')∧w'.ownsRow w.heap.size 24 1 (.slice A' n c') n (zAD xs)∧Below w.heap.size w w':=by
 subst hn;refine(zSZ hB ha (by omega)).mono ?_;rintro e w' ⟨v,rfl,hm⟩;have h1:=hm.own;rw[zBk]at h1;obtain⟨A',c',rfl,_,_⟩:=zR h1;exact⟨A',c',rfl,h1,hm.below⟩
theorem zT4 {ng:Bool} {A:Option Addr} {c B n:Nat} {xs:List Nat} {w:World} (hn:xs.length=n) (hB:B≤w.heap.size) (ha:Reads w B 1 A n (zRX xs)) (hl:n≤1000000):
 Calls prog 54 #[.agg #[.bool ng,.slice A n c]] w fun e w'=>∃A' c',e=.returned (.agg #[.bool ng,.slice A' n c'])∧w'.ownsRow w.heap.size 87 1 (.slice A' n c') n (zRX xs)∧Below w.heap.size w w':=by
 refine(zSu hn hB ha hl).mono ?_;rintro e w' ⟨v,rfl,hm⟩;have h1:=hm.own;rw[zTj,hn]at h1;obtain⟨A',c',rfl,_,_⟩:=zR h1;exact⟨A',c',rfl,h1,hm.below⟩
theorem zT5 {A:Option Addr} {c B n:Nat} {xs:List Int} {w:World} (hn:xs.length=n) (hB:B≤w.heap.size) (ha:Reads w B 1 A n (zBC xs)) (hl:n≤1000000):
 Calls prog 55 #[.slice A n c] w fun e w'=>∃A' c',e=.returned (.slice A' n c')∧w'.ownsRow w.heap.size 3 1 (.slice A' n c') n (zBC xs)∧Below w.heap.size w w':=by
 refine(zSk hn hB ha hl).mono ?_;rintro e w' ⟨v,rfl,hm⟩;have h1:=hm.own;rw[zFV,hn]at h1;obtain⟨A',c',rfl,_,_⟩:=zR h1;exact⟨A',c',rfl,h1,hm.below⟩
def Nb8 (w:World) (N:Nat) (v0 v1 v2 v3 v4 v5 v6 v7:Value):Prop:=
 (w.cell? ⟨N,0,none⟩=some v0∧w.cell? ⟨N,1,none⟩=some v1∧w.cell? ⟨N,2,none⟩=some v2∧w.cell? ⟨N,3,none⟩=some v3∧w.cell? ⟨N,4,none⟩=some v4∧w.cell? ⟨N,5,none⟩=some v5∧w.cell? ⟨N,6,none⟩=some v6∧w.cell? ⟨N,7,none⟩=some v7)∧∀j,j < 8→w.frozen? ⟨N,j,none⟩=false
section
variable {w w':World} {N D:Nat} {v0 v1 v2 v3 v4 v5 v6 v7:Value}
theorem Nb8.below (h:Nb8 w N v0 v1 v2 v3 v4 v5 v6 v7) (hb:Below D w w') (hd:N < D):Nb8 w' N v0 v1 v2 v3 v4 v5 v6 v7:=by
 have hc:∀j,w'.cell? ⟨N,j,none⟩=w.cell? ⟨N,j,none⟩:=fun j=>hb.cell (p:=⟨N,j,none⟩) hd;have hf:∀j,w'.frozen? ⟨N,j,none⟩=w.frozen? ⟨N,j,none⟩:=fun j=>hb.frozen (p:=⟨N,j,none⟩) hd;unfold Nb8;rw[hc,hc,hc,hc,hc,hc,hc,hc];exact⟨h.1,fun j hj=>by rw[hf];exact h.2 j hj⟩
theorem zS6 {N i j:Nat} (h:i≠j):(⟨N,i,none⟩:Addr)≠⟨N,j,none⟩:=fun e=>h (by injection e)
theorem Nb8.set2 (h:Nb8 w N v0 v1 v2 v3 v4 v5 v6 v7) (u:Value):Nb8 (w.setCell ⟨N,2,none⟩ u) N v0 v1 u v3 v4 v5 v6 v7:=by
 obtain⟨⟨h0,h1,h2,h3,h4,h5,h6,h7⟩,hf⟩:=h;refine⟨⟨?_,?_,World.cell?_setCell_same _ _ _ h2,?_,?_,?_,?_,?_⟩,fun j hj=>by rw[World.frozen?_setCell];exact hf j hj⟩
 all_goals (rw[World.cell?_setCell_other _ _ _ _ (zS6 (by decide))];assumption)
theorem Nb8.set5 (h:Nb8 w N v0 v1 v2 v3 v4 v5 v6 v7) (u:Value):Nb8 (w.setCell ⟨N,5,none⟩ u) N v0 v1 v2 v3 v4 u v6 v7:=by
 obtain⟨⟨h0,h1,h2,h3,h4,h5,h6,h7⟩,hf⟩:=h;refine⟨⟨?_,?_,?_,?_,?_,World.cell?_setCell_same _ _ _ h5,?_,?_⟩,fun j hj=>by rw[World.frozen?_setCell];exact hf j hj⟩
 all_goals (rw[World.cell?_setCell_other _ _ _ _ (zS6 (by decide))];assumption)
theorem Nb8.set6 (h:Nb8 w N v0 v1 v2 v3 v4 v5 v6 v7) (u:Value):Nb8 (w.setCell ⟨N,6,none⟩ u) N v0 v1 v2 v3 v4 v5 u v7:=by
 obtain⟨⟨h0,h1,h2,h3,h4,h5,h6,h7⟩,hf⟩:=h;refine⟨⟨?_,?_,?_,?_,?_,?_,World.cell?_setCell_same _ _ _ h6,?_⟩,fun j hj=>by rw[World.frozen?_setCell];exact hf j hj⟩
 all_goals (rw[World.cell?_setCell_other _ _ _ _ (zS6 (by decide))];assumption)
theorem Nb8.set7 (h:Nb8 w N v0 v1 v2 v3 v4 v5 v6 v7) (u:Value):Nb8 (w.setCell ⟨N,7,none⟩ u) N v0 v1 v2 v3 v4 v5 v6 u:=by
 obtain⟨⟨h0,h1,h2,h3,h4,h5,h6,h7⟩,hf⟩:=h;refine⟨⟨?_,?_,?_,?_,?_,?_,?_,World.cell?_setCell_same _ _ _ h7⟩,fun j hj=>by rw[World.frozen?_setCell];exact hf j hj⟩
 all_goals (rw[World.cell?_setCell_other _ _ _ _ (zS6 (by decide))];assumption)
end
theorem Nb8.new (w:World) (N:Nat) (hN:w.heap.size=N) (e:TypeId) (v0 v1 v2 v3 v4 v5 v6 v7:Value):Nb8 (w.alloc (.cells #[v0,v1,v2,v3,v4,v5,v6,v7] e)) N v0 v1 v2 v3 v4 v5 v6 v7:=by
 subst hN;refine⟨⟨?_,?_,?_,?_,?_,?_,?_,?_⟩,fun j _=>World.frozen?_alloc_new _ _ _ _⟩<;>(rw[World.cell?_alloc_at _ _ _ _ rfl];rfl)
structure CtS (W wr:World) (Y:Nat) (ts:List Nd) (A:Option Addr) (n c:Nat):Prop where
 cell:wr.cell? ⟨Y,0,none⟩=some (.slice A n c)
 fz:wr.frozen? ⟨Y,0,none⟩=false
 len:ts.length=n
 tr:∃ss,TrO wr (Y+1) ts ss (.slice A n c)
 below:Below (Y) W wr
 size:Y+1≤wr.heap.size
theorem CtS.go {W wr wd w':World} {Y k N:Nat} {ts:List Nd} {x:Nd} {A1 A2 A3 Ao A':Option Addr} {c1 c2 c3 co c':Nat} {ss:List NdSl} (h:CtS W wr Y ts Ao k co) (ht:TrO wr (Y+1) ts ss (.slice Ao k co)) (hb:Below wr.heap.size wr wd)
 (h1:wd.ownsRow wr.heap.size 24 1 (.slice A1 x.str.length c1) x.str.length (zAD x.str)) (h2:wd.ownsRow wr.heap.size 87 1 (.slice A2 x.mag.length c2) x.mag.length (zRX x.mag)) (h3:wd.ownsRow wr.heap.size 3 1 (.slice A3 x.kids.length c3) x.kids.length (zBC x.kids))
 (ho:w'.ownsRow (Y+1) 48 8 (.slice A' N c') N (zR7 ts ss++ndV x ⟨A1,A2,A3,c1,c2,c3⟩)) (hN:k+1=N) (hk:wd.grownBy w' (Value.slice Ao k co).ownBlock):
 CtS W (w'.setCell ⟨Y,0,none⟩ (.slice A' N c')) Y (ts++[x]) A' N c':=by
 have hd:=ht.below hb;have hsz:=h.size;have hne:∀g,(Value.slice Ao k co).ownBlock=some g→Y+1≤g:=fun g hg=>(ht.own.lt g hg).1;have hsd:Y+1≤wd.heap.size:=yAD hsz hb.size;have b1:Below (Y+1) wd w':=(Below.refl _ _).grown hk hsd hne;have b2:Below (Y+1) wr w':=(hb.mono hsz).trans b1;have hc:=(b2.cell (p:=⟨Y,0,none⟩) (show Y < Y+1 by omega)).trans h.cell;have hf:=(b2.frozen (p:=⟨Y,0,none⟩) (show Y < Y+1 by omega)).trans h.fz;have hlen:=h.len;refine⟨World.cell?_setCell_same _ _ _ hc,by rw[World.frozen?_setCell];exact hf,by simp[hlen,hN],⟨ss++[⟨A1,A2,A3,c1,c2,c3⟩],?_⟩,(h.below.trans (b2.mono (by omega))).setCell (yAC _) _,?_⟩
 · refine TrO.grown (w:=w') (g:=Y) ?_ (zK _ _ _ _) (by omega);have hnd:NdO wd (Y+1) x ⟨A1,A2,A3,c1,c2,c3⟩:=⟨zSA h1 hsz,zSA h2 hsz,zSA h3 hsz⟩;refine TrO.snoc (w0:=wr) hd hnd (fun g hg=>?_) ht ?_ hk
   · exact(h3.lt g (by rw[zST (s:=⟨A1,A2,A3,c1,c2,c3⟩)];exact hg)).1
   · rw[hlen,hN];exact ho
 · simp only[World.setCell];have:=b2.size;simp;omega
theorem zSm {A:Option Addr} {c B n:Nat} {ts:List Nd} {w:World} (hN:NdsR w B A n ts) (hB:B≤w.heap.size) (hF:FewP ts):
 Calls prog 27 #[.agg #[.slice A n c]] w fun e w'=>∃A' c',e=.returned (.agg #[.slice A' n c'])∧(∃ss,TrO w' w.heap.size ts ss (.slice A' n c'))∧Below w.heap.size w w':=by
 obtain⟨i0,hi0,hz0,hz1,hz2⟩:=info_parts Tryz.info_node;have hn20:n≤20000:=by rw[←hN.1];exact hF.len
 obtain⟨W,hW⟩:∃W,w.alloc (.cells #[.slice A n c] 27)=W:=⟨_,rfl⟩;have sW:W.heap.size=w.heap.size+1:=by rw[←hW];simp
 have bW:Below w.heap.size w W:=by rw[←hW];exact(Below.refl _ _).alloc (yAC _) _
 have a0:W.cell? ⟨w.heap.size,0,none⟩=some (.slice A n c):=by rw[←hW,World.cell?_alloc_at _ _ _ _ rfl];rfl
 obtain⟨V,hV⟩:∃V,W.alloc (.cells #[.slice none 0 0] 27)=V:=⟨_,rfl⟩;have sV:V.heap.size=W.heap.size+1:=by rw[←hV];simp
 have bV:Below W.heap.size W V:=by rw[←hV];exact(Below.refl _ _).alloc (yAC _) _
 have z0:V.cell? ⟨W.heap.size,0,none⟩=some (.slice none 0 0):=by rw[←hV,World.cell?_alloc_at _ _ _ _ rfl];rfl
 have f0:V.frozen? ⟨W.heap.size,0,none⟩=false:=by rw[←hV];exact World.frozen?_alloc_new _ _ _ _
 have a1:=(bV.cell (p:=⟨w.heap.size,0,none⟩) (show w.heap.size < W.heap.size by omega)).trans a0;obtain⟨U,hU⟩:∃U,V.alloc (.cells #[.slice none 0 0] 27)=U:=⟨_,rfl⟩;have sU:U.heap.size=V.heap.size+1:=by rw[←hU];simp
 have bU:Below V.heap.size V U:=by rw[←hU];exact(Below.refl _ _).alloc (yAC _) _
 have y0:U.cell? ⟨V.heap.size,0,none⟩=some (.slice none 0 0):=by rw[←hU,World.cell?_alloc_at _ _ _ _ rfl];rfl
 have g0:U.frozen? ⟨V.heap.size,0,none⟩=false:=by rw[←hU];exact World.frozen?_alloc_new _ _ _ _
 have a2:=(bU.cell (p:=⟨w.heap.size,0,none⟩) (show w.heap.size < V.heap.size by omega)).trans a1;have z1:=(bU.cell (p:=⟨W.heap.size,0,none⟩) (show W.heap.size < V.heap.size by omega)).trans z0;have f1:=(bU.frozen (p:=⟨W.heap.size,0,none⟩) (show W.heap.size < V.heap.size by omega)).trans f0;have bwU:Below w.heap.size w U:=bW.trans ((bV.mono bW.size).trans (bU.mono (yAD bW.size bV.size)));obtain⟨X,hX⟩:∃X,w.heap.size=X:=⟨_,rfl⟩;obtain⟨Y,hY⟩:∃Y,X+1+1=Y:=⟨_,rfl⟩;have e1:W.heap.size=X+1:=by omega
 have e2:V.heap.size=Y:=by omega
 have e3:U.heap.size=Y+1:=by omega
 have hXY:X+1 < Y:=by omega
 rw[e2]at y0 g0;rw[e1]at z1 f1;rw[hX]at a2 bwU hB;have HS:=zA (show CtS U U Y [] none 0 0 from⟨y0,g0,rfl,⟨[],TrO.nil _ _⟩,Below.refl _ _,by omega⟩);have HN:=zA (hN.below (bwU.mono hB));have HL:=zA hN.1;have HBU:=zA bwU;have HFW:=zA hF;have HB:=zA hB;have HX:=zA hX;go_enter func27,ntmps27;go_upto_region 2 with(fail);clear y0 g0 z0 f0 a0 a1 hW hV hU sW sV sU bW bV bU bwU hN hB hX e1 e2 e3 hF hY;go_wp2_with fail
 go_loopw [4] (fun i wr=>∃(k:Nat) (Ao:Option Addr) (co:Nat),k≤n∧i=.int .i64 (k:Int)∧Hid (CtS U wr Y (ts.take k) Ao k co)) (fun i _=>n - (intOf i).toNat)
 case atStart=>exact⟨0,none,0,yAE _,rfl,HS.out⟩
 case round=>
  obtain⟨k,Ao,co,hk,rfl,hS⟩:=hrel;have hcx:wr.cell? ⟨X,0,none⟩=some (.slice A n c):=(hS.out.below.cell (p:=⟨X,0,none⟩) (show X < Y by omega)).trans a2;have hco:=hS.out.cell
  by_cases hlt:k < n
  · have h1:(k:Int) < (n:Int):=by omega
    have h2:decide ((k:Int) < (n:Int))=true:=decide_eq_true h1;have hBY:B≤Y:=by have:=HB.out;omega
    obtain⟨b,o,x,s,rfl,hbB,hx,hC,hR⟩:=(HN.out.below (hS.out.below.mono hBY)).get hlt;obtain⟨kc0,kc1,kc2,kc3,kc4,kc5,kc6,kc7⟩:=hC;obtain⟨q1,q2,q3,q4⟩:=HFW.out.each x (List.mem_of_getElem? hx);have HR:=zA hR;have htk:=zA (show ts.take (k+1)=ts.take k++[x] by rw[List.take_add_one,hx];rfl);have hsz:=hS.out.size;clear hx hR;obtain⟨Ls,hLs⟩:∃L,x.str.length=L:=⟨_,rfl⟩;obtain⟨Lm,hLm⟩:∃L,x.mag.length=L:=⟨_,rfl⟩;obtain⟨Lk,hLk⟩:∃L,x.kids.length=L:=⟨_,rfl⟩;rw[hLs]at kc2 q1;rw[hLm]at kc6 q2;rw[hLk]at kc7 q3;have R1:=zA (show Reads wr B 1 s.As Ls (zAD x.str)from by rw[←hLs];exact HR.out.str);have R2:=zA (show Reads wr B 1 s.Am Lm (zRX x.mag)from by rw[←hLm];exact HR.out.mag);have R3:=zA (show Reads wr B 1 s.Ak Lk (zBC x.kids)from by rw[←hLk];exact HR.out.kids);have HLs:=zA hLs;have HLm:=zA hLm;have HLk:=zA hLk;clear hLs hLm hLk HR;go_upto_region 6 with(fail);obtain⟨W1,hW1⟩:∃W1,wr.alloc (.cells #[.int .i64 x.kind,.string ⟨x.name.toArray⟩,.slice s.As Ls s.cs,.int .i64 x.nk,.int .i64 x.nn,.bool x.neg,.slice s.Am Lm s.cm,.slice s.Ak Lk s.ck] 48)=W1:=⟨_,rfl⟩;rw[hW1];obtain⟨Nn,hNn⟩:∃N,wr.heap.size=N:=⟨_,rfl⟩;have nb1:=zA (show Nb8 W1 Nn _ _ _ _ _ _ _ _ from by rw[←hW1];exact Nb8.new wr Nn hNn _ _ _ _ _ _ _ _ _);have sz1:W1.heap.size=Nn+1:=by rw[←hW1];simp[hNn]
    have BC1:=zA (show Below Nn wr W1 by rw[←hW1,←hNn];exact(Below.refl _ _).alloc (yAC _) _);have hNX:Y+1≤Nn:=by omega
    have hNB:B≤Nn:=by omega
    rw[hNn];have HNn:=zA hNn;clear hW1 hNn kc0 kc1 kc2 kc3 kc4 kc5 kc6 kc7 hcx hsz hco;have C1:=zA (zT3 (c:=s.cs) (w:=W1) HLs.out (show B≤W1.heap.size by omega) (R1.out.below (BC1.out.mono hNB)) (show Ls≤1000000 by omega));obtain⟨⟨_,_,p2,_,_,_,_,_⟩,_⟩:=nb1.out;go_wp2_with fail;refine C1.out.mono ?_;rintro e2 W2 ⟨A1,c1,rfl,ho1,hb1⟩;have nb2:=zA (nb1.out.below hb1 (show Nn < W1.heap.size by omega));have hs2:Nn+1≤W2.heap.size:=by rw[←sz1];exact hb1.size
    have HO1:=zA (zBK ho1 (zK W2 Nn 2 (.slice A1 Ls c1)) (show Nn < W1.heap.size by omega));have BC3:=zA ((BC1.out.trans (hb1.mono (by omega))).setCell (p:=⟨Nn,2,none⟩) (yAC _) (.slice A1 Ls c1));have nb3:=zA (nb2.out.set2 (.slice A1 Ls c1));clear p2 ho1 hb1 nb1 BC1 C1;obtain⟨⟨_,_,p2,_,_,_,_,_⟩,pf⟩:=nb2.out;have pf2:=pf 2 (by omega);go_upto_region 7 with(fail);obtain⟨W3,hW3⟩:∃W3,W2.setCell ⟨Nn,2,none⟩ (.slice A1 Ls c1)=W3:=⟨_,rfl⟩;have hs3:Nn+1≤W3.heap.size:=by rw[←hW3];simpa [World.setCell]using hs2
    rw[hW3]at HO1 BC3 nb3⊢;clear hW3 p2 pf pf2 nb2 hs2;obtain⟨⟨_,_,_,_,_,p5,p6,_⟩,_⟩:=nb3.out;have C2:=zA (zT4 (ng:=x.neg) (c:=s.cm) (w:=W3) HLm.out (show B≤W3.heap.size by omega) (R2.out.below (BC3.out.mono hNB)) (show Lm≤1000000 by omega));go_wp2_with fail;refine C2.out.mono ?_;rintro e3 W4 ⟨A2,c2,rfl,ho2,hb2⟩;have nb4:=zA (nb3.out.below hb2 (show Nn < W3.heap.size by omega));have hs4:Nn+1≤W4.heap.size:=yAD hs3 hb2.size;have HO1b:=zA (zBK (zBK (zCH HO1.out hb2) (zK W4 Nn 5 (.bool x.neg)) (show Nn < W1.heap.size by omega)) (zK _ Nn 6 (.slice A2 Lm c2)) (show Nn < W1.heap.size by omega));have HO2:=zA (zBK (zBK ho2 (zK W4 Nn 5 (.bool x.neg)) (show Nn < W3.heap.size by omega)) (zK _ Nn 6 (.slice A2 Lm c2)) (show Nn < W3.heap.size by omega));have BC5:=zA (((BC3.out.trans (hb2.mono (by omega))).setCell (p:=⟨Nn,5,none⟩) (yAC _) (.bool x.neg)).setCell (p:=⟨Nn,6,none⟩) (yAC _) (.slice A2 Lm c2));have nb5:=zA ((nb4.out.set5 (.bool x.neg)).set6 (.slice A2 Lm c2));clear p5 p6 ho2 hb2 nb3 BC3 C2 HO1;obtain⟨⟨_,_,_,_,_,p5,p6,_⟩,pf⟩:=nb4.out;have pf5:=pf 5 (by omega);have pf6:=pf 6 (by omega);go_upto_region 8 with(fail);obtain⟨W5,hW5⟩:∃W5,(W4.setCell ⟨Nn,5,none⟩ (.bool x.neg)).setCell ⟨Nn,6,none⟩ (.slice A2 Lm c2)=W5:=⟨_,rfl⟩;have hs5:Nn+1≤W5.heap.size:=by rw[←hW5];simpa [World.setCell]using hs4
    rw[hW5]at HO1b HO2 BC5 nb5⊢;clear hW5 p5 p6 pf pf5 pf6 nb4 hs4;obtain⟨⟨_,_,_,_,_,_,_,p7⟩,_⟩:=nb5.out;have C3:=zA (zT5 (c:=s.ck) (w:=W5) HLk.out (show B≤W5.heap.size by omega) (R3.out.below (BC5.out.mono hNB)) (show Lk≤1000000 by omega));go_wp2_with fail;refine C3.out.mono ?_;rintro e4 W6 ⟨A3,c3,rfl,ho3,hb3⟩;have nb6:=zA (nb5.out.below hb3 (show Nn < W5.heap.size by omega));have hs6:Nn+1≤W6.heap.size:=yAD hs5 hb3.size;have HO1c:=zA (zBK (zCH HO1b.out hb3) (zK W6 Nn 7 (.slice A3 Lk c3)) (show Nn < W1.heap.size by omega));have HO2c:=zA (zBK (zCH HO2.out hb3) (zK W6 Nn 7 (.slice A3 Lk c3)) (show Nn < W3.heap.size by omega));have HO3c:=zA (zBK ho3 (zK W6 Nn 7 (.slice A3 Lk c3)) (show Nn < W5.heap.size by omega));have BC7:=zA ((BC5.out.trans (hb3.mono (by omega))).setCell (p:=⟨Nn,7,none⟩) (yAC _) (.slice A3 Lk c3));have nb7:=zA (nb6.out.set7 (.slice A3 Lk c3));clear p7 ho3 hb3 nb5 BC5 C3 HO1b HO2;obtain⟨⟨_,_,_,_,_,_,_,p7⟩,pf⟩:=nb6.out;have pf7:=pf 7 (by omega);go_upto_region 9 with(fail);obtain⟨W7,hW7⟩:∃W7,W6.setCell ⟨Nn,7,none⟩ (.slice A3 Lk c3)=W7:=⟨_,rfl⟩;have hs7:Nn+1≤W7.heap.size:=by rw[←hW7];simpa [World.setCell]using hs6
    rw[hW7]at HO1c HO2c HO3c BC7 nb7⊢;clear hW7 p7 pf pf7 nb6 hs6;obtain⟨⟨p0,p1,p2,p3,p4,p5,p6,p7⟩,_⟩:=nb7.out;have hY7:Y < Nn:=by omega
    have hco:=(BC7.out.cell (p:=⟨Y,0,none⟩) hY7).trans hS.out.cell;have BCw:=zA (show Below wr.heap.size wr W7 by rw[HNn.out];exact BC7.out);obtain⟨ss,htr⟩:=hS.out.tr;have htl:=hS.out.len;have HOW:=zA (show W7.ownsRow (Y+1) 48 8 (.slice Ao k co) k (zR7 (ts.take k) ss)from by
     have:=(htr.below BCw.out).own;rwa [htl]at this)
    have hne:∀g,(Value.slice Ao k co).ownBlock=some g→Y+1≤g:=fun g hg=>(HOW.out.lt g hg).1;have HNE:=zA hne;clear htl hne;go_wp2_with (at_builtin;refine zCn rfl _ _ 25 rfl (Y+1) 48 i0 (.agg zT2.toArray) 8 120 underlying25 hi0 hz0 hz1 hz2 rfl (by decide) (.slice Ao k co) k (zR7 (ts.take k) ss) rfl HOW.out (by omega) [.int .i64 x.kind,.string ⟨x.name.toArray⟩,.slice A1 Ls c1,.int .i64 x.nk,.int .i64 x.nn,.bool x.neg,.slice A2 Lm c2,.slice A3 Lk c3] 1 1 rfl rfl rfl (by omega) (by decide) ?_;intro v' w' ho' hk';have hcA:=(hk'.cell (p:=⟨Y,0,none⟩) (show Y < W7.heap.size by omega) (fun e=>by have:=HNE.out Y e;omega)).trans hco;have hfA:=(hk'.frozen (p:=⟨Y,0,none⟩) (show Y < W7.heap.size by omega) (fun e=>by have:=HNE.out Y e;omega)).trans ((BC7.out.frozen (p:=⟨Y,0,none⟩) hY7).trans hS.out.fz);obtain⟨Aw,cw,rfl,_,_⟩:=zR ho');refine⟨⟨k+1,Aw,cw,by omega,by go_num,?_⟩,by simp[intOf];omega⟩;rw[htk.out];have w1le:wr.heap.size≤W1.heap.size:=by rw[HNn.out];omega
    have w3le:wr.heap.size≤W3.heap.size:=by rw[HNn.out];omega
    have w5le:wr.heap.size≤W5.heap.size:=by rw[HNn.out];omega
    refine hS.out.go (x:=x) (A1:=A1) (A2:=A2) (A3:=A3) (c1:=c1) (c2:=c2) (c3:=c3) htr BCw.out ?_ ?_ ?_ ?_ rfl ⟨hk'.os,hk'.tape,hk'.output,hk'.size,fun i hi hr=>hk'.block i hi (fun e=>hr e.symm)⟩
    · rw[HLs.out];exact zSA HO1c.out w1le
    · rw[HLm.out];exact zSA HO2c.out w3le
    · rw[HLk.out];exact zSA HO3c.out w5le
    · unfold ndV;simp only;rw[HLs.out,HLm.out,HLk.out];exact ho'
  · have h1:¬(k:Int) < (n:Int):=by omega
    have h2:decide ((k:Int) < (n:Int))=false:=yAI h1;obtain rfl:k=n:=by omega
    have z2:=(hS.out.below.cell (p:=⟨X+1,0,none⟩) hXY).trans z1;have f2:=(hS.out.below.frozen (p:=⟨X+1,0,none⟩) hXY).trans f1;obtain⟨ss,htr⟩:=hS.out.tr;have htk:ts.take k=ts:=List.take_of_length_le (by rw[HL.out];exact yAC _);rw[htk]at htr;have HTR:=zA htr;clear htr htk;go_wp2_with fail;have q0:(wr.setCell ⟨X+1,0,none⟩ (.slice Ao k co)).cell? ⟨X+1,0,none⟩=some (.slice Ao k co):=by go_simp
    refine bodyPost_ret (v:=.agg #[.slice Ao k co]) (by simp[results,results27,go_sem,q0]) rfl ?_;refine⟨_,_,rfl,⟨ss,?_⟩,?_⟩
    · exact((HTR.out.grown (zK wr (X+1) 0 (.slice Ao k co)) (by omega))).less (by rw[HX.out];omega)
    · rw[HX.out];exact(HBU.out.trans (hS.out.below.mono (by omega))).setCell (show X≤X+1 by omega) _
theorem zR8 {w:World} {base g s n:Nat} {e e2:TypeId} {v:Value} {xs cur:List Value} (h:w.ownsRow base e s v n xs) (hg:w.heap[g]? =some (.cells cur.toArray e2)) (hne:e≠e2):v.ownBlock≠some g:=by
 rcases h.2 with⟨rfl,_⟩ | ⟨g1,cap,cur1,rfl,_,hgg,_⟩
 · simp[Value.ownBlock]
 · intro e1;simp only[Value.ownBlock,Option.some.injEq]at e1;subst e1;rw[hgg]at hg;injection hg with hg;injection hg with _ h4 _;exact hne h4
theorem zUG {w w':World} {base g s n:Nat} {e e2:TypeId} {v:Value} {xs cur:List Value} (h:w.ownsRow base e s v n xs) (hg:w.heap[g]? =some (.cells cur.toArray e2)) (hne:e≠e2) (hw:w.grownBy w' (some g)):w'.ownsRow base e s v n xs:=
 h.kept hw (by
  have:=zR8 h hg hne;cases hv:v.ownBlock with
  | none=>exact .inl rfl
  | some q=>rw[hv]at this;exact .inr (fun e=>this e))
theorem TrO.map2 {w w':World} {base base':Nat} {ts:List Nd} {ss:List NdSl} {v:Value} (hk:∀(e:TypeId) (n':Nat) (v:Value) (n:Nat) (xs:List Value),e≠27→w.ownsRow base e n' v n xs→w'.ownsRow base' e n' v n xs) (h:TrO w base ts ss v):TrO w' base' ts ss v:=
 ⟨h.len,hk _ _ _ _ _ (by decide) h.own,fun i x s h1 h2=>(h.part i x s h1 h2).map fun e v n xs he ho=>hk e 1 v n xs (by rcases he with rfl | rfl | rfl<;>decide) ho,h.apart⟩
structure NsS (W wr:World) (Bx:Nat) (ts:List Nd) (A:Option Addr) (n c:Nat):Prop where
 box:∃cur:List Value,wr.heap[Bx]? =some (.cells cur.toArray 27)
 cell:wr.cell? ⟨Bx,0,none⟩=some (.slice A n c)
 fz:wr.frozen? ⟨Bx,0,none⟩=false
 len:ts.length=n
 tr:∃ss,TrO wr W.heap.size ts ss (.slice A n c)
 below:Below W.heap.size W wr
 bx:W.heap.size≤Bx
section
variable {W wr w':World} {Bx n c:Nat} {ts:List Nd} {A:Option Addr}
theorem NsS.lt (h:NsS W wr Bx ts A n c):Bx < wr.heap.size:=by
 obtain⟨cur,hc⟩:=h.box;rcases Nat.lt_or_ge Bx wr.heap.size with h' | h'
 · exact h'
 · rw[Array.getElem?_eq_none h']at hc;cases hc
theorem NsS.go (h:NsS W wr Bx ts A n c) (hb:Below wr.heap.size wr w'):NsS W w' Bx ts A n c:=by
 obtain⟨cur,hc⟩:=h.box;obtain⟨ss,ht⟩:=h.tr;exact⟨⟨cur,(hb.block Bx h.lt).trans hc⟩,(hb.cell (p:=⟨Bx,0,none⟩) h.lt).trans h.cell,(hb.frozen (p:=⟨Bx,0,none⟩) h.lt).trans h.fz,h.len,⟨ss,ht.below hb⟩,h.below.trans (hb.mono h.below.size),h.bx⟩
theorem NsS.form (h:NsS W wr Bx ts A n c) (h0:0 < n):∃g,A=some ⟨g,0,none⟩∧W.heap.size≤g∧g < wr.heap.size∧g≠Bx:=by
 obtain⟨ss,ht⟩:=h.tr;have ho:=ht.own;rw[h.len]at ho;obtain⟨g,cap,hv,hb,hlt⟩:=ho.form h0;have hA:A=some ⟨g,0,none⟩:=by injection hv
 obtain⟨cur,hc⟩:=h.box;have hne:=zR8 ho hc (by decide);refine⟨g,hA,hb,hlt,fun e=>hne ?_⟩;rw[hA,e];rfl
theorem NsS.kids {g i cn n':Nat} {An:Option Addr} {x:Nd} {s:NdSl} {ks:List Int} {ss:List NdSl} {w1:World} (h:NsS W wr Bx ts (some ⟨g,0,none⟩) n c) (ht:TrO wr W.heap.size ts ss (.slice (some ⟨g,0,none⟩) n c)) (hx:ts[i]? =some x) (hs:ss[i]? =some s)
 (hg:wr.grownBy w1 s.kb) (ho:w1.ownsRow W.heap.size 3 1 (.slice An n' cn) n' (zBC ks)) (hn:ks.length=n') (hb:An.map (·.block)=s.kb∨∃r,An.map (·.block)=some r∧wr.heap.size≤r):
 NsS W (w1.setCell ⟨g,i*8+7,none⟩ (.slice An n' cn)) Bx (ts.set i {x with kids:=ks}) (some ⟨g,0,none⟩) n c:=by
 have hlen:=h.len;obtain⟨cur,hc⟩:=h.box;have ht1:=ht;rw[←hlen]at ht1;obtain⟨ht2,hgr⟩:=ht1.kids hx hs hg ho hn hb;have hgB:g≠Bx:=by
  have:=zR8 ht.own hc (by decide);intro e;exact this (by rw[←e];rfl)
 have hkB:s.kb≠some Bx:=by
  have:=zR8 (ht.part i x s hx hs).kids hc (by decide);rwa [zST]at this
 have hW:W.heap.size≤wr.heap.size:=h.below.size;have c1:w1.heap[Bx]? =wr.heap[Bx]? :=hg.block Bx h.lt (fun e=>hkB e.symm);have b1:Below W.heap.size W w1:=h.below.grown hg hW (fun k hk=>by
  obtain⟨q1,_⟩:=(ht.part i x s hx hs).kids.lt k (by rw[zST];exact hk);exact q1)
 have gW:W.heap.size≤g:=(ht.own.lt g rfl).1;have e1:(w1.setCell ⟨g,i*8+7,none⟩ (.slice An n' cn)).heap[Bx]? =wr.heap[Bx]? :=(Below.heap_setCell _ _ _ _ (fun e=>hgB e.symm)).trans c1;refine⟨⟨cur,e1.trans hc⟩,(World.cell?_of_block (show _=wr.heap[(⟨Bx,0,none⟩:Addr).block]? from e1)).trans h.cell,(World.frozen?_of_block (show _=wr.heap[(⟨Bx,0,none⟩:Addr).block]? from e1)).trans h.fz,by rw[List.length_set];exact hlen,⟨_,by rw[←hlen];exact ht2⟩,b1.setCell gW _,h.bx⟩
theorem NsS.reads (h:NsS W wr Bx ts A n c) (hp:∀x∈ts,NdP x):NdsR wr wr.heap.size A n ts:=by
 obtain⟨ss,ht⟩:=h.tr;exact ht.reads h.len hp
theorem NsS.cap (h:NsS W wr Bx ts A n c):n≤c∧c≤maxLen:=by
 obtain⟨ss,ht⟩:=h.tr;obtain⟨A',c',hv,h1,h2⟩:=zR ht.own;injection hv with _ _ e;subst e;rw[h.len]at h1;exact⟨h1,h2⟩
end
section
variable {P:Program} {w:World} {ops:Array Oper} {o:Oper} {a:Act} {K:Act→World→Prop} {Q:Exit→Act→World→Prop} {E:Prop}
theorem zSn (hgd:o.guard=none) (s x:Operand) (t:TypeId)
 (ho:o.op=.call {callee:=.builtin .append,args:=#[s,x],argTypes:=#[t,t]})
 (base:Nat) (e:TypeId) (i:TypeInfo) (z:Value) (size bytes:Nat) (ht:P.underlying t=some (.slice e)) (hi:P.info? e=some i) (hz:i.zero=some z)
 (hsize:i.size=size) (hby:i.bytes=bytes) (hzs:z.cells.size=size) (hs0:0 < size)
 (v:Value) (n:Nat) (xs:List Value) (hs:a.eval s=v) (hown:w.ownsRow base e size v n xs) (hbase:base≤w.heap.size)
 (ad:Addr) (m c:Nat) (news:List Value) (hx:a.eval x=.slice (some ad) m c) (hl:news.length=m*size) (hnews:∀j u,news[j]? =some u→w.cell? (ad.add j)=some u) (h1:(news.all fun u=>u.oneCell')=true)
 (hm:0 < m) (hsz:n+m≤1099511627776) (hb2:bytes≤128)
 (h:∀v' w',w'.ownsRow base e size v' (n+m) (xs++news)→Kept w w' v v'→K (a.put o.dst v') w'):
 if Region.wanted o (yielded ops a.tmps)=true then Oper.wp P o a w K Q else E:=by
 refine step_append_lies w hgd s x t ho base e i z size bytes ht hi hz hsize hby hzs hs0 v n xs hs hown ad m c news hx hl hnews (fun u hu=>List.all_eq_true.1 h1 u hu) hm (by unfold maxLen;omega) ?_ hbase _ rfl ?_
 · calc (n+m)*bytes≤1099511627776*128:=Nat.mul_le_mul hsz hb2
    _≤140737488355328:=by omega
 · intro gg cap w' h2 h3 h4 _;refine h _ w' h2 ⟨h3.os,h3.tape,h3.output,h3.size,fun k hk hne=>h3.block k hk (fun e=>hne e.symm),?_⟩;rcases h4 with e | e
   · exact .inl e.symm
   · exact .inr ⟨gg,rfl,by omega⟩
end
theorem NsS.cat {W w0 wr w':World} {Bx n c N c':Nat} {ts xs:List Nd} {A A':Option Addr} {ss s2:List NdSl} (h:NsS W wr Bx ts A n c) (h0:TrO w0 W.heap.size ts ss (.slice A n c)) (ht:TrO wr W.heap.size ts ss (.slice A n c))
 (hl:s2.length=xs.length) (hnd:∀(i:Nat) (x:Nd) (s:NdSl),xs[i]? =some x→s2[i]? =some s→NdO wr W.heap.size x s)
 (hfresh:∀s∈s2,∀g,s.kb=some g→w0.heap.size≤g) (hap2:∀(i j:Nat) (s r:NdSl),i < j→s2[i]? =some s→s2[j]? =some r→s.kb=none∨s.kb≠r.kb)
 (ho:w'.ownsRow W.heap.size 48 8 (.slice A' N c') N (zR7 ts ss++zR7 xs s2)) (hN:n+xs.length=N) (hk:Kept wr w' (.slice A n c) (.slice A' N c')):
 NsS W (w'.setCell ⟨Bx,0,none⟩ (.slice A' N c')) Bx (ts++xs) A' N c':=by
 obtain⟨cur,hc⟩:=h.box;have hlen:=h.len;have hB:=zR8 ht.own hc (by decide);have hw:=h.lt;have e1:w'.heap[Bx]? =wr.heap[Bx]? :=hk.block Bx hw hB;have hc1:=e1.trans hc;have hcell:w'.cell? ⟨Bx,0,none⟩=some (.slice A n c):=(World.cell?_of_block (show _=wr.heap[(⟨Bx,0,none⟩:Addr).block]? from e1)).trans h.cell;have hgr:wr.grownBy w' (Value.slice A n c).ownBlock:=⟨hk.os,hk.tape,hk.output,hk.size,fun i hi hr=>hk.block i hi (fun e=>hr e.symm)⟩;have ht2:TrO w' W.heap.size (ts++xs) (ss++s2) (.slice A' N c'):=by
  refine TrO.cat (w0:=w0) ht hl hnd hfresh hap2 h0 ?_ hgr;rw[hlen,hN];exact ho
 refine⟨⟨cur.set 0 (.slice A' N c'),?_⟩,World.cell?_setCell_same _ _ _ hcell,?_,by simp[hlen,hN],⟨_,ht2.map2 fun e n' v m xs he hr=>zUG hr hc1 he (zK _ _ _ _)⟩,?_,h.bx⟩
 · simp only[World.setCell,Array.getElem?_modify,if_true,hc1,Option.map_some];simp
 · rw[World.frozen?_setCell];exact(World.frozen?_of_block (show _=wr.heap[(⟨Bx,0,none⟩:Addr).block]? from e1)).trans h.fz
 · refine(h.below.grown hgr h.below.size fun k hk2=>?_).setCell h.bx _;exact(ht.own.lt k hk2).1
theorem NsS.one {W wr w':World} {Bx n c N c':Nat} {ts:List Nd} {x:Nd} {s:NdSl} {A A':Option Addr} {ss:List NdSl} (h:NsS W wr Bx ts A n c) (ht:TrO wr W.heap.size ts ss (.slice A n c)) (hnd:NdO wr W.heap.size x s) (hkb:s.kb=none)
 (ho:w'.ownsRow W.heap.size 48 8 (.slice A' N c') N (zR7 ts ss++ndV x s)) (hN:n+1=N) (hk:Kept wr w' (.slice A n c) (.slice A' N c')):
 NsS W (w'.setCell ⟨Bx,0,none⟩ (.slice A' N c')) Bx (ts++[x]) A' N c':=by
 refine h.cat (s2:=[s]) ht ht rfl (fun i y t hy ht=>?_) (fun t ht g hg=>?_) (fun i j t r hij ht hr=>?_) (by rw[show zR7 [x] [s]=ndV x s from List.append_nil _];exact ho) hN hk
 · have hi:i=0:=by
    have:=(List.getElem?_eq_some_iff.1 hy).1;simp at this;omega
   subst hi;obtain rfl:=Option.some.inj hy;obtain rfl:=Option.some.inj ht;exact hnd
 · obtain rfl:t=s:=by simpa using ht
   rw[hkb]at hg;cases hg
 · have:=(List.getElem?_eq_some_iff.1 hr).1;simp at this;omega
theorem FewP.allR {ts:List Nd} (h:FewP ts):(zAI ts).length≤1000000:=by have:=h.all;omega
theorem zSR:(∀k:Int,k=0∨k=5∨k=7→ -9223372036854775808≤k∧k≤9223372036854775807)∧(0:Nat)≤9223372036854775807:=⟨fun k h=>by omega,by decide⟩
def sl0:NdSl:=⟨none,none,none,0,0,0⟩
def sl1 (G:Nat):NdSl:=⟨none,none,some ⟨G,0,none⟩,0,0,1⟩
theorem zS7 (w:World) (base:Nat) {x:Nd} (h1:x.str=[]) (h2:x.mag=[]) (h3:x.kids=[]):NdO w base x sl0:=by
 refine⟨?_,?_,?_⟩
 · rw[h1];exact yAJ _ _ _ _
 · rw[h2];exact yAJ _ _ _ _
 · rw[h3];exact yAJ _ _ _ _
theorem NsS.boxed {w4 w5:World} {A:Option Addr} {n c Bx:Nat} {ts:List Nd} {ss:List NdSl} (ht:TrO w5 w4.heap.size ts ss (.slice A n c)) (hn:ts.length=n) (hb:Below w4.heap.size w4 w5) (hBx:w5.heap.size=Bx):
 NsS w4 (w5.alloc (.cells #[.slice A n c] 27)) Bx ts A n c:=by
 subst hBx;have hal:=(Below.refl w5.heap.size w5).alloc (yAC _) (.cells #[.slice A n c] 27);refine⟨⟨[_],heap_alloc_new w5 _⟩,by rw[World.cell?_alloc_at _ _ _ _ rfl];rfl,World.frozen?_alloc_new _ _ _ _,hn,⟨ss,ht.below hal⟩,hb.trans (hal.mono hb.size),hb.size⟩
theorem zTH {w:World} {base1 base2 g s1 s2 n1 n2 c:Nat} {e1 e2:TypeId} {v:Value} {xs ys:List Value} (h1:w.ownsRow base1 e1 s1 v n1 xs) (h2:w.ownsRow base2 e2 s2 (.slice (some ⟨g,0,none⟩) n2 c) n2 ys) (hne:e1≠e2):v.ownBlock≠some g:=by
 rcases h2.2 with⟨h,_⟩ | ⟨g2,cap,cur,hv,_,hg,_⟩
 · injection h with h;cases h
 · injection hv with hv;injection hv with hv;injection hv with hv;subst hv;exact zR8 (cur:=cur.toList) h1 (by simpa using hg) hne
theorem zSQ (A:Option Addr) (n c:Nat):(Value.slice A n c).ownBlock=A.map (·.block):=by cases A<;>rfl
theorem zUU {ts E:List Nd} {x:Nd} (hx:ts[0]? =some x) (hp:∀y∈ts,NdP y) (hl:ts.length≤20000) (hE:∀y∈E,NdP y):∀y∈zSD ts E,NdP y:=by
 rw[zSc rfl hx];intro y hy;have hpx:=hp x (List.mem_of_getElem? hx);rcases List.mem_append.1 hy with hy | hy
 · rcases List.mem_or_eq_of_mem_set hy with hy | rfl
   · exact hp y hy
   · refine⟨hpx.limb,fun z hz=>?_,hpx.kb,hpx.nkb,hpx.nnb,hpx.nm⟩;rcases List.mem_append.1 hz with hz | hz
     · exact hpx.kin z hz
     · have:z=(ts.length:Int):=by simpa using hz
       omega
 · exact hE y hy
theorem zUY {k:Int} (hk:k=12∨k=13∨k=14):∀y∈[zT8 k],NdP y:=by
 intro y hy;obtain rfl:y=zT8 k:=by simpa using hy
 refine⟨fun z hz=>(by cases hz),fun z hz=>(by cases hz),?_,zSR.1 0 (.inl rfl),zSR.1 0 (.inl rfl),zSR.2⟩;show -9223372036854775808≤k∧k≤9223372036854775807;omega
theorem zUZ {n:Nat} {s:List UInt8} (hn:n≤20000) (hs:s.length≤4096):∀y∈[zS3 n,zTF s],NdP y:=by
 intro y hy;rcases List.mem_cons.1 hy with rfl | hy
 · refine⟨fun z hz=>(by cases hz),fun z hz=>?_,zSR.1 5 (.inr (.inl rfl)),zSR.1 0 (.inl rfl),zSR.1 0 (.inl rfl),zSR.2⟩;have:z=((n+1:Nat):Int):=by simpa [zS3]using hz
   omega
 · obtain rfl:y=zTF s:=by simpa using hy
   exact⟨fun z hz=>(by cases hz),fun z hz=>(by cases hz),zSR.1 7 (.inr (.inr rfl)),zSR.1 0 (.inl rfl),zSR.1 0 (.inl rfl),by show s.length≤_;omega⟩
structure RfS (w3 wx:World) (Bx:Nat) (x:List Nd) (A:Option Addr) (n c m:Nat):Prop where
 ns:NsS w3 wx Bx x A n c
 e:chN x=(m,5)∧(∀y∈x,NdP y)∧(zAI x).length≤1000000
theorem zSM (A:Option Addr) (n c:Nat) (ts:List Nd) (hc:n≤c) (_hm:c≤maxLen) (kd:Int) (_hkd: -9223372036854775808≤kd∧kd≤9223372036854775807) (w:World) (hN:NdsR w w.heap.size A n ts) (hT:Tab w∧Tabs w):
 Calls prog 9 #[.agg #[.slice A n c],.int .i64 kd] w fun e w'=>e=.returned (.bool true)∧Below w.heap.size w w':=by
 obtain⟨W,hW⟩:∃W,w.alloc (.cells #[.slice A n c] 27)=W:=⟨_,rfl⟩;have hbW:Below w.heap.size w W:=by rw[←hW];exact(Below.refl _ _).alloc (yAC _) _
 have hX1:w.heap.size < W.heap.size:=by rw[←hW];simp
 have x0:W.cell? ⟨w.heap.size,0,none⟩=some (.slice A n c):=by rw[←hW,World.cell?_alloc_at _ _ _ _ rfl];rfl
 obtain⟨X,hX⟩:∃X,w.heap.size=X:=⟨_,rfl⟩;have HBW:=zA hbW;have HNW:=zA ((hN.below hbW).more hbW.size);have HLN:=zA hN.1;have HNP:=zA hN.p;have HTW:=zA (hT.1.below hT.1.lt hbW);have HT8:=zA (hT.2.grow hbW);have CF:=zA (fun(x:World) (hb:Below W.heap.size W x)=>zJ2 (HTW.out.below HTW.out.lt hb) (HT8.out.grow hb));have CW:=zA (fun(x:World) (hb:Below W.heap.size W x)=>zUF (c:=c) (HNW.out.below hb) hb.size);have CE:=zA (fun(x:World) (hb:Below W.heap.size W x) (hf:FewP ts)=>zKv (c:=c) (HNW.out.below hb) hb.size hc hf.allR);have CN:=zA (fun(x:World) (hb:Below W.heap.size W x) (hm:zO3 ts=true) (h0:0 < n)=>(show Calls prog 28 #[.agg #[.slice A n c],.int .i64 0] x (fun e w'=>∃v,e=.returned v∧MadeS x w' v (zAj ts 0))from zUS (c:=c) (j:=0) (HNW.out.below hb) hb.size hc hm h0));have CC:=zA (fun(x:World) (hb:Below W.heap.size W x) (hf:FewP ts)=>zSm (c:=c) (HNW.out.below hb) hb.size hf);go_enter func9,ntmps9;go_upto_region 1 with(fail);clear hN hbW hT hW;rw[hX]at x0 hX1;have HCX:=zA (fun(x:World) (hb:Below W.heap.size W x)=>(hb.cell (p:=⟨X,0,none⟩) hX1).trans x0);clear hX x0;go_wp2_with fail;refine(CF.out W (Below.refl _ _)).mono ?_;rintro e1 w1 ⟨rfl,hb1⟩;have HB1:=zA hb1;have y1:=HCX.out w1 hb1;clear hb1;go_wp2_with fail;refine(CW.out w1 HB1.out).mono ?_;rintro e2 w2 ⟨q,rfl,hf,hb2⟩;have HB2:=zA (zDh HB1.out hb2);have y2:=HCX.out w2 HB2.out;clear hb2 y1 HB1;have CF2:=zA (CF.out w2 HB2.out);cases q with
 | false=>
  clear hf;go_wp2_with fail;refine CF2.out.mono ?_;rintro e3 w3 ⟨rfl,hb3⟩;have HB3:=zA (zDh HB2.out hb3);clear hb3;go_wp2_with fail;go_ret;exact⟨rfl,HBW.out.trans (HB3.out.mono HBW.out.size)⟩
 | true=>
  have HF:=zA (hf rfl);clear hf;have hn20:n≤20000:=by rw[←HLN.out];exact HF.out.len
  rcases(show n=0∨(n≠0∧4093 < n)∨(0 < n∧n≤4093) by omega)with hn0 | ⟨hn0,hbig⟩ | ⟨hl0,hbig⟩;rotate_left 2
  · have l0:((n:Int)==0)=false:=yA.2 (by omega);have l1:¬(4096:Int) < (n:Int)+3:=by omega
    have l2:=yAI l1;obtain⟨⟨ca,ce⟩,hch⟩:∃q,chN ts=q:=⟨_,rfl⟩;have CC2:=zA (by have h:=CE.out w2 HB2.out HF.out;rw[hch]at h;exact h);have HCH:=zA hch;clear hch CF2;go_wp2_with fail;refine CC2.out.mono ?_;rintro e3 w3 ⟨rfl,hb3⟩;have HB3:=zA (zDh HB2.out hb3);have y3:=HCX.out w3 HB3.out;clear hb3 y2 HB2 CC2;have hcc:=zUO ts;rw[HCH.out]at hcc;rcases hcc with⟨hch,hm⟩ | ⟨hce,hm⟩ | ⟨hce,hm⟩
    · simp only[Prod.mk.injEq]at hch;obtain⟨rfl,rfl⟩:=hch;have HM:=zA hm;clear hm;have C4:=zA (CC.out w3 HB3.out HF.out);go_wp2_with fail;refine C4.out.mono ?_;rintro e4 w4 ⟨Ax,cx,rfl,⟨ss,ht4⟩,hb4⟩;obtain⟨Bx,hBx⟩:∃Bx,w4.heap.size=Bx:=⟨_,rfl⟩;go_upto_region 9 with(fail);obtain⟨w5,hw5⟩:∃w5,w4.alloc (.cells #[.slice Ax n cx] 27)=w5:=⟨_,rfl⟩;have hS:=NsS.boxed ht4 HLN.out hb4 hBx;rw[hw5]at hS⊢;have HB5:=zA (zDh HB3.out hS.below);have y5:=HCX.out w5 HB5.out;clear hw5 hBx ht4 hb4 y3 C4 l0 l1 l2;obtain⟨g,rfl,hgW,hgl,hgB⟩:=hS.form hl0;obtain⟨ss,ht⟩:=hS.tr;obtain⟨x,hx⟩:∃x,ts[0]? =some x:=⟨_,yAB (by rw[HLN.out];exact hl0)⟩;obtain⟨s,hs⟩:∃s,ss[0]? =some s:=⟨_,yAB (by rw[ht.len,HLN.out];exact hl0)⟩;have hc7:w5.cell? ⟨g,0*8+7,none⟩=some (.slice s.Ak x.kids.length s.ck):=ht.at_ HLN.out (j:=7) (by omega) hx hs;have hto:=ht.own;rw[HLN.out]at hto;have hf7:=hto.frozenAt 7;have hkk:=(ht.part 0 x s hx hs).kids;have hxl:x.kids.length≤20000:=(HF.out.each x (List.mem_of_getElem? hx)).2.2.1;rw[Nat.zero_mul,Nat.zero_add]at hc7;obtain⟨L,hL⟩:∃L,x.kids.length=L:=⟨_,rfl⟩;rw[hL]at hc7 hkk hxl;have hcx:=hS.cell;obtain⟨wl,hwl⟩:∃wl,w5.alloc (.cells #[.int .i64 (n:Int)] 3)=wl:=⟨_,rfl⟩;have bl:Below w5.heap.size w5 wl:=by rw[←hwl];exact(Below.refl _ _).alloc (yAC _) _
      obtain⟨K,hK⟩:∃K,w5.heap.size=K:=⟨_,rfl⟩;have hwlK:wl.heap.size=K+1:=by rw[←hwl];simp[hK]
      have hBK:Bx < K:=by rw[←hK];exact hS.lt
      have hgK:g < K:=by omega
      obtain⟨cur,hcur⟩:=hS.box;have NB1:=zA (zR8 hkk hcur (by decide));have NB2:=zA (zTH hkk hto (by decide));have xl:=(bl.cell (p:=⟨Bx,0,none⟩) hS.lt).trans hcx;have kl:=(bl.cell (p:=⟨g,7,none⟩) hgl).trans hc7;have fl:=(bl.frozen (p:=⟨g,7,none⟩) hgl).trans hf7;have HKL:=zA ((zCH hkk bl).drew);have hnw:=World.news_of_block (w:=wl.drew) (show wl.drew.heap[w5.heap.size]? =some _ from by rw[←hwl];exact heap_alloc_new w5 (.cells #[.int .i64 (n:Int)] 3));have HNW2:=zA hnw;have HS5:=zA hS;have HTR:=zA ht;have HXs:=zA hx;have HSs:=zA hs;have HL:=zA hL;have BL:=zA bl;have w3K:w3.heap.size≤K:=by rw[←hK];exact hS.below.size
      have hw3:w3.heap.size≤wl.drew.heap.size:=by show w3.heap.size≤wl.heap.size;omega
      have hBl:Bx < wl.drew.heap.size:=by show Bx < wl.heap.size;omega
      have hgl2:g < wl.drew.heap.size:=by show g < wl.heap.size;omega
      obtain⟨i0,hi0,hz0,hz1,hz2⟩:=info_parts Tryz.info_int;have hn1:(0:Int) < (n:Int):=by omega
      clear hS ht hx hs hto hkk hcur bl hL hnw hK hwlK hgW hgl;obtain⟨ts2,hts2⟩:∃ts2,ts.set 0 {x with kids:=x.kids++[(n:Int)]}=ts2:=⟨_,rfl⟩;have HTS:=zA hts2;clear hts2;go_upto_region 10 with(fail)
      go_cut [4,8] (fun v4 v8 wx=>v4=.bool false∧v8=.int .i64 (n:Int)∧Hid (NsS w3 wx Bx ts2 (some ⟨g,0,none⟩) n cx))
      case first=>
       go_region_law (refine zSn rfl _ _ 32 rfl w3.heap.size 3 i0 (.int .i64 0) 1 8 underlying32 hi0 hz0 hz1 hz2 rfl (by decide) (.slice s.Ak L s.ck) L (zBC x.kids) rfl HKL.out hw3 ⟨w5.heap.size,0,none⟩ 1 1 [.int .i64 (n:Int)] rfl rfl HNW2.out rfl (by omega) (by omega) (by decide) ?_;intro v' w' ho' hk';have hcA:=(hk'.cell (p:=⟨Bx,0,none⟩) hBl NB1.out).trans xl;have hcB:=(hk'.cell (p:=⟨g,7,none⟩) hgl2 NB2.out).trans kl;have hcC:=(hk'.frozen (p:=⟨g,7,none⟩) hgl2 NB2.out).trans fl;obtain⟨An,cn,rfl,_,_⟩:=zR ho')
       all_goals
        go_wp2_with fail;go_meet;refine⟨rfl,rfl,?_⟩;have hgr:w5.grownBy w' s.kb:=⟨hk'.os.trans BL.out.os,hk'.tape.trans BL.out.tape,hk'.output.trans BL.out.output,yAD BL.out.size hk'.size,fun i hi hr=>by
         have e2:(Value.slice s.Ak L s.ck).ownBlock≠some i:=by
          rw[zSQ];exact fun e=>hr e.symm
         exact(hk'.block i (yAA hi BL.out.size) e2).trans (BL.out.block i hi)⟩
        have hnw:An.map (·.block)=s.kb∨∃r,An.map (·.block)=some r∧w5.heap.size≤r:=by
         have h:=hk'.own;rw[zSQ,zSQ]at h;exact h.imp_right fun⟨r,e,hr⟩=>⟨r,e,yAD BL.out.size hr⟩
        have ho2:w'.ownsRow w3.heap.size 3 1 (.slice An (L+1) cn) (L+1) (zBC (x.kids++[(n:Int)])):=by
         have e:zBC (x.kids++[(n:Int)])=zBC x.kids++[Value.int .i64 (n:Int)]:=by simp[zBC]
         rw[e];exact ho'
        have hfin:=HS5.out.kids (i:=0) HTR.out HXs.out HSs.out hgr ho2 (by simp[HL.out]) hnw;rw[HTS.out]at hfin;exact hfin
      case rest=>
       obtain⟨rfl,rfl,hS2⟩:=hcut;clear hi0 hz0 hz1 hz2 HKL NB1 NB2 xl kl fl HNW2 BL hBl hgl2 hw3 w3K hwl hBK hgK hc7 hf7 y5 HB5 HTR HS5 HSs HL hgB hxl;have HB6:=zA (zDh HB3.out hS2.out.below);have y6:=HCX.out wc HB6.out;have C6:=zA (CN.out wc HB6.out HM.out hl0);go_wp2_with fail;refine C6.out.mono ?_;rintro e7 w7 ⟨v,rfl,hv⟩;obtain⟨Al,cl,rfl,hlc,hlm,hlr⟩:=hv.form;have HB7:=zA (zDh HB6.out hv.below);have HS7:=zA (hS2.out.go hv.below);have HLR:=zA hlr;obtain⟨l,hl⟩:∃l,zAj ts 0=l:=⟨_,rfl⟩;rw[hl]at hlc HLR⊢;have HNL:=zA hl;obtain⟨M,hM⟩:∃M,l.length=M:=⟨_,rfl⟩;rw[hM]at hlc⊢;have HML:=zA hM;have hcx7:=HS7.out.cell;clear hv hlr hl hM hS2 C6 hcx y6
       go_upto_block 0 with fail
       obtain⟨ss2,ht2⟩:=HS7.out.tr;have hto:=ht2.own;rw[HS7.out.len]at hto;have HTO:=zA hto;have HTR2:=zA ht2;have hbw:=HS7.out.below.size;obtain⟨cur,hcur⟩:=HS7.out.box;have HNB:=zA (zR8 ht2.own hcur (by decide));have hBlc:=HS7.out.lt;have HFZ:=zA HS7.out.fz;obtain⟨j0,hj0,hy0,hy1,hy2⟩:=info_parts Tryz.info_node;clear ht2 hto hcur;have HGS:=zA (fun(E:List Nd)=>show zSD ts E=ts2++E from by rw[zSc HLN.out HXs.out,HTS.out]);have HGK:=zA (fun(E:List Nd) (h:(zAI E).length≤1)=>show(zAI (ts2++E)).length≤1000000 from by rw[←HGS.out,zTd HXs.out];have:=HF.out.all;omega);have HGP:=zA (fun(E:List Nd) (h:∀y∈E,NdP y)=>show∀y∈ts2++E,NdP y from by rw[←HGS.out];exact zUU HXs.out HNP.out HF.out.len h);have HEND:=zA (fun(k:Int) (hk:k=12∨k=13∨k=14)=>show chN (ts2++[zT8 k])=(n,5)∧(∀y∈ts2++[zT8 k],NdP y)∧(zAI (ts2++[zT8 k])).length≤1000000 from
        ⟨by rw[←HGS.out,zUE HCH.out (by rw[HLN.out];omega) hk,HLN.out],HGP.out _ (zUY hk),HGK.out _ (yAE _)⟩)
       go_cut [4,8,64,85,94] (fun v4 v8 v64 v85 v94 wx=>v4=.bool false∧∃(m:Nat) (xs:List Nd) (Ar:Option Addr) (nr cr:Nat),v8=.int .i64 (m:Int)∧RfS w3 wx Bx xs Ar nr cr m)
       case first=>
        have hsw:(kd=0∧0 < M)∨(kd=0∧¬0 < M)∨kd=1∨kd=2∨(kd≠0∧kd≠1∧kd≠2):=by omega
        rcases hsw with⟨rfl,hM0⟩ | ⟨rfl,hM0⟩ | rfl | rfl | ⟨k0,k1,k2⟩
        · have z1:(0:Int) < (M:Int):=by omega
          have z2:decide ((0:Int) < (M:Int))=true:=decide_eq_true z1;have hMl:0 < l.length:=by rw[HML.out];exact hM0
          obtain⟨bl,ol,rfl,hbl,hcell⟩:=HLR.out.spotV hMl;have s7:=hcell 0 (.string ⟨l[0].toArray⟩) (by simp[zBQ,yAB hMl]);obtain⟨s1,hs1⟩:∃s1,l[0]=s1:=⟨_,rfl⟩;rw[hs1,Nat.add_zero]at s7;have hsm:s1∈zAj ts 0:=by rw[HNL.out,←hs1];exact List.getElem_mem hMl
          have hE:=zTz HCH.out (by rw[HLN.out];omega) hsm;have hE2:=zUZ (n:=n) (by omega) (zSj HM.out hsm).2;rw[HLN.out,HGS.out]at hE;have HE:=zA (show chN (ts2++[zS3 n,zTF s1])=(0,5)∧(∀y∈ts2++[zS3 n,zTF s1],NdP y)∧(zAI (ts2++[zS3 n,zTF s1])).length≤1000000 from⟨hE,HGP.out _ hE2,HGK.out _ (yAC _)⟩);have hwr:IntKind.i64.wrap ((n:Int)+1)=(n:Int)+1:=by rw[IntKind.wrap_i64];omega
          obtain⟨K,hK⟩:∃K,w7.heap.size=K:=⟨_,rfl⟩;obtain⟨w8,hw8⟩:∃w8,w7.alloc (.cells #[.int .i64 ((n:Int)+1)] 3)=w8:=⟨_,rfl⟩;have hs8:w8.heap.size=K+1:=by rw[←hw8];simp[hK]
          have b8:Below w7.heap.size w7 w8:=by rw[←hw8];exact(Below.refl _ _).alloc (yAC _) _
          obtain⟨w9,hw9⟩:∃w9,w8.alloc (.cells #[.int .i64 5,.string ⟨#[]⟩,.slice none 0 0,.int .i64 0,.int .i64 0,.bool false,.slice none 0 0,.slice (some ⟨K,0,none⟩) 1 1,.int .i64 7,.string ⟨s1.toArray⟩,.slice none 0 0,.int .i64 0,.int .i64 0,.bool false,.slice none 0 0,.slice none 0 0] 48)=w9:=⟨_,rfl⟩;have b9:Below w8.heap.size w8 w9:=by rw[←hw9];exact(Below.refl _ _).alloc (yAC _) _
          have hs9:w9.heap.size=K+2:=by rw[←hw9];simp[hs8]
          have b79:Below w7.heap.size w7 w9:=b8.trans (b9.mono b8.size);have B9:=zA b79.drew;have s8:=(b8.cell (p:=⟨bl,ol,none⟩) hbl).trans s7;have s9:=(b79.cell (p:=⟨bl,ol,none⟩) hbl).trans s7;have c8:=(b8.cell (p:=⟨Bx,0,none⟩) hBlc).trans hcx7;have c9:=(b79.cell (p:=⟨Bx,0,none⟩) hBlc).trans hcx7;have f9:=(b79.frozen (p:=⟨Bx,0,none⟩) hBlc).trans HFZ.out;have HS9:=zA (HS7.out.go B9.out);have HT9:=zA (HTR2.out.below B9.out);have HO9:=zA (zCH HTO.out B9.out);have hk1:w8.ownsRow w3.heap.size 3 1 (.slice (some ⟨K,0,none⟩) 1 1) 1 (zBC [((n+1:Nat):Int)]):=by
           rw[←hw8,←hK];exact World.ownsRow_lit (base:=w3.heap.size) (e:=3) (size:=1) w7 #[.int .i64 ((n:Int)+1)] 1 hbw (by decide) rfl
          have HK1:=zA (zCH hk1 b9.drew);have hbl9:w9.heap[K+1]? =some (.cells (ndV (zS3 n) (sl1 K)++ndV (zTF s1) sl0).toArray 48):=by rw[←hw9,←hs8];exact heap_alloc_new w8 _
          have HNEW:=zA (World.news_of_block (w:=w9.drew) hbl9);have hBl9:Bx < w9.drew.heap.size:=by show Bx < w9.heap.size;omega
          have hb9:w3.heap.size≤w9.drew.heap.size:=by show w3.heap.size≤w9.heap.size;omega
          clear hcell hs1 hsm hE hE2 b8 b9 b79 hk1 hbl9 hMl;go_upto_region 14 with(fail);go_region_law (refine zSn rfl _ _ 25 rfl w3.heap.size 48 j0 (.agg zT2.toArray) 8 120 underlying25 hj0 hy0 hy1 hy2 rfl (by decide) (.slice (some ⟨g,0,none⟩) n cx) n (zR7 ts2 ss2) rfl HO9.out hb9 ⟨K+1,0,none⟩ 2 2 (ndV (zS3 n) (sl1 K)++ndV (zTF s1) sl0) rfl rfl HNEW.out rfl (by decide) (by omega) (by decide) ?_;intro v' w' ho' hk';have hcA:=(hk'.cell (p:=⟨Bx,0,none⟩) hBl9 HNB.out).trans c9;have hfA:=(hk'.frozen (p:=⟨Bx,0,none⟩) hBl9 HNB.out).trans f9;obtain⟨Aw,cw,rfl,_,_⟩:=zR ho')
          all_goals
           go_wp2_with fail;go_meet;refine⟨rfl,0,ts2++[zS3 n,zTF s1],Aw,n+2,cw,rfl,?_,HE.out⟩;refine HS9.out.cat (s2:=[sl1 K,sl0]) HTR2.out HT9.out rfl (fun i x s hx hs=>?_) (fun s hs g hg=>?_) (fun i j s r hij hs hr=>?_) ho' rfl hk'
           · rcases i with _ | _ | i
             · obtain rfl:=Option.some.inj hx;obtain rfl:=Option.some.inj hs;exact⟨yAJ _ _ _ _,yAJ _ _ _ _,HK1.out⟩
             · obtain rfl:=Option.some.inj hx;obtain rfl:=Option.some.inj hs;exact zS7 _ _ rfl rfl rfl
             · cases hx
           · rcases List.mem_cons.1 hs with rfl | hs
             · obtain rfl:=Option.some.inj hg;exact Nat.le_of_eq hK
             · obtain rfl:s=sl0:=by simpa using hs
               cases hg
           · rcases i with _ | i
             · rcases j with _ | _ | j
               · omega
               · obtain rfl:=Option.some.inj hs;obtain rfl:=Option.some.inj hr;right;intro e;cases e
               · cases hr
             · rcases j with _ | _ | j
               · omega
               · omega
               · cases hr
        all_goals
         try (have z1:decide ((0:Int) < (M:Int))=false:=yAI (by omega);have z2:decide (0 < M)=false:=yAI hM0)
         try (have z0:=yA.2 k0;have z1:=yA.2 k1;have z2:=yA.2 k2)
         go_wp2_with (at_builtin;refine zCn rfl _ _ 25 rfl w3.heap.size 48 j0 (.agg zT2.toArray) 8 120 underlying25 hj0 hy0 hy1 hy2 rfl (by decide) (.slice (some ⟨g,0,none⟩) n cx) n (zR7 ts2 ss2) rfl HTO.out hbw [.int .i64 _,.string ⟨#[]⟩,.slice none 0 0,.int .i64 0,.int .i64 0,.bool false,.slice none 0 0,.slice none 0 0] 1 1 rfl rfl rfl (by omega) (by decide) ?_;intro v' w' ho' hk';have hcA:=(hk'.cell (p:=⟨Bx,0,none⟩) hBlc HNB.out).trans hcx7;have hfA:=(hk'.frozen (p:=⟨Bx,0,none⟩) hBlc HNB.out).trans HFZ.out;obtain⟨Aw,cw,rfl,_,_⟩:=zR ho');go_meet;refine⟨rfl,n,_,Aw,n+1,cw,rfl,HS7.out.one (x:=zT8 _) (s:=sl0) HTR2.out (zS7 _ _ rfl rfl rfl) rfl ho' rfl hk',HEND.out _ (by decide)⟩
       case rest=>
        obtain⟨rfl,m,xs,Ar,nr,cr,rfl,hR⟩:=hcut;have HBq:=zA (zDh HB3.out hR.ns.below);have hcxq:=hR.ns.cell;have CQ:=zA (zKv (c:=cr) (hR.ns.reads hR.e.2.1) (yAC _) hR.ns.cap.1 hR.e.2.2);rw[hR.e.1]at CQ;have CF3:=zA (fun(v:World) (hb:Below wc.heap.size wc v)=>CF.out v (zDh HBq.out hb));clear hR;go_wp2_with fail;refine CQ.out.mono ?_;rintro e8 w8 ⟨rfl,hb8⟩;have HB8:=zA hb8;clear hb8;go_wp2_with fail;refine(CF3.out w8 HB8.out).mono ?_;rintro e9 w9 ⟨rfl,hb9⟩;have HB9:=zA (zDh HBq.out (zDh HB8.out hb9));clear hb9;go_wp2_with fail;go_ret;exact⟨rfl,HBW.out.trans (HB9.out.mono HBW.out.size)⟩
    all_goals
     obtain rfl:=hce;have C4:=zA (CF.out w3 HB3.out);clear hm;go_wp2_with fail;refine C4.out.mono ?_;rintro e4 w4 ⟨rfl,hb4⟩;have HB4:=zA (zDh HB3.out hb4);clear hb4;go_wp2_with fail;go_ret;exact⟨rfl,HBW.out.trans (HB4.out.mono HBW.out.size)⟩
  all_goals
   try have l0:((n:Int)==0)=true:=by rw[hn0];rfl
   try have l0:((n:Int)==0)=false:=yA.2 (by omega)
   try have l1:(4096:Int) < (n:Int)+3:=by omega
   try have l2:=decide_eq_true l1
   clear hn0;go_wp2_with fail;refine CF2.out.mono ?_;rintro e3 w3 ⟨rfl,hb3⟩;go_wp2_with fail;go_ret;exact⟨rfl,HBW.out.trans ((zDh HB2.out hb3).mono HBW.out.size)⟩
end Go.Proofs.YtlohaclgbfhijaaGreatDoor
