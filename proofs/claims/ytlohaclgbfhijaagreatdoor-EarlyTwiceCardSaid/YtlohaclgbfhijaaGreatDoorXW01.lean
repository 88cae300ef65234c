/- Joined for the claim EarlyTwice: the parser, the lexer and the trees as they are walked, made short by a program of mine. -/
import Derived.Shelf.Small.Strs
import Derived.Shelf.Strconv.Itoa0
import Derived.Shelf.Strconv.Itoa1
import Derived.Shelf.LaysM
import Derived.Shelf.Strconv.Itoa2
import Derived.Shelf.Strconv.Itoa3
import Derived.Shelf.Strings.Search1
import Derived.Shelf.Slices.Turned
import Derived.Shelf.Slices.Equal
import Derived.Ground.Names2Prog
import Derived.Shelf.Slices.Clone
import Derived.Shelf.Slices.Empties2
import Derived.Ground.SlgnProg
import Derived.Shelf.SlicesE.Clone
import Derived.Test.YtlohaclgbfhijaaGreatDoorProg
import Derived.Test.YtlohaclgbfhijaaGreatDoorCards
import Derived.Test.YtlohaclgbfhijaaGreatDoorTie
import Derived.ProofKit
import Derived.OpenShut
import Derived.Deep.DeepHandedRow
import Derived.Lib.LaidTab
import Derived.Lib.LaidU8
import Derived.Deep.Slices
import Derived.Lib.SliceRun
import Derived.Deep.CutBlock
import Derived.Deep.DeepCutAuto
import Derived.Test.YtlohaclgbfhijaaGreatDoorE01
import Derived.Test.YtlohaclgbfhijaaGreatDoorE02
import Derived.Test.YtlohaclgbfhijaaGreatDoorE03
import Derived.Test.YtlohaclgbfhijaaGreatDoorE04
import Derived.Test.YtlohaclgbfhijaaGreatDoorE05
import Derived.Test.YtlohaclgbfhijaaGreatDoorE06
import Derived.Test.YtlohaclgbfhijaaGreatDoorE07
import Derived.Test.YtlohaclgbfhijaaGreatDoorE08
import Derived.Test.YtlohaclgbfhijaaGreatDoorE09
import Derived.Test.YtlohaclgbfhijaaGreatDoorE10
import Derived.Test.YtlohaclgbfhijaaGreatDoorE11
import Derived.Test.YtlohaclgbfhijaaGreatDoorE12
import Derived.Test.YtlohaclgbfhijaaGreatDoorE13
import Derived.Test.YtlohaclgbfhijaaGreatDoorE14
import Derived.Test.YtlohaclgbfhijaaGreatDoorE15
import Derived.Test.YtlohaclgbfhijaaGreatDoorE16
import Derived.Test.YtlohaclgbfhijaaGreatDoorE17
import Derived.Test.YtlohaclgbfhijaaGreatDoorE18
import Derived.Test.YtlohaclgbfhijaaGreatDoorE19
import Derived.Test.YtlohaclgbfhijaaGreatDoorE20
import Derived.Test.YtlohaclgbfhijaaGreatDoorE21
import Derived.Test.YtlohaclgbfhijaaGreatDoorE22
import Derived.Test.YtlohaclgbfhijaaGreatDoorE23
import Derived.Test.YtlohaclgbfhijaaGreatDoorE24
import Derived.Test.YtlohaclgbfhijaaGreatDoorE25
set_option maxHeartbeats 16000000
set_option maxRecDepth 1000000
namespace Go.Proofs.YtlohaclgbfhijaaGreatDoor
open Go.Proofs.Tryz
open Go.RowKit
section
variable {w w':World} {B B' size n:Nat} {A:Option Addr} {xs:List Value}
theorem Reads.drew (h:Reads w B size A n xs):Reads w.drew B size A n xs:=h
end
theorem Made.drew {w0 w:World} {e:TypeId} {v:Value} {xs:List Value} (h:Made w0 w e v xs):Made w0 w.drew e v xs:=⟨h.own.drew,h.below.drew⟩
theorem Reads.u8 {w:World} {B n:Nat} {A:Option Addr} {xs:List UInt8} (h:Reads w B 1 A n (u8s xs)) {k:Nat} (hk:k < xs.length):
 ∃ad,A=some ad∧ad.block < B∧w.cell? (ad.add k)=some (.int .u8 (xs[k].toNat:Int)):=by
 have hl:xs.length=n:=by have:=h.1;simpa [u8s]using this
 obtain⟨ad,u,e,hb,hx,hc⟩:=h.at_ (k:=k) (by omega);refine⟨ad,e,hb,?_⟩;rw[hc];simp[u8s,hk]at hx;rw[←hx];rfl
end Go.Proofs.YtlohaclgbfhijaaGreatDoor
namespace Go.Proofs
open Go.Proofs.Tryz
open Go.Shelf
def Tryz.laysNm215_ren:Go.Shelf.Ren:=⟨fun | 15=>38 | n=>n,fun | 22=>32 | 3=>3 | 4=>4 | n=>n,fun | n=>n⟩
theorem Tryz.laysNm215:Go.Proofs.Lays2.n15 prog Tryz.laysNm215_ren:={
 mixed:=by kernel_rfl
 f15:=func38.trans (congrArg some (by kernel_rfl))
 t3:=underlying3
 a3:=Tryz.isAgg3
 z3:=Tryz.sizeOf3
 v3:=Tryz.zeroValue3
 t4:=underlying4
 a4:=Tryz.isAgg4
 z4:=Tryz.sizeOf4
 v4:=Tryz.zeroValue4
 t22:=underlying32
 a22:=Tryz.isAgg32
 z22:=Tryz.sizeOf32
 v22:=Tryz.zeroValue32
 i3:=by kernel_rfl}
open Go.RowKit Go.Lib in
theorem Tryz.slices_Clone_int (b off n c:Nat) (zs:List Int) (w:World) (hz:n≤zs.length) (hbig:n*8≤140737488355328) (hc:∀j,j < zs.length→w.cell? ⟨b,off+j,none⟩=some (.int .i64 (zs.getD j 0))):
 Calls prog 38 #[.slice (some ⟨b,off,none⟩) n c] w fun e w'=>∃v',e=.returned v'∧w'.ownsRow w.heap.size 3 1 v' n ((zs.take n).map (Value.int .i64))∧v'≠.slice none 0 0∧Below w.heap.size w w':=Any.slices_Clone_int Tryz.laysNm215 b off n c zs w hz hbig hc
open Go.RowKit Go.Lib in
theorem Tryz.slices_Clone_int_nil (n c:Nat) (w:World):
 Calls prog 38 #[.slice none n c] w fun e w'=>e=.returned (.slice none 0 0)∧w'=w:=Any.slices_Clone_int_nil Tryz.laysNm215 n c w
open Go.RowKit Go.Lib in
theorem Tryz.slices_Clone_int_zero (a:Addr) (c:Nat) (w:World):
 Calls prog 38 #[.slice (some a) 0 c] w fun e w'=>∃v',e=.returned v'∧w'.ownsRow w.heap.size 3 1 v' 0 []∧v'≠.slice none 0 0∧Below w.heap.size w w':=Any.slices_Clone_int_zero Tryz.laysNm215 a c w
end Go.Proofs
namespace Go.Proofs.YtlohaclgbfhijaaGreatDoor
open Go.Proofs.Tryz
open Go.RowKit
theorem MadeM.u16 {w0 w:World} {g:Nat} {e:TypeId} {v:Value} {xs:List UInt16} (h:MadeM w0 w g e v (zAD xs)):
 ∃A c,v=.slice A xs.length c∧xs.length≤c∧c≤maxLen∧Reads w w.heap.size 1 A xs.length (zAD xs):=by
 obtain⟨A,c,hv,h1,h2,h3⟩:=h.shape;have e:(zAD xs).length=xs.length:=by simp[zAD]
 rw[e]at hv h1 h3;exact⟨A,c,hv,h1,h2,h3⟩
def ndV (x:Nd) (s:NdSl):List Value:=[.int .i64 x.kind,.string ⟨x.name.toArray⟩,.slice s.As x.str.length s.cs,.int .i64 x.nk,.int .i64 x.nn,.bool x.neg,.slice s.Am x.mag.length s.cm,.slice s.Ak x.kids.length s.ck]
section
variable {w w':World} {B B' n:Nat} {A:Option Addr} {ts:List Nd}
theorem NdsR.nil (h:n=0):NdsR w B A n []:=⟨h.symm,fun h0=>by omega⟩
end
section
variable {w w' w'':World} {v v' v'':Value}
theorem Kept.refl (w:World) (v:Value):Kept w w v v:=⟨rfl,rfl,rfl,yAC _,fun _ _ _=>rfl,.inl rfl⟩
theorem Kept.frozen (h:Kept w w' v v') {p:Addr} (hp:p.block < w.heap.size) (hne:v.ownBlock≠some p.block):w'.frozen? p=w.frozen? p:=World.frozen?_of_block (h.block p.block hp hne)
theorem Kept.alloc (h:Kept w w' v v') (o:Obj):Kept w (w'.alloc o) v v':=
 ⟨h.os,h.tape,h.output,by have:=h.size;simp;omega,fun i hi hne=>(heap_alloc_old w' o (yAA hi h.size)).trans (h.block i hi hne),h.own⟩
end
section Zq
open Go.ChangeShapes Go.WideShapes Go.ChangeAt Go.RowKit Go.Lib
section
variable {H:Type} {enc:TypeId×Value→H} {W:World} {base:Nat}
theorem Tryz.laidOut:laidOutB prog=true:=by kernel_rfl
theorem zSA {W':World} {sp':Nat→Bool}:∀{ts:List TypeId} {vs:List Value} {ds:List (DataW H)} {ps:List MemPlace},(∀t∈ts,prog.readableRec t=true∧t < prog.types.size)→
 DataW.TrodAll enc prog W 0 (fun _=>true) true ts vs ds ps→Below W.heap.size W W'→(∀x∈ps,x.block < W.heap.size)→(∀p∈ps,sp' p.block=true)→DataW.TrodAll enc prog W' 0 sp' true ts vs ds ps:=by
 intro ts
 induction ts with
 | nil=>
  intro vs ds ps _ h _ _ _;obtain⟨rfl,rfl,rfl⟩:=trodAll_nil h;exact trodAll_mk0
 | cons t ts ih=>
  intro vs ds ps hr h hb hlt hs;obtain⟨v,vs',d,ds',p,q,rfl,rfl,rfl,h0,r0⟩:=trodAll_cons h;have ht:=hr t (by simp);exact trodAll_cons_mk (WideElems.Trod_stays Tryz.laidOut ht.1 ht.2 h0 (fun x hx=>hb.same (hlt x (by simp[hx]))) (fun x hx=>hs x (by simp[hx])))
   (ih (fun t' h'=>hr t' (by simp[h'])) r0 hb (fun x hx=>hlt x (by simp[hx])) (fun x hx=>hs x (by simp[hx])))
theorem zSB {P:Program} {f:Func} {s:ChangeSpec} {apart fresh handsOn again:Bool} {W W':World} {args:Array Value} {v:Value} {ds gs:List (DataW H)} {before pa pv:List MemPlace}
 (hW:DataW.Whole enc P f.params.toList s.vars apart W args.toList ds gs before)
 (hres:∀(b:Nat) (sp:Nat→Bool) (hd:Bool),DataW.TrodAll enc P W' b sp hd f.resultTypes.toList (v.resultList f.resultTypes.size) (s.fn H (ds++gs)).results [])
 (hargs:∀sp:Nat→Bool,(∀p∈before,sp p.block=true)→DataW.TrodAll enc P W' 0 sp true f.params.toList args.toList (s.fn H (ds++gs)).args pa)
 (hvars:∀sp:Nat→Bool,(∀p∈before,sp p.block=true)→DataW.TrodVars enc P W' sp s.vars (s.fn H (ds++gs)).vars pv)
 (hps:before=pa++pv) (hb:Below W.heap.size W W')
 (hok:∀(j:Nat) (t:TypeId) (r:Value),f.resultTypes[j]? =some t→(v.resultList f.resultTypes.size)[j]? =some r→Value.okWide P W' .any 0 t r):
 s.post enc P f apart fresh handsOn again W args v W':=by
 have hlt:∀p∈before,p.block < W.heap.size:=fun p hp=>hW.lt p hp;have hold:∀p∈before,(fun b=>decide (b < W.heap.size)) p.block=true:=fun p hp=>by simpa using hlt p hp
 refine⟨ds,gs,before,[],pa,pv,hW,hres _ _ _,hargs _ hold,hvars _ hold,World.keptBut_mono (fun p hp=>⟨hp,?_⟩) (hb.frame (·∈before)),fun _=>?_⟩
 · rw[hps,List.mem_append]at hp;exact Or.inr hp
 · obtain⟨_,_,_,_,_,hz,hn⟩:=hW;refine⟨hok,_,_,([]++pa)++pv,⟨[]++pa,pv,trodAll_append (hargs _ (fun _ _=>rfl)) (hres _ _ _),hvars _ (fun _ _=>rfl),rfl,?_,?_⟩,?_⟩
   · intro b off hp;have hin:MemPlace.cell b off∈before:=by rw[hps];simpa using hp
     rw[hb.frozen (hlt _ hin)];exact hz b off hin
   · intro ha;have:=hn ha;rw[hps]at this;simpa using this
   · intro p hp _;rw[hps];simpa using hp
end
def zSq:DataW Unit→List Int
 | .agg l=>l.map fun d=>match d with | .lit (.int _ z)=>z | _=>0
 | _=>[]
def zSd (h:Array Obj):Array Obj:=
 ((h.modify 3 fun
  | .cells _ t frozen=>.cells (Lib.pow10Tab.map fun z=>Value.int .u64 z).toArray t frozen
  | o=>o).modify 4 fun
  | .cells _ t frozen=>.cells ((zSq Rows.laid_math_bits_deBruijn32tab).map fun z=>Value.int .u8 z).toArray t frozen
  | o=>o).modify 5 fun
  | .cells _ t frozen=>.cells ((zSq Rows.laid_math_bits_deBruijn64tab).map fun z=>Value.int .u8 z).toArray t frozen
  | o=>o
end Zq
section Zq
open Go.ChangeShapes Go.WideShapes Go.ChangeAt Go.RowKit Go.Lib
def zSQ (h:Array Obj):Array Obj:=
 (h.modify 0 fun
  | .cells _ t frozen=>.cells (((List.range 256).map fun c=>Value.int .u8 (firstT c:Int)).toArray) t frozen
  | o=>o).modify 1 fun
  | .cells _ t frozen=>.cells (((List.range 16).flatMap fun i=>[Value.int .u8 (accLo i:Int),Value.int .u8 (accHi i:Int)]).toArray) t frozen
  | o=>o
noncomputable def zR7 (os:Os):World:=
 let w:=World.holding prog os ⟨#[],#[],[]⟩
 {w with heap:=zSQ (zSd w.heap)}
end Zq
section Zq
open Go.ChangeShapes Go.WideShapes Go.ChangeAt Go.RowKit
theorem zSE:prog.cellsOf 48=8:=by kernel_rfl
theorem zSR:prog.cellsOf 27=1:=by kernel_rfl
theorem zSG:prog.cellsOf 39=2:=by kernel_rfl
theorem zSH:prog.cellsOf 42=2:=by kernel_rfl
theorem zSC:prog.cellsOf 3=1:=by kernel_rfl
theorem zSe:prog.cellsOf 9=1:=by kernel_rfl
theorem zSS:prog.cellsOf 4=1:=by kernel_rfl
theorem zSf:prog.cellsOf 24=1:=by kernel_rfl
theorem zSg:prog.cellsOf 87=1:=by kernel_rfl
theorem zST:prog.cellsOf 22=1:=by kernel_rfl
theorem zSU:prog.cellsOf 40=1:=by kernel_rfl
theorem zSV:prog.cellsOf 32=1:=by kernel_rfl
theorem zSJ:prog.cellsOf 25=1:=by kernel_rfl
section
variable {H:Type} {enc:TypeId×Value→H} {W:World}
theorem zR8 {t e:TypeId} {k:IntKind} {fuel:Nat} {cs:List Value} {x:DataW H×List MemPlace} (ht:prog.underlying t=some (.slice e)) (he:prog.underlying e=some (.int k)) (hc:prog.cellsOf e=1)
 (h:DataW.trod enc prog W 0 (fun _=>true) true fuel t cs=some x):
 ∃(A:Option Addr) (n c:Nat) (zs:List Int),cs=[.slice A n c]∧n≤c∧c≤maxLen∧zs.length=n∧(∀z∈zs,(Lit.int k z).wf=true)∧Reads W W.heap.size 1 A n (zs.map (Value.int k)):=by
 rcases open_ints ht he hc h with⟨hcs,_⟩ | ⟨a,len,cap,zs,hcs,_,hl,hm,hz,_,hcell,hwf⟩
 · exact⟨none,0,0,[],hcs,yAC _,yAE _,rfl,fun z hz=>(by cases hz),Reads.none_⟩
 · simp only[if_true]at hz;have hlen:(zs.take len).length=len:=by rw[List.length_take];omega
   refine⟨some a,len,cap,zs.take len,hcs,hl,hm,hlen,fun z hz'=>hwf z (List.mem_of_mem_take hz'),by rw[List.length_map,hlen,Nat.mul_one],fun hn=>⟨a,rfl,?_,fun j u hu=>?_⟩⟩
   · have h0:=hcell 0 (by omega);have:=World.block_lt_of_cell? W _ h0;rwa [zDe]at this
   · have hj:j < len:=by
      have:=(List.getElem?_eq_some_iff.1 hu).1;rw[List.length_map,hlen]at this;exact this
     rw[hcell j (by omega),←hu,List.getElem?_map,List.getElem?_take,if_pos hj];have hzj:j < zs.length:=by omega
     simp[yAB hzj]
theorem zSh {fuel:Nat} {cs:List Value} {x:DataW H×List MemPlace} (h:DataW.trod enc prog W 0 (fun _=>true) true fuel 39 cs=some x):
 ∃k n:Int,cs=[.int .i64 k,.int .i64 n]∧(Lit.int .i64 k).wf=true∧(Lit.int .i64 n).wf=true:=by
 obtain⟨y0,y1,m,_,hl,h0,h1⟩:=trod_struct2 underlying39 h;rw[zSG]at hl;simp only[zSC]at h0 h1
 match cs,hl with
 | [a,b],_=>
  obtain⟨k,e0,_,w0⟩:=DataW.trod_int underlying3 h0;obtain⟨n,e1,_,w1⟩:=DataW.trod_int underlying3 h1;simp only[List.drop_zero,List.take_succ_cons,List.take_zero,List.drop_succ_cons,List.cons.injEq,and_true]at e0 e1;subst e0 e1;exact⟨k,n,rfl,w0,w1⟩
theorem zSi {fuel:Nat} {cs:List Value} {x:DataW H×List MemPlace} (h:DataW.trod enc prog W 0 (fun _=>true) true fuel 42 cs=some x):
 ∃(b:Bool) (A:Option Addr) (n c:Nat) (zs:List Int),cs=[.bool b,.slice A n c]∧n≤c∧c≤maxLen∧zs.length=n∧(∀z∈zs,(Lit.int .u32 z).wf=true)∧Reads W W.heap.size 1 A n (zs.map (Value.int .u32)):=by
 obtain⟨y0,y1,m,_,hl,h0,h1⟩:=trod_struct2 underlying42 h;rw[zSH]at hl;simp only[zSS,zSU]at h0 h1
 match cs,hl with
 | [a,b],_=>
  obtain⟨k,e0,_⟩:=DataW.trod_bool underlying4 h0;obtain⟨A,n,c,zs,e1,h2,h3,h4,h5,h6⟩:=zR8 underlying40 underlying87 zSg h1;simp only[List.drop_zero,List.take_succ_cons,List.take_zero,List.drop_succ_cons,List.cons.injEq,and_true]at e0 e1;subst e0 e1;exact⟨k,A,n,c,zs,rfl,h2,h3,h4,h5,h6⟩
theorem zSW (s:ByteArray):(⟨s.toList.toArray⟩:ByteArray)=s:=by
 rw[ByteArray.toList_eq]
theorem zSX {fuel:Nat} {cs:List Value} {d:DataW H×List MemPlace} (h:DataW.trod enc prog W 0 (fun _=>true) true fuel 48 cs=some d):
 ∃x s,cs=ndV x s∧NdR W W.heap.size x s:=by
 obtain⟨xs,m,_,_,hl,hxl,hf⟩:=DataW.trod_struct underlying48 h;rw[zSE]at hl
 match cs,hl with
 | [a0,a1,a2,a3,a4,a5,a6,a7],_=>
  match xs,hxl with
  | [y0,y1,y2,y3,y4,y5],_=>
   have f0:DataW.trod enc prog W 0 (fun _=>true) true m 3 (([a0,a1,a2,a3,a4,a5,a6,a7].drop 0).take (prog.cellsOf 3))=[y0,y1,y2,y3,y4,y5][0]? :=hf 0 _ rfl;have f1:DataW.trod enc prog W 0 (fun _=>true) true m 9 (([a0,a1,a2,a3,a4,a5,a6,a7].drop 1).take (prog.cellsOf 9))=[y0,y1,y2,y3,y4,y5][1]? :=hf 1 _ rfl;have f2:DataW.trod enc prog W 0 (fun _=>true) true m 22 (([a0,a1,a2,a3,a4,a5,a6,a7].drop 2).take (prog.cellsOf 22))=[y0,y1,y2,y3,y4,y5][2]? :=hf 2 _ rfl;have f3:DataW.trod enc prog W 0 (fun _=>true) true m 39 (([a0,a1,a2,a3,a4,a5,a6,a7].drop 3).take (prog.cellsOf 39))=[y0,y1,y2,y3,y4,y5][3]? :=hf 3 _ rfl;have f4:DataW.trod enc prog W 0 (fun _=>true) true m 42 (([a0,a1,a2,a3,a4,a5,a6,a7].drop 5).take (prog.cellsOf 42))=[y0,y1,y2,y3,y4,y5][4]? :=hf 4 _ rfl;have f5:DataW.trod enc prog W 0 (fun _=>true) true m 32 (([a0,a1,a2,a3,a4,a5,a6,a7].drop 7).take (prog.cellsOf 32))=[y0,y1,y2,y3,y4,y5][5]? :=hf 5 _ rfl;simp only[zSC,zSe,zST,zSG,zSH,zSV,List.drop_zero,List.take_succ_cons,List.take_zero,List.drop_succ_cons,List.getElem?_cons_zero,List.getElem?_cons_succ]at f0 f1 f2 f3 f4 f5;obtain⟨k,e0,_,w0⟩:=DataW.trod_int underlying3 f0;obtain⟨nm,e1,_,w1⟩:=DataW.trod_string underlying9 f1;obtain⟨As,ns,cs',zs,e2,s1,s2,s3,s4,s5⟩:=zR8 underlying22 underlying24 zSf f2;obtain⟨nk,nn,e3,w3,w4⟩:=zSh f3;obtain⟨ng,Am,nm2,cm,zm,e4,m1,m2,m3,m4,m5⟩:=zSi f4;obtain⟨Ak,nk2,ck,zk,e5,k1,k2,k3,k4,k5⟩:=zR8 underlying32 underlying3 zSC f5;simp only[List.cons.injEq,and_true]at e0 e1 e2 e3 e4 e5;obtain⟨e3,e3'⟩:=e3;obtain⟨e4,e4'⟩:=e4;subst e0 e1 e2 e3 e3' e4 e4' e5;subst s3 m3 k3;have hu:zAD (zs.map fun n=>UInt16.ofNat n.toNat)=zs.map (Value.int .u16):=by
    unfold zAD;rw[List.map_map];refine List.map_congr_left fun z hz=>?_;have hw:=bounds_u16 (s4 z hz);show Value.int .u16 _=_;have e:((UInt16.ofNat z.toNat).toNat:Int)=z:=by simp;omega
    exact congrArg _ e
   have hm:zRX (zm.map fun n=>n.toNat)=zm.map (Value.int .u32):=by
    unfold zRX;rw[List.map_map];refine List.map_congr_left fun z hz=>?_;have hw:=bounds_u32 (m4 z hz);have e:((z.toNat:Nat):Int)=z:=by omega
    exact congrArg _ e
   refine⟨⟨k,nm.toList,zs.map fun n=>UInt16.ofNat n.toNat,nk,nn,ng,zm.map fun n=>n.toNat,zk⟩,⟨As,Am,Ak,cs',cm,ck⟩,?_,?_⟩
   · unfold ndV;simp only[zSW,List.length_map]
   · refine⟨?_,?_,?_,?_,?_,?_,fun y hy=>?_,fun y hy=>bounds_i64 (k4 y hy),bounds_i64 w0,bounds_i64 w3,bounds_i64 w4,?_⟩
     · show Reads W W.heap.size 1 As (List.map _ zs).length (zAD _);rw[hu,List.length_map];exact s5
     · show Reads W W.heap.size 1 Am (List.map _ zm).length (zRX _);rw[hm,List.length_map];exact m5
     · exact k5
     · show(List.map _ zs).length≤_∧_;rw[List.length_map];exact⟨s1,s2⟩
     · show(List.map _ zm).length≤_∧_;rw[List.length_map];exact⟨m1,m2⟩
     · exact⟨k1,k2⟩
     · obtain⟨z,hz,rfl⟩:=List.mem_map.1 hy;have hw:=bounds_u32 (m4 z hz);omega
     · show nm.toList.length≤_;rw[ByteArray.toList_eq];have:nm.data.toList.length=nm.size:=by simp
       rw[this];unfold maxLen at w1;omega
theorem zSK {fuel:Nat} {cs:List Value} {d:DataW H×List MemPlace} (h:DataW.trod enc prog W 0 (fun _=>true) true fuel 25 cs=some d):
 ∃(A:Option Addr) (n c:Nat) (ts:List Nd),cs=[.slice A n c]∧n≤c∧c≤maxLen∧NdsR W W.heap.size A n ts:=by
 rcases Go.Deep.open_slice underlying25 h with⟨hcs,_⟩ | ⟨a,len,cap,m,n,D,Pl,hcs,_,hl,hm,hmm,_,hx⟩
 · exact⟨none,0,0,[],hcs,yAC _,yAE _,NdsR.nil rfl⟩
 · simp only[if_true]at hmm;subst hmm;have each:∀i,i < len→∃p:Nd×NdSl,W.cells? 0 (a.add (i*8)) 8=some (ndV p.1 p.2)∧NdR W W.heap.size p.1 p.2:=by
    intro i hi;obtain⟨cs',h1,h2⟩:=hx i (by omega);rw[zSE]at h1;obtain⟨x,s,rfl,hR⟩:=zSX h2;exact⟨(x,s),h1,hR⟩
   obtain⟨f,hf⟩:∃f:Nat→Nd×NdSl,∀i,i < len→W.cells? 0 (a.add (i*8)) 8=some (ndV (f i).1 (f i).2)∧NdR W W.heap.size (f i).1 (f i).2:=by
    classical
    refine⟨fun i=>if hi:i < len then Classical.choose (each i hi)else(zBg,⟨none,none,none,0,0,0⟩),fun i hi=>?_⟩;simp only[dif_pos hi];exact Classical.choose_spec (each i hi)
   refine⟨some a,len,m,(List.range len).map fun i=>(f i).1,hcs,hl,hm,by simp,fun h0=>?_⟩;have hat:∀i,i < len→∀j,j < 8→W.cell? (a.add (i*8+j))=(ndV (f i).1 (f i).2)[j]? :=by
    intro i hi j hj;have:=(World.cells?_some (hf i hi).1).2.2 j hj;rwa [zIm]at this
   have hc0:=hat 0 h0 0 (by omega);rw[Nat.zero_mul,Nat.zero_add,Addr.add_zero]at hc0;have hsp:a.spot=none:=by
    cases hsp:a.spot with
    | none=>rfl
    | some s=>
     exfalso;simp only[World.cell?,hsp]at hc0;split at hc0
     · simp[ndV]at hc0
     · cases hc0
   obtain⟨b,o,sp⟩:=a;simp only at hsp;subst hsp;refine⟨b,o,rfl,World.block_lt_of_cell? W _ hc0,fun i hi=>?_⟩;have hi':i < len:=by simpa using hi
   have hg:((List.range len).map fun i=>(f i).1)[i]=(f i).1:=by simp
   rw[hg];have hk:∀j,j < 8→W.cell? ⟨b,o+i*8+j,none⟩=(ndV (f i).1 (f i).2)[j]? :=fun j hj=>by
    have:=hat i hi' j hj;rw[Addr.add_lit,←Nat.add_assoc]at this;exact this
   exact⟨(f i).2,⟨hk 0 (by omega),hk 1 (by omega),hk 2 (by omega),hk 3 (by omega),hk 4 (by omega),hk 5 (by omega),hk 6 (by omega),hk 7 (by omega)⟩,(hf i hi').2⟩
theorem zSL {base:Nat} {v:Value} {d:DataW H} {p:List MemPlace} (hv:Value.okWide prog W .any base 27 v) (h:DataW.Trod enc prog W 0 (fun _=>true) true 27 v d p):
 ∃(A:Option Addr) (n c:Nat) (ts:List Nd),v=.agg #[.slice A n c]∧n≤c∧c≤maxLen∧NdsR W W.heap.size A n ts:=by
 obtain⟨cs,rfl,hs⟩:=okWide_struct underlying27 hv;obtain⟨fuel,hf⟩:=h;obtain⟨y0,m,_,hl,h0⟩:=trod_struct1 underlying27 hf;rw[zSR]at hs;simp only[zSJ]at h0;obtain⟨l⟩:=cs
 match l,hs with
 | [a],_=>
  obtain⟨A,n,c,ts,e,h1,h2,h3⟩:=zSK h0;have e':[a]=[.slice A n c]:=e;obtain rfl:a=.slice A n c:=by injection e'
  exact⟨A,n,c,ts,rfl,h1,h2,h3⟩
end
end Zq
def At (ts:List Nd) (n:Nat) (t:Tr):Prop:=∃a b,ts=a++flatT n t++b∧a.length=n
def AtL (ts:List Nd) (n:Nat) (l:List Tr):Prop:=∃a b,ts=a++flatL n l++b∧a.length=n
theorem At.get {ts:List Nd} {n:Nat} {t:Tr} (h:At ts n t):ts[n]? =some (t.laid n):=by
 obtain⟨a,b,rfl,hl⟩:=h;rw[List.append_assoc,List.getElem?_append_right (by omega),hl,Nat.sub_self,List.getElem?_append_left (by rw[flatT_len];exact zBi t)];exact zE4 n t
theorem At.le {ts:List Nd} {n:Nat} {t:Tr} (h:At ts n t):n+t.size≤ts.length:=by
 obtain⟨a,b,rfl,hl⟩:=h;simp only[List.length_append,flatT_len];omega
theorem At.subs {ts:List Nd} {n:Nat} {x:Nd} {l:List Tr} (h:At ts n (.mk x l)):AtL ts (n+1) l:=by
 obtain⟨a,b,rfl,hl⟩:=h;rw[zA2];exact⟨a++[{x with kids:=zAM (n+1) l}],b,by simp,by simp[hl]⟩
theorem AtL.head {ts:List Nd} {n:Nat} {t:Tr} {l:List Tr} (h:AtL ts n (t::l)):At ts n t:=by
 obtain⟨a,b,rfl,hl⟩:=h;rw[zAU];exact⟨a,flatL (n+t.size) l++b,by simp,hl⟩
theorem AtL.tail {ts:List Nd} {n:Nat} {t:Tr} {l:List Tr} (h:AtL ts n (t::l)):AtL ts (n+t.size) l:=by
 obtain⟨a,b,rfl,hl⟩:=h;rw[zAU];exact⟨a++flatT n t,b,by simp,by simp[hl,flatT_len]⟩
theorem AtL.kid {ts:List Nd}:∀{l:List Tr} {n:Nat} (_:AtL ts n l) (i:Nat) (hi:i < l.length),∃p:Nat,(zAM n l)[i]? =some (p:Int)∧At ts p l[i]∧n≤p:=by
 intro l
 induction l with
 | nil=>intro n h i hi;simp at hi
 | cons t r ih=>
  intro n h i hi;cases i with
  | zero=>exact⟨n,rfl,h.head,yAC _⟩
  | succ i=>
   obtain⟨p,h1,h2,h3⟩:=ih h.tail i (by simpa using hi);exact⟨p,by simpa [zAM]using h1,h2,by omega⟩
theorem At.kid {ts:List Nd} {n:Nat} {x:Nd} {l:List Tr} (h:At ts n (.mk x l)) (i:Nat) (hi:i < l.length):∃p:Nat,(zAM (n+1) l)[i]? =some (p:Int)∧At ts p l[i]∧n < p:=by
 obtain⟨p,h1,h2,h3⟩:=h.subs.kid i hi;exact⟨p,h1,h2,by omega⟩
theorem At.whole (t:Tr):At (flatT 0 t) 0 t:=⟨[],[],by simp,rfl⟩
def zSx:List Nat→Nat
 | []=>0
 | x::r=>x+4294967296*zSx r
theorem zSj:∀(k n:Nat),n < 10^(k+1)→(zG6 n).length≤k+1:=by
 intro k
 induction k with
 | zero=>intro n h;rw[zG6];rw[if_pos (by omega)];simp
 | succ k ih=>
  intro n h;rw[zG6];split
  · simp
  · have h2:n / 10 < 10^(k+1):=by rw[Nat.div_lt_iff_lt_mul (by omega)];rwa [Nat.pow_succ]at h
    have:=ih (n / 10) h2;rw[List.length_append,List.length_singleton];omega
theorem zSs:∀(m:List Nat),(∀x∈m,x < 4294967296)→zSx m < 4294967296^m.length:=by
 intro m
 induction m with
 | nil=>intro _;simp[zSx]
 | cons x r ih=>
  intro h;have h1:=ih fun y hy=>h y (List.mem_cons_of_mem _ hy);have h2:=h x (List.mem_cons_self ..);simp only[zSx,List.length_cons,Nat.pow_succ];omega
structure Short (x:Nd):Prop where
 name:x.name.length≤4096
 str:x.str.length≤4096
 mag:x.mag.length≤8
 limb:∀y∈x.mag,y < 4294967296
 nn:x.nn≤9007199254740991
theorem Short.big {x:Nd} (h:Short x):(zG6 (zSx x.mag)).length≤78:=by
 refine zSj 77 _ (yAA (zSs x.mag h.limb) (yAD (Nat.pow_le_pow_right (by omega) h.mag) (by decide+kernel)))
theorem May.at_ {ts:List Nd} {t:Tr} (h:May ts t):At ts 0 t:=by rw[h.flat];exact At.whole t
theorem Short.laid {x:Nd} {ks:List Int} (h:Short {x with kids:=ks}):Short x:=⟨h.name,h.str,h.mag,h.limb,h.nn⟩
theorem Made.empty (w:World) (e:TypeId):Made w (w.alloc (.cells #[] e)) e (.slice (some ⟨w.heap.size,0,none⟩) 0 0) []:=
 ⟨World.ownsRow_made w #[] 0 (yAC _) (yAE _) rfl,(Below.refl _ _).alloc (yAC _) _⟩
mutual
def dangT:Tr→Bool
 | .mk x l=>if x.kind=8∧l.length=2 then true else if x.kind=8∨x.kind=9∨x.kind=10∨x.kind=18 then dangL l else false
def dangL:List Tr→Bool
 | []=>false
 | t::r=>match r with | []=>dangT t | _::_=>dangL r
end
def zSr (l:List Tr):List Int:=l.map (·.nd.kind)
def zS9:List Nat→Nat→List Int→Bool
 | _,_,[]=>true
 | [],r,k::ks=>zD6 r k&&zS9 [] r ks
 | s::l,r,k::ks=>zD6 s k&&zS9 l r ks
def zTD (l:List Tr) (i:Nat):Int:=(zSr l).getD i 0
def zTA (l:List Tr) (i:Nat):Bool:=match l[i]? with | none=>false | some t=>dangT t
def zTB (k:Int) (l:List Tr):Bool:=
 zD5 k&&decide ((zAA k l.length).1.length≤l.length)
 &&zS9 (zAA k l.length).1 (zAA k l.length).2 (zSr l)
 &&(if k=16 then(zTD l 1==17 || zTD l 2==4)else if k=8∧l.length=3 then !(zTA l 1)else true)
mutual
def goodT:Tr→Bool
 | .mk x l=>zh x&&zTB x.kind l&&goodL l
def goodL:List Tr→Bool
 | []=>true
 | t::r=>goodT t&&goodL r
end
def GE (t:Tr):Prop:=goodT t=true∧zD4 t.nd.kind=true
def GU (t:Tr):Prop:=goodT t=true∧zMZ t.nd.kind=true
def GC (t:Tr):Prop:=goodT t=true∧zD6 9 t.nd.kind=true
theorem GE.clause {t:Tr} (h:GE t):GC t:=⟨h.1,by unfold zD6;simp[h.2]⟩
section
variable {w w0 w':World} {R:Nat} {cs:List Value} {v0 v1 v2 v3 v4 v5 v6 v7 v8:Value}
theorem Blk.cell {j:Nat} (h:Blk w R cs) (hj:j < cs.length):w.cell? ⟨R,j,none⟩=some cs[j]:=(h.2 j hj).1
end
theorem TokC.len {w:World} {base:Nat}:∀{ts:List Tok} {cs:List Value},TokC w base ts cs→cs.length=ts.length*9:=by
 intro ts
 induction ts with
 | nil=>intro cs h;rw[show cs=[]from h];rfl
 | cons t r ih=>
  intro cs h;obtain⟨vs,vm,rest,rfl,_,_,h3⟩:=h;have:=ih h3;simp only[zDZ,List.length_append,List.length_cons,List.length_nil,this];omega
theorem TokL.below {w w':World} {base:Nat} {ts:List Tok} {v:Value} (h:TokL w base ts v) (hb:Below w.heap.size w w'):TokL w' base ts v:=
 h.new ⟨hb.os,hb.tape,hb.output,hb.size,fun k hk _=>hb.block k hk⟩
theorem TokL.shape {w:World} {base:Nat} {ts:List Tok} {v:Value} (h:TokL w base ts v):∃A c,v=.slice A ts.length c∧ts.length≤c∧c≤maxLen:=by
 obtain⟨cs,ho,_⟩:=h;exact zR ho
theorem FinN.drew {C:Pc} {Q:Nat→Prop} {r:Tr×Ps} {w V:World} {X:Nat} {d0 d1 d2 d3 d4 d5 d6 d7 d8:Value} (h:FinN C Q r w X d0 d1 d2 d3 d4 d5 d6 d7 d8 V):FinN C Q r w X d0 d1 d2 d3 d4 d5 d6 d7 d8 V.drew:=
 ⟨h.box.drew,.keep (zAk _ none) (.none_ _ _) _ _ h.tree,h.pa.drew,zC h.grown (zAk _ _)⟩
section
variable {C:Pc} {B:Nat→Prop} {a:World} {D:List Nat} {os:List Ob} {s s':Ps} {w w':World} {rr:Option Nat}
theorem Fr.hi (F:Fr C B a D os s w):s.k≤C.L.length - 1:=F.out.pa.hi
theorem Fr.kind (F:Fr C B a D os s w) (i:Nat) {t:Tr} {e0 e1 e2 e3 e4 e5 e6 e7 e8:Value} (h:os[i]? =some (.tr t [e0,e1,e2,e3,e4,e5,e6,e7,e8]):=by rfl):e0=.int .i64 t.nd.kind:=by
 have h1:=F.t i h;cases t with
 | mk x l=>
  rw[zDC]at h1;obtain⟨vs,vm,vo,ks,h1,_⟩:=h1;injection h1
end
def zTE (t u:Tok):Prop:=t.kind=u.kind∧t.text=u.text∧t.str=u.str∧t.nk=u.nk∧t.nn=u.nn∧t.mag=u.mag
def zTC:List (List UInt8):=[[101,108,115,101],[99,97,116,99,104],[102,105,110,97,108,108,121],[63],[63,63],[124,124],[38,38],[40],[46],[91],[61],[44],[58],[61,62]]
structure Stop (t:Tok):Prop where
 name:t.kind≠1
 binds:zCi t=9
 words:∀w∈zTC,isT t w=false
 asgn:t.kind=5→¬t.text∈zO2
 post:t.kind=5→t.text∈zFT→t.nl=true
structure Sim (L1 L2:List Tok) (a d m:Nat) (lo:Bool):Prop where
 l1:Lst L1
 l2:Lst L2
 le1:m≤L1.length - 1
 le2:m+d≤L2.length - 1
 tok:∀i,a≤i→i < m→zTE (zL L1 i) (zL L2 (i+d))
 nl:∀i,a < i→i < m→(zL L1 i).nl=(zL L2 (i+d)).nl
 stop:Stop (zL L2 (m+d))
 arrow:isT (zL L2 (m+d)) [41]=true→isT (zL L2 (m+d+1)) [61,62]=false
 loose:lo=true→(isT (zL L2 (m+d)) [59]=true∧isT (zL L2 (m+d+1)) [101,108,115,101]=false)∨(isT (zL L2 (m+d)) [59]=false∧((zL L2 (m+d)).nl=true∨(zL L2 (m+d)).kind=0∨isT (zL L2 (m+d)) [125]=true))
def shP (d:Nat) (s:Ps):Ps:={s with k:=s.k+d}
theorem zSt (d:Nat) (s:Ps):zB (shP d s)=shP d (zB s):=by
 unfold zB shP;simp only[Ps.mk.injEq,and_self,and_true];omega
structure Ok (m:Nat) (s:Ps):Prop where
 bad:s.bad=0
 le:s.k≤m
theorem Ok.back {L:List Tok} {m:Nat} {x y:Ps} (h:Ok m y) (k:Adv L x y):Ok m x:=⟨by
 rcases Nat.eq_zero_or_pos x.bad with hz | hz
 · exact hz
 · exact absurd h.bad (k.bad (by omega)),yAD k.le h.le⟩
theorem Ok.eat {L:List Tok} {m:Nat} {x y:Ps} (h:Ok m y) (k:Eat L x y) (hx:x.k≤L.length - 1):x.k < m:=yAA (k.lt hx (fun hb=>hb h.bad)) h.le
theorem Ok.step {m:Nat} {x:Ps} (h:Ok m (zB x)):Ok m x∧x.k < m:=⟨⟨h.bad,Nat.le_of_succ_le h.le⟩,h.le⟩
theorem Ok.name {L:List Tok} {m:Nat} {x:Ps} (h:Ok m (zd L x).2):(zL L x.k).kind=1∧zd L x=((zL L x.k).text,zB x)∧Ok m x∧x.k < m:=by
 unfold zd at h⊢
 by_cases c:(zL L x.k).kind=1
 · rw[if_pos c]at h⊢;exact⟨c,rfl,h.step.1,h.step.2⟩
 · rw[if_neg c]at h;exact absurd h.bad zFF
section
variable {L1 L2:List Tok} {a d m:Nat} {lo:Bool} {s:Ps} {w:List UInt8}
theorem zSy {t u:Tok} (h:zTE t u) (w:List UInt8):isT u w=isT t w:=by
 unfold isT;rw[h.1,h.2.1]
theorem Sim.on (S:Sim L1 L2 a d m lo) (ha:a≤s.k) (hm:s.k < m):onP L2 w (shP d s)=onP L1 w s:=zSy (S.tok _ ha hm) w
theorem Sim.no (S:Sim L1 L2 a d m lo) (ha:a≤s.k) (hm:s.k≤m) (h:¬onP L1 w s=true) (hw:w∈zTC):¬onP L2 w (shP d s)=true:=by
 rcases Nat.lt_or_ge s.k m with h1 | h1
 · rw[S.on ha h1];exact h
 · have h2:=S.stop.words w hw;unfold onP;show¬isT (zL L2 (s.k+d)) w=true;rw[show s.k=m by omega,h2];decide
theorem Sim.kind (S:Sim L1 L2 a d m lo) (ha:a≤s.k) (hm:s.k < m):(zL L2 (shP d s).k).kind=(zL L1 s.k).kind:=(S.tok _ ha hm).1.symm
theorem Sim.text (S:Sim L1 L2 a d m lo) (ha:a≤s.k) (hm:s.k < m):(zL L2 (shP d s).k).text=(zL L1 s.k).text:=(S.tok _ ha hm).2.1.symm
theorem Sim.line (S:Sim L1 L2 a d m lo) (ha:a < s.k) (hm:s.k < m):(zL L2 (shP d s).k).nl=(zL L1 s.k).nl:=(S.nl _ ha hm).symm
theorem Sim.name (S:Sim L1 L2 a d m lo) (ha:a≤s.k) (hm:s.k < m) (h:(zL L1 s.k).kind=1):zd L2 (shP d s)=((zL L1 s.k).text,shP d (zB s)):=by
 unfold zd;rw[if_pos ((S.kind ha hm).trans h),S.text ha hm,zSt]
def zSz:Ph→Bool
 | .body _=>true
 | _=>false
def isS:Ph→Bool
 | .item=>true
 | .statement=>true
 | .simple=>true
 | .word _=>true
 | .loop=>true
 | .jump _=>true
 | _=>false
def zTF (L2:List Tok) (d m:Nat) (lo:Bool) (r1 r2:Tr×Ps) (p:Ph):Prop:=
 if isS p=true then(r1.2.k < m→r2=(r1.1,shP d r1.2))∧(r1.2.k=m→lo=true→r2=(r1.1,shP d r1.2)∨(isT (zL L2 (m+d)) [59]=true∧r2=(r1.1,zB (shP d r1.2))))else r2=(r1.1,shP d r1.2)
def Clm (L1 L2:List Tok) (a d m:Nat) (lo:Bool) (R1 R2:Ph→Ps→Tr×Ps) (p:Ph) (s:Ps):Prop:=
 (∀acc,p≠.program acc)→Pre L1 p s→a≤s.k→(zSz p=true→a < s.k)→Ok m (R1 p s).2→zTF L2 d m lo (R1 p s) (R2 p (shP d s)) p
variable {R1 R2:Ph→Ps→Tr×Ps}
def zTG (L:List Tok) (s r:Ps):Prop:=(isT (zL L (s.k+1)) [41]=true∧r.k=s.k+2)∨(isT (zL L (s.k+1)) [41]=false∧∃j,zFC L L.length (s.k+1)=some j∧isT (zL L j) [41]=true∧r.k=j+1)
structure Kn (L1 L2:List Tok) (a d m:Nat) (lo:Bool) (R1 R2:Ph→Ps→Tr×Ps):Prop where
 post:∀q s1,Pre L1 q s1→Post L1 q s1 (R1 q s1).2
 clm:∀q s1,Clm L1 L2 a d m lo R1 R2 q s1
 blk:∀acc s1,Pre L1 (.blockL acc) s1→(R1 (.blockL acc) s1).2.bad=0→s1.k < (R1 (.blockL acc) s1).2.k
 nul:∀x s1,Pre L1 (.nullL x) s1→onP L1 [63,63] s1=true→(R1 (.nullL x) s1).2.bad=0→s1.k < (R1 (.nullL x) s1).2.k
 par:∀s1,Pre L1 .params s1→(R1 .params s1).2.bad=0→zTG L1 s1 (R1 .params s1).2
theorem Kn.body (K:Kn L1 L2 a d m lo R1 R2) {l:List Tr} {s1:Ps} (hp:Pre L1 (.body l) s1) (ha:a < s1.k) (hok:Ok m (R1 (.body l) s1).2):R2 (.body l) (shP d s1)=((R1 (.body l) s1).1,shP d (R1 (.body l) s1).2):=by
 have:=K.clm (.body l) s1 (fun _ h=>by cases h) hp (Nat.le_of_lt ha) (fun _=>ha) hok;exact this
theorem Kn.item (K:Kn L1 L2 a d m lo R1 R2) {s1:Ps} (hp:Pre L1 .item s1) (ha:a≤s1.k) (hok:Ok m (R1 .item s1).2) (hl:(R1 .item s1).2.k < m):R2 .item (shP d s1)=((R1 .item s1).1,shP d (R1 .item s1).2):=
 (K.clm .item s1 (fun _ h=>by cases h) hp ha (fun h=>by cases h) hok).1 hl
def Loo (L2:List Tok) (d m:Nat) (lo:Bool) (r1 r2:Tr×Ps):Prop:=
 (r1.2.k < m→r2=(r1.1,shP d r1.2))∧(r1.2.k=m→lo=true→r2=(r1.1,shP d r1.2)∨(isT (zL L2 (m+d)) [59]=true∧r2=(r1.1,zB (shP d r1.2))))
theorem Loo.same {r1 r2:Tr×Ps} (h:r2=(r1.1,shP d r1.2)):Loo L2 d m lo r1 r2:=⟨fun _=>h,fun _ _=>.inl h⟩
theorem Loo.map {r1 r2:Tr×Ps} (h:Loo L2 d m lo r1 r2) (F:Tr→Tr):Loo L2 d m lo (F r1.1,r1.2) (F r2.1,r2.2):=by
 refine⟨fun x=>?_,fun x y=>?_⟩
 · rw[h.1 x]
 · rcases h.2 x y with h2 | ⟨h2,h3⟩
   · left;rw[h2]
   · right;exact⟨h2,by rw[h3]⟩
end
def GD (L:List Tok) (r:Tr×Ps):Prop:=GU r.1∧(dangT r.1=true→¬onP L [101,108,115,101] r.2=true)
section
variable {L:List Tok} {R:Ph→Ps→Tr×Ps} {s:Ps}
theorem GD.plain {t:Tr} {e:Ps} (h:GU t) (hd:dangT t=false):GD L (t,e):=⟨h,fun h2=>by rw[hd]at h2;cases h2⟩
end
section
variable {a b c w w':World} {S S' G G' F:Nat→Prop} {r:Option Nat}
theorem Chg.refl (w:World) (S:Nat→Prop):Chg w w S:=⟨rfl,rfl,rfl,yAC _,fun _ _ _=>rfl⟩
theorem NdsC.len:∀{ts:List Nd} {cs:List Value},NdsC w G ts cs→cs.length=ts.length*8:=by
 intro ts
 induction ts with
 | nil=>intro cs h;rw[show cs=[]from h];rfl
 | cons x r ih=>
  intro cs h;obtain⟨vs,vm,vk,rest,rfl,_,_,_,_,h6⟩:=h;rw[List.length_append,ih h6,List.length_cons];show 8+_=_;omega
theorem NdsC.one:∀{ts:List Nd} {cs:List Value},NdsC w G ts cs→∀u∈cs,u.oneCell'=true:=by
 intro ts
 induction ts with
 | nil=>intro cs h u hu;rw[show cs=[]from h]at hu;cases hu
 | cons x r ih=>
  intro cs h u hu;obtain⟨vs,vm,vk,rest,rfl,h2,h3,h4,_,h6⟩:=h;rcases List.mem_append.1 hu with hu | hu
  · obtain⟨_,_,rfl,_⟩:=zR h2;obtain⟨_,_,rfl,_⟩:=zR h3;obtain⟨_,_,rfl,_⟩:=zR h4;simp only[ndC,List.mem_cons,List.not_mem_nil,or_false]at hu;rcases hu with rfl | rfl | rfl | rfl | rfl | rfl | rfl | rfl<;>rfl
  · exact ih h6 u hu
end
section
variable {L L1 L2:List Tok} {a d m:Nat} {lo:Bool} {s:Ps}
theorem zSD (hL:Lst L) (h:s.k≤L.length - 1):Eat L s (zF L .item s).2:=zV hL (p:=.item) ⟨h,trivial⟩
inductive Path (L:List Tok):Ps→List Tr→Ps→Prop
 | nil (s:Ps):Path L s [] s
 | cons {s e:Ps} {items:List Tr} (h:(zL L s.k).kind≠0) (p:Path L (zF L .item s).2 items e):Path L s ((zF L .item s).1::items) e
theorem Path.app {s s2 e:Ps} {i1 i2:List Tr} (h:Path L s i1 s2) (k:Path L s2 i2 e):Path L s (i1++i2) e:=by
 induction h with
 | nil=>exact k
 | cons h _ ih=>exact .cons h (ih k)
theorem Path.adv (hL:Lst L) {s e:Ps} {items:List Tr} (h:Path L s items e) (hs:s.k≤L.length - 1):Adv L s e:=by
 induction h with
 | nil=>exact Adv.refl hs
 | cons h _ ih=>exact(zSD hL hs).adv.trans (ih (zSD hL hs).adv.hi)
theorem Path.prog (hL:Lst L) {s e:Ps} {items:List Tr} (h:Path L s items e) (hs:s.k≤L.length - 1) (he:(zL L e.k).kind=0):∀acc,zF L (.program acc) s=(trK 1 (acc++items),e):=by
 induction h with
 | nil s=>
  intro acc;rw[zAH hL ⟨hs,trivial⟩];unfold zE;dsimp only;rw[if_pos he,List.append_nil]
 | cons h _ ih=>
  intro acc;rw[zAH hL ⟨hs,trivial⟩];unfold zE;dsimp only;rw[if_neg h,ih (zSD hL hs).adv.hi he,List.append_assoc];rfl
end
theorem zSY {t:Tok} {w:List UInt8} (h:isT t w=true):t.text=w∧(t.kind=5∨t.kind=6):=by
 unfold isT at h;rw[Bool.and_eq_true,decide_eq_true_eq,Bool.or_eq_true,beq_iff_eq,beq_iff_eq]at h;exact h
theorem zS0 {t:Tok} {w v:List UInt8} (h:isT t w=true) (hne:w≠v):isT t v=false:=by
 unfold isT;rw[(zSY h).1,yAI hne];rfl
def LN (L:List Tok) (s e:Ps):Prop:=e.bad=0→s.k < e.k→isT (zL L (e.k - 1)) [59]=false
section
variable {L:List Tok} {a s e c:Ps}
theorem LN.refl (s:Ps):LN L s s:=fun _ h=>absurd h (Nat.lt_irrefl _)
theorem LN.bad (h:e.bad≠0):LN L s e:=fun hb=>absurd hb h
theorem LN.trans (h:LN L a s) (k:LN L s e) (y:Adv L s e):LN L a e:=fun hb hk=>by
 rcases Nat.lt_or_ge s.k e.k with h1 | h1
 · exact k hb h1
 · have e1:s.k=e.k:=by have:=y.le;omega
   have hb1:s.bad=0:=by
    rcases Nat.eq_zero_or_pos s.bad with hz | hz
    · exact hz
    · exact absurd hb (y.bad (by omega))
   have:=h hb1 (by omega);rwa [e1]at this
theorem LN.step (h:isT (zL L s.k) [59]=false):LN L s (zB s):=fun _ _=>h
theorem LN.on {w:List UInt8} (h:onP L w s=true) (hw:w≠[59]):LN L s (zB s):=LN.step (zS0 h hw)
theorem LN.word {t:List UInt8} (h:(zL L s.k).text=t) (hw:t≠[59]):LN L s (zB s):=LN.step (by unfold isT;rw[h,yAI hw];rfl)
end
def Semi (L:List Tok):Prop:=∀i,isT (zL L i) [59]=true→(zL L i).kind=5
section
variable {L:List Tok} {R:Ph→Ps→Tr×Ps} {s:Ps}
theorem Semi.kind (hS:Semi L) {i:Nat} (h:(zL L i).kind≠5):isT (zL L i) [59]=false:=by
 cases hh:isT (zL L i) [59]with
 | false=>rfl
 | true=>exact absurd (hS i hh) h
end
section
variable {L L1 L3:List Tok} {s e:Ps} {y:Tr}
theorem Stop.off (h:Stop (zL L e.k)) {w:List UInt8} (hw:w∈zTC):¬onP L w e=true:=by
 unfold onP;rw[h.words w hw];decide
end
section
variable {x:UInt16} {v:List UInt16}
def Ahead (x:UInt16) (l:List UInt16):Prop:=x=10∨x=32∧∀i,zq [47,47] (l.drop i)=false
theorem Ahead.stop {l:List UInt16} (h:Ahead x l):x=10∨x=32:=by
 rcases h with h | h
 · exact .inl h
 · exact .inr h.1
theorem Ahead.drop {l:List UInt16} (h:Ahead x l) (n:Nat):Ahead x (l.drop n):=by
 rcases h with h | ⟨h,h2⟩
 · exact .inl h
 · exact .inr ⟨h,fun i=>by rw[List.drop_drop];exact h2 _⟩
end
theorem zSu {k:Int}:∀{ts:List Nd} {j:Nat} {y:Nd},ts[j]? =some y→k∈y.kids→1≤(zAI ts).count k:=by
 intro ts j y h hk;refine List.count_pos_iff.2 ?_;unfold zAI;rw[List.mem_flatMap];exact⟨y,List.mem_of_getElem? h,hk⟩
theorem zSZ {k:Int}:∀{ts:List Nd} {n j:Nat} {x y:Nd},n < j→ts[n]? =some x→ts[j]? =some y→k∈x.kids→k∈y.kids→2≤(zAI ts).count k:=by
 intro ts
 induction ts with
 | nil=>intro n j x y _ h;cases h
 | cons z r ih=>
  intro n j x y hnj hx hy hkx hky;rw[zCJ,List.count_append];obtain⟨j,rfl⟩:∃i,j=i+1:=⟨j - 1,by omega⟩;cases n with
  | zero=>
   obtain rfl:z=x:=Option.some.inj hx;have h1:1≤z.kids.count k:=List.count_pos_iff.2 hkx;have h2:1≤(zAI r).count k:=zSu (j:=j) hy hky;omega
  | succ n=>
   have:=ih (n:=n) (j:=j) (by omega) hx hy hkx hky;omega
theorem zSM {ts:List Nd} {t:Tr} (h:ts=flatT 0 t) {n j:Nat} {x y:Nd} {k:Nat} (hx:ts[n]? =some x) (hy:ts[j]? =some y) (hkx:(k:Int)∈x.kids) (hky:(k:Int)∈y.kids):n=j:=by
 have hc:(zAI ts).count (k:Int)≤1:=by rw[h,countT];split<;>omega
 rcases Nat.lt_trichotomy n j with h1 | h1 | h1
 · have:=zSZ h1 hx hy hkx hky;omega
 · exact h1
 · have:=zSZ h1 hy hx hky hkx;omega
theorem zSv {n k:Nat}:∀(ks l:List Int),(∀j∈ks,0≤j)→k < l.length→(upK n l ks)[k]? =if(k:Int)∈ks then some (n:Int)else l[k]? :=by
 intro ks
 induction ks with
 | nil=>intro l _ _;rfl
 | cons j r ih=>
  intro l hj hk;show(upK n (l.set j.toNat n) r)[k]? =_;rw[ih _ (fun i hi=>hj i (List.mem_cons_of_mem _ hi)) (by rw[List.length_set];exact hk)];have h0:=hj j List.mem_cons_self
  by_cases h1:(k:Int)∈r
  · rw[if_pos h1,if_pos (List.mem_cons_of_mem _ h1)]
  · rw[if_neg h1,List.getElem?_set]
    by_cases h2:(k:Int)=j
    · subst h2;rw[if_pos (Int.toNat_natCast k),if_pos List.mem_cons_self,if_pos (by rw[Int.toNat_natCast];exact hk)]
    · rw[if_neg (by omega),if_neg (by intro h;rcases List.mem_cons.1 h with h | h;exact h2 h;exact h1 h)]
theorem zS1 {ts:List Nd} (hf:Fwd ts) {n k:Nat} {x:Nd} (hx:ts[n]? =some x) (hk:(k:Int)∈x.kids) (hu:∀j y,ts[j]? =some y→(k:Int)∈y.kids→n=j):∀m,n < m→m≤ts.length→(zFU ts m)[k]? =some (n:Int):=by
 have hkl:=(hf n x hx _ hk).2;intro m
 induction m with
 | zero=>intro h;omega
 | succ m ih=>
  intro h hm;have hy:=yAB (show m < ts.length by omega);rw[zFU,zSv _ _ (fun j hj=>by rw[zAv hy]at hj;have:=(hf m _ hy j hj).1;omega) (by rw[zHz];omega),zAv hy]
  by_cases h1:(k:Int)∈ts[m].kids
  · rw[if_pos h1,hu m _ hy h1]
  · rw[if_neg h1];refine ih ?_ (by omega);rcases Nat.lt_or_ge n m with h2 | h2
    · exact h2
    · obtain rfl:n=m:=by omega
      rw[hx]at hy;cases hy;exact absurd hk h1
theorem zS2 {ts:List Nd} (h:zO3 ts=true) {n k:Nat} {x:Nd} (hx:ts[n]? =some x) (hk:(k:Int)∈x.kids):upA (upN ts) (k:Int)=(n:Int):=by
 obtain⟨t,ht⟩:=zMc h;have hf:=(zKu h).1.fwd;have hn:=(List.getElem?_eq_some_iff.1 hx).1;have:=zS1 hf hx hk (fun j y hy hky=>zSM ht.flat hx hy hk hky) ts.length hn (yAC _);unfold upA upN;rw[Int.toNat_natCast,yAG,this];rfl
theorem zS3 {ts:List Nd} {up:List Int}:∀(f n:Nat),zQn ts up f n=(0,0)→∀j,n≤j→j < n+f→wrN ts up (j:Int)=false:=by
 intro f
 induction f with
 | zero=>intro n _ j h1 h2;omega
 | succ f ih=>
  intro n h j h1 h2;unfold zQn at h;split at h
  · simp only[Prod.mk.injEq]at h;omega
  · rename_i hw
    rcases Nat.eq_or_lt_of_le h1 with h3 | h3
    · subst h3;exact Bool.eq_false_iff.2 hw
    · exact ih (n+1) h j h3 (by omega)
theorem zS4:∀(l a:List (List UInt8)),zRQ a l=false→∀i (h:i < l.length),l[i]∉a++l.take i:=by
 intro l
 induction l with
 | nil=>intro a _ i h;exact absurd h (Nat.not_lt_zero _)
 | cons s r ih=>
  intro a h i hi;unfold zRQ at h;rw[Bool.or_eq_false_iff]at h;cases i with
  | zero=>simpa using h.1
  | succ i=>
   have:=ih (a++[s]) h.2 i (by simpa using hi);simpa using this
theorem zSk {ts:List Nd}:∀(ks:List Int),zBT ts [] 5 ks=true→∀k∈ks,knK ts k=7:=by
 intro ks
 induction ks with
 | nil=>intro _ k h;cases h
 | cons j r ih=>
  intro h k hk;unfold zBT at h;rw[Bool.and_eq_true]at h;rcases List.mem_cons.1 hk with rfl | h1
  · have:=h.1;unfold zD6 at this;simpa [knK]using this
  · exact ih h.2 k h1
theorem zSN {ts:List Nd} (h:zO3 ts=true) {x:Nd} (hx:x∈ts) (h6:x.kind=6):∀k∈x.kids,knK ts k=7:=by
 obtain⟨t,ht⟩:=zMc h;have h1:=(zMf ht.each hx).2;unfold zCE at h1;rw[h6,show zAA 6 x.kids.length=([5],5)from rfl]at h1;simp only[Bool.and_eq_true]at h1;have h2:=h1.1.2;intro k hk;cases hq:x.kids with
 | nil=>rw[hq]at hk;cases hk
 | cons j r=>
  rw[hq]at h2 hk;unfold zBT at h2;rw[Bool.and_eq_true]at h2;rcases List.mem_cons.1 hk with rfl | h3
  · have:=h2.1;unfold zD6 at this;simpa [knK]using this
  · exact zSk r h2.2 k h3
theorem zSa {ts:List Nd} (h:chN ts=(0,0)):zO3 ts=true∧(∀n,n < ts.length→∀i (hi:i < (zAj ts (n:Int)).length),(zAj ts (n:Int))[i]∉(zAj ts (n:Int)).take i)∧
 (∀(n:Nat) (x:Nd),ts[n]? =some x→x.kind=6→∀k∈x.kids,∃m:Nat,∃y,k=(m:Int)∧m < ts.length∧ts[m]? =some y∧y.kids.length=1):=by
 have hm:zO3 ts=true:=by
  unfold chN at h;split at h
  · assumption
  · simp only[Prod.mk.injEq]at h;omega
 have hc:zQn ts (upN ts) ts.length 0=(0,0):=by
  unfold chN at h;rwa [if_pos hm]at h
 have hw:=fun j (hj:j < ts.length)=>zS3 ts.length 0 hc j (yAE _) (by omega);refine⟨hm,fun n hn i hi=>?_,fun n x hx h6 k hk=>?_⟩
 · have h1:=hw n hn;unfold wrN at h1;split at h1
   · cases h1
   · rename_i h2
     rw[Bool.or_eq_true,not_or]at h2;have:=zS4 (zAj ts (n:Int)) [] (Bool.eq_false_iff.2 h2.1) i hi;simpa using this
 · obtain⟨hE,_,_,_⟩:=zKu hm;have h1:=hE.fwd n x hx k hk;obtain⟨m,rfl⟩:∃m:Nat,k=(m:Int):=⟨k.toNat,by omega⟩;have hml:m < ts.length:=by omega
   have hy:=yAB hml;have h7:=zSN hm (List.mem_of_getElem? hx) h6 _ hk;have hu:=zS2 hm hx hk;have h2:=hw m hml;unfold wrN at h2;rw[hu,h7]at h2;have hk6:knK ts (n:Int)=6:=by unfold knK;rw[zAv hx];exact h6
   refine⟨m,ts[m],rfl,hml,hy,?_⟩;obtain⟨t,ht⟩:=zMc hm;have hcn:=(zMe (zMf ht.each (List.getElem_mem hml)).2).opt (.inl (by unfold knK at h7;rw[zAv hy]at h7;exact h7));split at h2
   · cases h2
   · rw[if_pos rfl,hk6]at h2;have:(atN ts (m:Int)).kids≠[]:=by simpa using h2
     rw[zAv hy]at this;have:=List.length_pos_iff.2 this;omega
theorem zS5 (ts:List Nd):(chN ts=(0,0)∧zO3 ts=true)∨((chN ts).2=2∧zO3 ts=false)∨((chN ts).2=5∧zO3 ts=true):=by
 unfold chN;split
 · rename_i hm
   have:∀f n,zQn ts (upN ts) f n=(0,0)∨(zQn ts (upN ts) f n).2=5:=by
    intro f
    induction f with
    | zero=>intro n;exact .inl rfl
    | succ f ih=>
     intro n;unfold zQn;split
     · exact .inr rfl
     · exact ih _
   rcases this ts.length 0 with h | h
   · exact .inl ⟨h,hm⟩
   · exact .inr (.inr ⟨h,hm⟩)
 · rename_i hm
   exact .inr (.inl ⟨rfl,Bool.eq_false_iff.2 hm⟩)
theorem zS6 {A:Option Addr} {c B n j:Nat} {ts:List Nd} {w:World} (hN:NdsR w B A n ts) (hB:B≤w.heap.size) (hc:n≤c) (hm:zO3 ts=true) (hj:j < n):
 Calls prog 28 #[.agg #[.slice A n c],.int .i64 (j:Int)] w fun e w'=>∃v,e=.returned v∧MadeS w w' v (zAj ts (j:Int)):=by
 obtain⟨hE,h0,hk,_⟩:=zKu hm;obtain⟨W,hW⟩:∃W,w.alloc (.cells #[.slice A n c] 27)=W:=⟨_,rfl⟩;have bW:Below w.heap.size w W:=by rw[←hW];exact(Below.refl _ _).alloc (yAC _) _
 have sW:W.heap.size=w.heap.size+1:=by rw[←hW];simp
 obtain⟨X,hX⟩:∃X,w.heap.size=X:=⟨_,rfl⟩;have a0:W.cell? ⟨X,0,none⟩=some (.slice A n c):=by rw[←hW,←hX,World.cell?_alloc_at _ _ _ _ rfl];rfl
 have hXW:X < W.heap.size:=by omega
 have hBW:B≤W.heap.size:=by omega
 have HA0:=zA a0;have HNW:=zA (hN.below (bW.mono hB));have HBW:=zA bW;have CM:=zA (zKs (w:=W) HNW.out hBW hc (by omega) hm);have HE:=zA hE;have g0:¬((j:Int) < 0):=by omega
 have g1:¬((n:Int)≤(j:Int)):=by omega
 have g2:decide ((n:Int)≤(j:Int))=false:=yAI g1;have g3:decide ((j:Int) < 0)=false:=yAI g0;clear hN hB bW sW hm hE hk h0;go_enter func28,ntmps28;go_upto_region 1 with(fail);clear hW hX;go_wp2_with fail;refine CM.out.mono ?_;rintro e1 w1 ⟨rfl,hb1⟩;have a1:=(hb1.cell (p:=⟨X,0,none⟩) hXW).trans HA0.out;have CN:=zA (zFA (c:=c) (w:=w1) (HNW.out.below (hb1.mono hBW)) (yAD hBW hb1.size) HE.out hj);have HB1:=zA (HBW.out.trans (hb1.mono HBW.out.size));clear hb1 a0 HA0 CM HNW HBW;go_wp2_with fail;refine CN.out.mono ?_;rintro e2 w2 ⟨v,rfl,hv⟩;have HV:=zA hv;clear hv CN;go_wp2_with fail;go_ret;exact⟨v,rfl,HV.out.back HB1.out⟩
theorem zSl {A:Option Addr} {B n c:Nat} {xs:List (List UInt8)} (s:ByteArray) {w:World} (hn:xs.length=n) (ha:Reads w B 1 A n (zBQ xs)) (hl:n≤9223372036854775807):
 Calls prog 30 #[.slice A n c,.string s] w fun e w'=>e=.returned (.bool (decide (s.data.toList∈xs)))∧w=w':=by
 have HN:=zA hn;have HA:=zA ha;clear hn ha;go_enter func30,ntmps30;go_wp2_with fail
 go_loop [5] (fun i=>∃k:Nat,k≤n∧i=.int .i64 k∧Hid (s.data.toList∉xs.take k)) (fun i=>n - (intOf i).toNat)
 case atStart=>exact⟨0,yAE _,rfl,by simp[Hid]⟩
 case round=>
  obtain⟨k,hk,rfl,hno⟩:=hrel
  by_cases hlt:k < n
  · have hx:k < xs.length:=by rw[HN.out];exact hlt
    obtain⟨b,off,rfl,_,hcell⟩:=HA.out.spotV (by omega);have hca:=hcell k (.string ⟨xs[k].toArray⟩) (by simp[zBQ,yAB hx]);have HM:=zA (show xs[k]∈xs from List.getElem_mem hx);have HT:=zA (show xs.take (k+1)=xs.take k++[xs[k]]from yAK hx);obtain⟨x,hxx⟩:∃x,xs[k]=x:=⟨_,rfl⟩;rw[hxx]at hca HM HT;clear hcell hxx hx
    by_cases hxs:x=s.data.toList
    · have es:(⟨x.toArray⟩:ByteArray)=s:=by rw[hxs]
      have HR:=zA (show decide (s.data.toList∈xs)=true from decide_eq_true (by rw[←hxs];exact HM.out));rw[es]at hca;clear hxs es;go_wp2_with fail
      (try rw[Exit.noGoto_ret])
      go_ret;exact⟨zD HR.out.symm,rfl⟩
    · have e1:((⟨x.toArray⟩:ByteArray).toList==s.toList)=false:=by
       rw[yA,ByteArray.toList_eq,ByteArray.toList_eq];exact hxs
      have hn2:=zA (show s.data.toList∉xs.take (k+1) by
       rw[HT.out,List.mem_append,List.mem_singleton];rintro(h | h)
       · exact hno.out h
       · exact hxs h.symm)
      obtain⟨y,hy⟩:∃y:ByteArray,⟨x.toArray⟩=y:=⟨_,rfl⟩;rw[hy]at hca e1;clear hxs hy;go_wp2_with fail;go_round
      case rel=>exact⟨k+1,by omega,by go_num,hn2.out⟩
      case measure=>simp[intOf];omega
  · have HR:=zA (show decide (s.data.toList∈xs)=false from yAI (by
     have:=hno.out;rwa [List.take_of_length_le (by rw[HN.out];omega)]at this))
    go_wp2_with fail;go_ret;exact⟨zD HR.out.symm,rfl⟩
def zSF:List Nd→Nat
 | []=>0
 | x::r=>1+x.str.length+x.mag.length+x.kids.length+x.name.length+zSF r
theorem zSm (a b:List Nd):zSF (a++b)=zSF a+zSF b:=by
 induction a with
 | nil=>simp[zSF]
 | cons x r ih=>simp only[List.cons_append,zSF,ih];omega
theorem zSb {ts:List Nd} {k:Nat} {x:Nd} (h:ts[k]? =some x):zSF (ts.take (k+1))=zSF (ts.take k)+(1+x.str.length+x.mag.length+x.kids.length+x.name.length):=by
 obtain⟨hl,rfl⟩:=List.getElem?_eq_some_iff.1 h;rw[yAK hl,zSm];simp[zSF]
theorem zSn {ts:List Nd} {x:Nd} (h:x∈ts):x.str.length+x.mag.length+x.kids.length+x.name.length≤zSF ts:=by
 induction ts with
 | nil=>cases h
 | cons y r ih=>
  rcases List.mem_cons.1 h with rfl | h
  · simp only[zSF];omega
  · have:=ih h;simp only[zSF];omega
theorem zSc (ts:List Nd):(zAI ts).length+ts.length≤zSF ts:=by
 induction ts with
 | nil=>exact yAC _
 | cons x r ih=>rw[zCJ,List.length_append,List.length_cons];simp only[zSF];omega
structure FewP (ts:List Nd):Prop where
 len:ts.length≤20000
 all:(zAI ts).length≤20000
 each:∀x∈ts,x.str.length≤20000∧x.mag.length≤20000∧x.kids.length≤20000∧x.name.length≤20000
theorem zS7 {ts:List Nd} (h:zSF ts≤20000):FewP ts:=by
 have h1:=zSc ts;refine⟨by omega,by omega,fun x hx=>?_⟩;have:=zSn hx;omega
def WgtAt (ts:List Nd) (k:Nat) (a:Nat):Prop:=(a≤20000→a=zSF (ts.take k))∧a≤200000
theorem WgtAt.start (ts:List Nd):WgtAt ts 0 0:=⟨fun _=>by simp[zSF],by omega⟩
theorem WgtAt.step {ts:List Nd} {k a:Nat} {x:Nd} (h:WgtAt ts k a) (ha:a≤20000) (hx:ts[k]? =some x) {p q r s:Nat} (hp:p=min x.str.length 20001) (hq:q=min x.mag.length 20001) (hr:r=min x.kids.length 20001) (hs:s=min x.name.length 20001):WgtAt ts (k+1) (a+1+p+q+r+s):=by
 have h1:=h.1 ha;refine⟨fun hle=>?_,by omega⟩;rw[zSb hx,←h1];omega
theorem WgtAt.done {ts:List Nd} {a:Nat} (h:WgtAt ts ts.length a) (ha:a≤20000):FewP ts:=by
 have:=h.1 ha;rw[List.take_of_length_le (yAC _)]at this;exact zS7 (by omega)
theorem zSI (L:Nat):(if(20001:Int) < (L:Int)then(20001:Int)else(L:Int))=((min L 20001:Nat):Int):=by split<;>omega
def zTH (ts:List Nd) (w:World) (e:Ending) (w':World):Prop:=∃q:Bool,e=.returned (.bool q)∧(q=true→FewP ts)∧Below w.heap.size w w'
theorem zSO {A:Option Addr} {c B n:Nat} {ts:List Nd} {w:World} (hN:NdsR w B A n ts) (hB:B≤w.heap.size) (hl:n≤20000):
 Calls prog 53 #[.agg #[.slice A n c],.int .i64 20000] w fun e w'=>∃r:Nat,e=.returned (.int .i64 (r:Int))∧(r≤20000→FewP ts)∧Below w.heap.size w w':=by
 obtain⟨W,hW⟩:∃W,w.alloc (.cells #[.slice A n c] 27)=W:=⟨_,rfl⟩;have hbW:Below w.heap.size w W:=by rw[←hW];exact(Below.refl _ _).alloc (yAC _) _
 have hsW:W.heap.size=w.heap.size+1:=by rw[←hW];simp
 have hNW:=zA ((hN.below (hbW.mono hB)));have hcW:W.cell? ⟨w.heap.size,0,none⟩=some (.slice A n c):=by rw[←hW,World.cell?_alloc_at _ _ _ _ rfl];rfl
 have HBW:=zA hbW;have HLN:=zA hN.1;have HB:=zA hB;clear hbW hN;go_enter func53,ntmps53;go_upto_region 1 with(fail);have HW:=zA hW;clear hW;have hltW:w.heap.size < W.heap.size:=by omega
 go_wp2_with fail
 go_loopw [5,6] (fun v i wr=>∃(k a:Nat),k≤n∧v=.int .i64 (a:Int)∧i=.int .i64 (k:Int)∧Hid (WgtAt ts k a)∧Hid (Below W.heap.size W wr)) (fun _ i _=>n - (intOf i).toNat)
 case atStart=>exact⟨0,0,yAE _,rfl,rfl,WgtAt.start ts,Below.refl _ _⟩
 case round=>
  obtain⟨k,a,hk,rfl,rfl,hat,hbr⟩:=hrel;have hsz:=hbr.out.size;have hcx:wr.cell? ⟨w.heap.size,0,none⟩=some (.slice A n c):=(hbr.out.cell (p:=⟨w.heap.size,0,none⟩) hltW).trans hcW;have hab:=hat.out.2
  by_cases hlt:k < n
  · have h1:(k:Int) < (n:Int):=by omega
    have h2:decide ((k:Int) < (n:Int))=true:=decide_eq_true h1
    by_cases hle:a≤20000
    · have h3:(a:Int)≤20000:=by omega
      have h4:decide ((a:Int)≤20000)=true:=decide_eq_true h3;obtain⟨b,o,x,s,rfl,hbB,hx,hC,hR⟩:=(hNW.out.below (hbr.out.mono (by omega))).get hlt;obtain⟨kc0,kc1,kc2,kc3,kc4,kc5,kc6,kc7⟩:=hC;have HX:=zA hx;clear hx hR;go_upto_region 6 with(fail);obtain⟨W1,hW1⟩:∃W1,wr.alloc (.cells #[.int .i64 x.kind,.string ⟨x.name.toArray⟩,.slice s.As x.str.length s.cs,.int .i64 x.nk,.int .i64 x.nn,.bool x.neg,.slice s.Am x.mag.length s.cm,.slice s.Ak x.kids.length s.ck] 48)=W1:=⟨_,rfl⟩;rw[hW1];have p1:W1.cell? ⟨wr.heap.size,1,none⟩=some (.string ⟨x.name.toArray⟩):=by rw[←hW1,World.cell?_alloc_at _ _ _ _ rfl];rfl
      have p2:W1.cell? ⟨wr.heap.size,2,none⟩=some (.slice s.As x.str.length s.cs):=by rw[←hW1,World.cell?_alloc_at _ _ _ _ rfl];rfl
      have p6:W1.cell? ⟨wr.heap.size,6,none⟩=some (.slice s.Am x.mag.length s.cm):=by rw[←hW1,World.cell?_alloc_at _ _ _ _ rfl];rfl
      have p7:W1.cell? ⟨wr.heap.size,7,none⟩=some (.slice s.Ak x.kids.length s.ck):=by rw[←hW1,World.cell?_alloc_at _ _ _ _ rfl];rfl
      have HB1:=zA (show Below W.heap.size W W1 from by rw[←hW1];exact hbr.out.alloc hsz _);obtain⟨X,hX⟩:∃X,wr.heap.size=X:=⟨_,rfl⟩;rw[hX]at p1 p2 p6 p7;rw[hX];clear hW1 kc0 kc1 kc2 kc3 kc4 kc5 kc6 kc7 hcx hX hbr hsz;go_wp2_with fail
      go_roundw
      case rel=>
       exact⟨k+1,_,by omega,by first | (rw[zSI,zSI,zSI,zSI];rfl) | exact congrArg (Value.int IntKind.i64) (by omega),by go_num,hat.out.step hle HX.out rfl rfl rfl rfl,HB1.out⟩
      case measure=>simp[intOf];omega
    · have h3:¬(a:Int)≤20000:=by omega
      have h4:decide ((a:Int)≤20000)=false:=yAI h3;go_wp2_with fail;go_ret;exact⟨a,rfl,fun h=>absurd h hle,HBW.out.trans (hbr.out.mono (by omega))⟩
  · have h1:¬(k:Int) < (n:Int):=by omega
    have h2:decide ((k:Int) < (n:Int))=false:=yAI h1;obtain rfl:k=n:=by omega
    have hdn:=zA (fun h:a≤20000=>(show WgtAt ts ts.length a by rw[HLN.out];exact hat.out).done h);go_wp2_with fail;go_ret;exact⟨a,rfl,hdn.out,HBW.out.trans (hbr.out.mono (by omega))⟩
theorem zSw {A:Option Addr} {c B n:Nat} {ts:List Nd} {w:World} (hN:NdsR w B A n ts) (hB:B≤w.heap.size):
 Calls prog 26 #[.agg #[.slice A n c]] w (zTH ts w):=by
 by_cases h:n≤20000
 · have h1:(n:Int)≤20000:=by omega
   have h2:decide ((n:Int)≤20000)=true:=decide_eq_true h1;have CW:=zA (fun(W:World) (hb:Below w.heap.size w W)=>zSO (c:=c) (hN.below (hb.mono hB)) (yAD hB hb.size) h);clear hN;go_enter func26,ntmps26;go_wp2_with fail;refine(CW.out _ ((Below.refl _ _).alloc (yAC _) _)).mono ?_;rintro e1 w1 ⟨r,rfl,hr,hb1⟩;have HB1:=zA (((Below.refl w.heap.size w).alloc (yAC _) _).trans (hb1.mono (by simp)));have HR:=zA hr;clear hb1 hr
   by_cases hrl:r≤20000
   · have h3:(r:Int)≤20000:=by omega
     have h4:decide ((r:Int)≤20000)=true:=decide_eq_true h3;go_wp2_with fail;go_ret;exact⟨true,rfl,fun _=>HR.out hrl,HB1.out⟩
   · have h3:¬(r:Int)≤20000:=by omega
     have h4:decide ((r:Int)≤20000)=false:=yAI h3;go_wp2_with fail;go_ret;exact⟨false,rfl,fun h=>(by cases h),HB1.out⟩
 · have h1:¬(n:Int)≤20000:=by omega
   have h2:decide ((n:Int)≤20000)=false:=yAI h1;go_enter func26,ntmps26;go_wp2_with fail;go_ret;exact⟨false,rfl,fun h=>(by cases h),(Below.refl _ _).alloc (yAC _) _⟩
def AtTxt (v0 v:Nat) (ls:List UInt8):Prop:=zG6 v0=(if v=0 then []else zG6 v)++ls.reverse
theorem AtTxt.start {v0:Nat} (h:v0≠0):AtTxt v0 v0 []:=by unfold AtTxt;rw[if_neg h];simp
theorem AtTxt.step {v0 v:Nat} {ls:List UInt8} (h:AtTxt v0 v ls) (hv:v≠0):AtTxt v0 (v / 10) (ls++[chr (48+v % 10)]):=by
 unfold AtTxt at h⊢;rw[if_neg hv]at h;rw[h,List.reverse_append]
 by_cases h10:v < 10
 · rw[zG7 h10,if_pos (by omega),show v % 10=v by omega];rfl
 · rw[zKB h10,if_neg (by omega)];simp
theorem AtTxt.done {v0:Nat} {ls:List UInt8} (h:AtTxt v0 0 ls):ls.reverse=zG6 v0:=by
 unfold AtTxt at h;rw[h];rfl
theorem AtTxt.len {v0 v:Nat} {ls:List UInt8} (h:AtTxt v0 v ls):ls.length≤(zG6 v0).length:=by
 unfold AtTxt at h;rw[h,List.length_append,List.length_reverse];omega
structure AtDiv (ms:List Nat) (k r:Nat) (cs:List Nat):Prop where
 len:cs.length=ms.length
 low:cs.take k=ms.take k
 rest:r≤9
 val:zDp (ms.drop k)=10*zDp (cs.drop k)+r
 lt:∀x∈cs,x < 4294967296
theorem AtDiv.start {ms:List Nat} (h:∀x∈ms,x < 4294967296):AtDiv ms ms.length 0 ms:=⟨rfl,rfl,by omega,by rw[List.drop_length];rfl,h⟩
theorem AtDiv.get {ms cs:List Nat} {k r:Nat} (h:AtDiv ms (k+1) r cs) (hk:k < ms.length):cs[k]'(by rw[h.len];exact hk)=ms[k]:=by
 have h1:=congrArg (fun l=>l[k]?) h.low;simp only[List.getElem?_take,if_pos (yAF k)]at h1;rw[yAB (by rw[h.len];exact hk),yAB hk]at h1;exact Option.some.inj h1
theorem AtDiv.step {ms cs:List Nat} {k r:Nat} (h:AtDiv ms (k+1) r cs) (hk:k < ms.length):AtDiv ms k ((r*4294967296+ms[k]) % 10) (cs.set k ((r*4294967296+ms[k]) / 10)):=by
 have hkc:k < cs.length:=by rw[h.len];exact hk
 have hx:ms[k] < 4294967296:=by rw[←h.get hk];exact h.lt _ (List.getElem_mem _)
 have hr:=h.rest;refine⟨by simp[h.len],?_,by omega,?_,?_⟩
 · rw[List.take_set_of_le (yAC k)];have:=congrArg (List.take k) h.low;rwa [List.take_take,List.take_take,Nat.min_eq_left (by omega)]at this
 · have hv:=h.val;rw[yAH hk,zDp,hv,List.drop_set,if_neg (by omega),Nat.sub_self,yAH hkc,List.set_cons_zero,zDp];omega
 · intro x hm;rcases List.mem_or_eq_of_mem_set hm with hm | rfl
   · exact h.lt x hm
   · omega
theorem AtDiv.done {ms cs:List Nat} {r:Nat} (h:AtDiv ms 0 r cs):zDp ms=10*zDp cs+r∧r≤9:=by
 have:=h.val;simp only[List.drop_zero]at this;exact⟨this,h.rest⟩
theorem zSo {w:World} {base base' n size:Nat} {e:TypeId} {v:Value} {xs:List Value} (h:w.ownsRow base e size v n xs) (hb:base'≤base):w.ownsRow base' e size v n xs:=by
 refine⟨h.1,?_⟩;rcases h.2 with h1 | ⟨g,cap,cur,h1,h2,h3⟩
 · exact .inl h1
 · exact .inr ⟨g,cap,cur,h1,yAD hb h2,h3⟩
theorem zSP {A:Option Addr} {B n c:Nat} {xs:List Int} {w:World} (hn:xs.length=n) (ha:Reads w B 1 A n (zBC xs)) (hl:n≤1000000):
 Calls prog 38 #[.slice A n c] w fun e w'=>∃v,e=.returned v∧Made w w' 3 v (zBC xs):=by
 rcases Nat.eq_zero_or_pos n with h0 | h0
 · subst h0;have hx:xs=[]:=List.eq_nil_of_length_eq_zero hn;subst hx;cases A with
   | none=>
    refine(Tryz.slices_Clone_int_nil 0 c w).mono ?_;rintro e w' ⟨rfl,rfl⟩;exact⟨_,rfl,Made.nil _ _⟩
   | some a=>
    refine(Tryz.slices_Clone_int_zero a c w).mono ?_;rintro e w' ⟨v',rfl,ho,_,hb⟩;exact⟨v',rfl,ho,hb⟩
 · obtain⟨b,o,rfl,_,hc⟩:=ha.spotR h0;refine(Tryz.slices_Clone_int b o n c xs w (by omega) (by omega) (fun j hj=>?_)).mono ?_
   · have:=hc j (.int .i64 xs[j]) (by simp[zBC,yAB hj]);rw[this];simp[List.getD,hj]
   · rintro e w' ⟨v',rfl,ho,_,hb⟩;refine⟨v',rfl,?_,hb⟩;rw[List.take_of_length_le (by omega)]at ho;rw[zFV,hn];exact ho
theorem zSp {A:Option Addr} {c B n k:Nat} {ts:List Nd} {x:Nd} {w:World} (hN:NdsR w B A n ts) (hB:B≤w.heap.size) (hk:k < n) (hx:ts[k]? =some x) (hl:x.kids.length≤1000000):
 Calls prog 18 #[.agg #[.slice A n c],.int .i64 (k:Int)] w fun e w'=>∃v,e=.returned v∧Made w w' 3 v (zBC x.kids):=by
 obtain⟨b,o,x',s,rfl,hbB,hx',hC,hR⟩:=hN.get hk;obtain rfl:x=x':=Option.some.inj (hx.symm.trans hx');have k7:=hC.k7;have hbw:b < w.heap.size:=by omega
 have CC:=zA (fun(W:World) (hb:Below w.heap.size w W)=>zSP (c:=s.ck) rfl (hR.kids.below (hb.mono hB)) hl);have h1:¬(n:Int)≤(k:Int):=by omega
 have h2:¬(k:Int) < 0:=by omega
 have h3:(k:Int) < (n:Int):=by omega
 obtain⟨L,hL⟩:∃L,x.kids.length=L:=⟨_,rfl⟩;rw[hL]at k7;have CC2:=zA (show∀(W:World),Below w.heap.size w W→Calls prog 38 #[.slice s.Ak L s.ck] W fun e w'=>∃v,e=.returned v∧Made W w' 3 v (zBC x.kids)from by rw[←hL];exact CC.out);clear hN hx hx' hC hR CC hl hL;go_enter func18,ntmps18;go_wp2_with fail;refine(CC2.out _ ((Below.refl _ _).alloc (yAC _) _)).mono ?_;rintro e1 w1 ⟨v,rfl,hm⟩;have HM:=zA (show Made w w1 3 v (zBC x.kids)from⟨zSo hm.own (by simp),((Below.refl w.heap.size w).alloc (yAC _) _).trans (hm.below.mono (by simp))⟩);clear hm;go_wp2_with fail;go_ret;exact⟨v,rfl,HM.out⟩
end Go.Proofs.YtlohaclgbfhijaaGreatDoor
