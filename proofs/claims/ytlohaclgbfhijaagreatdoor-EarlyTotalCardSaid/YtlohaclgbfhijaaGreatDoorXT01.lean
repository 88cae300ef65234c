/- Joined for the claim EarlyTotal: the parser, the lexer and the trees as they are walked, made short by a program of mine. -/
import Derived.Test.YtlohaclgbfhijaaGreatDoorCards
import Derived.Test.YtlohaclgbfhijaaGreatDoorTie
import Derived.ProofKit
import Derived.OpenShut
import Derived.Deep.DeepHandedRow
import Derived.Lib.LaidTab
import Derived.Lib.LaidU8
import Derived.Test.YtlohaclgbfhijaaGreatDoorE01
import Derived.Test.YtlohaclgbfhijaaGreatDoorE02
import Derived.Test.YtlohaclgbfhijaaGreatDoorE03
import Derived.Test.YtlohaclgbfhijaaGreatDoorE04
import Derived.Test.YtlohaclgbfhijaaGreatDoorE05
import Derived.Test.YtlohaclgbfhijaaGreatDoorE06
import Derived.Test.YtlohaclgbfhijaaGreatDoorE07
import Derived.Test.YtlohaclgbfhijaaGreatDoorE08
import Derived.Test.YtlohaclgbfhijaaGreatDoorE09
import Derived.Test.YtlohaclgbfhijaaGreatDoorE10
import Derived.Test.YtlohaclgbfhijaaGreatDoorE11
import Derived.Test.YtlohaclgbfhijaaGreatDoorE12
import Derived.Test.YtlohaclgbfhijaaGreatDoorE13
import Derived.Test.YtlohaclgbfhijaaGreatDoorE14
import Derived.Test.YtlohaclgbfhijaaGreatDoorE15
import Derived.Test.YtlohaclgbfhijaaGreatDoorE16
import Derived.Test.YtlohaclgbfhijaaGreatDoorE17
import Derived.Test.YtlohaclgbfhijaaGreatDoorE18
import Derived.Test.YtlohaclgbfhijaaGreatDoorE19
import Derived.Test.YtlohaclgbfhijaaGreatDoorE20
import Derived.Test.YtlohaclgbfhijaaGreatDoorE21
import Derived.Test.YtlohaclgbfhijaaGreatDoorE22
import Derived.Test.YtlohaclgbfhijaaGreatDoorE23
import Derived.Test.YtlohaclgbfhijaaGreatDoorE24
import Derived.Test.YtlohaclgbfhijaaGreatDoorE25
set_option maxHeartbeats 16000000
set_option maxRecDepth 1000000
namespace Go.Proofs.YtlohaclgbfhijaaGreatDoor
open Go.Proofs.Tryz
open Go.RowKit
section
variable {w w':World} {B B' size n:Nat} {A:Option Addr} {xs:List Value}
theorem Reads.drew (h:Reads w B size A n xs):Reads w.drew B size A n xs:=h
end
theorem Made.drew {w0 w:World} {e:TypeId} {v:Value} {xs:List Value} (h:Made w0 w e v xs):Made w0 w.drew e v xs:=⟨h.own.drew,h.below.drew⟩
theorem Reads.u8 {w:World} {B n:Nat} {A:Option Addr} {xs:List UInt8} (h:Reads w B 1 A n (u8s xs)) {k:Nat} (hk:k < xs.length):
 ∃ad,A=some ad∧ad.block < B∧w.cell? (ad.add k)=some (.int .u8 (xs[k].toNat:Int)):=by
 have hl:xs.length=n:=by have:=h.1;simpa [u8s]using this
 obtain⟨ad,u,e,hb,hx,hc⟩:=h.at_ (k:=k) (by omega);refine⟨ad,e,hb,?_⟩;rw[hc];simp[u8s,hk]at hx;rw[←hx];rfl
theorem MadeM.u16 {w0 w:World} {g:Nat} {e:TypeId} {v:Value} {xs:List UInt16} (h:MadeM w0 w g e v (zAD xs)):
 ∃A c,v=.slice A xs.length c∧xs.length≤c∧c≤maxLen∧Reads w w.heap.size 1 A xs.length (zAD xs):=by
 obtain⟨A,c,hv,h1,h2,h3⟩:=h.shape;have e:(zAD xs).length=xs.length:=by simp[zAD]
 rw[e]at hv h1 h3;exact⟨A,c,hv,h1,h2,h3⟩
section
variable {w w':World} {B B' n:Nat} {A:Option Addr} {ts:List Nd}
theorem NdsR.nil (h:n=0):NdsR w B A n []:=⟨h.symm,fun h0=>by omega⟩
end
section
variable {w w' w'':World} {v v' v'':Value}
theorem Kept.refl (w:World) (v:Value):Kept w w v v:=⟨rfl,rfl,rfl,yAC _,fun _ _ _=>rfl,.inl rfl⟩
theorem Kept.frozen (h:Kept w w' v v') {p:Addr} (hp:p.block < w.heap.size) (hne:v.ownBlock≠some p.block):w'.frozen? p=w.frozen? p:=World.frozen?_of_block (h.block p.block hp hne)
theorem Kept.alloc (h:Kept w w' v v') (o:Obj):Kept w (w'.alloc o) v v':=
 ⟨h.os,h.tape,h.output,by have:=h.size;simp;omega,fun i hi hne=>(heap_alloc_old w' o (yAA hi h.size)).trans (h.block i hi hne),h.own⟩
end
section Zq
open Go.ChangeShapes Go.WideShapes Go.ChangeAt Go.RowKit Go.Lib
section
variable {H:Type} {enc:TypeId×Value→H} {W:World} {base:Nat}
theorem Tryz.laidOut:laidOutB prog=true:=by kernel_rfl
theorem zSW {W':World} {sp':Nat→Bool}:∀{ts:List TypeId} {vs:List Value} {ds:List (DataW H)} {ps:List MemPlace},(∀t∈ts,prog.readableRec t=true∧t < prog.types.size)→
 DataW.TrodAll enc prog W 0 (fun _=>true) true ts vs ds ps→Below W.heap.size W W'→(∀x∈ps,x.block < W.heap.size)→(∀p∈ps,sp' p.block=true)→DataW.TrodAll enc prog W' 0 sp' true ts vs ds ps:=by
 intro ts
 induction ts with
 | nil=>
  intro vs ds ps _ h _ _ _;obtain⟨rfl,rfl,rfl⟩:=trodAll_nil h;exact trodAll_mk0
 | cons t ts ih=>
  intro vs ds ps hr h hb hlt hs;obtain⟨v,vs',d,ds',p,q,rfl,rfl,rfl,h0,r0⟩:=trodAll_cons h;have ht:=hr t (by simp);exact trodAll_cons_mk (WideElems.Trod_stays Tryz.laidOut ht.1 ht.2 h0 (fun x hx=>hb.same (hlt x (by simp[hx]))) (fun x hx=>hs x (by simp[hx])))
   (ih (fun t' h'=>hr t' (by simp[h'])) r0 hb (fun x hx=>hlt x (by simp[hx])) (fun x hx=>hs x (by simp[hx])))
theorem zSX {P:Program} {f:Func} {s:ChangeSpec} {apart fresh handsOn again:Bool} {W W':World} {args:Array Value} {v:Value} {ds gs:List (DataW H)} {before pa pv:List MemPlace}
 (hW:DataW.Whole enc P f.params.toList s.vars apart W args.toList ds gs before)
 (hres:∀(b:Nat) (sp:Nat→Bool) (hd:Bool),DataW.TrodAll enc P W' b sp hd f.resultTypes.toList (v.resultList f.resultTypes.size) (s.fn H (ds++gs)).results [])
 (hargs:∀sp:Nat→Bool,(∀p∈before,sp p.block=true)→DataW.TrodAll enc P W' 0 sp true f.params.toList args.toList (s.fn H (ds++gs)).args pa)
 (hvars:∀sp:Nat→Bool,(∀p∈before,sp p.block=true)→DataW.TrodVars enc P W' sp s.vars (s.fn H (ds++gs)).vars pv)
 (hps:before=pa++pv) (hb:Below W.heap.size W W')
 (hok:∀(j:Nat) (t:TypeId) (r:Value),f.resultTypes[j]? =some t→(v.resultList f.resultTypes.size)[j]? =some r→Value.okWide P W' .any 0 t r):
 s.post enc P f apart fresh handsOn again W args v W':=by
 have hlt:∀p∈before,p.block < W.heap.size:=fun p hp=>hW.lt p hp;have hold:∀p∈before,(fun b=>decide (b < W.heap.size)) p.block=true:=fun p hp=>by simpa using hlt p hp
 refine⟨ds,gs,before,[],pa,pv,hW,hres _ _ _,hargs _ hold,hvars _ hold,World.keptBut_mono (fun p hp=>⟨hp,?_⟩) (hb.frame (·∈before)),fun _=>?_⟩
 · rw[hps,List.mem_append]at hp;exact Or.inr hp
 · obtain⟨_,_,_,_,_,hz,hn⟩:=hW;refine⟨hok,_,_,([]++pa)++pv,⟨[]++pa,pv,trodAll_append (hargs _ (fun _ _=>rfl)) (hres _ _ _),hvars _ (fun _ _=>rfl),rfl,?_,?_⟩,?_⟩
   · intro b off hp;have hin:MemPlace.cell b off∈before:=by rw[hps];simpa using hp
     rw[hb.frozen (hlt _ hin)];exact hz b off hin
   · intro ha;have:=hn ha;rw[hps]at this;simpa using this
   · intro p hp _;rw[hps];simpa using hp
end
def zTo:DataW Unit→List Int
 | .agg l=>l.map fun d=>match d with | .lit (.int _ z)=>z | _=>0
 | _=>[]
def zTQ (h:Array Obj):Array Obj:=
 ((h.modify 3 fun
  | .cells _ t frozen=>.cells (Lib.pow10Tab.map fun z=>Value.int .u64 z).toArray t frozen
  | o=>o).modify 4 fun
  | .cells _ t frozen=>.cells ((zTo Rows.laid_math_bits_deBruijn32tab).map fun z=>Value.int .u8 z).toArray t frozen
  | o=>o).modify 5 fun
  | .cells _ t frozen=>.cells ((zTo Rows.laid_math_bits_deBruijn64tab).map fun z=>Value.int .u8 z).toArray t frozen
  | o=>o
end Zq
section Zq
open Go.ChangeShapes Go.WideShapes Go.ChangeAt Go.RowKit Go.Lib
section
variable {H:Type} {enc:TypeId×Value→H} {W:World} {base:Nat}
theorem zTR {v:Value} {d:DataW H} {p:List MemPlace} (hv:Value.okWide prog W .any base 51 v) (h:DataW.Trod enc prog W 0 (fun _=>true) true 51 v d p):
 ∃A c xs,v=.slice A (xs:List UInt8).length c∧xs.length≤c∧c≤maxLen∧Reads W W.heap.size 1 A xs.length (u8s xs):=by
 obtain⟨a0,len,cap,rfl⟩:=okWide_slice underlying51 hv;obtain⟨fuel,hf⟩:=h;rcases open_ints underlying51 underlying5 zMS hf with⟨hcs,_⟩ | ⟨a,len',cap',zs,hcs,_,hl,hm,hz,_,hcell,hwf⟩
 · simp only[Value.cells,List.cons.injEq,and_true,Value.slice.injEq]at hcs;obtain⟨rfl,rfl,rfl⟩:=hcs;exact⟨none,0,[],rfl,yAC _,yAE _,Reads.none_⟩
 · simp only[Value.cells,List.cons.injEq,and_true,Value.slice.injEq]at hcs;obtain⟨rfl,rfl,rfl⟩:=hcs;simp only[if_true]at hz;have hlen:((zs.take len).map fun n=>UInt8.ofNat n.toNat).length=len:=by simp;omega
   refine⟨some a,cap,(zs.take len).map fun n=>UInt8.ofNat n.toNat,by rw[hlen],by rw[hlen];exact hl,hm,?_⟩;refine⟨by rw[zG5];omega,fun hn=>⟨a,rfl,?_,fun j u hu=>?_⟩⟩
   · have h0:=hcell 0 (by omega);have:=World.block_lt_of_cell? W _ h0;rwa [zDe]at this
   · have hj:j < len:=by
      have:=(List.getElem?_eq_some_iff.1 hu).1;rw[zG5,hlen]at this;exact this
     rw[hcell j (by omega)];have hzj:j < zs.length:=by omega
     have hw:=hwf zs[j] (List.getElem_mem _);have hw:=bounds_u8 hw;rw[←hu];simp only[u8s,List.getElem?_map,List.getElem?_take,hj,if_true,yAB hzj,Option.map_some,u8v,yAG,Option.getD_some];congr 2;simp;omega
end
def zSw (h:Array Obj):Array Obj:=
 (h.modify 0 fun
  | .cells _ t frozen=>.cells (((List.range 256).map fun c=>Value.int .u8 (firstT c:Int)).toArray) t frozen
  | o=>o).modify 1 fun
  | .cells _ t frozen=>.cells (((List.range 16).flatMap fun i=>[Value.int .u8 (accLo i:Int),Value.int .u8 (accHi i:Int)]).toArray) t frozen
  | o=>o
noncomputable def zSM (os:Os):World:=
 let w:=World.holding prog os ⟨#[],#[],[]⟩
 {w with heap:=zSw (zTQ w.heap)}
end Zq
def At (ts:List Nd) (n:Nat) (t:Tr):Prop:=∃a b,ts=a++flatT n t++b∧a.length=n
def AtL (ts:List Nd) (n:Nat) (l:List Tr):Prop:=∃a b,ts=a++flatL n l++b∧a.length=n
theorem At.get {ts:List Nd} {n:Nat} {t:Tr} (h:At ts n t):ts[n]? =some (t.laid n):=by
 obtain⟨a,b,rfl,hl⟩:=h;rw[List.append_assoc,List.getElem?_append_right (by omega),hl,Nat.sub_self,List.getElem?_append_left (by rw[flatT_len];exact zBi t)];exact zE4 n t
theorem At.le {ts:List Nd} {n:Nat} {t:Tr} (h:At ts n t):n+t.size≤ts.length:=by
 obtain⟨a,b,rfl,hl⟩:=h;simp only[List.length_append,flatT_len];omega
theorem At.subs {ts:List Nd} {n:Nat} {x:Nd} {l:List Tr} (h:At ts n (.mk x l)):AtL ts (n+1) l:=by
 obtain⟨a,b,rfl,hl⟩:=h;rw[zA2];exact⟨a++[{x with kids:=zAM (n+1) l}],b,by simp,by simp[hl]⟩
theorem AtL.head {ts:List Nd} {n:Nat} {t:Tr} {l:List Tr} (h:AtL ts n (t::l)):At ts n t:=by
 obtain⟨a,b,rfl,hl⟩:=h;rw[zAU];exact⟨a,flatL (n+t.size) l++b,by simp,hl⟩
theorem AtL.tail {ts:List Nd} {n:Nat} {t:Tr} {l:List Tr} (h:AtL ts n (t::l)):AtL ts (n+t.size) l:=by
 obtain⟨a,b,rfl,hl⟩:=h;rw[zAU];exact⟨a++flatT n t,b,by simp,by simp[hl,flatT_len]⟩
theorem AtL.kid {ts:List Nd}:∀{l:List Tr} {n:Nat} (_:AtL ts n l) (i:Nat) (hi:i < l.length),∃p:Nat,(zAM n l)[i]? =some (p:Int)∧At ts p l[i]∧n≤p:=by
 intro l
 induction l with
 | nil=>intro n h i hi;simp at hi
 | cons t r ih=>
  intro n h i hi;cases i with
  | zero=>exact⟨n,rfl,h.head,yAC _⟩
  | succ i=>
   obtain⟨p,h1,h2,h3⟩:=ih h.tail i (by simpa using hi);exact⟨p,by simpa [zAM]using h1,h2,by omega⟩
theorem At.kid {ts:List Nd} {n:Nat} {x:Nd} {l:List Tr} (h:At ts n (.mk x l)) (i:Nat) (hi:i < l.length):∃p:Nat,(zAM (n+1) l)[i]? =some (p:Int)∧At ts p l[i]∧n < p:=by
 obtain⟨p,h1,h2,h3⟩:=h.subs.kid i hi;exact⟨p,h1,h2,by omega⟩
theorem At.whole (t:Tr):At (flatT 0 t) 0 t:=⟨[],[],by simp,rfl⟩
def zUI:List Nat→Nat
 | []=>0
 | x::r=>x+4294967296*zUI r
theorem zTS:∀(k n:Nat),n < 10^(k+1)→(zG6 n).length≤k+1:=by
 intro k
 induction k with
 | zero=>intro n h;rw[zG6];rw[if_pos (by omega)];simp
 | succ k ih=>
  intro n h;rw[zG6];split
  · simp
  · have h2:n / 10 < 10^(k+1):=by rw[Nat.div_lt_iff_lt_mul (by omega)];rwa [Nat.pow_succ]at h
    have:=ih (n / 10) h2;rw[List.length_append,List.length_singleton];omega
theorem zTr:∀(m:List Nat),(∀x∈m,x < 4294967296)→zUI m < 4294967296^m.length:=by
 intro m
 induction m with
 | nil=>intro _;simp[zUI]
 | cons x r ih=>
  intro h;have h1:=ih fun y hy=>h y (List.mem_cons_of_mem _ hy);have h2:=h x (List.mem_cons_self ..);simp only[zUI,List.length_cons,Nat.pow_succ];omega
structure Short (x:Nd):Prop where
 name:x.name.length≤4096
 str:x.str.length≤4096
 mag:x.mag.length≤8
 limb:∀y∈x.mag,y < 4294967296
 nn:x.nn≤9007199254740991
theorem Short.big {x:Nd} (h:Short x):(zG6 (zUI x.mag)).length≤78:=by
 refine zTS 77 _ (yAA (zTr x.mag h.limb) (yAD (Nat.pow_le_pow_right (by omega) h.mag) (by decide+kernel)))
theorem zUJ {ts:List Nd} {t:Tr} (h:May ts t):zO3 ts=true:=by
 have hx:=zE4 0 t;rw[←h.flat]at hx;unfold zO3;cases ts with
 | nil=>cases hx
 | cons x r=>
  have hx:x=t.laid 0:=Option.some.inj hx;simp only[Bool.and_eq_true,decide_eq_true_eq,beq_iff_eq];refine⟨⟨⟨⟨h.len,by rw[hx,zF4];exact h.kind⟩,?_⟩,h.each⟩,?_⟩
  · rw[h.flat];exact zE6 t
  · rw[h.flat,zF3];exact h.nest
theorem May.at_ {ts:List Nd} {t:Tr} (h:May ts t):At ts 0 t:=by rw[h.flat];exact At.whole t
theorem zSa {ts:List Nd} {n:Nat} {t:Tr} (h:At ts n t):atN ts (n:Int)=t.laid n:=by
 unfold atN;rw[yAG,Int.toNat_natCast,h.get];rfl
theorem Short.laid {x:Nd} {ks:List Int} (h:Short {x with kids:=ks}):Short x:=⟨h.name,h.str,h.mag,h.limb,h.nn⟩
theorem Made.empty (w:World) (e:TypeId):Made w (w.alloc (.cells #[] e)) e (.slice (some ⟨w.heap.size,0,none⟩) 0 0) []:=
 ⟨World.ownsRow_made w #[] 0 (yAC _) (yAE _) rfl,(Below.refl _ _).alloc (yAC _) _⟩
mutual
def dangT:Tr→Bool
 | .mk x l=>if x.kind=8∧l.length=2 then true else if x.kind=8∨x.kind=9∨x.kind=10∨x.kind=18 then dangL l else false
def dangL:List Tr→Bool
 | []=>false
 | t::r=>match r with | []=>dangT t | _::_=>dangL r
end
theorem zSH (x:Nd) (l:List Tr):dangT (.mk x l)=if x.kind=8∧l.length=2 then true else if x.kind=8∨x.kind=9∨x.kind=10∨x.kind=18 then dangL l else false:=by rw[dangT]
theorem zSx:dangL []=false:=by rw[dangL]
theorem zSE (t:Tr):dangL [t]=dangT t:=by rw[dangL]
theorem zSA (t s:Tr) (r:List Tr):dangL (t::s::r)=dangL (s::r):=by rw[dangL]
def zR7 (l:List Tr):List Int:=l.map (·.nd.kind)
def zSI:List Nat→Nat→List Int→Bool
 | _,_,[]=>true
 | [],r,k::ks=>zD6 r k&&zSI [] r ks
 | s::l,r,k::ks=>zD6 s k&&zSI l r ks
def zUK (l:List Tr) (i:Nat):Int:=(zR7 l).getD i 0
def zTs (l:List Tr) (i:Nat):Bool:=match l[i]? with | none=>false | some t=>dangT t
def zR9 (k:Int) (l:List Tr):Bool:=
 zD5 k&&decide ((zAA k l.length).1.length≤l.length)
 &&zSI (zAA k l.length).1 (zAA k l.length).2 (zR7 l)
 &&(if k=16 then(zUK l 1==17 || zUK l 2==4)else if k=8∧l.length=3 then !(zTs l 1)else true)
mutual
def goodT:Tr→Bool
 | .mk x l=>zh x&&zR9 x.kind l&&goodL l
def goodL:List Tr→Bool
 | []=>true
 | t::r=>goodT t&&goodL r
end
theorem zSj (x:Nd) (l:List Tr):goodT (.mk x l)=(zh x&&zR9 x.kind l&&goodL l):=by rw[goodT]
theorem zSb:goodL []=true:=by rw[goodL]
theorem zSU (t:Tr) (r:List Tr):goodL (t::r)=(goodT t&&goodL r):=by rw[goodL]
theorem zSy {l:List Tr}:goodL l=true↔∀t∈l,goodT t=true:=by
 induction l with
 | nil=>rw[zSb];simp
 | cons t r ih=>rw[zSU,Bool.and_eq_true,ih];simp
theorem zSo:∀(l:List Tr),dangL l=match l.getLast? with | none=>false | some t=>dangT t:=by
 intro l
 induction l with
 | nil=>rw[zSx];rfl
 | cons t r ih=>
  cases r with
  | nil=>rw[zSE];rfl
  | cons s r=>rw[zSA,ih,List.getLast?_cons_cons]
theorem zSh:∀{ts:List Nd} {l:List Tr} {n:Nat} (_:AtL ts n l),(l=[]∧(zAM n l).getLast? =none)∨∃(p:Nat) (t:Tr),(zAM n l).getLast? =some (p:Int)∧l.getLast? =some t∧At ts p t∧t.size≤sizes l:=by
 intro ts l
 induction l with
 | nil=>intro n _;exact .inl ⟨rfl,rfl⟩
 | cons t r ih=>
  intro n h;right;rcases ih h.tail with⟨hr,_⟩ | ⟨p,s,h1,h2,h3,h4⟩
  · subst hr;exact⟨n,t,rfl,rfl,h.head,by rw[zI];omega⟩
  · cases r with
    | nil=>cases h2
    | cons s' r'=>
     refine⟨p,s,?_,by rw[List.getLast?_cons_cons];exact h2,h3,by rw[zI];omega⟩;show((n:Int)::zAM (n+t.size) (s'::r')).getLast? =_;rw[show zAM (n+t.size) (s'::r')=((n+t.size:Nat):Int)::zAM (n+t.size+s'.size) r' from rfl]at h1⊢;rw[List.getLast?_cons_cons];exact h1
theorem zTt {ts:List Nd}:∀(f:Nat) (n:Nat) (t:Tr),At ts n t→t.size≤f→zMa f ts (n:Int)=dangT t:=by
 intro f
 induction f with
 | zero=>intro n t _ h;have:=zBi t;omega
 | succ f ih=>
  intro n t h hf;cases t with
  | mk x l=>
   rw[zb]at hf;rw[zSH];unfold zMa;have e1:(atN ts (n:Int)).kind=x.kind:=by rw[zSa h];rfl
   have e2:(atN ts (n:Int)).kids=zAM (n+1) l:=by rw[zSa h];rfl
   rw[e1,e2,zDN];congr 1;congr 1;rw[zSo];rcases zSh h.subs with⟨hl,h1⟩ | ⟨p,s,h1,h2,h3,h4⟩
   · rw[h1,hl];rfl
   · rw[h1,h2];exact ih p s h3 (by omega)
theorem zSz {ts:List Nd} {n:Nat} {t:Tr} (h:At ts n t):zCm ts (n:Int)=dangT t:=zTt _ n t h (by have:=h.le;omega)
theorem zUL {ts:List Nd}:∀(l:List Tr) (n:Nat) (s:List Nat) (r:Nat),AtL ts n l→zBT ts s r (zAM n l)=zSI s r (zR7 l):=by
 intro l
 induction l with
 | nil=>intro n s r _;cases s<;>rfl
 | cons t l ih=>
  intro n s r h;have h1:(atN ts (n:Int)).kind=t.nd.kind:=by rw[zSa h.head,zF4]
  cases s with
  | nil=>
   show(zD6 r (atN ts (n:Int)).kind&&zBT ts [] r (zAM (n+t.size) l))=(zD6 r t.nd.kind&&zSI [] r (zR7 l));rw[h1,ih _ _ _ h.tail]
  | cons a s=>
   show(zD6 a (atN ts (n:Int)).kind&&zBT ts s r (zAM (n+t.size) l))=(zD6 a t.nd.kind&&zSI s r (zR7 l));rw[h1,ih _ _ _ h.tail]
theorem zTT:∀(ks:List Int) (l:List Nat),zSI l 0 ks=true→ks.length≤l.length:=by
 intro ks
 induction ks with
 | nil=>intro l _;simp
 | cons k r ih=>
  intro l h;cases l with
  | nil=>
   unfold zSI at h;simp[zD6]at h
  | cons s l=>
   unfold zSI at h;rw[Bool.and_eq_true]at h;have:=ih l h.2;simp only[List.length_cons];omega
theorem zSK {ts:List Nd} {n:Nat} {l:List Tr} (h:AtL ts n l) {i:Nat} (hi:i < l.length):∃p:Nat,(zAM n l).getD i 0=(p:Int)∧At ts p l[i]:=by
 obtain⟨p,h1,h2,_⟩:=h.kid i hi;exact⟨p,by rw[yAG,h1];rfl,h2⟩
theorem zS0 {l:List Tr} {i:Nat} (hi:i < l.length):zUK l i=l[i].nd.kind:=by
 unfold zUK zR7;rw[yAG,List.getElem?_map,yAB hi];rfl
theorem zTu {ts:List Nd} {n:Nat} {x:Nd} {l:List Tr} (h:At ts n (.mk x l)):zCE ts ((Tr.mk x l).laid n)=zR9 x.kind l:=by
 have hk:((Tr.mk x l).laid n).kind=x.kind:=rfl;have hs:((Tr.mk x l).laid n).kids=zAM (n+1) l:=rfl;unfold zCE zR9;rw[hk,hs,zDN,zUL l (n+1) _ _ h.subs]
 by_cases h1:decide ((zAA x.kind l.length).1.length≤l.length)=true
 · rw[h1]
   by_cases h2:zSI (zAA x.kind l.length).1 (zAA x.kind l.length).2 (zR7 l)=true
   · rw[h2];congr 1
     by_cases h16:x.kind=16
     · rw[if_pos h16,if_pos h16];have hl:l.length=3:=by
        rw[h16]at h1 h2;have h3:3≤l.length:=of_decide_eq_true h1;have h4:=zTT _ _ h2;unfold zR7 at h4;rw[List.length_map]at h4;exact Nat.le_antisymm h4 h3
       obtain⟨p,e1,a1⟩:=zSK h.subs (i:=1) (by omega);obtain⟨q,e2,a2⟩:=zSK h.subs (i:=2) (by omega);rw[e1,e2,zSa a1,zSa a2,zF4,zF4,zS0 (by omega),zS0 (by omega)]
     · rw[if_neg h16,if_neg h16]
       by_cases h8:x.kind=8∧l.length=3
       · rw[if_pos h8,if_pos h8];obtain⟨p,e1,a1⟩:=zSK h.subs (i:=1) (by omega);rw[e1,zSz a1];unfold zTs;rw[yAB (by omega)]
       · rw[if_neg h8,if_neg h8]
   · rw[Bool.not_eq_true]at h2;rw[h2];simp
 · rw[Bool.not_eq_true]at h1;rw[h1];simp
theorem zTU {ts:List Nd} (a b:List Nd) (n:Nat):zCx ts n (a++b)=(zCx ts n a&&zCx ts (n+a.length) b):=by
 induction a generalizing n with
 | nil=>simp[zCx]
 | cons x r ih=>
  show(_&&zCx ts (n+1) (r++b))=_;rw[ih];show _=((_&&zCx ts (n+1) r)&&zCx ts (n+(r.length+1)) b);rw[show n+1+r.length=n+(r.length+1) by omega];simp only[Bool.and_assoc]
theorem zSc (x:Nd) (ks:List Int):zh {x with kids:=ks}=zh x:=rfl
theorem zSk (s:Nat):zD6 s 1=false:=by
 have f:∀{p:Prop} [Decidable p] {a b:Bool},a=false→b=false→(if p then a else b)=false:=fun h1 h2=>by split<;>assumption
 unfold zD6
 repeat' refine f ?_ ?_
 all_goals rfl
theorem zTV:∀(ks:List Int) (s:List Nat) (r:Nat),zSI s r ks=true→∀k∈ks,k≠1:=by
 intro ks
 induction ks with
 | nil=>intro s r _ k hk;cases hk
 | cons a ks ih=>
  intro s r h k hk;cases s with
  | nil=>
   unfold zSI at h;rw[Bool.and_eq_true]at h;rcases List.mem_cons.1 hk with rfl | hk
   · intro e;rw[e,zSk]at h;cases h.1
   · exact ih _ _ h.2 k hk
  | cons b s=>
   unfold zSI at h;rw[Bool.and_eq_true]at h;rcases List.mem_cons.1 hk with rfl | hk
   · intro e;rw[e,zSk]at h;cases h.1
   · exact ih _ _ h.2 k hk
mutual
theorem eachT {ts:List Nd} (n:Nat) (t:Tr) (h:At ts n t) (h1:n=0∨t.nd.kind≠1):zCx ts n (flatT n t)=goodT t:=by
 cases t with
 | mk x l=>
  rw[zA2,zSj];show(!(decide (0 < n)&&x.kind==1)&&zh {x with kids:=zAM (n+1) l}&&zCE ts ((Tr.mk x l).laid n)&&zCx ts (n+1) (flatL (n+1) l))=_;have e:(decide (0 < n)&&x.kind==1)=false:=by
   rcases h1 with h1 | h1
   · subst h1;rfl
   · have:(x.kind==1)=false:=yA.2 h1;rw[this,Bool.and_false]
  rw[e,zSc,zTu h,Bool.not_false,Bool.true_and]
  by_cases h2:zR9 x.kind l=true
  · rw[eachL (n+1) l h.subs (by omega) (by
     unfold zR9 at h2;simp only[Bool.and_eq_true]at h2;intro t ht;exact zTV _ _ _ h2.1.2 _ (List.mem_map_of_mem ht))]
  · rw[Bool.not_eq_true]at h2;rw[h2];simp
theorem eachL {ts:List Nd} (n:Nat) (l:List Tr) (h:AtL ts n l) (h0:0 < n) (h1:∀t∈l,t.nd.kind≠1):zCx ts n (flatL n l)=goodL l:=by
 cases l with
 | nil=>rw[zAb,zSb];rfl
 | cons t r=>
  rw[zAU,zSU,zTU,flatT_len,eachT n t h.head (.inr (h1 t (List.mem_cons_self ..))),eachL (n+t.size) r h.tail (by omega) fun s hs=>h1 s (List.mem_cons_of_mem _ hs)]
end
structure Good (t:Tr):Prop where
 size:t.size≤4096
 kind:t.nd.kind=1
 good:goodT t=true
 nest:depT t≤48
theorem zSl {t:Tr}:May (flatT 0 t) t↔Good t:=by
 have he:=eachT (ts:=flatT 0 t) 0 t (At.whole t) (.inl rfl);constructor
 · intro h;exact⟨by have:=h.len;rw[flatT_len]at this;exact this,h.kind,by rw[←he];exact h.each,h.nest⟩
 · intro h;exact⟨rfl,by rw[flatT_len];exact h.size,by rw[he];exact h.good,h.nest,h.kind⟩
theorem zTW {ts:List Nd} {t:Tr} (h:May ts t):Good t:=by
 have e:=h.flat
 subst e;exact zSl.1 h
theorem zTX {ts:List Nd}:zO3 ts=true↔∃t,ts=flatT 0 t∧Good t:=by
 constructor
 · intro h;obtain⟨t,ht⟩:=zMc h;exact⟨t,ht.flat,zTW ht⟩
 · rintro⟨t,rfl,h⟩;exact zUJ (zSl.2 h)
theorem zTY (r:Nat):∀ks:List Int,zSI [] r ks=ks.all (zD6 r):=by
 intro ks
 induction ks with
 | nil=>rfl
 | cons k ks ih=>
  show(zD6 r k&&zSI [] r ks)=_;rw[ih];rfl
theorem zSF {l:List Tr} {r:Nat} (h:∀t∈l,zD6 r t.nd.kind=true):zSI [] r (zR7 l)=true:=by
 rw[zTY,List.all_eq_true];intro k hk;unfold zR7 at hk;obtain⟨t,ht,rfl⟩:=List.mem_map.1 hk;exact h t ht
theorem zSN {x:Nd} {l:List Tr} (h1:zh x=true) (h2:zR9 x.kind l=true) (h3:∀t∈l,goodT t=true):goodT (.mk x l)=true:=by
 rw[zSj,h1,h2,zSy.2 h3];rfl
def zS1:List Int:=[1,2,3,4,5,6,8,9,10,11,12,13,14,15,16,17,34,35,36,37,38,39,42,48,50,51,53]
theorem zTZ:∀k∈zS1,zh {zBg with kind:=k}=true:=by decide+kernel
theorem zSB {k:Int} {l:List Tr} (hk:k∈zS1) (h2:zR9 k l=true) (h3:∀t∈l,goodT t=true):goodT (trK k l)=true:=zSN (zTZ k hk) h2 h3
def zSd:List Int:=[7,12,13,17,18,19,20,33,41,43,44,45,46,47,49,52]
theorem zSp:∀k∈zSd,k≠30∧k≠31∧k≠32∧k≠40:=by decide
theorem zTb {k:Int} {n:List UInt8} (hk:k∈zSd) (hl:n.length≤4096) (hn:zF2 k n=true):zh {zBg with kind:=k,name:=n}=true:=by
 obtain⟨a1,a2,a3,a4⟩:=zSp k hk;show zh ⟨k,n,[],0,0,false,[],[]⟩=true;unfold zh;simp[a1,a2,a3,a4,Nat.not_lt.2 hl,hn]
theorem zSO {k:Int} {n:List UInt8} {l:List Tr} (hk:k∈zSd) (hl:n.length≤4096) (hn:zF2 k n=true) (h2:zR9 k l=true) (h3:∀t∈l,goodT t=true):goodT (trN k n l)=true:=zSN (zTb hk hl hn) h2 h3
def GE (t:Tr):Prop:=goodT t=true∧zD4 t.nd.kind=true
def GS (t:Tr):Prop:=goodT t=true∧zF1 t.nd.kind=true
def GU (t:Tr):Prop:=goodT t=true∧zMZ t.nd.kind=true
def GQ (k:Int) (t:Tr):Prop:=goodT t=true∧t.nd.kind=k
theorem zSq {k:Int} (h:zMZ k=true):zF1 k=true:=by
 unfold zMZ at h;simp only[Bool.and_eq_true]at h;exact h.1.1.1
theorem GU.stmt {t:Tr} (h:GU t):GS t:=⟨h.1,zSq h.2⟩
theorem zS2 {k:Int} (hk:k=1∨k=4) {l:List Tr} (h:∀t∈l,GS t):goodT (trK k l)=true:=by
 have h2:zR9 k l=true:=by
  have:=zSF (l:=l) (r:=1) (fun t ht=>(h t ht).2);rcases hk with rfl | rfl<;>(unfold zR9 zAA;simp[zD5,this])
 exact zSB (by rcases hk with rfl | rfl<;>decide) h2 (fun t ht=>(h t ht).1)
theorem zTv {l:List Tr} (h:∀t∈l,GE t):GE (trK 38 l):=by
 have:=zSF (l:=l) (r:=3) (fun t ht=>(h t ht).2);exact⟨zSB (by decide) (by unfold zR9 zAA;simp[zD5,this]) (fun t ht=>(h t ht).1),rfl⟩
theorem zSm {l:List Tr} (h:∀t∈l,GQ 40 t):GE (trK 39 l):=by
 have:=zSF (l:=l) (r:=7) (fun t ht=>by unfold zD6;simp[(h t ht).2]);exact⟨zSB (by decide) (by unfold zR9 zAA;simp[zD5,this]) (fun t ht=>(h t ht).1),rfl⟩
theorem zS3 {k:Int} (hk:k=50∨k=51) {a:Tr} {l:List Tr} (ha:GE a) (h:∀t∈l,GE t):GE (trK k (a::l)):=by
 have:=zSF (l:=l) (r:=3) (fun t ht=>(h t ht).2);have h0:zD6 3 a.nd.kind=true:=ha.2;refine⟨zSB (by rcases hk with rfl | rfl<;>decide) ?_ (fun t ht=>?_),by rcases hk with rfl | rfl<;>rfl⟩
 · have e:zR7 (a::l)=a.nd.kind::zR7 l:=rfl;rcases hk with rfl | rfl<;>(unfold zR9 zAA;simp[zD5,e,zSI,this,h0])
 · rcases List.mem_cons.1 ht with rfl | ht
   · exact ha.1
   · exact(h t ht).1
theorem zTw {k:Int} (hk:k=5∨k=6) {l:List Tr} (hl:l≠[]) (h:∀t∈l,GQ 7 t):goodT (trK k l)=true:=by
 cases l with
 | nil=>exact absurd rfl hl
 | cons a l=>
  have:=zSF (l:=l) (r:=5) (fun t ht=>by unfold zD6;simp[(h t (List.mem_cons_of_mem _ ht)).2]);have h0:zD6 5 a.nd.kind=true:=by unfold zD6;simp[(h a (by simp)).2]
  have e:zR7 (a::l)=a.nd.kind::zR7 l:=rfl;refine zSB (by rcases hk with rfl | rfl<;>decide) ?_ (fun t ht=>(h t ht).1);rcases hk with rfl | rfl<;>(unfold zR9 zAA;simp[zD5,e,zSI,this,h0])
theorem zSG {k:Int} (hk:k∈([2,11,12,13,14,34,35,36,37]:List Int)):goodT (trK k [])=true:=by
 have h2:∀k∈([2,11,12,13,14,34,35,36,37]:List Int),k∈zS1∧zR9 k []=true:=by decide+kernel
 exact zSB (h2 k hk).1 (h2 k hk).2 zCY
theorem zSS {k:Int} {n:List UInt8} (hk:k∈([7,12,13,20,33]:List Int)) (hl:n.length≤4096) (hn:zF2 k n=true):goodT (trN k n [])=true:=by
 have h2:∀k∈([7,12,13,20,33]:List Int),k∈zSd∧zR9 k []=true:=by decide+kernel
 exact zSO (h2 k hk).1 hl hn (h2 k hk).2 zCY
theorem zSY {k:Int} (hk:k∈([3,7,14,15,40,43,52]:List Int)) {a:Tr} (ha:zD4 a.nd.kind=true):zR9 k [a]=true:=by
 have h0:zD6 3 a.nd.kind=true:=ha;have e:zR7 [a]=[a.nd.kind]:=rfl;simp only[List.mem_cons,List.not_mem_nil,or_false]at hk;rcases hk with rfl | rfl | rfl | rfl | rfl | rfl | rfl<;>(unfold zR9 zAA;simp[zD5,e,zSI,h0])
theorem zTx {k:Int} (hk:k∈([3,14,15]:List Int)) {a:Tr} (ha:GE a):goodT (trK k [a])=true:=
 zSB (by revert k;decide) (zSY (by revert k;decide) ha.2) (zGN ha.1)
theorem zSn {k:Int} (hk:k∈([7,43,52]:List Int)) {n:List UInt8} {a:Tr} (hl:n.length≤4096) (hn:zF2 k n=true) (ha:GE a):goodT (trN k n [a])=true:=
 have h2:∀k∈([7,43,52]:List Int),k∈zSd∧k∈([3,7,14,15,40,43,52]:List Int):=by decide
 zSO (h2 k hk).1 hl hn (zSY (h2 k hk).2 ha.2) (zGN ha.1)
theorem zTp {k:Int} (hk:k=44∨k=45) {n:List UInt8} {a:Tr} (hl:n.length≤4096) (hn:zF2 k n=true) (hg:goodT a=true) (ha:zAf a.nd.kind=true):GE (trN k n [a]):=by
 have h0:zD6 4 a.nd.kind=true:=ha;have e:zR7 [a]=[a.nd.kind]:=rfl;refine⟨zSO (by rcases hk with rfl | rfl<;>decide) hl hn ?_ (zGN hg),by rcases hk with rfl | rfl<;>rfl⟩;rcases hk with rfl | rfl<;>(unfold zR9 zAA;simp[zD5,e,zSI,h0])
theorem zTc {k:Int} (hk:k=46∨k=47) {n:List UInt8} {a c:Tr} (hl:n.length≤4096) (hn:zF2 k n=true) (ha:GE a) (hc:GE c):GE (trN k n [a,c]):=by
 have h0:zD6 3 a.nd.kind=true:=ha.2;have h1:zD6 3 c.nd.kind=true:=hc.2;have e:zR7 [a,c]=[a.nd.kind,c.nd.kind]:=rfl;refine⟨zSO (by rcases hk with rfl | rfl<;>decide) hl hn ?_ (zMW ha.1 hc.1),by rcases hk with rfl | rfl<;>rfl⟩;rcases hk with rfl | rfl<;>(unfold zR9 zAA;simp[zD5,e,zSI,h0,h1])
theorem zTd {n:List UInt8} {a c:Tr} (hl:n.length≤4096) (hn:n∈zO2) (hg:goodT a=true) (ha:zAf a.nd.kind=true) (hc:GE c):GE (trN 49 n [a,c]):=by
 have h0:zD6 4 a.nd.kind=true:=ha;have h1:zD6 3 c.nd.kind=true:=hc.2;have e:zR7 [a,c]=[a.nd.kind,c.nd.kind]:=rfl;refine⟨zSO (by decide) hl (by unfold zF2 zMU;simp[zO2]at hn⊢;exact hn) ?_ (zMW hg hc.1),rfl⟩;unfold zR9 zAA;simp[zD5,e,zSI,h0,h1]
theorem zS4 {a c:Tr} (ha:GE a) (hc:GE c):GE (trK 53 [a,c]):=by
 have h0:zD6 3 a.nd.kind=true:=ha.2;have h1:zD6 3 c.nd.kind=true:=hc.2;have e:zR7 [a,c]=[a.nd.kind,c.nd.kind]:=rfl;refine⟨zSB (by decide) ?_ (zMW ha.1 hc.1),rfl⟩;unfold zR9 zAA;simp[zD5,e,zSI,h0,h1]
theorem zUM {a c f:Tr} (ha:GE a) (hc:GE c) (hf:GE f):GE (trK 48 [a,c,f]):=by
 have h0:zD6 3 a.nd.kind=true:=ha.2;have h1:zD6 3 c.nd.kind=true:=hc.2;have h2:zD6 3 f.nd.kind=true:=hf.2;have e:zR7 [a,c,f]=[a.nd.kind,c.nd.kind,f.nd.kind]:=rfl;refine⟨zSB (by decide) ?_ (zQu ha.1 hc.1 hf.1),rfl⟩;unfold zR9 zAA;simp[zD5,e,zSI,h0,h1,h2]
theorem zUf {e b:Tr} (he:GE e) (hb:GU b):goodT (trK 8 [e,b])=true:=by
 have h0:zD6 3 e.nd.kind=true:=he.2;have h1:zD6 2 b.nd.kind=true:=hb.2;have q:zR7 [e,b]=[e.nd.kind,b.nd.kind]:=rfl;refine zSB (by decide) ?_ (zMW he.1 hb.1);unfold zR9 zAA;simp[zD5,q,zSI,h0,h1]
theorem zUg {e b c:Tr} (he:GE e) (hb:GU b) (hd:dangT b=false) (hc:GU c):goodT (trK 8 [e,b,c])=true:=by
 have h0:zD6 3 e.nd.kind=true:=he.2;have h1:zD6 2 b.nd.kind=true:=hb.2;have h2:zD6 2 c.nd.kind=true:=hc.2;have q:zR7 [e,b,c]=[e.nd.kind,b.nd.kind,c.nd.kind]:=rfl;refine zSB (by decide) ?_ (zQu he.1 hb.1 hc.1);unfold zR9 zAA zTs;simp[zD5,q,zSI,h0,h1,h2,hd]
theorem zTy {e b:Tr} (he:GE e) (hb:GU b):goodT (trK 9 [e,b])=true:=by
 have h0:zD6 3 e.nd.kind=true:=he.2;have h1:zD6 2 b.nd.kind=true:=hb.2;have q:zR7 [e,b]=[e.nd.kind,b.nd.kind]:=rfl;refine zSB (by decide) ?_ (zMW he.1 hb.1);unfold zR9 zAA;simp[zD5,q,zSI,h0,h1]
def GC (t:Tr):Prop:=goodT t=true∧zD6 9 t.nd.kind=true
def GB (t:Tr):Prop:=goodT t=true∧zD6 10 t.nd.kind=true
theorem GE.clause {t:Tr} (h:GE t):GC t:=⟨h.1,by unfold zD6;simp[h.2]⟩
theorem GC.begin {t:Tr} (h:GC t):GB t:=⟨h.1,by
 have:=h.2;unfold zD6 at this⊢;simp at this⊢;rcases this with h | h
 · exact .inl (.inl (.inl h))
 · exact .inr h⟩
theorem zUh {a b c f:Tr} (ha:GB a) (hb:GC b) (hc:GC c) (hf:GU f):goodT (trK 10 [a,b,c,f])=true:=by
 have h3:zD6 2 f.nd.kind=true:=hf.2;have q:zR7 [a,b,c,f]=[a.nd.kind,b.nd.kind,c.nd.kind,f.nd.kind]:=rfl;refine zSB (by decide) ?_ (zR1 ha.1 hb.1 hc.1 hf.1);unfold zR9 zAA;simp[zD5,q,zSI,ha.2,hb.2,hc.2,h3]
theorem zTz {n:List UInt8} {b:Tr} (hl:n.length≤4096) (hn:zF2 17 n=true) (hb:GQ 4 b):GQ 17 (trN 17 n [b]):=by
 have q:zR7 [b]=[4]:=by show [b.nd.kind]=_;rw[hb.2]
 refine⟨zSO (by decide) hl hn ?_ (zGN hb.1),rfl⟩;unfold zR9 zAA;simp[zD5,q,zSI,zD6]
theorem zUN {b c f:Tr} (hb:GQ 4 b) (hc:goodT c=true) (hf:goodT f=true) (kc:c.nd.kind=11∨c.nd.kind=17) (kf:f.nd.kind=11∨f.nd.kind=4) (h:c.nd.kind=17∨f.nd.kind=4):goodT (trK 16 [b,c,f])=true:=by
 have q:zR7 [b,c,f]=[4,c.nd.kind,f.nd.kind]:=by show [b.nd.kind,_,_]=_;rw[hb.2]
 refine zSB (by decide) ?_ (zQu hb.1 hc hf);unfold zR9 zAA zUK;rcases kc with kc | kc<;>rcases kf with kf | kf
 · exfalso;omega
 all_goals simp[zD5,q,zSI,zD6,kc,kf]
theorem zT0 {n:List UInt8} {a:Tr} (hl:n.length≤4096) (hn:zF2 18 n=true) (ha:GU a):goodT (trN 18 n [a])=true:=by
 have h0:zD6 2 a.nd.kind=true:=ha.2;have q:zR7 [a]=[a.nd.kind]:=rfl;refine zSO (by decide) hl hn ?_ (zGN ha.1);unfold zR9 zAA;simp[zD5,q,zSI,h0]
theorem zSV {last:Nat} {k:Int} (hk:zD6 last k=true):∀(l:List Tr),(∀t∈l,GQ 20 t)→zSI (List.replicate l.length 6++[last]) 0 (l.map (·.nd.kind)++[k])=true:=by
 intro l
 induction l with
 | nil=>intro _;show(zD6 last k&&true)=true;rw[hk];rfl
 | cons t l ih=>
  intro h;have h1:=(h t (by simp)).2;rw[List.length_cons,List.replicate_succ,List.cons_append,List.map_cons,List.cons_append];show(zD6 6 t.nd.kind&&zSI _ 0 _)=true;rw[ih (fun x hx=>h x (List.mem_cons_of_mem _ hx)),h1];rfl
theorem zUO {k:Int} (hk:k=19∨k=41) {n:List UInt8} {l:List Tr} {b:Tr} (hl:n.length≤4096) (hn:zF2 k n=true) (h:∀t∈l,GQ 20 t) (hb:GQ 4 b):goodT (trN k n (l++[b]))=true:=by
 have hf:=zSV (last:=8) (k:=4) (by decide) l h;have q:zR7 (l++[b])=l.map (·.nd.kind)++[4]:=by unfold zR7;rw[List.map_append];show _++[b.nd.kind]=_;rw[hb.2]
 refine zSO (by rcases hk with rfl | rfl<;>decide) hl hn ?_ (zBI (fun t ht=>(h t ht).1) hb.1);rcases hk with rfl | rfl<;>(unfold zR9 zAA zA5;simp[zD5,q,hf])
theorem zS5 {l:List Tr} {b:Tr} (h:∀t∈l,GQ 20 t) (hg:goodT b=true) (hb:zD6 13 b.nd.kind=true):GE (trK 42 (l++[b])):=by
 have hf:=zSV (last:=13) (k:=b.nd.kind) hb l h;have q:zR7 (l++[b])=l.map (·.nd.kind)++[b.nd.kind]:=by unfold zR7;rw[List.map_append];rfl
 refine⟨zSB (by decide) ?_ (zBI (fun t ht=>(h t ht).1) hg),rfl⟩;unfold zR9 zAA zA5;simp[zD5,q,hf]
theorem zTq {u:List UInt16} {a:Tr} (hu:u.length≤4096) (ha:GE a):GQ 40 (.mk {zBg with kind:=40,str:=u} [a]):=by
 refine⟨zSN ?_ (zSY (k:=40) (by decide) ha.2) (zGN ha.1),rfl⟩;show zh ⟨40,[],u,0,0,false,[],[]⟩=true;unfold zh;simp[hu]
theorem zUi {v:Int} (h0:0≤v) (h1:v≤9007199254740991):GE (.mk {zBg with kind:=30,nk:=0,nn:=v} []):=by
 refine⟨zSN ?_ (show zR9 30 []=true by decide+kernel) zCY,rfl⟩;show zh ⟨30,[],[],0,v,false,[],[]⟩=true;unfold zh zD7;simp[h0,h1];omega
theorem zUj {m:List Nat} (h:zCg false m=true):GE (.mk {zBg with kind:=31,mag:=m} []):=by
 refine⟨zSN ?_ (show zR9 31 []=true by decide+kernel) zCY,rfl⟩;show zh ⟨31,[],[],0,0,false,m,[]⟩=true;unfold zh;simp[h]
theorem zUk {u:List UInt16} (hu:u.length≤4096):GE (.mk {zBg with kind:=32,str:=u} []):=by
 refine⟨zSN ?_ (show zR9 32 []=true by decide+kernel) zCY,rfl⟩;show zh ⟨32,[],u,0,0,false,[],[]⟩=true;unfold zh;simp[hu]
section
variable {w w0 w':World} {R:Nat} {cs:List Value} {v0 v1 v2 v3 v4 v5 v6 v7 v8:Value}
theorem Blk.cell {j:Nat} (h:Blk w R cs) (hj:j < cs.length):w.cell? ⟨R,j,none⟩=some cs[j]:=(h.2 j hj).1
end
theorem TokC.len {w:World} {base:Nat}:∀{ts:List Tok} {cs:List Value},TokC w base ts cs→cs.length=ts.length*9:=by
 intro ts
 induction ts with
 | nil=>intro cs h;rw[show cs=[]from h];rfl
 | cons t r ih=>
  intro cs h;obtain⟨vs,vm,rest,rfl,_,_,h3⟩:=h;have:=ih h3;simp only[zDZ,List.length_append,List.length_cons,List.length_nil,this];omega
theorem TokL.below {w w':World} {base:Nat} {ts:List Tok} {v:Value} (h:TokL w base ts v) (hb:Below w.heap.size w w'):TokL w' base ts v:=
 h.new ⟨hb.os,hb.tape,hb.output,hb.size,fun k hk _=>hb.block k hk⟩
theorem TokL.shape {w:World} {base:Nat} {ts:List Tok} {v:Value} (h:TokL w base ts v):∃A c,v=.slice A ts.length c∧ts.length≤c∧c≤maxLen:=by
 obtain⟨cs,ho,_⟩:=h;exact zR ho
theorem FinN.drew {C:Pc} {Q:Nat→Prop} {r:Tr×Ps} {w V:World} {X:Nat} {d0 d1 d2 d3 d4 d5 d6 d7 d8:Value} (h:FinN C Q r w X d0 d1 d2 d3 d4 d5 d6 d7 d8 V):FinN C Q r w X d0 d1 d2 d3 d4 d5 d6 d7 d8 V.drew:=
 ⟨h.box.drew,.keep (zAk _ none) (.none_ _ _) _ _ h.tree,h.pa.drew,zC h.grown (zAk _ _)⟩
section
variable {C:Pc} {B:Nat→Prop} {a:World} {D:List Nat} {os:List Ob} {s s':Ps} {w w':World} {rr:Option Nat}
theorem Fr.hi (F:Fr C B a D os s w):s.k≤C.L.length - 1:=F.out.pa.hi
theorem Fr.kind (F:Fr C B a D os s w) (i:Nat) {t:Tr} {e0 e1 e2 e3 e4 e5 e6 e7 e8:Value} (h:os[i]? =some (.tr t [e0,e1,e2,e3,e4,e5,e6,e7,e8]):=by rfl):e0=.int .i64 t.nd.kind:=by
 have h1:=F.t i h;cases t with
 | mk x l=>
  rw[zDC]at h1;obtain⟨vs,vm,vo,ks,h1,_⟩:=h1;injection h1
end
def zUq (t u:Tok):Prop:=t.kind=u.kind∧t.text=u.text∧t.str=u.str∧t.nk=u.nk∧t.nn=u.nn∧t.mag=u.mag
def zUl:List (List UInt8):=[[101,108,115,101],[99,97,116,99,104],[102,105,110,97,108,108,121],[63],[63,63],[124,124],[38,38],[40],[46],[91],[61],[44],[58],[61,62]]
structure Stop (t:Tok):Prop where
 name:t.kind≠1
 binds:zCi t=9
 words:∀w∈zUl,isT t w=false
 asgn:t.kind=5→¬t.text∈zO2
 post:t.kind=5→t.text∈zFT→t.nl=true
structure Sim (L1 L2:List Tok) (a d m:Nat) (lo:Bool):Prop where
 l1:Lst L1
 l2:Lst L2
 le1:m≤L1.length - 1
 le2:m+d≤L2.length - 1
 tok:∀i,a≤i→i < m→zUq (zL L1 i) (zL L2 (i+d))
 nl:∀i,a < i→i < m→(zL L1 i).nl=(zL L2 (i+d)).nl
 stop:Stop (zL L2 (m+d))
 arrow:isT (zL L2 (m+d)) [41]=true→isT (zL L2 (m+d+1)) [61,62]=false
 loose:lo=true→(isT (zL L2 (m+d)) [59]=true∧isT (zL L2 (m+d+1)) [101,108,115,101]=false)∨(isT (zL L2 (m+d)) [59]=false∧((zL L2 (m+d)).nl=true∨(zL L2 (m+d)).kind=0∨isT (zL L2 (m+d)) [125]=true))
def shP (d:Nat) (s:Ps):Ps:={s with k:=s.k+d}
theorem zT1 (d:Nat) (s:Ps):zB (shP d s)=shP d (zB s):=by
 unfold zB shP;simp only[Ps.mk.injEq,and_self,and_true];omega
structure Ok (m:Nat) (s:Ps):Prop where
 bad:s.bad=0
 le:s.k≤m
theorem Ok.back {L:List Tok} {m:Nat} {x y:Ps} (h:Ok m y) (k:Adv L x y):Ok m x:=⟨by
 rcases Nat.eq_zero_or_pos x.bad with hz | hz
 · exact hz
 · exact absurd h.bad (k.bad (by omega)),yAD k.le h.le⟩
theorem Ok.eat {L:List Tok} {m:Nat} {x y:Ps} (h:Ok m y) (k:Eat L x y) (hx:x.k≤L.length - 1):x.k < m:=yAA (k.lt hx (fun hb=>hb h.bad)) h.le
theorem Ok.step {m:Nat} {x:Ps} (h:Ok m (zB x)):Ok m x∧x.k < m:=⟨⟨h.bad,Nat.le_of_succ_le h.le⟩,h.le⟩
theorem Ok.name {L:List Tok} {m:Nat} {x:Ps} (h:Ok m (zd L x).2):(zL L x.k).kind=1∧zd L x=((zL L x.k).text,zB x)∧Ok m x∧x.k < m:=by
 unfold zd at h⊢
 by_cases c:(zL L x.k).kind=1
 · rw[if_pos c]at h⊢;exact⟨c,rfl,h.step.1,h.step.2⟩
 · rw[if_neg c]at h;exact absurd h.bad zFF
section
variable {L1 L2:List Tok} {a d m:Nat} {lo:Bool} {s:Ps} {w:List UInt8}
theorem zUP {t u:Tok} (h:zUq t u) (w:List UInt8):isT u w=isT t w:=by
 unfold isT;rw[h.1,h.2.1]
theorem Sim.on (S:Sim L1 L2 a d m lo) (ha:a≤s.k) (hm:s.k < m):onP L2 w (shP d s)=onP L1 w s:=zUP (S.tok _ ha hm) w
theorem Sim.no (S:Sim L1 L2 a d m lo) (ha:a≤s.k) (hm:s.k≤m) (h:¬onP L1 w s=true) (hw:w∈zUl):¬onP L2 w (shP d s)=true:=by
 rcases Nat.lt_or_ge s.k m with h1 | h1
 · rw[S.on ha h1];exact h
 · have h2:=S.stop.words w hw;unfold onP;show¬isT (zL L2 (s.k+d)) w=true;rw[show s.k=m by omega,h2];decide
theorem Sim.kind (S:Sim L1 L2 a d m lo) (ha:a≤s.k) (hm:s.k < m):(zL L2 (shP d s).k).kind=(zL L1 s.k).kind:=(S.tok _ ha hm).1.symm
theorem Sim.text (S:Sim L1 L2 a d m lo) (ha:a≤s.k) (hm:s.k < m):(zL L2 (shP d s).k).text=(zL L1 s.k).text:=(S.tok _ ha hm).2.1.symm
theorem Sim.line (S:Sim L1 L2 a d m lo) (ha:a < s.k) (hm:s.k < m):(zL L2 (shP d s).k).nl=(zL L1 s.k).nl:=(S.nl _ ha hm).symm
theorem Sim.name (S:Sim L1 L2 a d m lo) (ha:a≤s.k) (hm:s.k < m) (h:(zL L1 s.k).kind=1):zd L2 (shP d s)=((zL L1 s.k).text,shP d (zB s)):=by
 unfold zd;rw[if_pos ((S.kind ha hm).trans h),S.text ha hm,zT1]
def zUQ:Ph→Bool
 | .body _=>true
 | _=>false
def isS:Ph→Bool
 | .item=>true
 | .statement=>true
 | .simple=>true
 | .word _=>true
 | .loop=>true
 | .jump _=>true
 | _=>false
def zUr (L2:List Tok) (d m:Nat) (lo:Bool) (r1 r2:Tr×Ps) (p:Ph):Prop:=
 if isS p=true then(r1.2.k < m→r2=(r1.1,shP d r1.2))∧(r1.2.k=m→lo=true→r2=(r1.1,shP d r1.2)∨(isT (zL L2 (m+d)) [59]=true∧r2=(r1.1,zB (shP d r1.2))))else r2=(r1.1,shP d r1.2)
def Clm (L1 L2:List Tok) (a d m:Nat) (lo:Bool) (R1 R2:Ph→Ps→Tr×Ps) (p:Ph) (s:Ps):Prop:=
 (∀acc,p≠.program acc)→Pre L1 p s→a≤s.k→(zUQ p=true→a < s.k)→Ok m (R1 p s).2→zUr L2 d m lo (R1 p s) (R2 p (shP d s)) p
variable {R1 R2:Ph→Ps→Tr×Ps}
def zUs (L:List Tok) (s r:Ps):Prop:=(isT (zL L (s.k+1)) [41]=true∧r.k=s.k+2)∨(isT (zL L (s.k+1)) [41]=false∧∃j,zFC L L.length (s.k+1)=some j∧isT (zL L j) [41]=true∧r.k=j+1)
structure Kn (L1 L2:List Tok) (a d m:Nat) (lo:Bool) (R1 R2:Ph→Ps→Tr×Ps):Prop where
 post:∀q s1,Pre L1 q s1→Post L1 q s1 (R1 q s1).2
 clm:∀q s1,Clm L1 L2 a d m lo R1 R2 q s1
 blk:∀acc s1,Pre L1 (.blockL acc) s1→(R1 (.blockL acc) s1).2.bad=0→s1.k < (R1 (.blockL acc) s1).2.k
 nul:∀x s1,Pre L1 (.nullL x) s1→onP L1 [63,63] s1=true→(R1 (.nullL x) s1).2.bad=0→s1.k < (R1 (.nullL x) s1).2.k
 par:∀s1,Pre L1 .params s1→(R1 .params s1).2.bad=0→zUs L1 s1 (R1 .params s1).2
theorem Kn.body (K:Kn L1 L2 a d m lo R1 R2) {l:List Tr} {s1:Ps} (hp:Pre L1 (.body l) s1) (ha:a < s1.k) (hok:Ok m (R1 (.body l) s1).2):R2 (.body l) (shP d s1)=((R1 (.body l) s1).1,shP d (R1 (.body l) s1).2):=by
 have:=K.clm (.body l) s1 (fun _ h=>by cases h) hp (Nat.le_of_lt ha) (fun _=>ha) hok;exact this
theorem Kn.item (K:Kn L1 L2 a d m lo R1 R2) {s1:Ps} (hp:Pre L1 .item s1) (ha:a≤s1.k) (hok:Ok m (R1 .item s1).2) (hl:(R1 .item s1).2.k < m):R2 .item (shP d s1)=((R1 .item s1).1,shP d (R1 .item s1).2):=
 (K.clm .item s1 (fun _ h=>by cases h) hp ha (fun h=>by cases h) hok).1 hl
def Loo (L2:List Tok) (d m:Nat) (lo:Bool) (r1 r2:Tr×Ps):Prop:=
 (r1.2.k < m→r2=(r1.1,shP d r1.2))∧(r1.2.k=m→lo=true→r2=(r1.1,shP d r1.2)∨(isT (zL L2 (m+d)) [59]=true∧r2=(r1.1,zB (shP d r1.2))))
theorem Loo.same {r1 r2:Tr×Ps} (h:r2=(r1.1,shP d r1.2)):Loo L2 d m lo r1 r2:=⟨fun _=>h,fun _ _=>.inl h⟩
theorem Loo.map {r1 r2:Tr×Ps} (h:Loo L2 d m lo r1 r2) (F:Tr→Tr):Loo L2 d m lo (F r1.1,r1.2) (F r2.1,r2.2):=by
 refine⟨fun x=>?_,fun x y=>?_⟩
 · rw[h.1 x]
 · rcases h.2 x y with h2 | ⟨h2,h3⟩
   · left;rw[h2]
   · right;exact⟨h2,by rw[h3]⟩
end
end Go.Proofs.YtlohaclgbfhijaaGreatDoor
