/- Joined for the claim ParseGood: the parser, the lexer and the trees as they are walked, made short by a program of mine. -/
import Derived.Test.YtlnbbaehihgigaaGreatDoorProg
import Derived.WalkKit
import Derived.WalkSpells
import Derived.WalkLawsBesides
import Derived.Deep.AppendLies
import Derived.Deep.Draws
import Derived.Deep.QuietTactic
import Derived.BigQuiet
import Derived.Maps.AppendAt
import Derived.RegionTactic
import Derived.Lib.Hide
import Derived.Handy
import Derived.Shelf.Small.Strs
import Derived.Shelf.Strconv.Itoa0
import Derived.Shelf.Strconv.Itoa1
import Derived.Shelf.LaysM
import Derived.Shelf.Strconv.Itoa2
import Derived.Shelf.Strconv.Itoa3
import Derived.Shelf.Strings.Search1
import Derived.Shelf.Slices.Turned
import Derived.Shelf.Slices.Equal
import Derived.Shelf.Slices.Empties2
import Derived.Ground.SlgnProg
import Derived.Shelf.SlicesE.Clone
import Derived.Lib.DecodeN
import Derived.Lib.AppendIntMem
import Derived.Deep.CutBlock
import Derived.Deep.DeepCutAuto
import Derived.Test.YtlnbbaehihgigaaGreatDoorCards
import Derived.Test.YtlnbbaehihgigaaGreatDoorTie
import Derived.ProofKit
import Derived.OpenShut
import Derived.Deep.DeepHandedRow
import Derived.Lib.LaidTab
import Derived.Deep.Slices
set_option maxHeartbeats 16000000
set_option maxRecDepth 1000000
namespace Go.Proofs.YtlnbbaehihgigaaGreatDoor
open Go.Proofs.Tryz
abbrev yA:=@beq_eq_false_iff_ne
abbrev yAA:=@Nat.lt_of_lt_of_le
abbrev yAB:=@List.getElem?_eq_getElem
abbrev yAC:=@Nat.le_refl
abbrev yAD:=@Nat.le_trans
abbrev yAE:=@Nat.zero_le
abbrev yAF:=@Nat.lt_succ_self
abbrev yAG:=@List.getD_eq_getElem?_getD
abbrev yAH:=@List.drop_eq_getElem_cons
abbrev yAI:=@decide_eq_false
abbrev yAJ:=@World.ownsRow_nil
abbrev yAK:=@Decidable.not_not
abbrev yAL:=@List.take_succ_eq_append_getElem
theorem jc{w W:World}{c:Array Value}{T i:Nat}{v:Value}(e:w.alloc (.cells c T)=W)(h:c[i]?=some v:=by rfl):W.cell? ⟨w.heap.size,i,none⟩=some v:=by rw[←e,World.cell?_alloc_at _ _ _ _ rfl];exact h
theorem ja{w:World}{o:Obj}:RowKit.Below w.heap.size w (w.alloc o):=(RowKit.Below.refl _ _).alloc (Nat.le_refl _) _
theorem jb{w W:World}{o:Obj}(e:w.alloc o=W):RowKit.Below w.heap.size w W:=e▸ja
theorem jn{α:Sort _}{c:Prop}[h:Decidable c]{a b:α}(hn:¬c:=by omega):ite c a b=b:=if_neg hn
theorem jr{P:Program}{fn:Func}{R:Ending→World→Prop}{a:Act}{w:World}(hR:R (.returned (.tuple #[])) w)(hf:fn.results=#[]:=by rfl)(hd:a.defers=[]:=by rfl):bodyPost P fn R .ret a w:=bodyPost_ret (results_none hf _ _ _) hd hR
theorem jo{p:Prop}(h:p:=by omega):p:=h
theorem jd{p:Prop}(h:p:=by decide):p:=h
theorem js{p:Prop}(h:p:=by simp):p:=h
theorem ji{α:Sort _}{c:Prop}[h:Decidable c]{a b:α}(hn:¬c:=by decide):ite c a b=b:=if_neg hn
theorem jx{α:Sort _}(a:α):∃x,a=x:=⟨a,rfl⟩
instance jI:Coe Int Value:=⟨fun x=>.int .i64 x⟩
instance jN:Coe Nat Value:=⟨fun x=>.int .i64 (x:Int)⟩
instance jB:Coe Bool Value:=⟨fun x=>.bool x⟩
instance jU:Coe Unit Value:=⟨fun _=>.slice none 0 0⟩
instance jS:Coe String Value:=⟨fun _=>.string ⟨#[]⟩⟩
instance jL:Coe (List UInt8) Value:=⟨fun l=>.string ⟨l.toArray⟩⟩
instance jA:Coe Nat Addr:=⟨fun b=>⟨b,0,none⟩⟩
open Go.RowKit
variable {e:TypeId} {v:Value} {k base c:Nat}
theorem zA {p:Prop} (h:p):Hid p:=h
theorem zJ {a b:Bool} (h:a=b):Ending.returned a=.returned b:=by rw[h]
theorem zGP {k:IntKind} {a b:Int} (h:a=b):Ending.returned (.int k a)=.returned (.int k b):=by rw[h]
theorem zAZ {B:Nat} {a w:World} (h:Below B a w) (n:Nat):Below B a (w.drewN n):=⟨h.os,h.tape,h.output,h.size,h.block⟩
theorem zDl (a:Addr) (n:Nat):(a.add n).block=a.block:=by unfold Addr.add;split<;>rfl
theorem zMX (a:Addr) (i j:Nat):(a.add i).add j=a.add (i+j):=by
 unfold Addr.add
 by_cases hi:i=0<;>by_cases b:j=0<;>simp[hi,b,Nat.add_assoc]
def Reads (w:World) (B size:Nat) (A:Option Addr) (n:Nat) (xs:List Value):Prop:=
 xs.length=n*size∧(0 < n→∃ad,A=some ad∧ad.block < B∧∀j u,xs[j]? =some u→w.cell? (ad.add j)=some u)
section
variable {w w':World} {B B' size n:Nat} {A:Option Addr} {xs:List Value}
theorem Reads.none_:Reads w B size A 0 []:=⟨by simp,fun h=>absurd h jo⟩
theorem Reads.at_ (h:Reads w B 1 A n xs) (hk:k < n):∃b u,A=some b∧b.block < B∧xs[k]? =some u∧w.cell? (b.add k)=some u:=by
 obtain⟨b,e,hb,d⟩:=h.2 jo;have c:k < xs.length:=by have:=h.1;omega
 exact⟨b,xs[k],e,hb,yAB c,d k _ (yAB c)⟩
theorem Reads.keep (h:Reads w B size A n xs) (hk:∀p:Addr,p.block < B→w'.cell? p=w.cell? p):Reads w' B size A n xs:=
 ⟨h.1,fun b=>by
  obtain⟨c,e,hb,d⟩:=h.2 b;exact⟨c,e,hb,fun j u f=>(hk _ (by rw[zDl];exact hb)).trans (d j u f)⟩⟩
theorem Reads.more (h:Reads w B size A n xs) (hB:B≤B'):Reads w B' size A n xs:=
 ⟨h.1,fun b=>by
  obtain⟨c,e,hb,d⟩:=h.2 b;exact⟨c,e,by omega,d⟩⟩
theorem Reads.below (h:Reads w B size A n xs) (hb:Below B w w'):Reads w' B size A n xs:=h.keep fun _ b=>hb.cell b
theorem Reads.drewN (h:Reads w B size A n xs) (k:Nat):Reads (w.drewN k) B size A n xs:=h
theorem Reads.alloc (h:Reads w B size A n xs) (hB:B≤w.heap.size) (o:Obj):Reads (w.alloc o) B size A n xs:=h.keep fun p b=>World.cell?_alloc_lt w o p jo
theorem Reads.cut (h:Reads w B size A n xs) {cap:Nat} (hk:k≤n) (e:n≤cap):
 Reads w B size (if cap=k then A else A.map (·.add (k*size))) (n - k) (xs.drop (k*size)):=by
 refine⟨by rw[List.length_drop,h.1,Nat.sub_mul],fun f=>?_⟩;obtain⟨c,rfl,hb,b⟩:=h.2 jo;rw[jn];refine⟨c.add (k*size),rfl,by rw[zDl];exact hb,fun j u d=>?_⟩;rw[zMX];exact b _ u (by rw[←d,List.getElem?_drop])
theorem Reads.take (h:Reads w B size A n xs) (hk:k≤n):Reads w B size A k (xs.take (k*size)):=by
 refine⟨by rw[List.length_take,h.1];exact Nat.min_eq_left (Nat.mul_le_mul_right _ hk),fun e=>?_⟩;obtain⟨d,rfl,hb,b⟩:=h.2 jo;refine⟨d,rfl,hb,fun j u c=>b j u ?_⟩;rw[List.getElem?_take]at c;split at c
 · exact c
 · cases c
theorem Reads.of_own (h:w.ownsRow base e size (.slice A n c) n xs):Reads w w.heap.size size A n xs:=by
 refine⟨h.1,fun d=>?_⟩;obtain⟨g,cap,hv,_,b⟩:=h.form d;have f:A=some ⟨g,0,none⟩:=by injection hv
 subst f;exact⟨_,rfl,b,h.cells (g:=g) rfl⟩
end
theorem zS {w:World} {size n:Nat} {xs:List Value} (h:w.ownsRow base e size v n xs):
 ∃A c,v=.slice A n c∧n≤c∧c≤maxLen:=by
 rcases h.2 with⟨rfl,rfl⟩ | ⟨g,cap,f,rfl,_,_,b,d,_⟩
 · exact⟨none,0,rfl,yAC _,by unfold maxLen;omega⟩
 · exact⟨_,cap,rfl,b,d⟩
def u8v (x:UInt8):Value:=.int .u8 (x.toNat:Int)
def zVT (x:UInt16):Value:=.int .u16 (x.toNat:Int)
def u8s (l:List UInt8):List Value:=l.map u8v
def zAM (l:List UInt16):List Value:=l.map zVT
theorem zRd (l:List UInt16):∀u∈zAM l,u.oneCell'=true:=by
 intro u b;obtain⟨_,_,rfl⟩:=List.mem_map.1 b;rfl
theorem zCV (l:List UInt16):(zAM l).length=l.length:=by simp[zAM]
theorem zFT (l:List UInt8):(u8s l).length=l.length:=by simp[u8s]
structure Made (w0 w:World) (e:TypeId) (v:Value) (xs:List Value):Prop where
 own:w.ownsRow w0.heap.size e 1 v xs.length xs
 below:Below w0.heap.size w0 w
theorem Made.nil (w0:World) (e:TypeId):Made w0 w0 e (.slice none 0 0) []:=⟨yAJ _ _ _ _,Below.refl _ _⟩
theorem Made.shape {w0 w:World} {xs:List Value} (h:Made w0 w e v xs):
 ∃A c,v=.slice A xs.length c∧xs.length≤c∧c≤maxLen∧Reads w w.heap.size 1 A xs.length xs:=by
 obtain⟨A,c,hv,h1,d⟩:=zS h.own;have b:=h.own;rw[hv]at b;exact⟨A,c,hv,h1,d,Reads.of_own b⟩
theorem Made.alloc {w0 w:World} {xs:List Value} (h:Made w0 w e v xs) (o:Obj):Made w0 (w.alloc o) e v xs:=
 ⟨h.own.alloc o,h.below.alloc h.below.size o⟩
theorem Made.drew {w0 w:World} {xs:List Value} (h:Made w0 w e v xs):Made w0 w.drew e v xs:=⟨h.own.drew,h.below.drew⟩
theorem Made.cells {w0 w:World} {xs b:List Value} (h:Made w0 w e v xs) (e1:xs=b):Made w0 w e v b:=e1▸h
section
variable {P:Program} {w0 w:World} {ops:Array Oper} {rest:List Oper} {o:Oper} {a:Act} {Q:Exit→Act→World→Prop}
theorem zMY (b:o.guard=none) (s x:Operand) (t:TypeId)
 (f:o.op=.call {callee:=.builtin .append,args:=#[s,x],argTypes:=#[t,t]})
 (e:TypeId) (i:TypeInfo) (z:Value) (bytes:Nat) (ht:P.underlying t=some (.slice e)) (hi:P.info? e=some i) (hz:i.zero=some z)
 (hsize:i.size=1) (hby:i.bytes=bytes) (hzs:z.cells.size=1)
 (v:Value) (xs:List Value) (hs:a.eval s=v) (hm:Made w0 w e v xs)
 (ad:Addr) (m c:Nat) (news:List Value) (hx:a.eval x=.slice (some ad) m c) (hl:news.length=m) (hnews:∀j u,news[j]? =some u→w.cell? (ad.add j)=some u) (h1:∀u∈news,u.oneCell'=true)
 (hsz:xs.length+m≤70368744177664) (hb2:bytes≤2)
 (h:∀v' w',Made w0 w' e v' (xs++news)→w.grownBy w' v.ownBlock→wpList P ops Q rest (a.put o.dst v') w'):wpList P ops Q (o::rest) a w:=by
 subst hl;refine wpList_append_own w b s x t f w0.heap.size e i z 1 bytes ht hi hz hsize hby hzs jo v xs.length xs hs hm.own ad _ c news hx jo hnews h1 (by unfold maxLen;omega) ?_ hm.below.size ?_
 · calc (xs.length+news.length)*bytes≤70368744177664*2:=Nat.mul_le_mul hsz hb2
    _≤140737488355328:=by omega
 · intro v' w' h1 d _;refine h v' w' ⟨by rw[List.length_append];exact h1,hm.below.grown d hm.below.size (fun k hk=>(hm.own.lt k hk).1)⟩ d
theorem zEF (d:o.guard=none) (s x:Operand) (t:TypeId)
 (f:o.op=.call {callee:=.builtin .append,args:=#[s,x],argTypes:=#[t,t]})
 (e:TypeId) (i:TypeInfo) (z:Value) (bytes:Nat) (ht:P.underlying t=some (.slice e)) (hi:P.info? e=some i) (hz:i.zero=some z)
 (hsize:i.size=1) (hby:i.bytes=bytes) (hzs:z.cells.size=1)
 (v:Value) (xs:List Value) (hs:a.eval s=v) (hm:Made w0 w e v xs)
 (cs:List Value) (m c:Nat) (hx:a.eval x=.slice (some ⟨w.heap.size,0,none⟩) m c) (hl:cs.length=m) (h1:(cs.all fun u=>u.oneCell')=true)
 (hsz:xs.length+m≤70368744177664) (hb2:bytes≤2)
 (h:∀v' w',Made w0 w' e v' (xs++cs)→wpList P ops Q rest (a.put o.dst v') w'):wpList P ops Q (o::rest) a (w.alloc (.cells cs.toArray e)):=by
 refine zMY d s x t f e i z bytes ht hi hz hsize hby hzs v xs hs (hm.alloc _) ⟨w.heap.size,0,none⟩ m c cs hx hl ?_ (fun u b=>List.all_eq_true.1 h1 u b) hsz hb2 (fun v' w' g _=>h v' w' g);intro j u b;rw[Addr.add_lit,World.cell?_alloc_at _ _ _ _ rfl];simpa using b
end
theorem Tryz.info_u16:(prog.info? 65).map (fun i=>(i.zero,i.size,i.bytes))=some (some (.int .u16 0),1,2):=by kernel_rfl
theorem Tryz.info_u8:(prog.info? 5).map (fun i=>(i.zero,i.size,i.bytes))=some (some (.int .u8 0),1,1):=by kernel_rfl
theorem Made.u16 {w0 w:World} {xs:List UInt16} (h:Made w0 w e v (zAM xs)):
 ∃A c,v=.slice A xs.length c∧xs.length≤c∧c≤maxLen∧Reads w w.heap.size 1 A xs.length (zAM xs):=by
 obtain⟨A,c,hv,h1,d,b⟩:=h.shape;have e:(zAM xs).length=xs.length:=by simp[zAM]
 rw[e]at hv h1 b;exact⟨A,c,hv,h1,d,b⟩
theorem Made.u8 {w0 w:World} {xs:List UInt8} (h:Made w0 w e v (u8s xs)):
 ∃A c,v=.slice A xs.length c∧xs.length≤c∧c≤maxLen∧Reads w w.heap.size 1 A xs.length (u8s xs):=by
 obtain⟨A,c,hv,h1,d,b⟩:=h.shape;have e:(u8s xs).length=xs.length:=by simp[u8s]
 rw[e]at hv h1 b;exact⟨A,c,hv,h1,d,b⟩
theorem Reads.u16 {w:World} {B n:Nat} {A:Option Addr} {xs:List UInt16} (h:Reads w B 1 A n (zAM xs)) (hk:k < xs.length):
 ∃b,A=some b∧b.block < B∧w.cell? (b.add k)=some (.int .u16 (xs[k].toNat:Int)):=by
 have f:xs.length=n:=by have:=h.1;simpa [zAM]using this
 obtain⟨b,u,e,hb,c,d⟩:=h.at_ (k:=k) jo;refine⟨b,e,hb,?_⟩;rw[d];simp[zAM,hk]at c;rw[←c];rfl
theorem Addr.add_zero (a:Addr):a.add 0=a:=by simp[Addr.add]
theorem Reads.u16_0 {w:World} {B n:Nat} {A:Option Addr} {xs:List UInt16} (h:Reads w B 1 A n (zAM xs)) (hk:0 < xs.length):
 ∃b,A=some b∧b.block < B∧w.cell? b=some (.int .u16 (xs[0].toNat:Int)):=by
 obtain⟨b,h1,d,c⟩:=h.u16 hk;rw[Addr.add_zero]at c;exact⟨b,h1,d,c⟩
theorem Reads.cut16 {w:World} {B:Nat} {A:Option Addr} {xs:List UInt16} (h:Reads w B 1 A xs.length (zAM xs)) (hk:k≤xs.length) (b:xs.length≤c):
 Reads w B 1 (if c=k then A else A.map (·.add k)) (xs.drop k).length (zAM (xs.drop k)):=by
 have h1:=h.cut (k:=k) (cap:=c) hk b;simp only[Nat.mul_one]at h1;rw[List.length_drop];simpa [zAM,List.map_drop]using h1
theorem Reads.take16 {w:World} {B n:Nat} {A:Option Addr} {xs:List UInt16} (h:Reads w B 1 A n (zAM xs)) (hk:k≤xs.length):
 Reads w B 1 A (xs.take k).length (zAM (xs.take k)):=by
 have b:xs.length=n:=by have:=h.1;simpa [zAM]using this
 have h1:=h.take (k:=k) jo;rw[List.length_take,Nat.min_eq_left hk];simpa [zAM,List.map_take]using h1
theorem zU7 {k:IntKind} {n m:Int} {a b:Bool} (h:n=m) (c:a=b):Ending.returned (.tuple #[.int k n,a])=.returned (.tuple #[.int k m,b]):=by rw[h,c]
end Go.Proofs.YtlnbbaehihgigaaGreatDoor
namespace Go.Proofs
open Go.Proofs.Tryz
open Go.Shelf
def Tryz.laysM171_ren:Go.Shelf.Ren:=⟨fun | 171=>86 | 243=>117 | 246=>141 | 283=>154 | 284=>155 | 285=>156 | 286=>157 | 129=>163 | 317=>162 | 318=>164 | 319=>165 | 320=>166 | 337=>169 | 338=>170 | n=>n,fun | 3=>3 | 9=>9 | 2=>2 | 4=>4 | 171=>156 | 0=>0 | 53=>116 | 37=>115 | 5=>5 | 173=>159 | 212=>164 | 51=>67 | 20=>20 | 213=>165 | 46=>117 | 232=>169 | 233=>170 | n=>n,fun | 17=>0 | 18=>2 | 19=>3 | n=>n⟩
theorem Tryz.laysM171:Go.Proofs.LaysM.n171 prog Tryz.laysM171_ren:={
 mixed:=by kernel_rfl
 f129:=func163.trans (congrArg some (by kernel_rfl))
 f171:=func86.trans (congrArg some (by kernel_rfl))
 f243:=func117.trans (congrArg some (by kernel_rfl))
 f246:=func141.trans (congrArg some (by kernel_rfl))
 f283:=func154.trans (congrArg some (by kernel_rfl))
 f284:=func155.trans (congrArg some (by kernel_rfl))
 f285:=func156.trans (congrArg some (by kernel_rfl))
 f286:=func157.trans (congrArg some (by kernel_rfl))
 f317:=func162.trans (congrArg some (by kernel_rfl))
 f318:=func164.trans (congrArg some (by kernel_rfl))
 f319:=func165.trans (congrArg some (by kernel_rfl))
 f320:=func166.trans (congrArg some (by kernel_rfl))
 f337:=func169.trans (congrArg some (by kernel_rfl))
 f338:=func170.trans (congrArg some (by kernel_rfl))
 t0:=underlying0
 a0:=Tryz.isAgg0
 z0:=Tryz.sizeOf0
 v0:=Tryz.zeroValue0
 t2:=underlying2
 a2:=Tryz.isAgg2
 z2:=Tryz.sizeOf2
 v2:=Tryz.zeroValue2
 t3:=underlying3
 a3:=Tryz.isAgg3
 z3:=Tryz.sizeOf3
 v3:=Tryz.zeroValue3
 t4:=underlying4
 a4:=Tryz.isAgg4
 z4:=Tryz.sizeOf4
 v4:=Tryz.zeroValue4
 t5:=underlying5
 a5:=Tryz.isAgg5
 z5:=Tryz.sizeOf5
 v5:=Tryz.zeroValue5
 t9:=underlying9
 a9:=Tryz.isAgg9
 z9:=Tryz.sizeOf9
 v9:=Tryz.zeroValue9
 t20:=underlying20
 a20:=Tryz.isAgg20
 z20:=Tryz.sizeOf20
 v20:=Tryz.zeroValue20
 t37:=underlying115
 a37:=Tryz.isAgg115
 z37:=Tryz.sizeOf115
 v37:=Tryz.zeroValue115
 t46:=underlying117
 a46:=Tryz.isAgg117
 z46:=Tryz.sizeOf117
 v46:=Tryz.zeroValue117
 t51:=underlying67
 a51:=Tryz.isAgg67
 z51:=Tryz.sizeOf67
 v51:=Tryz.zeroValue67
 t53:=underlying116
 a53:=Tryz.isAgg116
 z53:=Tryz.sizeOf116
 v53:=Tryz.zeroValue116
 t171:=underlying156
 a171:=Tryz.isAgg156
 z171:=Tryz.sizeOf156
 v171:=Tryz.zeroValue156
 t173:=underlying159
 a173:=Tryz.isAgg159
 z173:=Tryz.sizeOf159
 v173:=Tryz.zeroValue159
 t212:=underlying164
 a212:=Tryz.isAgg164
 z212:=Tryz.sizeOf164
 v212:=Tryz.zeroValue164
 t213:=underlying165
 a213:=Tryz.isAgg165
 z213:=Tryz.sizeOf165
 t232:=underlying169
 a232:=Tryz.isAgg169
 z232:=Tryz.sizeOf169
 v232:=Tryz.zeroValue169
 t233:=underlying170
 a233:=Tryz.isAgg170
 z233:=Tryz.sizeOf170
 v233:=Tryz.zeroValue170
 g17:=by kernel_rfl
 g18:=by kernel_rfl
 g19:=by kernel_rfl
 i0:=by kernel_rfl
 i2:=by kernel_rfl
 i3:=by kernel_rfl
 i4:=by kernel_rfl
 i5:=by kernel_rfl
 i9:=by kernel_rfl
 i20:=by kernel_rfl
 i37:=by kernel_rfl
 i46:=by kernel_rfl
 i51:=by kernel_rfl
 i53:=by kernel_rfl
 i171:=by kernel_rfl
 i173:=by kernel_rfl
 i212:=by kernel_rfl
 i232:=by kernel_rfl
 i233:=by kernel_rfl
 m17:=by kernel_rfl
 m18:=by kernel_rfl
 m19:=by kernel_rfl}
open Go.RowKit Go.Sort Go.Lib in
theorem Tryz.strconv_Itoa (n : Int) (c : -9223372036854775808 ≤ n) (h1 : n ≤ 9223372036854775807) (w : World) (b : Lib.TabIs prog w "internal/strconv.uint64pow10" .u64 Lib.pow10Tab) :
 Calls prog 86 #[.int .i64 n] w fun e w'=>e=.returned (.string ⟨(Lib.itoa n).toArray⟩)∧∃k os,w'=grow (w.drewN k) os:=Any.strconv_Itoa Tryz.laysM171 n c h1 w b
def Tryz.laysSlE041_f118_ren:Go.Shelf.Ren:=⟨fun | 41=>118 | n=>n,fun | 22=>38 | 23=>67 | 4=>4 | n=>n,fun | n=>n⟩
theorem Tryz.laysSlE041_f118:Go.Proofs.SlLaysE0.n41 prog Tryz.laysSlE041_f118_ren:={
 mixed:=by kernel_rfl
 f41:=⟨Tryz.f118.name,by decide,func118.trans (congrArg some (by kernel_rfl))⟩
 t4:=underlying4
 a4:=Tryz.isAgg4
 z4:=Tryz.sizeOf4
 v4:=Tryz.zeroValue4
 t22:=underlying38
 a22:=Tryz.isAgg38
 z22:=Tryz.sizeOf38
 v22:=Tryz.zeroValue38}
open Go.RowKit Go.Lib in
theorem Tryz.slices_Clone_nil (n c:Nat) (w:World):
 Calls prog 118 #[.slice none n c] w fun e w'=>e=.returned (.slice none 0 0)∧w'=w:=AnyE.slices_Clone_nil Tryz.laysSlE041_f118 n c w
end Go.Proofs
namespace Go.Proofs.YtlnbbaehihgigaaGreatDoor
open Go.Proofs.Tryz
open Go.RowKit
variable {xs:List Value} {e:TypeId} {w1 b:World} {p:Addr} {k' i D:Nat} {z:Int}
theorem zC {a c:World} {row:Option Nat} (h:a.grownBy b row) (k:b.grownBy c row):a.grownBy c row:=
 ⟨k.os.trans h.os,k.tape.trans h.tape,k.output.trans h.output,yAD h.size k.size,fun i hi d=>(k.block i (yAA hi h.size) d).trans (h.block i hi d)⟩
theorem zAf {a:World} (row:Option Nat) (h:Below a.heap.size a b):a.grownBy b row:=⟨h.os,h.tape,h.output,h.size,fun i hi _=>h.block i hi⟩
theorem zBT (a:World) (row:Option Nat):a.grownBy a.drew row:=⟨rfl,rfl,rfl,yAC _,fun _ _ _=>rfl⟩
theorem zAE (a:World) (row:Option Nat) (n:Nat):a.grownBy (a.drewN n) row:=⟨rfl,rfl,rfl,yAC _,fun _ _ _=>rfl⟩
theorem zQ (a:World) (g j:Nat) (v:Value):a.grownBy (a.setCell ⟨g,j,none⟩ v) (some g):=
 ⟨rfl,rfl,rfl,by simp[World.setCell],fun i _ b=>Below.heap_setCell _ _ _ _ (fun e=>b (by rw[e]))⟩
theorem zF (a:World) (o:Obj) (row:Option Nat):a.grownBy (a.alloc o) row:=World.grownBy_alloc a o row
theorem zBA {B:Nat} {a:World} {g:Nat} (h:a.grownBy b (some g)) (hB:B≤g) (hg:g≤a.heap.size):Below B a b:=
 ⟨h.os,h.tape,h.output,h.size,fun i hi=>h.block i jo (by intro e;injection e with e;omega)⟩
theorem zB2 {a:World} {g:Nat} (h:a.grownBy b (some g)) {v:Value} (c:a.cell? p=some v) (d:p.block≠g):b.cell? p=some v:=
 h.cell c (by intro e;injection e with e;exact d e)
theorem zDm {a:World} {g:Nat} (h:a.grownBy b (some g)) (c:p.block < a.heap.size) (d:p.block≠g):b.frozen? p=a.frozen? p:=
 World.frozen?_of_block (w:=a) (h.block p.block c (by intro e;injection e with e;exact d e))
theorem Reads.grown {w w':World} {B size n g:Nat} {A:Option Addr} (h:Reads w B size A n xs) (hg:w.grownBy w' (some g)) (hB:B≤g) (b:g≤w.heap.size):Reads w' B size A n xs:=
 h.below (zBA hg hB b)
theorem zBt {w w':World} {base g:Nat} {size n:Nat} {v:Value} (h:w.ownsRow base e size v n xs) (hg:w.grownBy w' (some g)) (hb:g < base):w'.ownsRow base e size v n xs:=
 h.kept hg (by
  cases hv:v.ownBlock with
  | none=>exact .inl rfl
  | some k=>
   right;intro e;injection e with e;have:=(h.lt k hv).1;omega)
theorem zDn {w w':World} {base:Nat} {size n:Nat} {v:Value} (h:w.ownsRow base e size v n xs) (hb:Below w.heap.size w w'):w'.ownsRow base e size v n xs:=
 h.kept (row:=none) ⟨hb.os,hb.tape,hb.output,hb.size,fun k hk _=>hb.block k hk⟩ (by cases hv:v.ownBlock<;>simp)
theorem zAg {w:World} {base b:Nat} {size n:Nat} {v:Value} (h:w.ownsRow base e size v n xs) (hb:b≤base):w.ownsRow b e size v n xs:=by
 refine⟨h.1,?_⟩;rcases h.2 with d | ⟨g,cap,c,h1,f,j,k⟩
 · exact Or.inl d
 · exact Or.inr ⟨g,cap,c,h1,yAD hb f,j,k⟩
structure Rd (w:World) (g:Nat) (A:Option Addr) (n c k:Nat):Prop where
 c0:w.cell? g=some (.slice A n c)
 c1:w.cell? ⟨g,1,none⟩=some (.int .i64 (k:Int))
 f1:w.frozen? ⟨g,1,none⟩=false
section
variable {w w':World} {g n c k:Nat} {A:Option Addr}
theorem Rd.lt (h:Rd w g A n c k):g < w.heap.size:=World.block_lt_of_cell? w _ h.c0
theorem Rd.below (h:Rd w g A n c k) (hb:Below D w w') (hg:g < D):Rd w' g A n c k:=
 ⟨(hb.cell (p:=g) hg).trans h.c0,(hb.cell (p:=⟨g,1,none⟩) hg).trans h.c1,(hb.frozen (p:=⟨g,1,none⟩) hg).trans h.f1⟩
theorem Rd.drew (h:Rd w g A n c k):Rd w.drew g A n c k:=⟨h.c0,h.c1,h.f1⟩
theorem Rd.drewN (h:Rd w g A n c k) (m:Nat):Rd (w.drewN m) g A n c k:=⟨h.c0,h.c1,h.f1⟩
theorem Rd.alloc (h:Rd w g A n c k) (o:Obj):Rd (w.alloc o) g A n c k:=h.below ((Below.refl _ w).alloc (yAC _) o) h.lt
theorem Rd.set (h:Rd w g A n c k) (k':Nat):Rd (w.setCell ⟨g,1,none⟩ (.int .i64 (k':Int))) g A n c k':=by
 have h1:=h.c0;have b:=h.c1;have d:=h.f1;exact⟨by go_simp,by go_simp,by go_simp⟩
theorem Rd.setI (h:Rd w g A n c k) (b:z=(k':Int)):Rd (w.setCell ⟨g,1,none⟩ (.int .i64 z)) g A n c k':=by
 subst b;exact h.set k'
end
structure Mv (w w':World) (g:Nat) (A:Option Addr) (n c k:Nat):Prop where
 rd:Rd w' g A n c k
 grown:w.grownBy w' (some g)
theorem Mv.refl {w:World} {g n c k:Nat} {A:Option Addr} (h:Rd w g A n c k):Mv w w g A n c k:=⟨h,World.grownBy.refl w _⟩
theorem Mv.then {w w2:World} {g n c k:Nat} {A:Option Addr} (h:Mv w w1 g A n c k) (b:Mv w1 w2 g A n c k'):Mv w w2 g A n c k':=⟨b.rd,zC h.grown b.grown⟩
theorem Mv.step {w:World} {g n c k:Nat} {A:Option Addr} (h:Mv w w1 g A n c k) (b:z=(k':Int)):Mv w (w1.setCell ⟨g,1,none⟩ (.int .i64 z)) g A n c k':=
 ⟨h.rd.setI b,zC h.grown (zQ w1 g 1 _)⟩
theorem Mv.below {w w2:World} {g n c k:Nat} {A:Option Addr} (h:Mv w w1 g A n c k) (hb:Below w1.heap.size w1 w2):Mv w w2 g A n c k:=
 ⟨h.rd.below hb h.rd.lt,zC h.grown (zAf _ hb)⟩
theorem Mv.drewN {w:World} {g n c k:Nat} {A:Option Addr} (h:Mv w w1 g A n c k) (m:Nat):Mv w (w1.drewN m) g A n c k:=⟨h.rd.drewN m,zC h.grown (zAE _ _ _)⟩
theorem Mv.drew {w:World} {g n c k:Nat} {A:Option Addr} (h:Mv w w1 g A n c k):Mv w w1.drew g A n c k:=⟨h.rd.drew,zC h.grown (zBT _ _)⟩
structure MadeM (w0 w:World) (g:Nat) (e:TypeId) (v:Value) (xs:List Value):Prop where
 own:w.ownsRow w0.heap.size e 1 v xs.length xs
 grown:w0.grownBy w (some g)
theorem MadeM.nil {w0 w:World} {g:Nat} (h:w0.grownBy w (some g)) (e:TypeId):MadeM w0 w g e (.slice none 0 0) []:=⟨yAJ _ _ _ _,h⟩
theorem MadeM.go {w0 w w':World} {g:Nat} {v:Value} (h:MadeM w0 w g e v xs) (hg:g < w0.heap.size) (b:w.grownBy w' (some g)):MadeM w0 w' g e v xs:=
 ⟨zBt h.own b hg,zC h.grown b⟩
theorem MadeM.cells {w0 w:World} {g:Nat} {v:Value} {b:List Value} (h:MadeM w0 w g e v xs) (e1:xs=b):MadeM w0 w g e v b:=e1▸h
theorem MadeM.shape {w0 w:World} {g:Nat} {v:Value} (h:MadeM w0 w g e v xs):
 ∃A c,v=.slice A xs.length c∧xs.length≤c∧c≤maxLen∧Reads w w.heap.size 1 A xs.length xs:=by
 obtain⟨A,c,hv,h1,d⟩:=zS h.own;have b:=h.own;rw[hv]at b;exact⟨A,c,hv,h1,d,Reads.of_own b⟩
theorem MadeM.u8 {w0 w:World} {g:Nat} {v:Value} {xs:List UInt8} (h:MadeM w0 w g e v (u8s xs)):
 ∃A c,v=.slice A xs.length c∧xs.length≤c∧c≤maxLen∧Reads w w.heap.size 1 A xs.length (u8s xs):=by
 obtain⟨A,c,hv,h1,d,b⟩:=h.shape;have e:(u8s xs).length=xs.length:=by simp[u8s]
 rw[e]at hv h1 b;exact⟨A,c,hv,h1,d,b⟩
section
variable {P:Program} {w0 w:World} {g:Nat} {ops:Array Oper} {rest:List Oper} {o:Oper} {a:Act} {Q:Exit→Act→World→Prop}
theorem zKP (f:o.guard=none) (s x:Operand) (t:TypeId)
 (p:o.op=.call {callee:=.builtin .append,args:=#[s,x],argTypes:=#[t,t]})
 (e:TypeId) (i:TypeInfo) (z:Value) (bytes:Nat) (ht:P.underlying t=some (.slice e)) (hi:P.info? e=some i) (hz:i.zero=some z)
 (hsize:i.size=1) (hby:i.bytes=bytes) (hzs:z.cells.size=1)
 (v:Value) (xs:List Value) (hs:a.eval s=v) (hm:MadeM w0 w g e v xs)
 (cs:List Value) (m c:Nat) (hx:a.eval x=.slice (some ⟨w.heap.size,0,none⟩) m c) (hl:cs.length=m) (h1:(cs.all fun u=>u.oneCell')=true)
 (hsz:xs.length+m≤70368744177664) (hb2:bytes≤2)
 (h:∀v' w',MadeM w0 w' g e v' (xs++cs)→w.grownBy w' v.ownBlock→wpList P ops Q rest (a.put o.dst v') w'):wpList P ops Q (o::rest) a (w.alloc (.cells cs.toArray e)):=by
 subst hl;refine wpList_append_own (w.alloc (.cells cs.toArray e)) f s x t p w0.heap.size e i z 1 bytes ht hi hz hsize hby hzs jo v xs.length xs hs (hm.own.alloc _) ⟨w.heap.size,0,none⟩ _ c cs hx jo ?_ (fun u d=>List.all_eq_true.1 h1 u d) (by unfold maxLen;omega) ?_ (yAD hm.grown.size js) ?_
 · intro j u d;rw[Addr.add_lit,World.cell?_alloc_at _ _ _ _ rfl];simpa using d
 · calc (xs.length+cs.length)*bytes≤70368744177664*2:=Nat.mul_le_mul hsz hb2
    _≤140737488355328:=by omega
 · intro v' w' h1 q _;have b:w.grownBy w' v.ownBlock:=zC (zF w _ _) q;refine h v' w' ⟨by rw[List.length_append];exact h1,⟨b.os.trans hm.grown.os,b.tape.trans hm.grown.tape,b.output.trans hm.grown.output,yAD hm.grown.size b.size,fun k hk l=>?_⟩⟩ b;rw[b.block k (yAA hk hm.grown.size) (fun e=>by have:=(hm.own.lt k e.symm).1;omega)];exact hm.grown.block k hk l
end
theorem Rd.appended {w0 w w':World} {g gr n c k:Nat} {A:Option Addr} {v:Value} (h:Rd w gr A n c k) (f:MadeM w0 w g e v xs) (hg:gr < w0.heap.size) (d:w.grownBy w' v.ownBlock):Rd w' gr A n c k:=by
 have b:some gr≠v.ownBlock:=fun e=>by have:=(f.own.lt gr e.symm).1;omega
 exact⟨d.cell h.c0 b,d.cell h.c1 b,(World.frozen?_of_block (w:=w) (d.block gr h.lt b)).trans h.f1⟩
def zM (x:UInt16):Bool:=decide (48≤x.toNat)&&decide (x.toNat≤57)
def zAy (x:UInt16):Bool:=x.toNat==32 || x.toNat==9 || x.toNat==10 || x.toNat==13
theorem zBB {x:UInt16}:zM x=true↔48≤x.toNat∧x.toNat≤57:=by simp[zM]
def zKQ (n:Nat):List UInt16→Nat
 | []=>n
 | x::r=>zKQ (10*n+(x.toNat - 48)) r
def zw (l:List UInt16):Nat:=zKQ 0 l
theorem zFt (n:Nat) (l r:List UInt16):zKQ n (l++r)=zKQ (zKQ n l) r:=by
 induction l generalizing n with
 | nil=>rfl
 | cons x l b=>exact b _
theorem zEj (l:List UInt16) (x:UInt16):zw (l++[x])=10*zw l+(x.toNat - 48):=by
 unfold zw;rw[zFt];rfl
theorem zRe (n:Nat) (l:List UInt16):n≤zKQ n l:=by
 induction l generalizing n with
 | nil=>exact yAC _
 | cons x l b=>exact yAD jo (b _)
theorem zI2 (l r:List UInt16):zw (l++r)=zKQ (zw l) r:=zFt 0 l r
theorem zEZ (l:List UInt16) (k:Nat):zw (l.take k)≤zw l:=by
 conv=>rhs;rw[←List.take_append_drop k l]
 rw[zI2];exact zRe _ _
theorem zHL (l:List UInt16) (k:Nat) (h:k < l.length):10*zw (l.take k)≤zw l:=by
 have h1:=zEZ l (k+1);rw[yAL h,zEj]at h1;omega
theorem zDb (l:List UInt16) (k:Nat) (h:k < l.length):zw (l.take (k+1))=10*zw (l.take k)+(l[k].toNat - 48):=by
 rw[yAL h,zEj]
def zDP:List UInt16:=[120,88,111,79,46,43,45,95]
def zCe (x:UInt16):Bool:=zM x || (decide (97≤x.toNat)&&decide (x.toNat≤102)) || (decide (65≤x.toNat)&&decide (x.toNat≤70)) || decide (x∈zDP)
def zBu (u:List UInt16):Bool:=u.all zCe&&u.any zM
theorem zI3 {x:UInt16} (h:zM x=true):zCe x=true:=by simp[zCe,h]
structure Nm where
 kind:Int
 n:Int
deriving DecidableEq
def zGQ (u:List UInt16):List UInt16:=(u.reverse.dropWhile zAy).reverse
def zOA (u:List UInt16):List UInt16:=zGQ (u.dropWhile zAy)
def zBc:List UInt16:=[73,110,102,105,110,105,116,121]
def zCf (t:List UInt16):Bool:=t.headD 0==45
def zAX (t:List UInt16):List UInt16:=if t.headD 0=45∨t.headD 0=43 then t.tail else t
def zFU (t:List UInt16):Nm×Bool:=
 if zAX t=zBc then(⟨3,0⟩,true)
 else if zAX t≠[]∧(zAX t).all zM=true then
  (if zw (zAX t)≤9007199254740991 then(⟨0,zw (zAX t)⟩,true)else(⟨2,0⟩,false))
 else(⟨2,0⟩, !zBu t)
def zFV (a:Nm):Nm:=if a.kind=2 then a else if a.kind=3 then⟨4,0⟩else if a.n=0 then⟨1,0⟩else⟨0, -a.n⟩
def zRf (t:List UInt16):Nm×Bool:=
 if t=[]then(⟨0,0⟩,true)else(if zCf t=true then zFV (zFU t).1 else(zFU t).1,(zFU t).2)
theorem zKR {t:List UInt16} (h:zAX t=zBc):zBu t=false:=by
 have b:(73:UInt16)∈t:=by
  have h1:(73:UInt16)∈zAX t:=by rw[h];decide
  unfold zAX at h1;split at h1
  · exact List.mem_of_mem_tail h1
  · exact h1
 have:t.all zCe=false:=List.all_eq_false.2 ⟨73,b,by decide⟩;simp[zBu,this]
def zOB (u:List UInt16):Nm×Bool:=zRf (zOA u)
structure Tok where
 kind:Nat
 text:List UInt8
 str:List UInt16
 nk:Int
 nn:Int
 mag:List Nat
 pos:Nat
 nl:Bool
deriving DecidableEq
def zq:Tok:=⟨0,[],[],0,0,[],0,false⟩
def zA6 (x:UInt16):Bool:=(decide (97≤x.toNat)&&decide (x.toNat≤122)) || (decide (65≤x.toNat)&&decide (x.toNat≤90)) || x.toNat==95 || x.toNat==36
def zHM (x:UInt16):Bool:=x.toNat==9 || x.toNat==11 || x.toNat==12 || x.toNat==32
def zAI (x:UInt16):Bool:=x.toNat==10 || x.toNat==13
def zIC (x:UInt16):Bool:=x.toNat==8232 || x.toNat==8233
def zA2 (x:UInt16):Bool:=zA6 x || zM x
def zBN (k:Nat) (p:UInt16→Bool) (l:List UInt16):Bool:=(l[k]?).any p
def zp (s:List UInt8) (l:List UInt16):Bool:=(s.map (·.toUInt16)).isPrefixOf l
def asc (l:List UInt16):List UInt8:=l.map (·.toUInt8)
def zFu (n:Nat) (p:Nat×Bool×Nat):Nat×Bool×Nat:=(n+p.1,p.2)
def zID (st:Bool):Nat:=if st=true then 6 else 0
def zDo (long:Bool):List UInt16→Bool→Bool→Nat×Bool×Nat
 | [],_,st=>(0,false,if long=true then 5 else zID st)
 | x::r,nl,st=>
  if(long&&zp [42,47] (x::r))=true then(2,nl,zID st)
  else if(!long &&zAI x)=true then(0,false,zID st)
  else zFu 1 (zDo long r (nl || zAI x) (st || zIC x))
def zAu (l:List UInt16):Nat×Bool×Nat:=zFu 2 (zDo (zp [47,42] l) (l.drop 2) false false)
def zDp:Nat→List UInt16→Bool→Nat×Bool×Nat
 | 0,_,nl=>(0,nl,0)
 | _+1,[],nl=>(0,nl,0)
 | f+1,x::r,nl=>
  if(zHM x || zAI x)=true then zFu 1 (zDp f r (nl || zAI x))
  else if(zp [47,47] (x::r) || zp [47,42] (x::r))=true then
   (if(zAu (x::r)).2.2≠0 then(0,false,(zAu (x::r)).2.2)
    else zFu (zAu (x::r)).1 (zDp f ((x::r).drop (zAu (x::r)).1) (nl || (zAu (x::r)).2.1)))
  else(0,nl,0)
def zAJ (l:List UInt16):Nat×Bool×Nat:=zDp l.length l false
def zAF:List (List UInt8):=[[98,114,101,97,107],[99,97,116,99,104],[99,111,110,115,116],[99,111,110,116,105,110,117,101],[101,108,115,101],[102,97,108,115,101],[102,105,110,97,108,108,121],[102,111,114],[102,117,110,99,116,105,111,110],[105,102],[105,110],[108,101,116],[110,101,119],[110,117,108,108],[114,101,116,117,114,110],[116,104,105,115],[116,104,114,111,119],[116,114,117,101],[116,114,121],[116,121,112,101,111,102],[118,111,105,100],[119,104,105,108,101]]
def zEG:List (List UInt8):=[[97,114,103,117,109,101,110,116,115],[97,115,121,110,99],[97,119,97,105,116],[99,97,115,101],[99,108,97,115,115],[100,101,98,117,103,103,101,114],[100,101,102,97,117,108,116],[100,101,108,101,116,101],[100,111],[101,110,117,109],[101,118,97,108],[101,120,112,111,114,116],[101,120,116,101,110,100,115],[105,109,112,108,101,109,101,110,116,115],[105,109,112,111,114,116],[105,110,115,116,97,110,99,101,111,102],[105,110,116,101,114,102,97,99,101],[112,97,99,107,97,103,101],[112,114,105,118,97,116,101],[112,114,111,116,101,99,116,101,100],[112,117,98,108,105,99],[115,116,97,116,105,99],[115,117,112,101,114],[115,119,105,116,99,104],[118,97,114],[119,105,116,104],[121,105,101,108,100]]
def zv:List (List UInt8):=[[123],[125],[40],[41],[91],[93],[59],[44],[46],[63],[58],[126],[60],[62],[60,61],[62,61],[61,61],[33,61],[61,61,61],[33,61,61],[43],[45],[42],[47],[37],[38],[124],[94],[33],[38,38],[124,124],[63,63],[61],[43,61],[45,61],[42,61],[47,61],[37,61],[38,61],[124,61],[94,61],[60,60,61],[62,62,61],[62,62,62,61],[43,43],[45,45],[60,60],[62,62],[62,62,62],[61,62]]
def zCr:List (List UInt8):=[[46,46,46],[63,46],[42,42],[42,42,61],[38,38,61],[124,124,61],[63,63,61]]
def zCW (s:List UInt8):Nat:=if s∈zAF then 1 else if s∈zEG then 2 else 0
def zCE (s:List UInt8):Nat:=if s∈zv then 1 else if s∈zCr then 2 else 0
def zFv (s:List UInt8):Bool:=match s with | []=>false | b::r=>zA6 b.toUInt16&&r.all fun c=>zA2 c.toUInt16
def zBi (s:List UInt8):Bool:=zFv s&&zCW s==0
abbrev Ans:=Nat×Tok×Nat
def bad (e:Nat):Ans:=(e,zq,0)
def zCp (l:List UInt16):Ans:=
 if zp [92] (l.drop (l.takeWhile zA2).length)=true then bad 6
 else(0,{zq with kind:=if 0 < zCW (asc (l.takeWhile zA2))then 6 else 1,text:=asc (l.takeWhile zA2)},(l.takeWhile zA2).length)
def zBQ:Nat→Nat→List Nat
 | 0,_=>[]
 | f+1,v=>if v=0 then []else v % 4294967296::zBQ f (v / 4294967296)
def limbs (v:Nat):List Nat:=zBQ 9 v
def zGR:Nat:=4294967296^8
def zAA (zero:Bool) (x:UInt16):Bool:=
 x.toNat==46 || x.toNat==101 || x.toNat==69 || x.toNat==95 || (zero&&(x.toNat==120 || x.toNat==88 || x.toNat==111 || x.toNat==79 || x.toNat==98 || x.toNat==66))
def zI1 (v n:Nat) (r:List UInt16):Ans:=
 if zGR≤v then bad 6
 else if(zBN 0 zA6 r || zBN 0 zM r)=true then bad 5
 else(0,{zq with kind:=3,mag:=limbs v},n+1)
def zB1 (d r:List UInt16):Ans:=
 if(zBN 0 (fun x=>x.toNat==48) d&& !decide (d=[48]))=true then bad 5
 else if zp [110] r=true then zI1 (zw d) d.length (r.drop 1)
 else if zBN 0 (zAA (decide (d=[48]))) r=true then bad 6
 else if zBN 0 zA6 r=true then bad 5
 else if 9007199254740991 < zw d then bad 6
 else(0,{zq with kind:=2,nn:=zw d},d.length)
def zBn (l:List UInt16):Ans:=zB1 (l.takeWhile zM) (l.drop (l.takeWhile zM).length)
def zIE (x:UInt16):Nat:=
 if zM x=true then x.toNat - 48 else if 97≤x.toNat∧x.toNat≤102 then x.toNat - 87 else if 65≤x.toNat∧x.toNat≤70 then x.toNat - 55 else 16
def zEa (v:Nat):List UInt16→Nat
 | []=>v
 | x::r=>zEa (16*v+zIE x) r
def zEV (x:UInt16):Bool:=decide (zIE x < 16)
def zCX (n:Nat) (l:List UInt16):Nat×UInt16×Nat:=
 if(decide (n≤l.length)&&(l.take n).all zEV)=true then(0,UInt16.ofNat (zEa 0 (l.take n)),n)else(5,0,0)
def zB3 (x:UInt16):Option UInt16:=
 if x=110 then some 10 else if x=116 then some 9 else if x=114 then some 13 else if x=98 then some 8 else if x=118 then some 11 else if x=102 then some 12 else none
def more (n:Nat) (p:Nat×UInt16×Nat):Nat×UInt16×Nat:=if p.1=0 then(0,p.2.1,n+p.2.2)else p
def zRg (x:UInt16) (r:List UInt16):Nat×UInt16×Nat:=
 if(x.toNat==48&& !zBN 0 zM r)=true then(0,0,1)
 else if zM x=true then(5,0,0)
 else if(zAI x || zIC x || (x.toNat==117&&zp [123] r))=true then(6,0,0)
 else if x.toNat=120 then more 1 (zCX 2 r)
 else if x.toNat=117 then more 1 (zCX 4 r)
 else(0,x,1)
def zEW:List UInt16→Nat×UInt16×Nat
 | []=>(5,0,0)
 | x::r=>if(zB3 x).isSome=true then(0,(zB3 x).getD 0,1)else zRg x r
def zDQ (q:UInt16):Nat→List UInt16→List UInt16→Nat×List UInt16×Nat
 | 0,_,_=>(5,[],0)
 | _+1,[],_=>(5,[],0)
 | f+1,x::r,acc=>
  if zAI x=true then(5,[],0)
  else if x=q then(0,acc,1)
  else if x.toNat=92 then
   (if(zEW r).1≠0 then((zEW r).1,[],0)
    else((zDQ q f (r.drop (zEW r).2.2) (acc++[(zEW r).2.1])).1,(zDQ q f (r.drop (zEW r).2.2) (acc++[(zEW r).2.1])).2.1,1+(zEW r).2.2+(zDQ q f (r.drop (zEW r).2.2) (acc++[(zEW r).2.1])).2.2))
  else((zDQ q f r (acc++[x])).1,(zDQ q f r (acc++[x])).2.1,1+(zDQ q f r (acc++[x])).2.2)
def zKS (q:UInt16) (l:List UInt16):Nat×List UInt16×Nat:=zDQ q (l.length+1) l []
def zA3 (q:UInt16) (r:List UInt16):Ans:=
 if(zKS q r).1≠0 then bad (zKS q r).1 else(0,{zq with kind:=4,str:=(zKS q r).2.1},1+(zKS q r).2.2)
def zA7 (l:List UInt16) (n:Nat):Nat:=
 if(decide (n≤l.length)&&(l.take n).all (fun x=>decide (x.toNat≤127))&& !(decide (asc (l.take n)=[63,46])&&zBN 2 zM l))=true then zCE (asc (l.take n))else 0
def zBj (l:List UInt16):Nat→Option Nat
 | 0=>none
 | n+1=>if zA7 l (n+1)≠0 then some (n+1)else zBj l n
def zCL (z:Bool) (l:List UInt16):Ans:=
 match zBj l 4 with
 | some n=>if zA7 l n=2 then bad 6 else(0,{zq with kind:=5,text:=asc (l.take n)},n)
 | none=>if(zBN 0 (fun x=>decide (128≤x.toNat) || x.toNat==96 || x.toNat==92) l || (z&&zp [35,33] l))=true then bad 6 else bad 5
def zAY (z:Bool):List UInt16→Ans
 | []=>bad 5
 | x::r=>
  if zA6 x=true then zCp (x::r)
  else if zM x=true then zBn (x::r)
  else if(x.toNat==39 || x.toNat==34)=true then zA3 x r
  else if(x.toNat==46&&zBN 0 zM r)=true then bad 6
  else zCL z (x::r)
def zFW (t:Tok) (p:List Tok×Nat×Nat):List Tok×Nat×Nat:=if p.2.2≠0 then([],p.2)else(t::p.1,0,0)
def zA4 (k:Nat) (l:List UInt16):Ans:=zAY (k+(zAJ l).1==0) (l.drop (zAJ l).1)
def setAt (t:Tok) (k:Nat) (nl:Bool):Tok:={t with pos:=k,nl:=nl}
def zEX:Nat→Nat→List UInt16→List Tok×Nat×Nat
 | 0,_,_=>([],0,0)
 | f+1,k,l=>
  if(zAJ l).2.2≠0 then([],k+(zAJ l).1,(zAJ l).2.2)
  else if l.drop (zAJ l).1=[]then([setAt zq (k+(zAJ l).1) (zAJ l).2.1],0,0)
  else if(zA4 k l).1≠0 then([],k+(zAJ l).1,(zA4 k l).1)
  else zFW (setAt (zA4 k l).2.1 (k+(zAJ l).1) (zAJ l).2.1) (zEX f (k+(zAJ l).1+(zA4 k l).2.2) (l.drop ((zAJ l).1+(zA4 k l).2.2)))
def zC3 (u:List UInt16):List Tok×Nat×Nat:=if 4096 < u.length then([],0,3)else zEX (u.length+1) 0 u
structure Nd where
 kind:Int
 name:List UInt8
 str:List UInt16
 nk:Int
 nn:Int
 neg:Bool
 mag:List Nat
 kids:List Int
deriving DecidableEq
def zBo:Nd:=⟨0,[],[],0,0,false,[],[]⟩
def zDc (k:Int):Bool:=decide (2≤k)&&decide (k≤19)&& !(k==7)&& !(k==11)&& !(k==17)
def zCM (k:Int):Bool:=zDc k&& !(k==5)&& !(k==6)&& !(k==19)
def zBf (k:Int):Bool:=decide (30≤k)&&decide (k≤53)&& !(k==40)
def zAB (k:Int):Bool:=k==33 || k==52 || k==53
def zAr (k:Int):Bool:=(decide (1≤k)&&decide (k≤20)) || (decide (30≤k)&&decide (k≤53))
def zx (s:Nat) (k:Int):Bool:=
 if s=1 then zDc k else if s=2 then zCM k else if s=3 then zBf k else if s=4 then zAB k
 else if s=5 then k==7 else if s=6 then k==20 else if s=7 then k==40 else if s=8 then k==4
 else if s=9 then k==11 || zBf k else if s=10 then k==11 || k==5 || k==6 || zBf k
 else if s=11 then k==11 || k==17 else if s=12 then k==11 || k==4 else if s=13 then k==4 || zBf k else false
def zA5 (n last:Nat):List Nat:=List.replicate (n - 1) 6++[last]
def zl (k:Int) (n:Nat):List Nat×Nat:=
 if k=1∨k=4 then([],1)
 else if k=3∨k=15∨k=40∨k=43∨k=52 then([3],0)
 else if k=5∨k=6 then([5],5)
 else if k=7∨k=14 then([3].take (min n 1),0)
 else if k=8 then([3,2,2].take (min (max n 2) 3),0)
 else if k=9 then([3,2],0)
 else if k=10 then([10,9,9,2],0)
 else if k=16 then([8,11,12],0)
 else if k=17 then([8],0)
 else if k=18 then([2],0)
 else if k=19∨k=41 then(zA5 n 8,0)
 else if k=42 then(zA5 n 13,0)
 else if k=38 then([],3)
 else if k=39 then([],7)
 else if k=44∨k=45 then([4],0)
 else if k=46∨k=47∨k=53 then([3,3],0)
 else if k=48 then([3,3,3],0)
 else if k=49 then([4,3],0)
 else if k=50∨k=51 then([3],3)
 else([],0)
def atN (ts:List Nd) (k:Int):Nd:=ts.getD k.toNat zBo
def zBv (ts:List Nd):List Nat→Nat→List Int→Bool
 | _,_,[]=>true
 | [],r,k::ks=>zx r (atN ts k).kind&&zBv ts [] r ks
 | s::l,r,k::ks=>zx s (atN ts k).kind&&zBv ts l r ks
def zMZ:Nat→List Nd→Int→Bool
 | 0,_,_=>false
 | f+1,ts,n=>
  if(atN ts n).kind=8∧(atN ts n).kids.length=2 then true
  else if(atN ts n).kind=8∨(atN ts n).kind=9∨(atN ts n).kind=10∨(atN ts n).kind=18 then
   (match (atN ts n).kids.getLast? with | none=>false | some k=>zMZ f ts k)
  else false
def zDq (ts:List Nd) (n:Int):Bool:=zMZ ts.length ts n
def zC4 (ts:List Nd) (x:Nd):Bool:=
 zAr x.kind&&decide ((zl x.kind x.kids.length).1.length≤x.kids.length)
 &&zBv ts (zl x.kind x.kids.length).1 (zl x.kind x.kids.length).2 x.kids
 &&(if x.kind=16 then((atN ts (x.kids.getD 1 0)).kind==17 || (atN ts (x.kids.getD 2 0)).kind==4)
  else if x.kind=8∧x.kids.length=3 then !(zDq ts (x.kids.getD 1 0))else true)
def zHK:List (List UInt8):=[[45],[43],[33],[126],[116,121,112,101,111,102],[118,111,105,100]]
def zDO:List (List UInt8):=[[43,43],[45,45]]
def zU8:List (List UInt8):=[[43],[45],[42],[47],[37],[38],[124],[94],[60,60],[62,62],[62,62,62],[60],[62],[60,61],[62,61],[61,61],[33,61],[61,61,61],[33,61,61],[105,110]]
def zVU:List (List UInt8):=[[38,38],[124,124],[63,63]]
def zIF:List (List UInt8):=[[61],[43,61],[45,61],[42,61],[47,61],[37,61],[38,61],[124,61],[94,61],[60,60,61],[62,62,61],[62,62,62,61]]
def zI4 (k:Int):List (List UInt8):=
 if k=43 then zHK else if k=44∨k=45 then zDO else if k=46 then zU8 else if k=47 then zVU else if k=49 then zIF else []
def zAe (k:Int) (s:List UInt8):Bool:=
 if k=7∨k=18∨k=19∨k=20∨k=33 then zBi s
 else if k=12∨k=13∨k=17∨k=41 then decide (s=[]) || zBi s
 else if k=52 then zFv s
 else if zI4 k≠[]then decide (s∈zI4 k)else decide (s=[])
def zDd (k n:Int):Bool:=if k=0 then decide (-9007199254740991≤n)&&decide (n≤9007199254740991)else decide (1≤k)&&decide (k≤4)&&n==0
def zBR (neg:Bool) (m:List Nat):Bool:=decide (m.length≤8)&&(match m.getLast? with | none=> !neg | some x=> !(x==0))
def zK (x:Nd):Bool:=
 if 4096 < x.name.length then false
 else if(!(x.kind==32)&& !(x.kind==40)&& !x.str.isEmpty)=true then false
 else if(!(x.kind==30)&& !(x.nk==0&&x.nn==0))=true then false
 else if(!(x.kind==31)&&(x.neg || !x.mag.isEmpty))=true then false
 else if x.kind=32∨x.kind=40 then decide (x.name=[])&&decide (x.str.length≤4096)
 else if x.kind=30 then decide (x.name=[])&&x.nk==0&&zDd x.nk x.nn&&decide (0≤x.nn)
 else if x.kind=31 then decide (x.name=[])&&zBR x.neg x.mag&& !x.neg
 else zAe x.kind x.name
def zCs (N n:Nat) (ks:List Int):Bool:=ks.all fun k=>decide ((n:Int) < k)&&decide (k < (N:Int))
def zBU (N:Nat):Nat→List Nd→List Int→Bool
 | _,[],st=>st.isEmpty
 | _,_::_,[]=>false
 | n,x::r,s::st=>s==(n:Int)&&zCs N n x.kids&&zBU N (n+1) r (x.kids++st)
def zCR (ts:List Nd):Bool:=zBU ts.length 0 ts [0]
def zEb (d:List Nat) (v:Nat):List Int→List Nat
 | []=>d
 | k::ks=>zEb (d.set k.toNat v) v ks
def zDr:Nat→List Nd→List Nat→List Nat
 | _,[],d=>d
 | n,x::r,d=>zDr (n+1) r (zEb (d.set n (max (d.getD n 0) 1)) (max (d.getD n 0) 1+1) x.kids)
def zKT (ts:List Nd):List Nat:=zDr 0 ts (List.replicate ts.length 0)
def zGS:List Nat→Nat
 | []=>0
 | x::r=>max x (zGS r)
def zMa (ts:List Nd):Nat:=zGS (zKT ts)
def zB4 (ts:List Nd):Nat→List Nd→Bool
 | _,[]=>true
 | n,x::r=> !(decide (0 < n)&&x.kind==1)&&zK x&&zC4 ts x&&zB4 ts (n+1) r
def zRh (ts:List Nd):Bool:=
 match ts with
 | []=>false
 | x::_=>decide (ts.length≤4096)&&x.kind==1&&zCR ts&&zB4 ts 0 ts&&decide (zMa ts≤48)
def zE1 (l:List Int):List Value:=l.map (Value.int .i64)
def zRc (l:List Nat):List Value:=l.map fun n:Nat=>Value.int .u32 (n:Int)
structure NdSl where
 As:Option Addr
 Am:Option Addr
 Ak:Option Addr
 cs:Nat
 cm:Nat
 ck:Nat
structure NdR (w:World) (B:Nat) (x:Nd) (s:NdSl):Prop where
 str:Reads w B 1 s.As x.str.length (zAM x.str)
 mag:Reads w B 1 s.Am x.mag.length (zRc x.mag)
 kids:Reads w B 1 s.Ak x.kids.length (zE1 x.kids)
 cs:x.str.length≤s.cs∧s.cs≤maxLen
 cm:x.mag.length≤s.cm∧s.cm≤maxLen
 ck:x.kids.length≤s.ck∧s.ck≤maxLen
 limb:∀y∈x.mag,y < 4294967296
 kin:∀y∈x.kids, -9223372036854775808≤y∧y≤9223372036854775807
 kb: -9223372036854775808≤x.kind∧x.kind≤9223372036854775807
 nkb: -9223372036854775808≤x.nk∧x.nk≤9223372036854775807
 nnb: -9223372036854775808≤x.nn∧x.nn≤9223372036854775807
 nm:x.name.length≤9223372036854775807
section
variable {w w':World} {B B':Nat} {x:Nd} {s:NdSl}
theorem NdR.below (h:NdR w B x s) (hb:Below B w w'):NdR w' B x s:=⟨h.str.below hb,h.mag.below hb,h.kids.below hb,h.cs,h.cm,h.ck,h.limb,h.kin,h.kb,h.nkb,h.nnb,h.nm⟩
theorem NdR.back (h:NdR w' B x s) (hb:Below B w w'):NdR w B x s:=
 ⟨h.str.keep fun _ b=>(hb.cell b).symm,h.mag.keep fun _ b=>(hb.cell b).symm,h.kids.keep fun _ b=>(hb.cell b).symm,h.cs,h.cm,h.ck,h.limb,h.kin,h.kb,h.nkb,h.nnb,h.nm⟩
theorem NdR.more (h:NdR w B x s) (hb:B≤B'):NdR w B' x s:=⟨h.str.more hb,h.mag.more hb,h.kids.more hb,h.cs,h.cm,h.ck,h.limb,h.kin,h.kb,h.nkb,h.nnb,h.nm⟩
end
structure NdC (w:World) (b o:Nat) (x:Nd) (s:NdSl):Prop where
 k0:w.cell? ⟨b,o,none⟩=some (.int .i64 x.kind)
 k1:w.cell? ⟨b,o+1,none⟩=some (.string ⟨x.name.toArray⟩)
 k2:w.cell? ⟨b,o+2,none⟩=some (.slice s.As x.str.length s.cs)
 k3:w.cell? ⟨b,o+3,none⟩=some (.int .i64 x.nk)
 k4:w.cell? ⟨b,o+4,none⟩=some (.int .i64 x.nn)
 k5:w.cell? ⟨b,o+5,none⟩=some (.bool x.neg)
 k6:w.cell? ⟨b,o+6,none⟩=some (.slice s.Am x.mag.length s.cm)
 k7:w.cell? ⟨b,o+7,none⟩=some (.slice s.Ak x.kids.length s.ck)
theorem NdC.keep {w w':World} {b o:Nat} {x:Nd} {s:NdSl} (h:NdC w b o x s) (hk:∀j,w'.cell? ⟨b,j,none⟩=w.cell? ⟨b,j,none⟩):NdC w' b o x s:=
 ⟨(hk _).trans h.k0,(hk _).trans h.k1,(hk _).trans h.k2,(hk _).trans h.k3,(hk _).trans h.k4,(hk _).trans h.k5,(hk _).trans h.k6,(hk _).trans h.k7⟩
theorem NdC.below {w w':World} {b o:Nat} {x:Nd} {s:NdSl} (h:NdC w b o x s) (hb:Below D w w') (c:b < D):NdC w' b o x s:=h.keep fun j=>hb.cell (p:=⟨b,j,none⟩) c
def NdsR (w:World) (B:Nat) (A:Option Addr) (n:Nat) (ts:List Nd):Prop:=
 ts.length=n∧(0 < n→∃b o,A=some ⟨b,o,none⟩∧b < B∧∀i (h:i < ts.length),∃s,NdC w b (o+i*8) ts[i] s∧NdR w B ts[i] s)
section
variable {w w':World} {B B' n:Nat} {A:Option Addr} {ts:List Nd}
theorem NdsR.below (h:NdsR w B A n ts) (hb:Below B w w'):NdsR w' B A n ts:=⟨h.1,fun d=>by
 obtain⟨b,o,e,hB,c⟩:=h.2 d;refine⟨b,o,e,hB,fun i hi=>?_⟩;obtain⟨s,h1,f⟩:=c i hi;exact⟨s,h1.below hb hB,f.below hb⟩⟩
theorem NdsR.more (h:NdsR w B A n ts) (hb:B≤B'):NdsR w B' A n ts:=⟨h.1,fun d=>by
 obtain⟨b,o,e,hB,c⟩:=h.2 d;refine⟨b,o,e,yAA hB hb,fun i hi=>?_⟩;obtain⟨s,h1,f⟩:=c i hi;exact⟨s,h1,f.more hb⟩⟩
theorem NdsR.get (h:NdsR w B A n ts) (hi:i < n):∃b o x s,A=some ⟨b,o,none⟩∧b < B∧ts[i]? =some x∧NdC w b (o+i*8) x s∧NdR w B x s:=by
 obtain⟨b,o,e,hB,c⟩:=h.2 jo;have d:i < ts.length:=by rw[h.1];exact hi
 obtain⟨s,h1,f⟩:=c i d;exact⟨b,o,ts[i],s,e,hB,yAB d,h1,f⟩
theorem NdsR.limbs (h:NdsR w B A n ts):∀x∈ts,∀y∈x.mag,y < 4294967296:=by
 intro x c;obtain⟨i,hi,rfl⟩:=List.getElem_of_mem c;have d:i < n:=by rw[←h.1];exact hi
 obtain⟨b,o,x,s,_,_,c,_,e⟩:=h.get d;rw[yAB hi]at c;obtain rfl:=Option.some.inj c;exact e.limb
end
theorem Reads.spotR {w:World} {B n:Nat} {A:Option Addr} (h:Reads w B 1 A n xs) (g:0 < n):
 ∃b off,A=some ⟨b,off,none⟩∧b < B∧∀j u,xs[j]? =some u→w.cell? ⟨b,off+j,none⟩=some u:=by
 obtain⟨d,u,e,hb,m,c⟩:=h.at_ g;have hs:d.spot=none:=by
  cases hsp:d.spot with
  | none=>rfl
  | some s=>
   exfalso;rw[Addr.add_zero]at c;simp only[World.cell?,hsp]at c;split at c
   · simp at c
   · cases c
 obtain⟨b,off,o⟩:=d;simp only at hs;subst hs;refine⟨b,off,e,hb,fun j v hv=>?_⟩;have k:j < n:=by
  have:=(List.getElem?_eq_some_iff.1 hv).1;have h1:=h.1;omega
 obtain⟨l,p,e',_,f,h1⟩:=h.at_ k;rw[e]at e';injection e' with e';subst e';rw[Addr.add_lit]at h1;rw[h1,←f,hv]
theorem Reads.spotK {w:World} {B n:Nat} {A:Option Addr} {l:List Int} (h:Reads w B 1 A n (zE1 l)) (f:0 < l.length):
 ∃b off,A=some ⟨b,off,none⟩∧b < B∧∀j (c:j < l.length),w.cell? ⟨b,off+j,none⟩=some (.int .i64 l[j]):=by
 have g:l.length=n:=by have:=h.1;simpa [zE1]using this
 obtain⟨b,off,d,hb,e⟩:=h.spotR jo;exact⟨b,off,d,hb,fun j c=>e j _ (by simp[zE1,yAB c])⟩
theorem zVV {w:World} {base:Nat} {A:Option Addr} {n c j:Nat} (h:w.ownsRow base e 1 (.slice A n c) n xs) (l:j≤n):w.ownsRow base e 1 (.slice A j c) j (xs.take j):=by
 refine⟨by rw[List.length_take,h.1];omega,?_⟩;rcases h.2 with⟨h1,d⟩ | ⟨g,cap,b,h1,hb,hg,m,f,hs,k⟩
 · left;injection h1 with h3 h4 h5;subst d;obtain rfl:j=0:=by omega
   exact⟨by rw[h3,h5],rfl⟩
 · right;injection h1 with h3 h4 h5;subst h3 h5;refine⟨g,c,b,rfl,hb,hg,by omega,f,hs,?_⟩;rw[←k,List.take_take];congr 1;omega
structure Kept (w w':World) (v v':Value):Prop where
 os:w'.os=w.os
 tape:w'.tape=w.tape
 output:w'.output=w.output
 size:w.heap.size≤w'.heap.size
 block:∀i,i < w.heap.size→v.ownBlock≠some i→w'.heap[i]? =w.heap[i]?
 own:v'.ownBlock=v.ownBlock∨∃r,v'.ownBlock=some r∧w.heap.size≤r
section
variable {w w' w'':World} {v v' v'':Value}
theorem Kept.trans (h:Kept w w' v v') (k:Kept w' w'' v' v''):Kept w w'' v v'':=
 ⟨k.os.trans h.os,k.tape.trans h.tape,k.output.trans h.output,yAD h.size k.size,fun i hi c=>(k.block i (yAA hi h.size) (by
  rcases h.own with e | ⟨r,e,b⟩
  · rw[e];exact c
  · rw[e];intro e2;injection e2 with e2;omega)).trans (h.block i hi c),by
  rcases k.own with e | ⟨r,e,b⟩
  · rcases h.own with e2 | ⟨r,e2,b⟩
    · exact .inl (e.trans e2)
    · exact .inr ⟨r,e.trans e2,b⟩
  · exact .inr ⟨r,e,yAD h.size b⟩⟩
theorem Kept.cell (h:Kept w w' v v') (c:p.block < w.heap.size) (b:v.ownBlock≠some p.block):w'.cell? p=w.cell? p:=World.cell?_of_block (h.block p.block c b)
theorem Kept.frozen (h:Kept w w' v v') (c:p.block < w.heap.size) (b:v.ownBlock≠some p.block):w'.frozen? p=w.frozen? p:=World.frozen?_of_block (h.block p.block c b)
theorem Kept.apart (h:Kept w w' v v') (hi:i < w.heap.size) (b:v.ownBlock≠some i):v'.ownBlock≠some i:=by
 rcases h.own with e | ⟨r,e,c⟩
 · rw[e];exact b
 · rw[e];intro e2;injection e2 with e2;omega
theorem Kept.below {B:Nat} (h:Kept w w' v v') (hB:∀i,v.ownBlock=some i→B≤i) (hs:B≤w.heap.size):Below B w w':=
 ⟨h.os,h.tape,h.output,h.size,fun i hi=>h.block i jo (fun e=>by have:=hB i e;omega)⟩
end
theorem zMb {w:World} {base e n size:Nat} {v:Value} (h:w.ownsRow base e size v n xs) (m:Nat):(w.drewN m).ownsRow base e size v n xs:=
 h.kept (row:=none) ⟨rfl,rfl,rfl,yAC _,fun _ _ _=>rfl⟩ (by cases hv:v.ownBlock<;>simp)
theorem zLO {w:World} {base n size:Nat} {v:Value} (h:w.ownsRow base e size v n xs):∀i,v.ownBlock=some i→base≤i:=fun i hi=>(h.lt i hi).1
section
variable {P:Program} {w:World} {ops:Array Oper} {rest:List Oper} {o:Oper} {a:Act} {Q:Exit→Act→World→Prop}
theorem zDR (f:o.guard=none) (s x:Operand) (t:TypeId)
 (l:o.op=.call {callee:=.builtin .append,args:=#[s,x],argTypes:=#[t,t]})
 (base:Nat) (e:TypeId) (i:TypeInfo) (z:Value) (size bytes:Nat) (ht:P.underlying t=some (.slice e)) (hi:P.info? e=some i) (hz:i.zero=some z)
 (hsize:i.size=size) (hby:i.bytes=bytes) (hzs:z.cells.size=size) (hs0:0 < size)
 (v:Value) (n:Nat) (xs:List Value) (hs:a.eval s=v) (hown:w.ownsRow base e size v n xs) (hbase:base≤w.heap.size)
 (cs:List Value) (m c:Nat) (hx:a.eval x=.slice (some ⟨w.heap.size,0,none⟩) m c) (hl:cs.length=m*size) (h1:(cs.all fun u=>u.oneCell')=true)
 (hsz:n+m≤1099511627776) (hb2:bytes≤128)
 (h:∀v' w',w'.ownsRow base e size v' (n+m) (xs++cs)→Kept w w' v v'→wpList P ops Q rest (a.put o.dst v') w'):wpList P ops Q (o::rest) a (w.alloc (.cells cs.toArray e)):=by
 refine wpList_append_own_at (w.alloc (.cells cs.toArray e)) f s x t l base e i z size bytes ht hi hz hsize hby hzs hs0 v n xs hs (hown.alloc _) ⟨w.heap.size,0,none⟩ m c cs hx hl ?_ (fun u d=>List.all_eq_true.1 h1 u d) (by unfold maxLen;omega) ?_ (by simp;omega) ?_
 · intro j u d;rw[Addr.add_lit,World.cell?_alloc_at _ _ _ _ rfl];simpa using d
 · calc (n+m)*bytes≤1099511627776*128:=Nat.mul_le_mul hsz hb2
    _≤140737488355328:=by omega
 · intro v' w' p b _ q;refine h v' w' p ⟨b.os,b.tape,b.output,yAD js b.size,fun k hk g=>?_,?_⟩
   · rw[b.block k (by simp;omega) (fun e=>g e.symm)];exact heap_alloc_old w _ hk
   · rcases q with e | e
     · exact .inl e
     · exact .inr ⟨_,e,by simp⟩
end
theorem Tryz.info_int:(prog.info? 3).map (fun i=>(i.zero,i.size,i.bytes))=some (some (.int .i64 0),1,8):=by kernel_rfl
theorem zLP (k:Int) (w:World):Calls prog 79 #[k] w fun e w'=>e=.returned (zDc k)∧w=w':=by
 go_enter func79,ntmps79;go_wp2
 all_goals go_ret
 all_goals refine⟨zJ ?_,rfl⟩
 all_goals (rw[Bool.eq_iff_iff];simp[zDc];try omega)
theorem zVW (k:Int) (w:World):Calls prog 80 #[k] w fun e w'=>e=.returned (zCM k)∧w=w':=by
 obtain⟨q,b⟩:=jx (zDc k);have c:=zA (show∀w,Calls prog 79 #[k] w fun e w'=>e=.returned q∧w=w' from fun w=>by rw[←b];exact zLP k w);have d:=zA (show zCM k=(q&& !(k==5)&& !(k==6)&& !(k==19)) by unfold zCM;rw[b]);clear b;cases q with
 | false=>
  go_enter func80,ntmps80;go_wp2_with (go_at_call 79;refine(c.out w).mono ?_;rintro e w' ⟨rfl,rfl⟩);go_ret;exact⟨zJ (by rw[d.out];rfl),rfl⟩
 | true=>
  go_enter func80,ntmps80;go_wp2_with (go_at_call 79;refine(c.out w).mono ?_;rintro e w' ⟨rfl,rfl⟩)
  all_goals go_ret
  all_goals refine⟨zJ ?_,rfl⟩
  all_goals (rw[d.out,Bool.eq_iff_iff];simp;try omega)
theorem zRi (k:Int) (w:World):Calls prog 81 #[k] w fun e w'=>e=.returned (zBf k)∧w=w':=by
 go_enter func81,ntmps81;go_wp2
 all_goals go_ret
 all_goals refine⟨zJ ?_,rfl⟩
 all_goals (rw[Bool.eq_iff_iff];simp[zBf];try omega)
theorem zB5 (k:Int) (w:World):Calls prog 82 #[k] w fun e w'=>e=.returned (zAB k)∧w=w':=by
 go_enter func82,ntmps82;go_wp2
 all_goals go_ret
 all_goals refine⟨zJ ?_,rfl⟩
 all_goals (rw[Bool.eq_iff_iff];simp[zAB];try omega)
theorem zI5 (k:Int) (w:World):Calls prog 40 #[k] w fun e w'=>e=.returned (zAr k)∧w=w':=by
 go_enter func40,ntmps40;go_wp2
 all_goals go_ret
 all_goals refine⟨zJ ?_,rfl⟩
 all_goals (rw[Bool.eq_iff_iff];simp[zAr];try omega)
theorem zIG (k n:Int) (w:World):Calls prog 36 #[.agg #[k,n]] w fun e w'=>e=.returned (zDd k n)∧Below w.heap.size w w':=by
 go_enter func36,ntmps36;go_wp2
 all_goals go_ret
 all_goals refine⟨zJ ?_,by go_grown⟩
 all_goals (rw[Bool.eq_iff_iff];simp[zDd];simp only[beq_iff_eq,yA,ne_eq]at *;split<;>omega)
theorem zIH (s:Nat) (k:Int) (hs:s≤13) (w:World):Calls prog 41 #[s,k] w fun e w'=>e=.returned (zx s k)∧w=w':=by
 have h:s=0∨s=1∨s=2∨s=3∨s=4∨s=5∨s=6∨s=7∨s=8∨s=9∨s=10∨s=11∨s=12∨s=13:=by omega
 obtain⟨q,b⟩:=jx (zBf k);have c:=zA b;have d:=zA (show∀w,Calls prog 81 #[k] w fun e w'=>e=.returned q∧w=w' from fun w=>by rw[←b];exact zRi k w);clear hs b;rcases h with rfl | rfl | rfl | rfl | rfl | rfl | rfl | rfl | rfl | rfl | rfl | rfl | rfl | rfl
 all_goals
  go_enter func41,ntmps41;go_wp2_with (first | (go_at_call 79;refine(zLP k w).mono ?_;rintro e w' ⟨rfl,rfl⟩) | (go_at_call 80;refine(zVW k w).mono ?_;rintro e w' ⟨rfl,rfl⟩) | (go_at_call 81;refine(d.out w).mono ?_;rintro e w' ⟨rfl,rfl⟩) | (go_at_call 82;refine(zB5 k w).mono ?_;rintro e w' ⟨rfl,rfl⟩))
  all_goals go_ret
  all_goals refine⟨zJ ?_,rfl⟩
  all_goals first | rfl | exact c.out.symm | (simp[zx, *];done) | (simp[zx, *];exact c.out.symm) | (simp[zx, *];rw[c.out])
def chr (n:Nat):UInt8:=UInt8.ofNat n
theorem zOC {n:Nat} (h:n < 256):(chr n).toNat=n:=by
 unfold chr;simp;omega
def zBZ (n:Nat):List UInt8:=if n < 10 then [chr (48+n)]else zBZ (n / 10)++[chr (48+n % 10)]
termination_by n
theorem zB6 {n:Nat} (h:n < 10):zBZ n=[chr (48+n)]:=by rw[zBZ,if_pos h]
theorem zC5 {n:Nat} (h:¬n < 10):zBZ n=zBZ (n / 10)++[chr (48+n % 10)]:=by rw[zBZ,if_neg h]
theorem zHN (n:Nat):Lib.decDigits n=zBZ n:=by
 induction n using Nat.strongRecOn with
 | _ n b=>
  by_cases h:n < 10
  · rw[Lib.decDigits,dif_pos h,zB6 h];rfl
  · rw[Lib.decDigits,dif_neg h,zC5 h,b _ jo];rfl
theorem zRj (n:Int) (h:0≤n):Lib.itoa n=zBZ n.toNat:=by
 unfold Lib.itoa;rw[jn,zHN]
def Tab (w : World) : Prop := Lib.TabIs prog w "internal/strconv.uint64pow10" .u64 Lib.pow10Tab
theorem zYc : prog.globalNamed "internal/strconv.uint64pow10" = some 0 := by kernel_rfl
theorem Tab.below {B:Nat} {w w':World} (h:Tab w) (hg:0 < B) (hb:Below B w w'):Tab w':=by
 unfold Tab Lib.TabIs World.var? at h⊢;rw[zYc]at h⊢;simp only[Option.bind_some]at h⊢;rw[hb.block _ hg];exact h
theorem Tab.lt {w:World} (h:Tab w):0 < w.heap.size:=by
 unfold Tab Lib.TabIs World.var? at h;rw[zYc]at h;simp only[Option.bind_some]at h;rcases Nat.lt_or_ge 0 w.heap.size with b | b
 · exact b
 · rw[Array.getElem?_eq_none b]at h;cases h
theorem zRk {n:Int} (b:0≤n) (h1:n≤9007199254740991) {w:World} (c:Tab w):
 Calls prog 86 #[n] w fun e w'=>e=.returned (zBZ n.toNat)∧Below w.heap.size w w':=by
 refine(Tryz.strconv_Itoa n jo jo w c).mono ?_;rintro e w' ⟨rfl,k,os,rfl⟩;exact⟨by rw[zRj n b],Go.Lib.below_grow _ w (yAC _) k os⟩
theorem zVX (n:Int) (w:World) (b:0≤n) (h1:n≤9007199254740991):Calls prog 36 #[.agg #[(0:Int),n]] w fun e w'=>e=.returned true∧w'=w.alloc (.cells #[(0:Int),n] 37):=by
 have c:decide ((-9007199254740991:Int)≤n)=true:=decide_eq_true jo;have d:decide (n≤(9007199254740991:Int))=true:=decide_eq_true h1;go_enter func36,ntmps36;go_wp2
 all_goals go_ret
 all_goals exact⟨rfl,rfl⟩
theorem zVY (n:Int) (w:World) (b:0≤n) (h1:n≤9007199254740991):
 Calls prog 85 #[.agg #[(0:Int),n]] w fun e w'=>e=.returned (.agg #[(0:Int),n])∧w'=((w.alloc (.cells #[(0:Int),n] 37)).alloc (.cells #[(0:Int),n] 37)).alloc (.cells #[(0:Int),n] 37):=by
 go_enter func85,ntmps85;go_wp2_with (go_at_call 36;refine(zVX n _ b h1).mono ?_;rintro e w' ⟨rfl,rfl⟩);refine bodyPost_ret (v:=.agg #[(0:Int),n]) (by simp[results,results85,go_sem]) rfl ?_;exact⟨rfl,rfl⟩
theorem zI6 (n:Int) (w:World) (d:0≤n) (h1:n≤9007199254740991) (c:Tab w):
 Calls prog 48 #[.agg #[(0:Int),n]] w fun e w'=>e=.returned (zBZ n.toNat)∧Below w.heap.size w w':=by
 have f:=zA (fun(W:World) (hb:Below w.heap.size w W)=>zRk d h1 (c.below c.lt hb));clear c;go_enter func48,ntmps48;go_wp2_with first
  | (go_at_call 85;refine(zVY n _ d h1).mono ?_;rintro e w' ⟨rfl,rfl⟩)
  | (go_at_call 86;refine(f.out _ (by go_grown)).mono ?_;rintro e w' ⟨rfl,hb⟩)
 go_ret;refine⟨rfl,Below.trans (b:=_) ?_ (hb.mono (by simp;omega))⟩
 go_grown
section Zq
open Go.ChangeShapes Go.WideShapes Go.ChangeAt Go.RowKit Go.Lib
theorem own:ownKnob prog.godebug=none:=by kernel_rfl
theorem zRl:(prog.globals[0]?).map (·.type)=some 164:=by kernel_rfl
theorem zXe:(Rows.laid_internal_strconv_uint64pow10:DataW Unit)=Lib.tabData .u64 Lib.pow10Tab:=by kernel_rfl
theorem zRm {w : World} (h : laidMetH prog [("math/bits.deBruijn32tab", Rows.laid_math_bits_deBruijn32tab), ("math/bits.deBruijn64tab", Rows.laid_math_bits_deBruijn64tab), ("internal/strconv.uint64pow10", Rows.laid_internal_strconv_uint64pow10)] w) : Tab w := by
 have c : laidMet prog [("math/bits.deBruijn32tab", Rows.laid_math_bits_deBruijn32tab), ("math/bits.deBruijn64tab", Rows.laid_math_bits_deBruijn64tab), ("internal/strconv.uint64pow10", Rows.laid_internal_strconv_uint64pow10)] w := h;rw[zXe]at c;obtain⟨_,⟨_,_,_,_,_,_,_,_,_,_,⟨_,_,_,_,_,_,_,_,_,_,⟨j,k,cs,f,p,q,d,e,b,g,_,_⟩,_⟩,_⟩,_⟩:=c;obtain rfl:=Option.some.inj (zYc.symm.trans d);obtain rfl:=Option.some.inj (zRl.symm.trans e);unfold Tab Lib.TabIs;rw[b,←Lib.cells_of_tab underlying164 underlying116 (by kernel_rfl) (by kernel_rfl) g]
section
variable {H:Type} {enc:TypeId×Value→H} {W:World} {base:Nat}
theorem Tryz.laidOut:laidOutB prog=true:=by kernel_rfl
theorem zII {f:World} {c:Nat→Bool}:∀{ts:List TypeId} {vs:List Value} {ds:List (DataW H)} {ps:List MemPlace},(∀t∈ts,prog.readableRec t=true∧t < prog.types.size)→
 DataW.TrodAll enc prog W 0 (fun _=>true) true ts vs ds ps→Below W.heap.size W f→(∀x∈ps,x.block < W.heap.size)→(∀p∈ps,c p.block=true)→DataW.TrodAll enc prog f 0 c true ts vs ds ps:=by
 intro ts
 induction ts with
 | nil=>
  intro vs ds ps _ h _ _ _;obtain⟨rfl,rfl,rfl⟩:=trodAll_nil h;exact trodAll_mk0
 | cons t ts k=>
  intro vs ds ps g h hb e hs;obtain⟨v,r,d,s,p,q,rfl,rfl,rfl,l,r0⟩:=trodAll_cons h;have j:=g t js;exact trodAll_cons_mk (WideElems.Trod_stays Tryz.laidOut j.1 j.2 l (fun x b=>hb.same (e x (by simp[b]))) (fun x b=>hs x (by simp[b])))
   (k (fun m o=>g m (by simp[o])) r0 hb (fun x b=>e x (by simp[b])) (fun x b=>hs x (by simp[b])))
theorem zIJ {P:Program} {f:Func} {s:ChangeSpec} {apart z m A:Bool} {W o:World} {args:Array Value} {v:Value} {ds q:List (DataW H)} {c pa pv:List MemPlace}
 (D:DataW.Whole enc P f.params.toList s.vars apart W args.toList ds q c)
 (u:∀(b:Nat) (e:Nat→Bool) (F:Bool),DataW.TrodAll enc P o b e F f.resultTypes.toList (v.resultList f.resultTypes.size) (s.fn H (ds++q)).results [])
 (g:∀e:Nat→Bool,(∀p∈c,e p.block=true)→DataW.TrodAll enc P o 0 e true f.params.toList args.toList (s.fn H (ds++q)).args pa)
 (k:∀e:Nat→Bool,(∀p∈c,e p.block=true)→DataW.TrodVars enc P o e s.vars (s.fn H (ds++q)).vars pv)
 (l:c=pa++pv) (hb:Below W.heap.size W o)
 (E:∀(j:Nat) (t:TypeId) (r:Value),f.resultTypes[j]? =some t→(v.resultList f.resultTypes.size)[j]? =some r→Value.okWide P o .any 0 t r):
 s.post enc P f apart z m A W args v o:=by
 have B:∀p∈c,p.block < W.heap.size:=fun p d=>D.lt p d;have y:∀p∈c,(fun b=>decide (b < W.heap.size)) p.block=true:=fun p d=>by simpa using B p d
 refine⟨ds,q,c,[],pa,pv,D,u _ _ _,g _ y,k _ y,World.keptBut_mono (fun p d=>⟨d,?_⟩) (hb.frame (·∈c)),fun _=>?_⟩
 · rw[l,List.mem_append]at d;exact Or.inr d
 · obtain⟨_,_,_,_,_,G,I⟩:=D;refine⟨E,_,_,([]++pa)++pv,⟨[]++pa,pv,trodAll_append (g _ (fun _ _=>rfl)) (u _ _ _),k _ (fun _ _=>rfl),rfl,?_,?_⟩,?_⟩
   · intro b off d;have C:MemPlace.cell b off∈c:=by rw[l];simpa using d
     rw[hb.frozen (B _ C)];exact G b off C
   · intro J;have:=I J;rw[l]at this;simpa using this
   · intro p d _;rw[l];simpa using d
end
def zU9:DataW Unit→List Int
 | .agg l=>l.map fun d=>match d with | .lit (.int _ z)=>z | _=>0
 | _=>[]
def zRn (h:Array Obj):Array Obj:=
 ((h.modify 0 fun
  | .cells _ t frozen=>.cells (Lib.pow10Tab.map fun z=>Value.int .u64 z).toArray t frozen
  | o=>o).modify 2 fun
  | .cells _ t frozen=>.cells ((zU9 Rows.laid_math_bits_deBruijn32tab).map fun z=>Value.int .u8 z).toArray t frozen
  | o=>o).modify 3 fun
  | .cells _ t frozen=>.cells ((zU9 Rows.laid_math_bits_deBruijn64tab).map fun z=>Value.int .u8 z).toArray t frozen
  | o=>o
noncomputable def zGT (os:Os):World:=
 let w:=World.holding prog os ⟨#[],#[],[]⟩
 {w with heap:=zRn w.heap}
end Zq
section Zq
open Go.ChangeShapes Go.WideShapes Go.ChangeAt Go.RowKit Go.Lib
theorem zVZ:prog.cellsOf 65=1:=by kernel_rfl
section
variable {H:Type} {enc:TypeId×Value→H} {W:World} {base:Nat}
theorem zOD {v:Value} {d:DataW H} {p:List MemPlace} (hv:Value.okWide prog W .any base 27 v) (h:DataW.Trod enc prog W 0 (fun _=>true) true 27 v d p):
 ∃A c xs,v=.slice A (xs:List UInt16).length c∧xs.length≤c∧c≤maxLen∧Reads W W.heap.size 1 A xs.length (zAM xs):=by
 obtain⟨a0,len,cap,rfl⟩:=okWide_slice underlying27 hv;obtain⟨o,q⟩:=h;rcases open_ints underlying27 underlying65 zVZ q with⟨b,_⟩ | ⟨a,r,s,zs,b,_,t,y,z,_,f,g⟩
 · simp only[Value.cells,List.cons.injEq,and_true,Value.slice.injEq]at b;obtain⟨rfl,rfl,rfl⟩:=b;exact⟨none,0,[],rfl,yAC _,yAE _,Reads.none_⟩
 · simp only[Value.cells,List.cons.injEq,and_true,Value.slice.injEq]at b;obtain⟨rfl,rfl,rfl⟩:=b;simp only[if_true]at z;have e:((zs.take len).map fun n=>UInt16.ofNat n.toNat).length=len:=by simp;omega
   refine⟨some a,cap,(zs.take len).map fun n=>UInt16.ofNat n.toNat,by rw[e],by rw[e];exact t,y,?_⟩;refine⟨by rw[zCV];omega,fun D=>⟨a,rfl,?_,fun j u k=>?_⟩⟩
   · have B:=f 0 jo;have:=World.block_lt_of_cell? W _ B;rwa [zDl]at this
   · have C:j < len:=by
      have:=(List.getElem?_eq_some_iff.1 k).1;rwa[zCV,e]at this
     rw[f j jo];have l:j < zs.length:=by omega
     have m:=g zs[j] (List.getElem_mem _);have m:=bounds_u16 m;rw[←k];simp only[zAM,List.getElem?_map,List.getElem?_take,C,if_true,yAB l,Option.map_some,zVT,yAG,Option.getD_some];congr 2;simp;omega
end
end Zq
section Zq
open Go.ChangeShapes Go.WideShapes Go.ChangeAt Go.RowKit
end Zq
inductive Tr where
 | mk (x:Nd) (l:List Tr)
mutual
def Tr.size:Tr→Nat
 | .mk _ l=>1+sizes l
def sizes:List Tr→Nat
 | []=>0
 | t::r=>t.size+sizes r
end
def Tr.nd:Tr→Nd | .mk x _=>x
def Tr.subs:Tr→List Tr | .mk _ l=>l
def zz (n:Nat):List Tr→List Int
 | []=>[]
 | t::r=>(n:Int)::zz (n+t.size) r
mutual
def flatT (n:Nat):Tr→List Nd
 | .mk x l=>{x with kids:=zz (n+1) l}::flatL (n+1) l
def flatL (n:Nat):List Tr→List Nd
 | []=>[]
 | t::r=>flatT n t++flatL (n+t.size) r
end
theorem zi (x:Nd) (l:List Tr):(Tr.mk x l).size=1+sizes l:=by rw[Tr.size]
theorem zN:sizes []=0:=by rw[sizes]
theorem zH (t:Tr) (r:List Tr):sizes (t::r)=t.size+sizes r:=by rw[sizes]
theorem zBO (t:Tr):1≤t.size:=by cases t;rw[zi];omega
theorem zA8 (n:Nat) (x:Nd) (l:List Tr):flatT n (.mk x l)={x with kids:=zz (n+1) l}::flatL (n+1) l:=by rw[flatT]
theorem zBI (n:Nat):flatL n []=[]:=by rw[flatL]
theorem zAS (n:Nat) (t:Tr) (r:List Tr):flatL n (t::r)=flatT n t++flatL (n+t.size) r:=by rw[flatL]
mutual
theorem flatT_len (n:Nat) (t:Tr):(flatT n t).length=t.size:=by
 cases t with
 | mk x l=>rw[zA8,zi,List.length_cons,flatL_len (n+1) l];omega
theorem flatL_len (n:Nat) (l:List Tr):(flatL n l).length=sizes l:=by
 cases l with
 | nil=>rw[zBI,zN];rfl
 | cons t r=>rw[zAS,zH,List.length_append,flatT_len n t,flatL_len (n+t.size) r]
end
theorem zBd (n:Nat) (l:List Tr):(zz n l).length=l.length:=by
 induction l generalizing n with
 | nil=>rfl
 | cons t r b=>simp[zz,b]
theorem zBw {n:Nat} {l:List Tr} {p:Int} (h:p∈zz n l):(n:Int)≤p∧p < ((n+sizes l:Nat):Int):=by
 induction l generalizing n with
 | nil=>cases h
 | cons t r b=>
  have:=zBO t;rw[zH];rcases List.mem_cons.1 h with h | h
  · omega
  · have:=b h;omega
def Tr.laid (n:Nat):Tr→Nd | .mk x l=>{x with kids:=zz (n+1) l}
theorem zFX (n:Nat) (t:Tr):(flatT n t)[0]? =some (t.laid n):=by cases t;rw[zA8];rfl
def At (ts:List Nd) (n:Nat) (t:Tr):Prop:=∃a b,ts=a++flatT n t++b∧a.length=n
def AtL (ts:List Nd) (n:Nat) (l:List Tr):Prop:=∃a b,ts=a++flatL n l++b∧a.length=n
theorem At.get {ts:List Nd} {n:Nat} {t:Tr} (h:At ts n t):ts[n]? =some (t.laid n):=by
 obtain⟨a,b,rfl,c⟩:=h;rw[List.append_assoc,List.getElem?_append_right jo,c,Nat.sub_self,List.getElem?_append_left (by rw[flatT_len];exact zBO t)];exact zFX n t
theorem At.le {ts:List Nd} {n:Nat} {t:Tr} (h:At ts n t):n+t.size≤ts.length:=by
 obtain⟨a,b,rfl,c⟩:=h;simp only[List.length_append,flatT_len];omega
theorem At.subs {ts:List Nd} {n:Nat} {x:Nd} {l:List Tr} (h:At ts n (.mk x l)):AtL ts (n+1) l:=by
 obtain⟨a,b,rfl,c⟩:=h;rw[zA8];exact⟨a++[{x with kids:=zz (n+1) l}],b,by simp,by simp[c]⟩
theorem AtL.head {ts:List Nd} {n:Nat} {t:Tr} {l:List Tr} (h:AtL ts n (t::l)):At ts n t:=by
 obtain⟨a,b,rfl,c⟩:=h;rw[zAS];exact⟨a,flatL (n+t.size) l++b,by simp,c⟩
theorem AtL.tail {ts:List Nd} {n:Nat} {t:Tr} {l:List Tr} (h:AtL ts n (t::l)):AtL ts (n+t.size) l:=by
 obtain⟨a,b,rfl,c⟩:=h;rw[zAS];exact⟨a++flatT n t,b,by simp,by simp[c,flatT_len]⟩
theorem AtL.kid {ts:List Nd}:∀{l:List Tr} {n:Nat} (_:AtL ts n l) (i:Nat) (hi:i < l.length),∃p:Nat,(zz n l)[i]? =some (p:Int)∧At ts p l[i]∧n≤p:=by
 intro l
 induction l with
 | nil=>intro n h i hi;simp at hi
 | cons t r b=>
  intro n h i hi;cases i with
  | zero=>exact⟨n,rfl,h.head,yAC _⟩
  | succ i=>
   obtain⟨p,h1,c,d⟩:=b h.tail i (by simpa using hi);exact⟨p,by simpa [zz]using h1,c,by omega⟩
theorem At.kid {ts:List Nd} {n:Nat} {x:Nd} {l:List Tr} (h:At ts n (.mk x l)) (i:Nat) (hi:i < l.length):∃p:Nat,(zz (n+1) l)[i]? =some (p:Int)∧At ts p l[i]∧n < p:=by
 obtain⟨p,h1,b,c⟩:=h.subs.kid i hi;exact⟨p,h1,b,by omega⟩
theorem At.whole (t:Tr):At (flatT 0 t) 0 t:=⟨[],[],by simp,rfl⟩
theorem zCt (N n:Nat) (x:Nd) (r:List Nd) (s:Int) (b:List Int):zBU N n (x::r) (s::b)=(s==(n:Int)&&zCs N n x.kids&&zBU N (n+1) r (x.kids++b)):=rfl
theorem zGU (n:Nat) (x:Nd) (r:List Nd) (d:List Nat):zDr n (x::r) d=zDr (n+1) r (zEb (d.set n (max (d.getD n 0) 1)) (max (d.getD n 0) 1+1) x.kids):=rfl
theorem zMc {N m:Nat} (o:∀n r k b,r.length < m→zBU N n r (k::b)=true→∃t c,k=(n:Int)∧r=flatT n t++c∧zBU N (n+t.size) c b=true):
 ∀(ks:List Int) (n:Nat) (r:List Nd) (b:List Int),r.length < m→zBU N n r (ks++b)=true→∃l c,ks=zz n l∧r=flatL n l++c∧zBU N (n+sizes l) c b=true:=by
 intro ks
 induction ks with
 | nil=>intro n r b _ h;exact⟨[],r,rfl,by rw[zBI];rfl,by rw[zN];exact h⟩
 | cons k ks d=>
  intro n r b p h;obtain⟨t,c,hk,e,q⟩:=o n r k (ks++b) p h;have s:c.length < m:=by
   have:=congrArg List.length e;rw[List.length_append]at this;omega
  obtain⟨l,f,g,j,u⟩:=d (n+t.size) c b s q;refine⟨t::l,f,by rw[hk,g];rfl,by rw[e,j,zAS,List.append_assoc],?_⟩;rw[zH,←Nat.add_assoc];exact u
theorem zOE (N:Nat):∀(m n:Nat) (r:List Nd) (k:Int) (b:List Int),r.length < m→zBU N n r (k::b)=true→∃t c,k=(n:Int)∧r=flatT n t++c∧zBU N (n+t.size) c b=true:=by
 intro m
 induction m with
 | zero=>intro n r k b h;omega
 | succ m d=>
  intro n r k b e h;cases r with
  | nil=>cases h
  | cons x r=>
   unfold zBU at h;simp only[Bool.and_eq_true,beq_iff_eq]at h;obtain⟨⟨hk,_⟩,h⟩:=h;obtain⟨l,c,h1,f,g⟩:=zMc (m:=m) d x.kids (n+1) r b (by simp at e;omega) h;refine⟨.mk x l,c,hk,?_,?_⟩
   · rw[zA8,←h1,f];rfl
   · rw[zi,←Nat.add_assoc];exact g
theorem zHe {ts:List Nd} (h:zCR ts=true):∃t,ts=flatT 0 t:=by
 obtain⟨t,b,_,h1,c⟩:=zOE ts.length (ts.length+1) 0 ts 0 [] jo h;cases b with
 | nil=>exact⟨t,by rw[h1];simp⟩
 | cons x r=>cases c
mutual
theorem order_flatT (N:Nat) (t:Tr) (n:Nat) (r:List Nd) (st:List Int) (h:n+t.size≤N):zBU N n (flatT n t++r) ((n:Int)::st)=zBU N (n+t.size) r st:=by
 cases t with
 | mk x l=>
  rw[zi]at h⊢;rw[zA8,List.cons_append];have hk:zCs N n (zz (n+1) l)=true:=by
   unfold zCs;rw[List.all_eq_true];intro p hp;have:=zBw hp;simp only[Bool.and_eq_true,decide_eq_true_eq];omega
  rw[zCt];simp only[beq_self_eq_true,hk,Bool.true_and];rw[order_flatL N l (n+1) r st jo,Nat.add_assoc]
theorem order_flatL (N:Nat) (l:List Tr) (n:Nat) (r:List Nd) (st:List Int) (h:n+sizes l≤N):zBU N n (flatL n l++r) (zz n l++st)=zBU N (n+sizes l) r st:=by
 cases l with
 | nil=>rw[zBI,zN];rfl
 | cons t l=>
  rw[zH]at h⊢;rw[zAS,List.append_assoc];show zBU N n (flatT n t++(flatL (n+t.size) l++r)) ((n:Int)::(zz (n+t.size) l++st))=_;rw[order_flatT N t n _ _ jo,order_flatL N l (n+t.size) r st jo,Nat.add_assoc]
end
theorem zHf (t:Tr):zCR (flatT 0 t)=true:=by
 have h:=order_flatT t.size t 0 [] [] jo;rw[List.append_nil]at h;unfold zCR;rw[flatT_len];exact h.trans rfl
mutual
def depsT (v:Nat):Tr→List Nat
 | .mk _ l=>v::depsL (v+1) l
def depsL (v:Nat):List Tr→List Nat
 | []=>[]
 | t::r=>depsT v t++depsL v r
end
theorem zDS (v:Nat) (x:Nd) (l:List Tr):depsT v (.mk x l)=v::depsL (v+1) l:=by rw[depsT]
theorem zE2 (v:Nat):depsL v []=[]:=by rw[depsL]
theorem zDA (v:Nat) (t:Tr) (r:List Tr):depsL v (t::r)=depsT v t++depsL v r:=by rw[depsL]
mutual
theorem depsT_len (v:Nat) (t:Tr):(depsT v t).length=t.size:=by
 cases t with
 | mk x l=>rw[zDS,zi,List.length_cons,depsL_len (v+1) l];omega
theorem depsL_len (v:Nat) (l:List Tr):(depsL v l).length=sizes l:=by
 cases l with
 | nil=>rw[zE2,zN];rfl
 | cons t r=>rw[zDA,zH,List.length_append,depsT_len v t,depsL_len v r]
end
def over (d:List Nat) (n:Nat) (e:List Nat):List Nat:=d.take n++e++d.drop (n+e.length)
theorem zRo {d e:List Nat} {n:Nat} (h:n+e.length≤d.length):(over d n e).length=d.length:=by
 unfold over;simp only[List.length_append,List.length_take,List.length_drop];omega
theorem zEH {d e:List Nat} {n:Nat} (h:n+e.length≤d.length):(over d n e)[i]? =if n≤i∧i < n+e.length then e[i - n]? else d[i]? :=by
 unfold over
 by_cases h1:i < n
 · rw[jn,List.append_assoc,List.getElem?_append_left (by rw[List.length_take];omega),List.getElem?_take_of_lt h1]
 · by_cases b:i < n+e.length
   · rw[if_pos ⟨by omega,b⟩,List.append_assoc,List.getElem?_append_right (by rw[List.length_take];omega),List.length_take,Nat.min_eq_left jo,List.getElem?_append_left jo]
   · rw[jn,List.getElem?_append_right (by rw[List.length_append,List.length_take];omega),List.getElem?_drop,List.length_append,List.length_take,Nat.min_eq_left jo];congr 1;omega
theorem zFY {v:Nat}:∀(ks:List Int) (d:List Nat) (i:Nat),(∀k∈ks,0≤k)→(zEb d v ks)[i]? =if(i:Int)∈ks∧i < d.length then some v else d[i]? :=by
 intro ks
 induction ks with
 | nil=>intro d i _;simp[zEb]
 | cons k ks f=>
  intro d i h;unfold zEb;rw[f _ _ (fun k hk=>h k (List.mem_cons_of_mem _ hk)),List.length_set];have hk:=h k (List.mem_cons_self ..)
  by_cases h1:(i:Int)∈ks∧i < d.length
  · rw[if_pos h1,if_pos ⟨List.mem_cons_of_mem _ h1.1,h1.2⟩]
  · rw[if_neg h1,List.getElem?_set]
    by_cases e:k.toNat=i
    · subst e;have g:((k.toNat:Nat):Int)=k:=Int.toNat_of_nonneg hk;rw[if_pos rfl]
      by_cases b:k.toNat < d.length
      · rw[if_pos b,if_pos ⟨by rw[g];exact List.mem_cons_self ..,b⟩]
      · rw[if_neg b,if_neg (fun j=>b j.2),List.getElem?_eq_none jo]
    · rw[if_neg e,if_neg];rintro⟨c,h6⟩;rcases List.mem_cons.1 c with c | c
      · exact e jo
      · exact h1 ⟨c,h6⟩
theorem zMd {v:Nat}:∀(ks:List Int) (d:List Nat),(zEb d v ks).length=d.length:=by
 intro ks
 induction ks with
 | nil=>intro d;rfl
 | cons k ks b=>intro d;unfold zEb;rw[b,List.length_set]
theorem zGV:∀{l:List Tr} {n:Nat},∀p∈zz n l,(0:Int)≤p:=by
 intro l n p b;have:=zBw b;omega
mutual
theorem deep_flatT (t:Tr) (n v:Nat) (r:List Nd) (d:List Nat) (hv:1≤v) (hd:n+t.size≤d.length) (h:max (d.getD n 0) 1=v):zDr n (flatT n t++r) d=zDr (n+t.size) r (over d n (depsT v t)):=by
 cases t with
 | mk x l=>
  rw[zi]at hd⊢;rw[zA8,List.cons_append];rw[zGU,h];have hlen:(zEb (d.set n v) (v+1) (zz (n+1) l)).length=d.length:=by rw[zMd,List.length_set]
  rw[deep_flatL l (n+1) (v+1) r _ jo (by rw[hlen];omega) (fun p hp=>by
   have:=zBw hp;rw[zFY _ _ _ (fun k hk=>zGV k hk),if_pos ⟨hp,by rw[List.length_set];omega⟩])]
  rw[Nat.add_assoc];congr 1;apply List.ext_getElem?;intro i;have e1:(depsT v (.mk x l)).length=1+sizes l:=by rw[depsT_len,zi]
  have e2:=depsL_len (v+1) l;rw[zEH (by rw[e2,hlen];omega),zEH (by rw[e1];omega),e1,e2]
  by_cases h1:n+1≤i∧i < n+1+sizes l
  · rw[if_pos h1,if_pos jo,zDS,show i - n=(i - (n+1))+1 by omega,List.getElem?_cons_succ]
  · rw[if_neg h1]
    by_cases h2:i=n
    · subst h2;rw[if_pos jo,Nat.sub_self,zDS,zFY _ _ _ (fun k hk=>zGV k hk),if_neg (fun hh=>by have:=zBw hh.1;omega),List.getElem?_set_self jo];rfl
    · rw[jn,zFY _ _ _ (fun k hk=>zGV k hk),if_neg (fun hh=>by have:=zBw hh.1;omega),List.getElem?_set_ne jo]
theorem deep_flatL (l:List Tr) (n v:Nat) (r:List Nd) (d:List Nat) (hv:1≤v) (hd:n+sizes l≤d.length) (h:∀p:Nat,(p:Int)∈zz n l→d[p]? =some v):zDr n (flatL n l++r) d=zDr (n+sizes l) r (over d n (depsL v l)):=by
 cases l with
 | nil=>
  rw[zBI,zN,zE2];have:over d n []=d:=by unfold over;simp
  rw[this];rfl
 | cons t l=>
  rw[zH]at hd⊢;have e1:=depsT_len v t;have e2:=depsL_len v l;have hn:d[n]? =some v:=h n (List.mem_cons_self ..);rw[zAS,List.append_assoc,deep_flatT t n v _ d hv jo (by rw[yAG,hn];simp only[Option.getD_some];omega)];have hol:(over d n (depsT v t)).length=d.length:=zRo (by rw[e1];omega);rw[deep_flatL l (n+t.size) v r _ hv (by rw[hol];omega) (fun p hp=>by
   have:=zBw hp;rw[zEH (by rw[e1];omega),e1,jn];exact h p (List.mem_cons_of_mem _ hp))]
  rw[Nat.add_assoc];congr 1;apply List.ext_getElem?;intro i;rw[zEH (by rw[e2,hol];omega),zEH (by rw[e1];omega),zEH (by rw[depsL_len,zH];omega),e1,e2,depsL_len,zH,zDA]
  by_cases h1:n+t.size≤i∧i < n+t.size+sizes l
  · rw[if_pos h1,if_pos jo,List.getElem?_append_right jo,e1];congr 1;omega
  · rw[if_neg h1]
    by_cases h2:n≤i∧i < n+t.size
    · rw[if_pos h2,if_pos jo,List.getElem?_append_left jo]
    · rw[if_neg h2,jn]
end
theorem zOF (t:Tr):zKT (flatT 0 t)=depsT 1 t:=by
 have h:=deep_flatT t 0 1 [] (List.replicate t.size 0) (yAC _) js (by
  have:=zBO t;rw[yAG,List.getElem?_replicate_of_lt jo];rfl)
 rw[List.append_nil]at h;unfold zKT;rw[flatT_len,h];unfold over;have:=depsT_len 1 t;simp only[zDr,List.take_zero,List.nil_append,Nat.zero_add,this];rw[List.drop_of_length_le js];simp
mutual
def depT:Tr→Nat
 | .mk _ l=>1+depL l
def depL:List Tr→Nat
 | []=>0
 | t::r=>max (depT t) (depL r)
end
theorem zKU (x:Nd) (l:List Tr):depT (.mk x l)=1+depL l:=by rw[depT]
theorem zLQ:depL []=0:=by rw[depL]
theorem zGW (t:Tr) (r:List Tr):depL (t::r)=max (depT t) (depL r):=by rw[depL]
theorem zLR (a b:List Nat):zGS (a++b)=max (zGS a) (zGS b):=by
 induction a with
 | nil=>simp[zGS]
 | cons x r c=>simp only[List.cons_append,zGS,c];omega
mutual
theorem maxL_depsT (v:Nat) (t:Tr):zGS (depsT (v+1) t)=v+depT t:=by
 cases t with
 | mk x l=>
  rw[zDS,zKU];have:=maxL_depsL (v+1) l;unfold zGS;rcases this with⟨h1,h2⟩ | h
  · subst h1;rw[zE2,zLQ];unfold zGS;omega
  · rw[h];omega
theorem maxL_depsL (v:Nat) (l:List Tr):(l=[]∧zGS (depsL (v+1) l)=0)∨zGS (depsL (v+1) l)=v+depL l:=by
 cases l with
 | nil=>exact .inl ⟨rfl,by rw[zE2];rfl⟩
 | cons t r=>
  right;rw[zDA,zLR,maxL_depsT v t,zGW];rcases maxL_depsL v r with⟨h1,h2⟩ | h
  · rw[h2];subst h1;rw[zLQ];omega
  · rw[h];omega
end
theorem zGX (t:Tr):zMa (flatT 0 t)=depT t:=by
 unfold zMa;rw[zOF];have:=maxL_depsT 0 t;rwa[Nat.zero_add,Nat.zero_add]at this
def zU (l:List UInt8):List UInt16:=l.map (·.toUInt16)
theorem zMe (s:ByteArray) (k:Nat) (h:k < s.size):zAM (zU (s.data.toList.take (k+1)))=zAM (zU (s.data.toList.take k))++[.int .u16 (s[k].toNat:Int)]:=by
 rw[yAL (by simpa using h)];simp[zU,zAM,zVT];rfl
theorem zDs (s:ByteArray) (w:World) (hs:s.size≤70368744177664):
 Calls prog 11 #[.string s] w fun e w'=>∃v,e=.returned v∧Made w w' 65 v (zAM (zU s.data.toList)):=by
 obtain⟨o,b,c,d,f⟩:=info_parts Tryz.info_u16;go_enter func11,ntmps11;go_wp2
 go_loopw [3,7] (fun v i wr=>∃k:Nat,k≤s.size∧i=.int .i64 k∧Made w wr 65 v (zAM (zU (s.data.toList.take k)))) (fun _ i _=>s.size - (intOf i).toNat)
 case atStart=>exact⟨0,yAE _,rfl,Made.nil _ _⟩
 case round=>
  obtain⟨k,hk,rfl,g⟩:=hrel
  by_cases j:k < s.size
  · have hb:=s[k].toNat_lt;have p:(zAM (zU (s.data.toList.take k))).length≤k:=by simp[zAM,zU];omega
    go_wp2_with (at_builtin;refine zEF rfl _ _ 27 rfl 65 o _ 2 underlying27 b c d f rfl _ _ rfl g _ 1 1 rfl rfl rfl jo jo ?_;intro v' w' l)
    go_roundw
    case rel=>exact⟨k+1,by omega,by go_num,by rw[zMe s k j];exact l⟩
    case measure=>simp[intOf];omega
  · go_wp2;go_ret;have m:k=s.size:=by omega
    subst m;exact⟨_,rfl,g.cells (by rw[List.take_of_length_le js])⟩
abbrev Tks:=List (List UInt8)
abbrev Kd:=Int×Tks
def inP (t:Tks):Tks:=[40]::(t++[[41]])
def ze (k:Kd):Tks:=if 30≤k.1∧k.1≤37 then k.2 else inP k.2
def zn (k:Kd):Tks:=if k.1=5∨k.1=6 then k.2.dropLast else if k.1=11 then []else inP k.2
def zGY (f:Kd→Tks):List Kd→Tks
 | []=>[]
 | k::r=>[44]::(f k++zGY f r)
def zAW (f:Kd→Tks):List Kd→Tks
 | []=>[]
 | k::r=>f k++zGY f r
def zAs (s:List UInt8):Tks:=if s=[]then []else [s]
def zt (l:List Kd):Tks:=[40]::(zAW (·.2) l++[[41]])
def kd (ks:List Kd) (i:Nat):Kd:=ks.getD i (0,[])
def zCN (n:Nat):UInt8:=if n < 10 then UInt8.ofNat (48+n)else UInt8.ofNat (87+n)
def zGZ (x:UInt16):List UInt8:=
 if 32≤x.toNat∧x.toNat≤126∧x.toNat≠34∧x.toNat≠92 then [x.toUInt8]
 else [92,117,zCN (x.toNat / 4096),zCN (x.toNat / 256 % 16),zCN (x.toNat / 16 % 16),zCN (x.toNat % 16)]
def zFw (u:List UInt16):List UInt8:=34::(u.flatMap zGZ++[34])
def zEk:List Nat→Nat
 | []=>0
 | x::r=>x+4294967296*zEk r
def zBS (x:Nd) (ks:List Kd):Tks:=(if x.kind=6 then [99,111,110,115,116]else [108,101,116])::zAW (·.2) ks
def zFZ (x:Nd) (ks:List Kd):Tks:=[102,117,110,99,116,105,111,110]::(zAs x.name++(zt ks.dropLast++(kd ks (ks.length - 1)).2))
def zE3 (ks:List Kd):Tks:=zt ks.dropLast++([61,62]::(if(kd ks (ks.length - 1)).1=4 then(kd ks (ks.length - 1)).2 else inP (kd ks (ks.length - 1)).2))
def zEl (ks:List Kd):Tks:=ze (kd ks 0)++([40]::(zAW ze (ks.drop 1)++[[41]]))
def zj (x:Nd) (ks:List Kd):Tks:=
 if x.kind=1 then ks.flatMap (·.2)
 else if x.kind=2 then [[59]]
 else if x.kind=3 then inP (kd ks 0).2++[[59]]
 else if x.kind=4 then [123]::(ks.flatMap (·.2)++[[125]])
 else if x.kind=5∨x.kind=6 then zBS x ks++[[59]]
 else if x.kind=7 then x.name::(if ks=[]then []else [61]::inP (kd ks 0).2)
 else if x.kind=12∨x.kind=13 then(if x.kind=13 then [99,111,110,116,105,110,117,101]else [98,114,101,97,107])::(zAs x.name++[[59]])
 else if x.kind=14 then [114,101,116,117,114,110]::((if ks=[]then []else inP (kd ks 0).2)++[[59]])
 else if x.kind=15 then [116,104,114,111,119]::(inP (kd ks 0).2++[[59]])
 else if x.kind=18 then x.name::[58]::(kd ks 0).2
 else if x.kind=20 then [x.name]
 else if x.kind=8 then [105,102]::(inP (kd ks 0).2++((kd ks 1).2++(if 2 < ks.length then [101,108,115,101]::(kd ks 2).2 else [])))
 else if x.kind=9 then [119,104,105,108,101]::(inP (kd ks 0).2++(kd ks 1).2)
 else if x.kind=10 then [102,111,114]::[40]::(zn (kd ks 0)++([59]::(zn (kd ks 1)++([59]::(zn (kd ks 2)++([41]::(kd ks 3).2))))))
 else if x.kind=16 then [116,114,121]::((kd ks 0).2++((kd ks 1).2++(if(kd ks 2).1=4 then [102,105,110,97,108,108,121]::(kd ks 2).2 else [])))
 else if x.kind=17 then [99,97,116,99,104]::((if x.name=[]then []else [[40],x.name,[41]])++(kd ks 0).2)
 else if x.kind=19 then zFZ x ks
 else []
def zh (x:Nd) (ks:List Kd):Tks:=
 if x.kind=30 then [zBZ x.nn.toNat]
 else if x.kind=31 then [zBZ (zEk x.mag)++[110]]
 else if x.kind=32 then [zFw x.str]
 else if x.kind=33 then [x.name]
 else if x.kind=34 then [[116,114,117,101]]
 else if x.kind=35 then [[102,97,108,115,101]]
 else if x.kind=36 then [[110,117,108,108]]
 else if x.kind=37 then [[116,104,105,115]]
 else if x.kind=38 then [91]::(zAW ze ks++[[93]])
 else if x.kind=39 then [123]::(zAW (·.2) ks++[[125]])
 else if x.kind=40 then zFw x.str::[58]::ze (kd ks 0)
 else if x.kind=41 then zFZ x ks
 else if x.kind=42 then zE3 ks
 else if x.kind=43 then x.name::ze (kd ks 0)
 else if x.kind=44 then x.name::(kd ks 0).2
 else if x.kind=45 then(kd ks 0).2++[x.name]
 else if x.kind=46∨x.kind=47 then ze (kd ks 0)++(x.name::ze (kd ks 1))
 else if x.kind=48 then ze (kd ks 0)++([63]::(ze (kd ks 1)++([58]::ze (kd ks 2))))
 else if x.kind=49 then(kd ks 0).2++(x.name::ze (kd ks 1))
 else if x.kind=50 then zEl ks
 else if x.kind=51 then [110,101,119]::zEl ks
 else if x.kind=52 then ze (kd ks 0)++([46]::[x.name])
 else if x.kind=53 then ze (kd ks 0)++([91]::(ze (kd ks 1)++[[93]]))
 else []
def zAn (x:Nd) (ks:List Kd):Tks:=if x.kind < 30 then zj x ks else zh x ks
mutual
def prT:Tr→Tks
 | .mk x l=>zAn x (prs l)
def prs:List Tr→List Kd
 | []=>[]
 | t::r=>(t.nd.kind,prT t)::prs r
end
theorem zAR (x:Nd) (l:List Tr):prT (.mk x l)=zAn x (prs l):=by rw[prT]
theorem zZ:prs []=[]:=by rw[prs]
theorem zI (t:Tr) (r:List Tr):prs (t::r)=(t.nd.kind,prT t)::prs r:=by rw[prs]
theorem zB7 (l:List Tr):prs l=l.map fun t=>(t.nd.kind,prT t):=by
 induction l with
 | nil=>rw[zZ];rfl
 | cons t r b=>rw[zI,b];rfl
theorem zOG (l:List Tr):(prs l).length=l.length:=by rw[zB7,List.length_map]
def zOH (u:List UInt16) (s:List UInt8):List UInt16:=(if u=[]then []else u++[32])++zU s
def zCu (u:List UInt16) (t:Tks):List UInt16:=t.foldl zOH u
def zEc (t:Tr):List UInt16:=zCu [] (prT t)
theorem zRp (u:List UInt16):zCu u []=u:=rfl
theorem zGa (u:List UInt16) (s:List UInt8) (t:Tks):zCu u (s::t)=zCu (zOH u s) t:=rfl
theorem zAC (u:List UInt16) (a b:Tks):zCu u (a++b)=zCu (zCu u a) b:=List.foldl_append ..
def zBh:Tks→Nat
 | []=>0
 | s::r=>s.length+1+zBh r
theorem zBx (a b:Tks):zBh (a++b)=zBh a+zBh b:=by
 induction a with
 | nil=>simp[zBh]
 | cons s r c=>simp only[List.cons_append,zBh,c];omega
theorem zRq (u:List UInt16) (s:List UInt8):(zOH u s).length≤u.length+(s.length+1):=by
 unfold zOH;rw[List.length_append];have:(zU s).length=s.length:=by simp[zU]
 split<;>simp[this]<;>omega
theorem zLS (t:Tks):∀u,(zCu u t).length≤u.length+zBh t:=by
 induction t with
 | nil=>intro u;exact yAC _
 | cons s r b=>
  intro u;rw[zGa];have h1:=b (zOH u s);have c:=zRq u s;unfold zBh;omega
structure Ps where
 k:Nat
 bad:Nat
 far:Nat
deriving DecidableEq
def zG (L:List Tok) (i:Nat):Tok:=L.getD i zq
def zAm (L:List Tok) (k j:Nat):Tok:=zG L (k+j)
def isT (t:Tok) (w:List UInt8):Bool:=decide (t.text=w)&&(t.kind==5 || t.kind==6)
def onP (L:List Tok) (w:List UInt8) (s:Ps):Bool:=isT (zG L s.k) w
def zB (s:Ps):Ps:={s with k:=s.k+1}
def zC6 (L:List Tok) (e:Nat) (s:Ps):Ps:=⟨L.length - 1,if s.bad=0 then e else s.bad,if s.bad=0 then s.k else s.far⟩
def za (L:List Tok) (s:Ps):Ps:=zC6 L (if(zG L s.k).kind=6∧zCW (zG L s.k).text=2 then 6 else 5) s
def zL (L:List Tok) (w:List UInt8) (s:Ps):Ps:=if onP L w s=true then zB s else za L s
def zc (L:List Tok) (s:Ps):List UInt8×Ps:=if(zG L s.k).kind=1 then((zG L s.k).text,zB s)else([],za L s)
def zDe (L:List Tok) (s:Ps):Bool:=(zG L s.k).nl || (zG L s.k).kind==0 || onP L [59] s || onP L [125] s
def zEY (L:List Tok) (s:Ps):Ps:=if onP L [59] s=true then zB s else if(onP L [125] s || (zG L s.k).kind==0 || (zG L s.k).nl)=true then s else za L s
def trK (k:Int) (l:List Tr):Tr:=.mk {zBo with kind:=k} l
def trN (k:Int) (n:List UInt8) (l:List Tr):Tr:=.mk {zBo with kind:=k,name:=n} l
def zEd (L:List Tok):Nat→Nat→Option Nat
 | 0,_=>none
 | f+1,i=>if(zG L i).kind=1 then(if isT (zG L (i+1)) [44]=true then zEd L f (i+2)else some (i+1))else none
def zBy (L:List Tok) (i:Nat):Bool:=isT (zG L i) [41]&&isT (zG L (i+1)) [61,62]
def zAh (L:List Tok) (s:Ps):Bool:=
 onP L [40] s&&(if isT (zG L (s.k+1)) [41]=true then zBy L (s.k+1)else match zEd L L.length (s.k+1)with | none=>false | some i=>zBy L i)
def zEe (w:List UInt8):Nat:=
 if w=[124]then 0 else if w=[94]then 1 else if w=[38]then 2
 else if w=[61,61]∨w=[33,61]∨w=[61,61,61]∨w=[33,61,61]then 3
 else if w=[60]∨w=[62]∨w=[60,61]∨w=[62,61]∨w=[105,110]then 4
 else if w=[60,60]∨w=[62,62]∨w=[62,62,62]then 5
 else if w=[43]∨w=[45]then 6
 else if w=[42]∨w=[47]∨w=[37]then 7 else 9
def zBE (t:Tok):Nat:=if t.kind=5∨isT t [105,110]=true then zEe t.text else 9
inductive Ph where
 | program (acc:List Tr)
 | block
 | blockL (acc:List Tr)
 | item
 | declares
 | declL (k:Int) (acc:List Tr)
 | func (k:Int) (n:List UInt8)
 | params
 | paramL (acc:List Tr)
 | statement
 | simple
 | word (w:List UInt8)
 | within
 | clause (w:List UInt8)
 | loop
 | jump (k:Int)
 | tries
 | assign
 | body (l:List Tr)
 | cond
 | either
 | nullL (x:Tr)
 | orL (x:Tr)
 | both (x:Tr)
 | level (n:Nat)
 | levelL (n:Nat) (x:Tr)
 | unary
 | calls
 | callsL (x:Tr)
 | head
 | headL (x:Tr)
 | args
 | list (w:List UInt8)
 | listL (w:List UInt8) (acc:List Tr)
 | primary
 | object
 | objL (acc:List Tr)
 | prop
def zBJ (t:Tok):Option (List UInt16):=
 if t.kind=4 then some t.str else if t.kind=2 then some (zU (zBZ t.nn.toNat))else if t.kind=1∨t.kind=6 then some (zU t.text)else none
def zD (L:List Tok) (R:Ph→Ps→Tr×Ps) (p:Ph) (s:Ps):Tr×Ps:=
 match p with
 | .program acc=>if(zG L s.k).kind=0 then(trK 1 acc,s)else R (.program (acc++[(R .item s).1])) (R .item s).2
 | .block=>R (.blockL []) (zL L [123] s)
 | .blockL acc=>
  if s.bad≠0 then(trK 4 acc,s)else if onP L [125] s=true then(trK 4 acc,zB s)
  else R (.blockL (acc++[(R .item s).1])) (R .item s).2
 | .item=>
  if(onP L [108,101,116] s || onP L [99,111,110,115,116] s)=true then((R .declares s).1,zEY L (R .declares s).2)
  else if onP L [102,117,110,99,116,105,111,110] s=true then R (.func 19 (zc L (zB s)).1) (zc L (zB s)).2
  else R .statement s
 | .declares=>if onP L [99,111,110,115,116] s=true then R (.declL 6 []) (zB s)else R (.declL 5 []) (zL L [108,101,116] s)
 | .declL k acc=>
  let n:=zc L s
  let d:=if onP L [61] n.2=true then(trN 7 n.1 [(R .assign (zB n.2)).1],(R .assign (zB n.2)).2)else(trN 7 n.1 [],n.2)
  if d.2.bad≠0 then(trK k (acc++[d.1]),d.2)else if onP L [44] d.2=true then R (.declL k (acc++[d.1])) (zB d.2)else(trK k (acc++[d.1]),d.2)
 | .func k n=>
  let ps:=R .params s
  let b:=R .block ps.2
  (trN k n (ps.1.subs++[b.1]),b.2)
 | .params=>
  let s1:=zL L [40] s
  if onP L [41] s1=true then(trK 0 [],zB s1)else R (.paramL []) s1
 | .paramL acc=>
  let n:=zc L s
  let a:=acc++[trN 20 n.1 []]
  if n.2.bad≠0 then(trK 0 a,n.2)else if onP L [41] n.2=true then(trK 0 a,zB n.2)else R (.paramL a) (zL L [44] n.2)
 | .statement=>
  let t:=zG L s.k
  if t.kind=1∧isT (zAm L s.k 1) [58]=true then(trN 18 t.text [(R .statement (zB (zB s))).1],(R .statement (zB (zB s))).2)
  else if t.kind=6 then R (.word t.text) s
  else if onP L [59] s=true then(trK 2 [],zB s)
  else if onP L [123] s=true then R .block s
  else R .simple s
 | .simple=>(trK 3 [(R .assign s).1],zEY L (R .assign s).2)
 | .word w=>
  if w=[105,102]then
   let e:=R .within (zB s)
   let b:=R .statement e.2
   if onP L [101,108,115,101] b.2=true then(trK 8 [e.1,b.1,(R .statement (zB b.2)).1],(R .statement (zB b.2)).2)else(trK 8 [e.1,b.1],b.2)
  else if w=[119,104,105,108,101]then
   let e:=R .within (zB s)
   let b:=R .statement e.2
   (trK 9 [e.1,b.1],b.2)
  else if w=[102,111,114]then R .loop s
  else if w=[98,114,101,97,107]then R (.jump 12) s
  else if w=[99,111,110,116,105,110,117,101]then R (.jump 13) s
  else if w=[114,101,116,117,114,110]then
   (if zDe L (zB s)=true then(trK 14 [],zEY L (zB s))else(trK 14 [(R .assign (zB s)).1],zEY L (R .assign (zB s)).2))
  else if w=[116,104,114,111,119]then
   let s1:=if(zG L (zB s).k).nl=true then za L (zB s)else zB s
   (trK 15 [(R .assign s1).1],zEY L (R .assign s1).2)
  else if w=[116,114,121]then R .tries s
  else if w=[102,117,110,99,116,105,111,110]∨w=[108,101,116]∨w=[99,111,110,115,116]then(trK 2 [],za L s)
  else R .simple s
 | .within=>((R .assign (zL L [40] s)).1,zL L [41] (R .assign (zL L [40] s)).2)
 | .clause w=>if onP L w s=true then(trK 11 [],zL L w s)else((R .assign s).1,zL L w (R .assign s).2)
 | .loop=>
  let s1:=zL L [40] (zB s)
  let a:=if(onP L [108,101,116] s1 || onP L [99,111,110,115,116] s1)=true then((R .declares s1).1,zL L [59] (R .declares s1).2)else R (.clause [59]) s1
  let b:=R (.clause [59]) a.2
  let c:=R (.clause [41]) b.2
  let d:=R .statement c.2
  (trK 10 [a.1,b.1,c.1,d.1],d.2)
 | .jump k=>
  if(zG L (zB s).k).kind=1∧(zG L (zB s).k).nl=false then(trN k (zc L (zB s)).1 [],zEY L (zc L (zB s)).2)
  else(trK k [],zEY L (zB s))
 | .tries=>
  let b:=R .block (zB s)
  let s1:=if(onP L [99,97,116,99,104] b.2 || onP L [102,105,110,97,108,108,121] b.2)=true then b.2 else za L b.2
  let c:=if onP L [99,97,116,99,104] s1=true then
   (let n:=if onP L [40] (zB s1)=true then((zc L (zB (zB s1))).1,zL L [41] (zc L (zB (zB s1))).2)else([],zB s1)
    (trN 17 n.1 [(R .block n.2).1],(R .block n.2).2))
   else(trK 11 [],s1)
  if onP L [102,105,110,97,108,108,121] c.2=true then(trK 16 [b.1,c.1,(R .block (zB c.2)).1],(R .block (zB c.2)).2)else(trK 16 [b.1,c.1,trK 11 []],c.2)
 | .assign=>
  let t:=zG L s.k
  if t.kind=1∧isT (zAm L s.k 1) [61,62]=true∧(zAm L s.k 1).nl=false then R (.body [trN 20 t.text []]) (zB s)
  else if zAh L s=true then R (.body (R .params s).1.subs) (R .params s).2
  else
   let x:=R .cond s
   let o:=zG L x.2.k
   if o.kind≠5∨¬o.text∈zIF then x
   else if zAB x.1.nd.kind=false then(x.1,zC6 L 5 x.2)
   else(trN 49 o.text [x.1,(R .assign (zB x.2)).1],(R .assign (zB x.2)).2)
 | .body l=>
  let s1:=zL L [61,62] (if(zG L s.k).nl=true then za L s else s)
  let b:=if onP L [123] s1=true then R .block s1 else R .assign s1
  (trK 42 (l++[b.1]),b.2)
 | .cond=>
  let x:=R .either s
  if onP L [63] x.2=true then
   let a:=R .assign (zB x.2)
   let b:=R .assign (zL L [58] a.2)
   (trK 48 [x.1,a.1,b.1],b.2)
  else x
 | .either=>
  let x:=R (.level 0) s
  if onP L [63,63] x.2=true then
   let r:=R (.nullL x.1) x.2
   (r.1,if(onP L [124,124] r.2 || onP L [38,38] r.2)=true then za L r.2 else r.2)
  else
   let y:=R (.both x.1) x.2
   let r:=R (.orL y.1) y.2
   (r.1,if onP L [63,63] r.2=true then za L r.2 else r.2)
 | .nullL x=>if onP L [63,63] s=true then R (.nullL (trN 47 [63,63] [x,(R (.level 0) (zB s)).1])) (R (.level 0) (zB s)).2 else(x,s)
 | .orL x=>
  if onP L [124,124] s=true then
   let y:=R (.level 0) (zB s)
   let z:=R (.both y.1) y.2
   R (.orL (trN 47 [124,124] [x,z.1])) z.2
  else(x,s)
 | .both x=>if onP L [38,38] s=true then R (.both (trN 47 [38,38] [x,(R (.level 0) (zB s)).1])) (R (.level 0) (zB s)).2 else(x,s)
 | .level n=>
  if n=8 then R .unary s else R (.levelL n (R (.level (n+1)) s).1) (R (.level (n+1)) s).2
 | .levelL n x=>
  if zBE (zG L s.k)=n then R (.levelL n (trN 46 (zG L s.k).text [x,(R (.level (n+1)) (zB s)).1])) (R (.level (n+1)) (zB s)).2 else(x,s)
 | .unary=>
  let t:=zG L s.k
  if(t.kind=5∨t.kind=6)∧t.text∈zHK then(trN 43 t.text [(R .unary (zB s)).1],(R .unary (zB s)).2)
  else if(t.kind=5∨t.kind=6)∧t.text∈zDO then
   let r:=R .unary (zB s)
   (trN 44 t.text [r.1],if r.2.bad=0∧zAB r.1.nd.kind=false then za L r.2 else r.2)
  else
   let x:=R .calls s
   let o:=zG L x.2.k
   if o.kind=5∧o.text∈zDO∧o.nl=false then(if zAB x.1.nd.kind=false then(x.1,za L x.2)else(trN 45 o.text [x.1],zB x.2))else x
 | .calls=>R (.callsL (R .head s).1) (R .head s).2
 | .callsL x=>
  if onP L [40] s=true then R (.callsL (trK 50 (x::(R .args s).1.subs))) (R .args s).2
  else if onP L [46] s=true then
   (if(zG L (zB s).k).kind≠1∧(zG L (zB s).k).kind≠6 then(x,za L (zB s))else R (.callsL (trN 52 (zG L (zB s).k).text [x])) (zB (zB s)))
  else if onP L [91] s=true then R (.callsL (trK 53 [x,(R .assign (zB s)).1])) (zL L [93] (R .assign (zB s)).2)
  else(x,s)
 | .head=>
  if onP L [110,101,119] s=true then
   let x:=R .head (zB s)
   let y:=R (.headL x.1) x.2
   if onP L [40] y.2=true then(trK 51 (y.1::(R .args y.2).1.subs),(R .args y.2).2)else(trK 51 [y.1],y.2)
  else R .primary s
 | .headL x=>
  if onP L [46] s=true then
   (if(zG L (zB s).k).kind≠1∧(zG L (zB s).k).kind≠6 then(x,za L (zB s))else R (.headL (trN 52 (zG L (zB s).k).text [x])) (zB (zB s)))
  else if onP L [91] s=true then R (.headL (trK 53 [x,(R .assign (zB s)).1])) (zL L [93] (R .assign (zB s)).2)
  else(x,s)
 | .args=>R (.list [41]) (zL L [40] s)
 | .list w=>if onP L w s=true then(trK 0 [],zB s)else R (.listL w []) s
 | .listL w acc=>
  let a:=R .assign s
  if a.2.bad≠0 then(trK 0 (acc++[a.1]),a.2)else if onP L w a.2=true then(trK 0 (acc++[a.1]),zB a.2)else R (.listL w (acc++[a.1])) (zL L [44] a.2)
 | .primary=>
  let t:=zG L s.k
  if t.kind=0 then(trK 0 [],za L s)
  else if t.kind=2 then(.mk {zBo with kind:=30,nk:=t.nk,nn:=t.nn} [],zB s)
  else if t.kind=3 then(.mk {zBo with kind:=31,mag:=t.mag} [],zB s)
  else if t.kind=4 then(.mk {zBo with kind:=32,str:=t.str} [],zB s)
  else if t.kind=1 then(trN 33 t.text [],zB s)
  else if t.text=[116,114,117,101]then(trK 34 [],zB s)
  else if t.text=[102,97,108,115,101]then(trK 35 [],zB s)
  else if t.text=[110,117,108,108]then(trK 36 [],zB s)
  else if t.text=[116,104,105,115]then(trK 37 [],zB s)
  else if t.text=[91]then(trK 38 (R (.list [93]) (zB s)).1.subs,(R (.list [93]) (zB s)).2)
  else if t.text=[123]then R .object (zB s)
  else if t.text=[102,117,110,99,116,105,111,110]then
   (if(zG L (zB s).k).kind=1 then R (.func 41 (zc L (zB s)).1) (zc L (zB s)).2 else R (.func 41 []) (zB s))
  else if t.text=[40]then((R .assign (zB s)).1,zL L [41] (R .assign (zB s)).2)
  else(trK 0 [],if(onP L [47] s || onP L [47,61] s)=true then zC6 L 6 s else za L s)
 | .object=>if onP L [125] s=true then(trK 39 [],zB s)else R (.objL []) s
 | .objL acc=>
  let a:=R .prop s
  if a.2.bad≠0 then(trK 39 (acc++[a.1]),a.2)else if onP L [125] a.2=true then(trK 39 (acc++[a.1]),zB a.2)else R (.objL (acc++[a.1])) (zL L [44] a.2)
 | .prop=>
  let t:=zG L s.k
  match zBJ t with
  | none=>(trK 40 [],za L s)
  | some u=>
   if t.kind=1∧onP L [58] (zB s)=false then(.mk {zBo with kind:=40,str:=u} [trN 33 t.text []],zB s)
   else(.mk {zBo with kind:=40,str:=u} [(R .assign (zL L [58] (zB s))).1],(R .assign (zL L [58] (zB s))).2)
def zF9 (L:List Tok):Nat→Ph→Ps→Tr×Ps
 | 0,_,s=>(trK 0 [],zC6 L 99 s)
 | f+1,p,s=>zD L (zF9 L f) p s
def zr:Ph→Ps→Nat
 | .program _,_=>60
 | .blockL _,s=>if s.bad≠0 then 0 else 60
 | .item,_=>58
 | .declares,_=>57
 | .declL _ _,_=>56
 | .statement,_=>57
 | .word _,_=>56
 | .func _ _,_=>55
 | .loop,_=>55
 | .jump _,_=>55
 | .tries,_=>55
 | .simple,_=>55
 | .list _,_=>52
 | .object,_=>52
 | .listL _ _,_=>51
 | .objL _,_=>51
 | .block,_=>50
 | .within,_=>50
 | .clause _,_=>50
 | .prop,_=>50
 | .body _,_=>46
 | .assign,_=>45
 | .cond,_=>44
 | .either,_=>43
 | .nullL _,_=>42
 | .orL _,_=>42
 | .both _,_=>42
 | .params,_=>41
 | .paramL _,_=>40
 | .level n,_=>40 - 2*n
 | .levelL n _,_=>39 - 2*n
 | .unary,_=>23
 | .calls,_=>22
 | .head,_=>21
 | .primary,_=>20
 | .callsL _,_=>19
 | .headL _,_=>18
 | .args,_=>10
def zk (L:List Tok) (p:Ph) (s:Ps):Nat:=(L.length - s.k)*64+zr p s
def zE (L:List Tok) (p:Ph) (s:Ps):Tr×Ps:=zF9 L (zk L p s+1) p s
def zBF (u:List UInt16):List Nd×Nat×Nat:=
 if(zC3 u).2.2≠0 then([],(zC3 u).2)
 else
  let r:=zE (zC3 u).1 (.program []) ⟨0,0,0⟩
  if r.2.bad≠0 then([],(zG (zC3 u).1 r.2.far).pos,r.2.bad)
  else if 4096 < r.1.size then([],0,3)
  else if 48 < depT r.1 then([],0,7)
  else(flatT 0 r.1,0,0)
end Go.Proofs.YtlnbbaehihgigaaGreatDoor
