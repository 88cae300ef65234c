/- Joined for the claim ParseBlocks: the parser, the lexer and the trees as they are walked, made short by a program of mine. -/
import Derived.Test.YtlohaclgbfhijaaGreatDoorProg
import Derived.WalkKit
import Derived.WalkSpells
import Derived.WalkLawsBesides
import Derived.Deep.AppendLies
import Derived.Deep.Draws
import Derived.Deep.QuietTactic
import Derived.BigQuiet
import Derived.Maps.AppendAt
import Derived.RegionTactic
import Derived.Lib.Hide
import Derived.Handy
import Derived.Shelf.Small.Strs
import Derived.Shelf.Strconv.Itoa0
import Derived.Shelf.Strconv.Itoa1
import Derived.Shelf.LaysM
import Derived.Shelf.Strconv.Itoa2
import Derived.Shelf.Strconv.Itoa3
import Derived.Shelf.Strings.Search1
import Derived.Shelf.Slices.Turned
import Derived.Shelf.Slices.Equal
import Derived.Ground.Names2Prog
import Derived.Shelf.Slices.Clone
import Derived.Shelf.Slices.Empties2
import Derived.Ground.SlgnProg
import Derived.Shelf.SlicesE.Clone
import Derived.Lib.DecodeN
import Derived.Lib.AppendIntMem
import Derived.Deep.CutBlock
import Derived.Deep.DeepCutAuto
import Derived.Test.YtlohaclgbfhijaaGreatDoorCards
import Derived.Test.YtlohaclgbfhijaaGreatDoorTie
import Derived.ProofKit
import Derived.OpenShut
import Derived.Deep.DeepHandedRow
import Derived.Lib.LaidTab
set_option maxHeartbeats 16000000
set_option maxRecDepth 1000000
namespace Go.Proofs.YtlohaclgbfhijaaGreatDoor
open Go.Proofs.Tryz
abbrev yA:=@beq_eq_false_iff_ne
abbrev yAA:=@Nat.lt_of_lt_of_le
abbrev yAB:=@Nat.le_succ_of_le
abbrev yAC:=@List.getElem?_eq_getElem
abbrev yAD:=@Nat.le_refl
abbrev yAE:=@Nat.le_trans
abbrev yAF:=@Nat.zero_le
abbrev yAG:=@Nat.lt_succ_self
abbrev yAH:=@List.getD_eq_getElem?_getD
abbrev yAI:=@List.drop_eq_getElem_cons
abbrev yAJ:=@decide_eq_false
abbrev yAK:=@World.ownsRow_nil
abbrev yAL:=@Decidable.not_not
abbrev yAM:=@List.take_succ_eq_append_getElem
open Go.RowKit
theorem zD {p:Prop} (h:p):Hid p:=h
theorem zJ {a b:Bool} (h:a=b):Ending.returned (.bool a)=.returned (.bool b):=by rw[h]
theorem zE1 {k:IntKind} {a b:Int} (h:a=b):Ending.returned (.int k a)=.returned (.int k b):=by rw[h]
theorem zAa {B:Nat} {a w:World} (h:Below B a w) (n:Nat):Below B a (w.drewN n):=⟨h.os,h.tape,h.output,h.size,h.block⟩
theorem zC0 (a:Addr) (n:Nat):(a.add n).block=a.block:=by unfold Addr.add;split<;>rfl
theorem zJx (a:Addr) (i j:Nat):(a.add i).add j=a.add (i+j):=by
 unfold Addr.add
 by_cases hi:i=0<;>by_cases hj:j=0<;>simp[hi,hj,Nat.add_assoc]
def Reads (w:World) (B size:Nat) (A:Option Addr) (n:Nat) (xs:List Value):Prop:=
 xs.length=n*size∧(0 < n→∃ad,A=some ad∧ad.block < B∧∀j u,xs[j]? =some u→w.cell? (ad.add j)=some u)
section
variable {w w':World} {B B' size n:Nat} {A:Option Addr} {xs:List Value}
theorem Reads.none_:Reads w B size A 0 []:=⟨by simp,fun h=>absurd h (by omega)⟩
theorem Reads.at_ {k:Nat} (h:Reads w B 1 A n xs) (hk:k < n):∃ad u,A=some ad∧ad.block < B∧xs[k]? =some u∧w.cell? (ad.add k)=some u:=by
 obtain⟨ad,e,hb,hc⟩:=h.2 (by omega);have hl:k < xs.length:=by have:=h.1;omega
 exact⟨ad,xs[k],e,hb,yAC hl,hc k _ (yAC hl)⟩
theorem Reads.keep (h:Reads w B size A n xs) (hk:∀p:Addr,p.block < B→w'.cell? p=w.cell? p):Reads w' B size A n xs:=
 ⟨h.1,fun hn=>by
  obtain⟨ad,e,hb,hc⟩:=h.2 hn;exact⟨ad,e,hb,fun j u hu=>(hk _ (by rw[zC0];exact hb)).trans (hc j u hu)⟩⟩
theorem Reads.more (h:Reads w B size A n xs) (hB:B≤B'):Reads w B' size A n xs:=
 ⟨h.1,fun hn=>by
  obtain⟨ad,e,hb,hc⟩:=h.2 hn;exact⟨ad,e,by omega,hc⟩⟩
theorem Reads.below (h:Reads w B size A n xs) (hb:Below B w w'):Reads w' B size A n xs:=h.keep fun _ hp=>hb.cell hp
theorem Reads.drewN (h:Reads w B size A n xs) (k:Nat):Reads (w.drewN k) B size A n xs:=h
theorem Reads.alloc (h:Reads w B size A n xs) (hB:B≤w.heap.size) (o:Obj):Reads (w.alloc o) B size A n xs:=h.keep fun p hp=>World.cell?_alloc_lt w o p (by omega)
theorem Reads.cut (h:Reads w B size A n xs) {k cap:Nat} (hk:k≤n) (hc:n≤cap):
 Reads w B size (if cap=k then A else A.map (·.add (k*size))) (n - k) (xs.drop (k*size)):=by
 refine⟨by rw[List.length_drop,h.1,Nat.sub_mul],fun hn=>?_⟩;obtain⟨ad,rfl,hb,hcell⟩:=h.2 (by omega);rw[if_neg (by omega)];refine⟨ad.add (k*size),rfl,by rw[zC0];exact hb,fun j u hu=>?_⟩;rw[zJx];exact hcell _ u (by rw[←hu,List.getElem?_drop])
theorem Reads.take (h:Reads w B size A n xs) {k:Nat} (hk:k≤n):Reads w B size A k (xs.take (k*size)):=by
 refine⟨by rw[List.length_take,h.1];exact Nat.min_eq_left (Nat.mul_le_mul_right _ hk),fun hn=>?_⟩;obtain⟨ad,rfl,hb,hcell⟩:=h.2 (by omega);refine⟨ad,rfl,hb,fun j u hu=>hcell j u ?_⟩;rw[List.getElem?_take]at hu;split at hu
 · exact hu
 · cases hu
theorem Reads.of_own {base:Nat} {e:TypeId} {c:Nat} (h:w.ownsRow base e size (.slice A n c) n xs):Reads w w.heap.size size A n xs:=by
 refine⟨h.1,fun hn=>?_⟩;obtain⟨g,cap,hv,_,hlt⟩:=h.form hn;have hA:A=some ⟨g,0,none⟩:=by injection hv
 subst hA;exact⟨_,rfl,hlt,h.cells (g:=g) rfl⟩
end
theorem zZ {w:World} {base:Nat} {e:TypeId} {size n:Nat} {v:Value} {xs:List Value} (h:w.ownsRow base e size v n xs):
 ∃A c,v=.slice A n c∧n≤c∧c≤maxLen:=by
 rcases h.2 with⟨rfl,rfl⟩ | ⟨g,cap,cur,rfl,_,_,hnc,hm,_⟩
 · exact⟨none,0,rfl,yAD _,by unfold maxLen;omega⟩
 · exact⟨_,cap,rfl,hnc,hm⟩
def u8v (x:UInt8):Value:=.int .u8 (x.toNat:Int)
def zTl (x:UInt16):Value:=.int .u16 (x.toNat:Int)
def u8s (l:List UInt8):List Value:=l.map u8v
def zAM (l:List UInt16):List Value:=l.map zTl
theorem zOk (l:List UInt16):∀u∈zAM l,u.oneCell'=true:=by
 intro u hu;obtain⟨_,_,rfl⟩:=List.mem_map.1 hu;rfl
theorem zCH (l:List UInt16):(zAM l).length=l.length:=by simp[zAM]
theorem zLp (l:List UInt8):(u8s l).length=l.length:=by simp[u8s]
structure Made (w0 w:World) (e:TypeId) (v:Value) (xs:List Value):Prop where
 own:w.ownsRow w0.heap.size e 1 v xs.length xs
 below:Below w0.heap.size w0 w
theorem Made.nil (w0:World) (e:TypeId):Made w0 w0 e (.slice none 0 0) []:=⟨yAK _ _ _ _,Below.refl _ _⟩
theorem Made.shape {w0 w:World} {e:TypeId} {v:Value} {xs:List Value} (h:Made w0 w e v xs):
 ∃A c,v=.slice A xs.length c∧xs.length≤c∧c≤maxLen∧Reads w w.heap.size 1 A xs.length xs:=by
 obtain⟨A,c,hv,h1,h2⟩:=zZ h.own;have h':=h.own;rw[hv]at h';exact⟨A,c,hv,h1,h2,Reads.of_own h'⟩
theorem Made.alloc {w0 w:World} {e:TypeId} {v:Value} {xs:List Value} (h:Made w0 w e v xs) (o:Obj):Made w0 (w.alloc o) e v xs:=
 ⟨h.own.alloc o,h.below.alloc h.below.size o⟩
theorem Made.cells {w0 w:World} {e:TypeId} {v:Value} {xs ys:List Value} (h:Made w0 w e v xs) (e1:xs=ys):Made w0 w e v ys:=e1▸h
section
variable {P:Program} {w0 w:World} {ops:Array Oper} {rest:List Oper} {o:Oper} {a:Act} {Q:Exit→Act→World→Prop}
theorem zJy (hgd:o.guard=none) (s x:Operand) (t:TypeId)
 (ho:o.op=.call {callee:=.builtin .append,args:=#[s,x],argTypes:=#[t,t]})
 (e:TypeId) (i:TypeInfo) (z:Value) (bytes:Nat) (ht:P.underlying t=some (.slice e)) (hi:P.info? e=some i) (hz:i.zero=some z)
 (hsize:i.size=1) (hby:i.bytes=bytes) (hzs:z.cells.size=1)
 (v:Value) (xs:List Value) (hs:a.eval s=v) (hm:Made w0 w e v xs)
 (ad:Addr) (m c:Nat) (news:List Value) (hx:a.eval x=.slice (some ad) m c) (hl:news.length=m) (hnews:∀j u,news[j]? =some u→w.cell? (ad.add j)=some u) (h1:∀u∈news,u.oneCell'=true)
 (hsz:xs.length+m≤70368744177664) (hb2:bytes≤2)
 (h:∀v' w',Made w0 w' e v' (xs++news)→w.grownBy w' v.ownBlock→wpList P ops Q rest (a.put o.dst v') w'):wpList P ops Q (o::rest) a w:=by
 subst hl;refine wpList_append_own w hgd s x t ho w0.heap.size e i z 1 bytes ht hi hz hsize hby hzs (by omega) v xs.length xs hs hm.own ad _ c news hx (by omega) hnews h1 (by unfold maxLen;omega) ?_ hm.below.size ?_
 · calc (xs.length+news.length)*bytes≤70368744177664*2:=Nat.mul_le_mul hsz hb2
    _≤140737488355328:=by omega
 · intro v' w' h1 h2 _;refine h v' w' ⟨by rw[List.length_append];exact h1,hm.below.grown h2 hm.below.size (fun k hk=>(hm.own.lt k hk).1)⟩ h2
theorem zEH (hgd:o.guard=none) (s x:Operand) (t:TypeId)
 (ho:o.op=.call {callee:=.builtin .append,args:=#[s,x],argTypes:=#[t,t]})
 (e:TypeId) (i:TypeInfo) (z:Value) (bytes:Nat) (ht:P.underlying t=some (.slice e)) (hi:P.info? e=some i) (hz:i.zero=some z)
 (hsize:i.size=1) (hby:i.bytes=bytes) (hzs:z.cells.size=1)
 (v:Value) (xs:List Value) (hs:a.eval s=v) (hm:Made w0 w e v xs)
 (cs:List Value) (m c:Nat) (hx:a.eval x=.slice (some ⟨w.heap.size,0,none⟩) m c) (hl:cs.length=m) (h1:(cs.all fun u=>u.oneCell')=true)
 (hsz:xs.length+m≤70368744177664) (hb2:bytes≤2)
 (h:∀v' w',Made w0 w' e v' (xs++cs)→wpList P ops Q rest (a.put o.dst v') w'):wpList P ops Q (o::rest) a (w.alloc (.cells cs.toArray e)):=by
 refine zJy hgd s x t ho e i z bytes ht hi hz hsize hby hzs v xs hs (hm.alloc _) ⟨w.heap.size,0,none⟩ m c cs hx hl ?_ (fun u hu=>List.all_eq_true.1 h1 u hu) hsz hb2 (fun v' w' h' _=>h v' w' h');intro j u hu;rw[Addr.add_lit,World.cell?_alloc_at _ _ _ _ rfl];simpa using hu
end
theorem Tryz.info_u16:(prog.info? 24).map (fun i=>(i.zero,i.size,i.bytes))=some (some (.int .u16 0),1,2):=by kernel_rfl
theorem Tryz.info_u8:(prog.info? 5).map (fun i=>(i.zero,i.size,i.bytes))=some (some (.int .u8 0),1,1):=by kernel_rfl
theorem Made.u16 {w0 w:World} {e:TypeId} {v:Value} {xs:List UInt16} (h:Made w0 w e v (zAM xs)):
 ∃A c,v=.slice A xs.length c∧xs.length≤c∧c≤maxLen∧Reads w w.heap.size 1 A xs.length (zAM xs):=by
 obtain⟨A,c,hv,h1,h2,h3⟩:=h.shape;have e:(zAM xs).length=xs.length:=by simp[zAM]
 rw[e]at hv h1 h3;exact⟨A,c,hv,h1,h2,h3⟩
theorem Made.u8 {w0 w:World} {e:TypeId} {v:Value} {xs:List UInt8} (h:Made w0 w e v (u8s xs)):
 ∃A c,v=.slice A xs.length c∧xs.length≤c∧c≤maxLen∧Reads w w.heap.size 1 A xs.length (u8s xs):=by
 obtain⟨A,c,hv,h1,h2,h3⟩:=h.shape;have e:(u8s xs).length=xs.length:=by simp[u8s]
 rw[e]at hv h1 h3;exact⟨A,c,hv,h1,h2,h3⟩
theorem Reads.u16 {w:World} {B n:Nat} {A:Option Addr} {xs:List UInt16} (h:Reads w B 1 A n (zAM xs)) {k:Nat} (hk:k < xs.length):
 ∃ad,A=some ad∧ad.block < B∧w.cell? (ad.add k)=some (.int .u16 (xs[k].toNat:Int)):=by
 have hl:xs.length=n:=by have:=h.1;simpa [zAM]using this
 obtain⟨ad,u,e,hb,hx,hc⟩:=h.at_ (k:=k) (by omega);refine⟨ad,e,hb,?_⟩;rw[hc];simp[zAM,hk]at hx;rw[←hx];rfl
theorem Addr.add_zero (a:Addr):a.add 0=a:=by simp[Addr.add]
theorem Reads.u16_0 {w:World} {B n:Nat} {A:Option Addr} {xs:List UInt16} (h:Reads w B 1 A n (zAM xs)) (hk:0 < xs.length):
 ∃ad,A=some ad∧ad.block < B∧w.cell? ad=some (.int .u16 (xs[0].toNat:Int)):=by
 obtain⟨ad,h1,h2,h3⟩:=h.u16 hk;rw[Addr.add_zero]at h3;exact⟨ad,h1,h2,h3⟩
theorem Reads.cut16 {w:World} {B c:Nat} {A:Option Addr} {xs:List UInt16} (h:Reads w B 1 A xs.length (zAM xs)) {k:Nat} (hk:k≤xs.length) (hc:xs.length≤c):
 Reads w B 1 (if c=k then A else A.map (·.add k)) (xs.drop k).length (zAM (xs.drop k)):=by
 have h1:=h.cut (k:=k) (cap:=c) hk hc;simp only[Nat.mul_one]at h1;rw[List.length_drop];simpa [zAM,List.map_drop]using h1
theorem Reads.take16 {w:World} {B n:Nat} {A:Option Addr} {xs:List UInt16} (h:Reads w B 1 A n (zAM xs)) {k:Nat} (hk:k≤xs.length):
 Reads w B 1 A (xs.take k).length (zAM (xs.take k)):=by
 have hl:xs.length=n:=by have:=h.1;simpa [zAM]using this
 have h1:=h.take (k:=k) (by omega);rw[List.length_take,Nat.min_eq_left hk];simpa [zAM,List.map_take]using h1
theorem zRm {k:IntKind} {n m:Int} {a b:Bool} (h:n=m) (h2:a=b):Ending.returned (.tuple #[.int k n,.bool a])=.returned (.tuple #[.int k m,.bool b]):=by rw[h,h2]
end Go.Proofs.YtlohaclgbfhijaaGreatDoor
namespace Go.Proofs
open Go.Proofs.Tryz
open Go.Shelf
def Tryz.laysM171_ren:Go.Shelf.Ren:=⟨fun | 171=>166 | 243=>194 | 246=>200 | 283=>203 | 284=>204 | 285=>205 | 286=>206 | 129=>210 | 317=>209 | 318=>211 | 319=>212 | 320=>213 | 337=>215 | 338=>216 | n=>n,fun | 3=>3 | 9=>9 | 2=>2 | 4=>4 | 171=>188 | 0=>0 | 53=>170 | 37=>51 | 5=>5 | 173=>191 | 212=>195 | 51=>87 | 20=>20 | 213=>196 | 46=>111 | 232=>201 | 233=>202 | n=>n,fun | 17=>3 | 18=>4 | 19=>5 | n=>n⟩
theorem Tryz.laysM171:Go.Proofs.LaysM.n171 prog Tryz.laysM171_ren:={
 mixed:=by kernel_rfl
 f129:=func210.trans (congrArg some (by kernel_rfl))
 f171:=func166.trans (congrArg some (by kernel_rfl))
 f243:=func194.trans (congrArg some (by kernel_rfl))
 f246:=func200.trans (congrArg some (by kernel_rfl))
 f283:=func203.trans (congrArg some (by kernel_rfl))
 f284:=func204.trans (congrArg some (by kernel_rfl))
 f285:=func205.trans (congrArg some (by kernel_rfl))
 f286:=func206.trans (congrArg some (by kernel_rfl))
 f317:=func209.trans (congrArg some (by kernel_rfl))
 f318:=func211.trans (congrArg some (by kernel_rfl))
 f319:=func212.trans (congrArg some (by kernel_rfl))
 f320:=func213.trans (congrArg some (by kernel_rfl))
 f337:=func215.trans (congrArg some (by kernel_rfl))
 f338:=func216.trans (congrArg some (by kernel_rfl))
 t0:=underlying0
 a0:=Tryz.isAgg0
 z0:=Tryz.sizeOf0
 v0:=Tryz.zeroValue0
 t2:=underlying2
 a2:=Tryz.isAgg2
 z2:=Tryz.sizeOf2
 v2:=Tryz.zeroValue2
 t3:=underlying3
 a3:=Tryz.isAgg3
 z3:=Tryz.sizeOf3
 v3:=Tryz.zeroValue3
 t4:=underlying4
 a4:=Tryz.isAgg4
 z4:=Tryz.sizeOf4
 v4:=Tryz.zeroValue4
 t5:=underlying5
 a5:=Tryz.isAgg5
 z5:=Tryz.sizeOf5
 v5:=Tryz.zeroValue5
 t9:=underlying9
 a9:=Tryz.isAgg9
 z9:=Tryz.sizeOf9
 v9:=Tryz.zeroValue9
 t20:=underlying20
 a20:=Tryz.isAgg20
 z20:=Tryz.sizeOf20
 v20:=Tryz.zeroValue20
 t37:=underlying51
 a37:=Tryz.isAgg51
 z37:=Tryz.sizeOf51
 v37:=Tryz.zeroValue51
 t46:=underlying111
 a46:=Tryz.isAgg111
 z46:=Tryz.sizeOf111
 v46:=Tryz.zeroValue111
 t51:=underlying87
 a51:=Tryz.isAgg87
 z51:=Tryz.sizeOf87
 v51:=Tryz.zeroValue87
 t53:=underlying170
 a53:=Tryz.isAgg170
 z53:=Tryz.sizeOf170
 v53:=Tryz.zeroValue170
 t171:=underlying188
 a171:=Tryz.isAgg188
 z171:=Tryz.sizeOf188
 v171:=Tryz.zeroValue188
 t173:=underlying191
 a173:=Tryz.isAgg191
 z173:=Tryz.sizeOf191
 v173:=Tryz.zeroValue191
 t212:=underlying195
 a212:=Tryz.isAgg195
 z212:=Tryz.sizeOf195
 v212:=Tryz.zeroValue195
 t213:=underlying196
 a213:=Tryz.isAgg196
 z213:=Tryz.sizeOf196
 t232:=underlying201
 a232:=Tryz.isAgg201
 z232:=Tryz.sizeOf201
 v232:=Tryz.zeroValue201
 t233:=underlying202
 a233:=Tryz.isAgg202
 z233:=Tryz.sizeOf202
 v233:=Tryz.zeroValue202
 g17:=by kernel_rfl
 g18:=by kernel_rfl
 g19:=by kernel_rfl
 i0:=by kernel_rfl
 i2:=by kernel_rfl
 i3:=by kernel_rfl
 i4:=by kernel_rfl
 i5:=by kernel_rfl
 i9:=by kernel_rfl
 i20:=by kernel_rfl
 i37:=by kernel_rfl
 i46:=by kernel_rfl
 i51:=by kernel_rfl
 i53:=by kernel_rfl
 i171:=by kernel_rfl
 i173:=by kernel_rfl
 i212:=by kernel_rfl
 i232:=by kernel_rfl
 i233:=by kernel_rfl
 m17:=by kernel_rfl
 m18:=by kernel_rfl
 m19:=by kernel_rfl}
open Go.RowKit Go.Sort Go.Lib in
theorem Tryz.strconv_Itoa (n : Int) (h0 : -9223372036854775808 ≤ n) (h1 : n ≤ 9223372036854775807) (w : World) (htab : Lib.TabIs prog w "internal/strconv.uint64pow10" .u64 Lib.pow10Tab) :
 Calls prog 166 #[.int .i64 n] w fun e w'=>e=.returned (.string ⟨(Lib.itoa n).toArray⟩)∧∃k os,w'=grow (w.drewN k) os:=Any.strconv_Itoa Tryz.laysM171 n h0 h1 w htab
def Tryz.laysNm215_ren:Go.Shelf.Ren:=⟨fun | 15=>38 | n=>n,fun | 22=>32 | 3=>3 | 4=>4 | n=>n,fun | n=>n⟩
theorem Tryz.laysNm215:Go.Proofs.Lays2.n15 prog Tryz.laysNm215_ren:={
 mixed:=by kernel_rfl
 f15:=func38.trans (congrArg some (by kernel_rfl))
 t3:=underlying3
 a3:=Tryz.isAgg3
 z3:=Tryz.sizeOf3
 v3:=Tryz.zeroValue3
 t4:=underlying4
 a4:=Tryz.isAgg4
 z4:=Tryz.sizeOf4
 v4:=Tryz.zeroValue4
 t22:=underlying32
 a22:=Tryz.isAgg32
 z22:=Tryz.sizeOf32
 v22:=Tryz.zeroValue32
 i3:=by kernel_rfl}
open Go.RowKit Go.Lib in
theorem Tryz.slices_Clone_int (b off n c:Nat) (zs:List Int) (w:World) (hz:n≤zs.length) (hbig:n*8≤140737488355328) (hc:∀j,j < zs.length→w.cell? ⟨b,off+j,none⟩=some (.int .i64 (zs.getD j 0))):
 Calls prog 38 #[.slice (some ⟨b,off,none⟩) n c] w fun e w'=>∃v',e=.returned v'∧w'.ownsRow w.heap.size 3 1 v' n ((zs.take n).map (Value.int .i64))∧v'≠.slice none 0 0∧Below w.heap.size w w':=Any.slices_Clone_int Tryz.laysNm215 b off n c zs w hz hbig hc
open Go.RowKit Go.Lib in
theorem Tryz.slices_Clone_int_nil (n c:Nat) (w:World):
 Calls prog 38 #[.slice none n c] w fun e w'=>e=.returned (.slice none 0 0)∧w'=w:=Any.slices_Clone_int_nil Tryz.laysNm215 n c w
open Go.RowKit Go.Lib in
theorem Tryz.slices_Clone_int_zero (a:Addr) (c:Nat) (w:World):
 Calls prog 38 #[.slice (some a) 0 c] w fun e w'=>∃v',e=.returned v'∧w'.ownsRow w.heap.size 3 1 v' 0 []∧v'≠.slice none 0 0∧Below w.heap.size w w':=Any.slices_Clone_int_zero Tryz.laysNm215 a c w
end Go.Proofs
namespace Go.Proofs.YtlohaclgbfhijaaGreatDoor
open Go.Proofs.Tryz
open Go.RowKit
theorem zE {a b c:World} {row:Option Nat} (h:a.grownBy b row) (k:b.grownBy c row):a.grownBy c row:=
 ⟨k.os.trans h.os,k.tape.trans h.tape,k.output.trans h.output,yAE h.size k.size,fun i hi hne=>(k.block i (yAA hi h.size) hne).trans (h.block i hi hne)⟩
theorem zAT {a b:World} (row:Option Nat) (h:Below a.heap.size a b):a.grownBy b row:=⟨h.os,h.tape,h.output,h.size,fun i hi _=>h.block i hi⟩
theorem zA3 (a:World) (row:Option Nat):a.grownBy a.drew row:=⟨rfl,rfl,rfl,yAD _,fun _ _ _=>rfl⟩
theorem zAB (a:World) (row:Option Nat) (n:Nat):a.grownBy (a.drewN n) row:=⟨rfl,rfl,rfl,yAD _,fun _ _ _=>rfl⟩
theorem zR (a:World) (g j:Nat) (v:Value):a.grownBy (a.setCell ⟨g,j,none⟩ v) (some g):=
 ⟨rfl,rfl,rfl,by simp[World.setCell],fun i _ hne=>Below.heap_setCell _ _ _ _ (fun e=>hne (by rw[e]))⟩
theorem zI (a:World) (o:Obj) (row:Option Nat):a.grownBy (a.alloc o) row:=World.grownBy_alloc a o row
theorem zAq {B:Nat} {a b:World} {g:Nat} (h:a.grownBy b (some g)) (hB:B≤g) (hg:g≤a.heap.size):Below B a b:=
 ⟨h.os,h.tape,h.output,h.size,fun i hi=>h.block i (by omega) (by intro e;injection e with e;omega)⟩
theorem zBd {a b:World} {g:Nat} (h:a.grownBy b (some g)) {p:Addr} {v:Value} (hc:a.cell? p=some v) (hp:p.block≠g):b.cell? p=some v:=
 h.cell hc (by intro e;injection e with e;exact hp e)
theorem zC1 {a b:World} {g:Nat} (h:a.grownBy b (some g)) {p:Addr} (hl:p.block < a.heap.size) (hp:p.block≠g):b.frozen? p=a.frozen? p:=
 World.frozen?_of_block (w:=a) (h.block p.block hl (by intro e;injection e with e;exact hp e))
theorem Reads.grown {w w':World} {B size n g:Nat} {A:Option Addr} {xs:List Value} (h:Reads w B size A n xs) (hg:w.grownBy w' (some g)) (hB:B≤g) (hl:g≤w.heap.size):Reads w' B size A n xs:=
 h.below (zAq hg hB hl)
theorem zBo {w w':World} {base g:Nat} {e:TypeId} {size n:Nat} {v:Value} {xs:List Value} (h:w.ownsRow base e size v n xs) (hg:w.grownBy w' (some g)) (hb:g < base):w'.ownsRow base e size v n xs:=
 h.kept hg (by
  cases hv:v.ownBlock with
  | none=>exact .inl rfl
  | some k=>
   right;intro e;injection e with e;have:=(h.lt k hv).1;omega)
theorem zDr {w w':World} {base:Nat} {e:TypeId} {size n:Nat} {v:Value} {xs:List Value} (h:w.ownsRow base e size v n xs) (hb:Below w.heap.size w w'):w'.ownsRow base e size v n xs:=
 h.kept (row:=none) ⟨hb.os,hb.tape,hb.output,hb.size,fun k hk _=>hb.block k hk⟩ (by cases hv:v.ownBlock<;>simp)
theorem zAU {w:World} {base base':Nat} {e:TypeId} {size n:Nat} {v:Value} {xs:List Value} (h:w.ownsRow base e size v n xs) (hb:base'≤base):w.ownsRow base' e size v n xs:=by
 refine⟨h.1,?_⟩;rcases h.2 with h2 | ⟨g,cap,cur,h1,h3,h4,h5⟩
 · exact Or.inl h2
 · exact Or.inr ⟨g,cap,cur,h1,yAE hb h3,h4,h5⟩
structure Rd (w:World) (g:Nat) (A:Option Addr) (n c k:Nat):Prop where
 c0:w.cell? ⟨g,0,none⟩=some (.slice A n c)
 c1:w.cell? ⟨g,1,none⟩=some (.int .i64 (k:Int))
 f1:w.frozen? ⟨g,1,none⟩=false
section
variable {w w':World} {g n c k:Nat} {A:Option Addr}
theorem Rd.lt (h:Rd w g A n c k):g < w.heap.size:=World.block_lt_of_cell? w _ h.c0
theorem Rd.below {D:Nat} (h:Rd w g A n c k) (hb:Below D w w') (hg:g < D):Rd w' g A n c k:=
 ⟨(hb.cell (p:=⟨g,0,none⟩) hg).trans h.c0,(hb.cell (p:=⟨g,1,none⟩) hg).trans h.c1,(hb.frozen (p:=⟨g,1,none⟩) hg).trans h.f1⟩
theorem Rd.drew (h:Rd w g A n c k):Rd w.drew g A n c k:=⟨h.c0,h.c1,h.f1⟩
theorem Rd.drewN (h:Rd w g A n c k) (m:Nat):Rd (w.drewN m) g A n c k:=⟨h.c0,h.c1,h.f1⟩
theorem Rd.alloc (h:Rd w g A n c k) (o:Obj):Rd (w.alloc o) g A n c k:=h.below ((Below.refl _ w).alloc (yAD _) o) h.lt
theorem Rd.set (h:Rd w g A n c k) (k':Nat):Rd (w.setCell ⟨g,1,none⟩ (.int .i64 (k':Int))) g A n c k':=by
 have h1:=h.c0;have h2:=h.c1;have h3:=h.f1;exact⟨by go_simp,by go_simp,by go_simp⟩
theorem Rd.setI (h:Rd w g A n c k) {z:Int} {k':Nat} (hz:z=(k':Int)):Rd (w.setCell ⟨g,1,none⟩ (.int .i64 z)) g A n c k':=by
 subst hz;exact h.set k'
end
structure Mv (w w':World) (g:Nat) (A:Option Addr) (n c k:Nat):Prop where
 rd:Rd w' g A n c k
 grown:w.grownBy w' (some g)
theorem Mv.refl {w:World} {g n c k:Nat} {A:Option Addr} (h:Rd w g A n c k):Mv w w g A n c k:=⟨h,World.grownBy.refl w _⟩
theorem Mv.then {w w1 w2:World} {g n c k k':Nat} {A:Option Addr} (h:Mv w w1 g A n c k) (h2:Mv w1 w2 g A n c k'):Mv w w2 g A n c k':=⟨h2.rd,zE h.grown h2.grown⟩
theorem Mv.step {w w1:World} {g n c k:Nat} {A:Option Addr} (h:Mv w w1 g A n c k) {z:Int} {k':Nat} (hz:z=(k':Int)):Mv w (w1.setCell ⟨g,1,none⟩ (.int .i64 z)) g A n c k':=
 ⟨h.rd.setI hz,zE h.grown (zR w1 g 1 _)⟩
theorem Mv.below {w w1 w2:World} {g n c k:Nat} {A:Option Addr} (h:Mv w w1 g A n c k) (hb:Below w1.heap.size w1 w2):Mv w w2 g A n c k:=
 ⟨h.rd.below hb h.rd.lt,zE h.grown (zAT _ hb)⟩
theorem Mv.drewN {w w1:World} {g n c k:Nat} {A:Option Addr} (h:Mv w w1 g A n c k) (m:Nat):Mv w (w1.drewN m) g A n c k:=⟨h.rd.drewN m,zE h.grown (zAB _ _ _)⟩
theorem Mv.drew {w w1:World} {g n c k:Nat} {A:Option Addr} (h:Mv w w1 g A n c k):Mv w w1.drew g A n c k:=⟨h.rd.drew,zE h.grown (zA3 _ _)⟩
structure MadeM (w0 w:World) (g:Nat) (e:TypeId) (v:Value) (xs:List Value):Prop where
 own:w.ownsRow w0.heap.size e 1 v xs.length xs
 grown:w0.grownBy w (some g)
theorem MadeM.nil {w0 w:World} {g:Nat} (h:w0.grownBy w (some g)) (e:TypeId):MadeM w0 w g e (.slice none 0 0) []:=⟨yAK _ _ _ _,h⟩
theorem MadeM.go {w0 w w':World} {g:Nat} {e:TypeId} {v:Value} {xs:List Value} (h:MadeM w0 w g e v xs) (hg:g < w0.heap.size) (hw:w.grownBy w' (some g)):MadeM w0 w' g e v xs:=
 ⟨zBo h.own hw hg,zE h.grown hw⟩
theorem MadeM.cells {w0 w:World} {g:Nat} {e:TypeId} {v:Value} {xs ys:List Value} (h:MadeM w0 w g e v xs) (e1:xs=ys):MadeM w0 w g e v ys:=e1▸h
theorem MadeM.shape {w0 w:World} {g:Nat} {e:TypeId} {v:Value} {xs:List Value} (h:MadeM w0 w g e v xs):
 ∃A c,v=.slice A xs.length c∧xs.length≤c∧c≤maxLen∧Reads w w.heap.size 1 A xs.length xs:=by
 obtain⟨A,c,hv,h1,h2⟩:=zZ h.own;have h':=h.own;rw[hv]at h';exact⟨A,c,hv,h1,h2,Reads.of_own h'⟩
theorem MadeM.u8 {w0 w:World} {g:Nat} {e:TypeId} {v:Value} {xs:List UInt8} (h:MadeM w0 w g e v (u8s xs)):
 ∃A c,v=.slice A xs.length c∧xs.length≤c∧c≤maxLen∧Reads w w.heap.size 1 A xs.length (u8s xs):=by
 obtain⟨A,c,hv,h1,h2,h3⟩:=h.shape;have e:(u8s xs).length=xs.length:=by simp[u8s]
 rw[e]at hv h1 h3;exact⟨A,c,hv,h1,h2,h3⟩
theorem Rd.appended {w0 w w':World} {g gr n c k:Nat} {A:Option Addr} {e:TypeId} {v:Value} {xs:List Value} (h:Rd w gr A n c k) (hm:MadeM w0 w g e v xs) (hg:gr < w0.heap.size) (hw:w.grownBy w' v.ownBlock):Rd w' gr A n c k:=by
 have hne:some gr≠v.ownBlock:=fun e=>by have:=(hm.own.lt gr e.symm).1;omega
 exact⟨hw.cell h.c0 hne,hw.cell h.c1 hne,(World.frozen?_of_block (w:=w) (hw.block gr h.lt hne)).trans h.f1⟩
def zP (x:UInt16):Bool:=decide (48≤x.toNat)&&decide (x.toNat≤57)
def zAh (x:UInt16):Bool:=x.toNat==32 || x.toNat==9 || x.toNat==10 || x.toNat==13
theorem zBQ {x:UInt16}:zP x=true↔48≤x.toNat∧x.toNat≤57:=by simp[zP]
def zH9 (n:Nat):List UInt16→Nat
 | []=>n
 | x::r=>zH9 (10*n+(x.toNat - 48)) r
def zr (l:List UInt16):Nat:=zH9 0 l
theorem zEZ (n:Nat) (l r:List UInt16):zH9 n (l++r)=zH9 (zH9 n l) r:=by
 induction l generalizing n with
 | nil=>rfl
 | cons x l ih=>exact ih _
theorem zE2 (l:List UInt16) (x:UInt16):zr (l++[x])=10*zr l+(x.toNat - 48):=by
 unfold zr;rw[zEZ];rfl
theorem zOl (n:Nat) (l:List UInt16):n≤zH9 n l:=by
 induction l generalizing n with
 | nil=>exact yAD _
 | cons x l ih=>exact yAE (by omega) (ih _)
theorem zGu (l r:List UInt16):zr (l++r)=zH9 (zr l) r:=zEZ 0 l r
theorem zDa (l:List UInt16) (k:Nat):zr (l.take k)≤zr l:=by
 conv=>rhs;rw[←List.take_append_drop k l]
 rw[zGu];exact zOl _ _
theorem zFh (l:List UInt16) (k:Nat) (h:k < l.length):10*zr (l.take k)≤zr l:=by
 have h1:=zDa l (k+1);rw[yAM h,zE2]at h1;omega
theorem zCu (l:List UInt16) (k:Nat) (h:k < l.length):zr (l.take (k+1))=10*zr (l.take k)+(l[k].toNat - 48):=by
 rw[yAM h,zE2]
def zCj:List UInt16:=[120,88,111,79,46,43,45,95]
def zB5 (x:UInt16):Bool:=zP x || (decide (97≤x.toNat)&&decide (x.toNat≤102)) || (decide (65≤x.toNat)&&decide (x.toNat≤70)) || decide (x∈zCj)
def zBX (u:List UInt16):Bool:=u.all zB5&&u.any zP
theorem zGv {x:UInt16} (h:zP x=true):zB5 x=true:=by simp[zB5,h]
structure Nm where
 kind:Int
 n:Int
deriving DecidableEq
def zE3 (u:List UInt16):List UInt16:=(u.reverse.dropWhile zAh).reverse
def zLq (u:List UInt16):List UInt16:=zE3 (u.dropWhile zAh)
def zBH:List UInt16:=[73,110,102,105,110,105,116,121]
def zB6 (t:List UInt16):Bool:=t.headD 0==45
def zAN (t:List UInt16):List UInt16:=if t.headD 0=45∨t.headD 0=43 then t.tail else t
def zEI (t:List UInt16):Nm×Bool:=
 if zAN t=zBH then(⟨3,0⟩,true)
 else if zAN t≠[]∧(zAN t).all zP=true then
  (if zr (zAN t)≤9007199254740991 then(⟨0,zr (zAN t)⟩,true)else(⟨2,0⟩,false))
 else(⟨2,0⟩, !zBX t)
def zEJ (a:Nm):Nm:=if a.kind=2 then a else if a.kind=3 then⟨4,0⟩else if a.n=0 then⟨1,0⟩else⟨0, -a.n⟩
def zOm (t:List UInt16):Nm×Bool:=
 if t=[]then(⟨0,0⟩,true)else(if zB6 t=true then zEJ (zEI t).1 else(zEI t).1,(zEI t).2)
theorem zIA {t:List UInt16} (h:zAN t=zBH):zBX t=false:=by
 have hm:(73:UInt16)∈t:=by
  have h1:(73:UInt16)∈zAN t:=by rw[h];decide
  unfold zAN at h1;split at h1
  · exact List.mem_of_mem_tail h1
  · exact h1
 have:t.all zB5=false:=List.all_eq_false.2 ⟨73,hm,by decide⟩;simp[zBX,this]
def zLr (u:List UInt16):Nm×Bool:=zOm (zLq u)
structure Tok where
 kind:Nat
 text:List UInt8
 str:List UInt16
 nk:Int
 nn:Int
 mag:List Nat
 pos:Nat
 nl:Bool
deriving DecidableEq
def zm:Tok:=⟨0,[],[],0,0,[],0,false⟩
def zA4 (x:UInt16):Bool:=(decide (97≤x.toNat)&&decide (x.toNat≤122)) || (decide (65≤x.toNat)&&decide (x.toNat≤90)) || x.toNat==95 || x.toNat==36
def zGO (x:UInt16):Bool:=x.toNat==9 || x.toNat==11 || x.toNat==12 || x.toNat==32
def zw (x:UInt16):Bool:=x.toNat==10 || x.toNat==13
def zGP (x:UInt16):Bool:=x.toNat==8232 || x.toNat==8233
def zAw (x:UInt16):Bool:=zA4 x || zP x
def zBF (k:Nat) (p:UInt16→Bool) (l:List UInt16):Bool:=(l[k]?).any p
def zg (s:List UInt8) (l:List UInt16):Bool:=(s.map (·.toUInt16)).isPrefixOf l
def asc (l:List UInt16):List UInt8:=l.map (·.toUInt8)
def zCi (n:Nat) (p:Nat×Bool×Nat):Nat×Bool×Nat:=(n+p.1,p.2)
def zGQ (st:Bool):Nat:=if st=true then 6 else 0
def zBe (long:Bool):List UInt16→Bool→Bool→Nat×Bool×Nat
 | [],_,st=>(0,false,if long=true then 5 else zGQ st)
 | x::r,nl,st=>
  if(long&&zg [42,47] (x::r))=true then(2,nl,zGQ st)
  else if(!long &&zw x)=true then(0,false,zGQ st)
  else zCi 1 (zBe long r (nl || zw x) (st || zGP x))
def zq (l:List UInt16):Nat×Bool×Nat:=zCi 2 (zBe (zg [47,42] l) (l.drop 2) false false)
def zBu:Nat→List UInt16→Bool→Nat×Bool×Nat
 | 0,_,nl=>(0,nl,0)
 | _+1,[],nl=>(0,nl,0)
 | f+1,x::r,nl=>
  if(zGO x || zw x)=true then zCi 1 (zBu f r (nl || zw x))
  else if(zg [47,47] (x::r) || zg [47,42] (x::r))=true then
   (if(zq (x::r)).2.2≠0 then(0,false,(zq (x::r)).2.2)
    else zCi (zq (x::r)).1 (zBu f ((x::r).drop (zq (x::r)).1) (nl || (zq (x::r)).2.1)))
  else(0,nl,0)
def za (l:List UInt16):Nat×Bool×Nat:=zBu l.length l false
def zEK:List (List UInt8):=[[98,114,101,97,107],[99,97,116,99,104],[99,111,110,115,116],[99,111,110,116,105,110,117,101],[101,108,115,101],[102,97,108,115,101],[102,105,110,97,108,108,121],[102,111,114],[102,117,110,99,116,105,111,110],[105,102],[105,110],[108,101,116],[110,101,119],[110,117,108,108],[114,101,116,117,114,110],[116,104,105,115],[116,104,114,111,119],[116,114,117,101],[116,114,121],[116,121,112,101,111,102],[118,111,105,100],[119,104,105,108,101]]
def zDO:List (List UInt8):=[[97,114,103,117,109,101,110,116,115],[97,115,121,110,99],[97,119,97,105,116],[99,97,115,101],[99,108,97,115,115],[100,101,98,117,103,103,101,114],[100,101,102,97,117,108,116],[100,101,108,101,116,101],[100,111],[101,110,117,109],[101,118,97,108],[101,120,112,111,114,116],[101,120,116,101,110,100,115],[105,109,112,108,101,109,101,110,116,115],[105,109,112,111,114,116],[105,110,115,116,97,110,99,101,111,102],[105,110,116,101,114,102,97,99,101],[112,97,99,107,97,103,101],[112,114,105,118,97,116,101],[112,114,111,116,101,99,116,101,100],[112,117,98,108,105,99],[115,116,97,116,105,99],[115,117,112,101,114],[115,119,105,116,99,104],[118,97,114],[119,105,116,104],[121,105,101,108,100]]
def zBv:List (List UInt8):=[[123],[125],[40],[41],[91],[93],[59],[44],[46],[63],[58],[126],[60],[62],[60,61],[62,61],[61,61],[33,61],[61,61,61],[33,61,61],[43],[45],[42],[47],[37],[38],[124],[94],[33],[38,38],[124,124],[63,63],[61],[43,61],[45,61],[42,61],[47,61],[37,61],[38,61],[124,61],[94,61],[60,60,61],[62,62,61],[62,62,62,61],[43,43],[45,45],[60,60],[62,62],[62,62,62],[61,62]]
def zBl:List (List UInt8):=[[46,46,46],[63,46],[42,42],[42,42,61],[38,38,61],[124,124,61],[63,63,61]]
def zCG (s:List UInt8):Nat:=if s∈zEK then 1 else if s∈zDO then 2 else 0
def zBY (s:List UInt8):Nat:=if s∈zBv then 1 else if s∈zBl then 2 else 0
def zGt (s:List UInt8):Bool:=match s with | []=>false | b::r=>zA4 b.toUInt16&&r.all fun c=>zAw c.toUInt16
def zCx (s:List UInt8):Bool:=zGt s&&zCG s==0
abbrev Ans:=Nat×Tok×Nat
def bad (e:Nat):Ans:=(e,zm,0)
def zDg (l:List UInt16):Ans:=
 if zg [92] (l.drop (l.takeWhile zAw).length)=true then bad 6
 else(0,{zm with kind:=if 0 < zCG (asc (l.takeWhile zAw))then 6 else 1,text:=asc (l.takeWhile zAw)},(l.takeWhile zAw).length)
def zA1:Nat→Nat→List Nat
 | 0,_=>[]
 | f+1,v=>if v=0 then []else v % 4294967296::zA1 f (v / 4294967296)
def zBL (v:Nat):List Nat:=zA1 9 v
def zFi:Nat:=4294967296^8
def zu (zero:Bool) (x:UInt16):Bool:=
 x.toNat==46 || x.toNat==101 || x.toNat==69 || x.toNat==95 || (zero&&(x.toNat==120 || x.toNat==88 || x.toNat==111 || x.toNat==79 || x.toNat==98 || x.toNat==66))
def zH6 (v n:Nat) (r:List UInt16):Ans:=
 if zFi≤v then bad 6
 else if(zBF 0 zA4 r || zBF 0 zP r)=true then bad 5
 else(0,{zm with kind:=3,mag:=zBL v},n+1)
def zB7 (d r:List UInt16):Ans:=
 if(zBF 0 (fun x=>x.toNat==48) d&& !decide (d=[48]))=true then bad 5
 else if zg [110] r=true then zH6 (zr d) d.length (r.drop 1)
 else if zBF 0 (zu (decide (d=[48]))) r=true then bad 6
 else if zBF 0 zA4 r=true then bad 5
 else if 9007199254740991 < zr d then bad 6
 else(0,{zm with kind:=2,nn:=zr d},d.length)
def zBw (l:List UInt16):Ans:=zB7 (l.takeWhile zP) (l.drop (l.takeWhile zP).length)
def zGw (x:UInt16):Nat:=
 if zP x=true then x.toNat - 48 else if 97≤x.toNat∧x.toNat≤102 then x.toNat - 87 else if 65≤x.toNat∧x.toNat≤70 then x.toNat - 55 else 16
def zEa (v:Nat):List UInt16→Nat
 | []=>v
 | x::r=>zEa (16*v+zGw x) r
def zDs (x:UInt16):Bool:=decide (zGw x < 16)
def zB8 (n:Nat) (l:List UInt16):Nat×UInt16×Nat:=
 if(decide (n≤l.length)&&(l.take n).all zDs)=true then(0,UInt16.ofNat (zEa 0 (l.take n)),n)else(5,0,0)
def zB9 (x:UInt16):Option UInt16:=
 if x=110 then some 10 else if x=116 then some 9 else if x=114 then some 13 else if x=98 then some 8 else if x=118 then some 11 else if x=102 then some 12 else none
def more (n:Nat) (p:Nat×UInt16×Nat):Nat×UInt16×Nat:=if p.1=0 then(0,p.2.1,n+p.2.2)else p
def zR2 (x:UInt16) (r:List UInt16):Nat×UInt16×Nat:=
 if(x.toNat==48&& !zBF 0 zP r)=true then(0,0,1)
 else if zP x=true then(5,0,0)
 else if(zw x || zGP x || (x.toNat==117&&zg [123] r))=true then(6,0,0)
 else if x.toNat=120 then more 1 (zB8 2 r)
 else if x.toNat=117 then more 1 (zB8 4 r)
 else(0,x,1)
def zDb:List UInt16→Nat×UInt16×Nat
 | []=>(5,0,0)
 | x::r=>if(zB9 x).isSome=true then(0,(zB9 x).getD 0,1)else zR2 x r
def zCz (q:UInt16):Nat→List UInt16→List UInt16→Nat×List UInt16×Nat
 | 0,_,_=>(5,[],0)
 | _+1,[],_=>(5,[],0)
 | f+1,x::r,acc=>
  if zw x=true then(5,[],0)
  else if x=q then(0,acc,1)
  else if x.toNat=92 then
   (if(zDb r).1≠0 then((zDb r).1,[],0)
    else((zCz q f (r.drop (zDb r).2.2) (acc++[(zDb r).2.1])).1,(zCz q f (r.drop (zDb r).2.2) (acc++[(zDb r).2.1])).2.1,1+(zDb r).2.2+(zCz q f (r.drop (zDb r).2.2) (acc++[(zDb r).2.1])).2.2))
  else((zCz q f r (acc++[x])).1,(zCz q f r (acc++[x])).2.1,1+(zCz q f r (acc++[x])).2.2)
def zJz (q:UInt16) (l:List UInt16):Nat×List UInt16×Nat:=zCz q (l.length+1) l []
def zA5 (q:UInt16) (r:List UInt16):Ans:=
 if(zJz q r).1≠0 then bad (zJz q r).1 else(0,{zm with kind:=4,str:=(zJz q r).2.1},1+(zJz q r).2.2)
def zAc (l:List UInt16) (n:Nat):Nat:=
 if(decide (n≤l.length)&&(l.take n).all (fun x=>decide (x.toNat≤127))&& !(decide (asc (l.take n)=[63,46])&&zBF 2 zP l))=true then zBY (asc (l.take n))else 0
def zA6 (l:List UInt16):Nat→Option Nat
 | 0=>none
 | n+1=>if zAc l (n+1)≠0 then some (n+1)else zA6 l n
def zBp (z:Bool) (l:List UInt16):Ans:=
 match zA6 l 4 with
 | some n=>if zAc l n=2 then bad 6 else(0,{zm with kind:=5,text:=asc (l.take n)},n)
 | none=>if(zBF 0 (fun x=>decide (128≤x.toNat) || x.toNat==96 || x.toNat==92) l || (z&&zg [35,33] l))=true then bad 6 else bad 5
def zA2 (z:Bool):List UInt16→Ans
 | []=>bad 5
 | x::r=>
  if zA4 x=true then zDg (x::r)
  else if zP x=true then zBw (x::r)
  else if(x.toNat==39 || x.toNat==34)=true then zA5 x r
  else if(x.toNat==46&&zBF 0 zP r)=true then bad 6
  else zBp z (x::r)
def zBq (t:Tok) (p:List Tok×Nat×Nat):List Tok×Nat×Nat:=if p.2.2≠0 then([],p.2)else(t::p.1,0,0)
def zz (k:Nat) (l:List UInt16):Ans:=zA2 (k+(za l).1==0) (l.drop (za l).1)
def setAt (t:Tok) (k:Nat) (nl:Bool):Tok:={t with pos:=k,nl:=nl}
def zDP:Nat→Nat→List UInt16→List Tok×Nat×Nat
 | 0,_,_=>([],0,0)
 | f+1,k,l=>
  if(za l).2.2≠0 then([],k+(za l).1,(za l).2.2)
  else if l.drop (za l).1=[]then([setAt zm (k+(za l).1) (za l).2.1],0,0)
  else if(zz k l).1≠0 then([],k+(za l).1,(zz k l).1)
  else zBq (setAt (zz k l).2.1 (k+(za l).1) (za l).2.1) (zDP f (k+(za l).1+(zz k l).2.2) (l.drop ((za l).1+(zz k l).2.2)))
def zCk (u:List UInt16):List Tok×Nat×Nat:=if 4096 < u.length then([],0,3)else zDP (u.length+1) 0 u
structure Nd where
 kind:Int
 name:List UInt8
 str:List UInt16
 nk:Int
 nn:Int
 neg:Bool
 mag:List Nat
 kids:List Int
deriving DecidableEq
def zBS:Nd:=⟨0,[],[],0,0,false,[],[]⟩
def zEb (k:Int):Bool:=decide (2≤k)&&decide (k≤19)&& !(k==7)&& !(k==11)&& !(k==17)
def zDt (k:Int):Bool:=zEb k&& !(k==5)&& !(k==6)&& !(k==19)
def zDu (k:Int):Bool:=decide (30≤k)&&decide (k≤53)&& !(k==40)
def zAH (k:Int):Bool:=k==33 || k==52 || k==53
def zAs (k:Int):Bool:=(decide (1≤k)&&decide (k≤20)) || (decide (30≤k)&&decide (k≤53))
def zAS (s:Nat) (k:Int):Bool:=
 if s=1 then zEb k else if s=2 then zDt k else if s=3 then zDu k else if s=4 then zAH k
 else if s=5 then k==7 else if s=6 then k==20 else if s=7 then k==40 else if s=8 then k==4
 else if s=9 then k==11 || zDu k else if s=10 then k==11 || k==5 || k==6 || zDu k
 else if s=11 then k==11 || k==17 else if s=12 then k==11 || k==4 else if s=13 then k==4 || zDu k else false
def zBx (n last:Nat):List Nat:=List.replicate (n - 1) 6++[last]
def zo (k:Int) (n:Nat):List Nat×Nat:=
 if k=1∨k=4 then([],1)
 else if k=3∨k=15∨k=40∨k=43∨k=52 then([3],0)
 else if k=5∨k=6 then([5],5)
 else if k=7∨k=14 then([3].take (min n 1),0)
 else if k=8 then([3,2,2].take (min (max n 2) 3),0)
 else if k=9 then([3,2],0)
 else if k=10 then([10,9,9,2],0)
 else if k=16 then([8,11,12],0)
 else if k=17 then([8],0)
 else if k=18 then([2],0)
 else if k=19∨k=41 then(zBx n 8,0)
 else if k=42 then(zBx n 13,0)
 else if k=38 then([],3)
 else if k=39 then([],7)
 else if k=44∨k=45 then([4],0)
 else if k=46∨k=47∨k=53 then([3,3],0)
 else if k=48 then([3,3,3],0)
 else if k=49 then([4,3],0)
 else if k=50∨k=51 then([3],3)
 else([],0)
def atN (ts:List Nd) (k:Int):Nd:=ts.getD k.toNat zBS
def zBZ (ts:List Nd):List Nat→Nat→List Int→Bool
 | _,_,[]=>true
 | [],r,k::ks=>zAS r (atN ts k).kind&&zBZ ts [] r ks
 | s::l,r,k::ks=>zAS s (atN ts k).kind&&zBZ ts l r ks
def zJ0:Nat→List Nd→Int→Bool
 | 0,_,_=>false
 | f+1,ts,n=>
  if(atN ts n).kind=8∧(atN ts n).kids.length=2 then true
  else if(atN ts n).kind=8∨(atN ts n).kind=9∨(atN ts n).kind=10∨(atN ts n).kind=18 then
   (match (atN ts n).kids.getLast? with | none=>false | some k=>zJ0 f ts k)
  else false
def zC2 (ts:List Nd) (n:Int):Bool:=zJ0 ts.length ts n
def zDh (ts:List Nd) (x:Nd):Bool:=
 zAs x.kind&&decide ((zo x.kind x.kids.length).1.length≤x.kids.length)
 &&zBZ ts (zo x.kind x.kids.length).1 (zo x.kind x.kids.length).2 x.kids
 &&(if x.kind=16 then((atN ts (x.kids.getD 1 0)).kind==17 || (atN ts (x.kids.getD 2 0)).kind==4)
  else if x.kind=8∧x.kids.length=3 then !(zC2 ts (x.kids.getD 1 0))else true)
def zH7:List (List UInt8):=[[45],[43],[33],[126],[116,121,112,101,111,102],[118,111,105,100]]
def zDv:List (List UInt8):=[[43,43],[45,45]]
def zUU:List (List UInt8):=[[43],[45],[42],[47],[37],[38],[124],[94],[60,60],[62,62],[62,62,62],[60],[62],[60,61],[62,61],[61,61],[33,61],[61,61,61],[33,61,61],[105,110]]
def zUy:List (List UInt8):=[[38,38],[124,124],[63,63]]
def zIB:List (List UInt8):=[[61],[43,61],[45,61],[42,61],[47,61],[37,61],[38,61],[124,61],[94,61],[60,60,61],[62,62,61],[62,62,62,61]]
def zIC (k:Int):List (List UInt8):=
 if k=43 then zH7 else if k=44∨k=45 then zDv else if k=46 then zUU else if k=47 then zUy else if k=49 then zIB else []
def zAf (k:Int) (s:List UInt8):Bool:=
 if k=7∨k=18∨k=19∨k=20∨k=33 then zCx s
 else if k=12∨k=13∨k=17∨k=41 then decide (s=[]) || zCx s
 else if k=52 then zGt s
 else if zIC k≠[]then decide (s∈zIC k)else decide (s=[])
def zEc (k n:Int):Bool:=if k=0 then decide (-9007199254740991≤n)&&decide (n≤9007199254740991)else decide (1≤k)&&decide (k≤4)&&n==0
def zC3 (neg:Bool) (m:List Nat):Bool:=decide (m.length≤8)&&(match m.getLast? with | none=> !neg | some x=> !(x==0))
def zh (x:Nd):Bool:=
 if 4096 < x.name.length then false
 else if(!(x.kind==32)&& !(x.kind==40)&& !x.str.isEmpty)=true then false
 else if(!(x.kind==30)&& !(x.nk==0&&x.nn==0))=true then false
 else if(!(x.kind==31)&&(x.neg || !x.mag.isEmpty))=true then false
 else if x.kind=32∨x.kind=40 then decide (x.name=[])&&decide (x.str.length≤4096)
 else if x.kind=30 then decide (x.name=[])&&x.nk==0&&zEc x.nk x.nn&&decide (0≤x.nn)
 else if x.kind=31 then decide (x.name=[])&&zC3 x.neg x.mag&& !x.neg
 else zAf x.kind x.name
def zCI (N n:Nat) (ks:List Int):Bool:=ks.all fun k=>decide ((n:Int) < k)&&decide (k < (N:Int))
def zA7 (N:Nat):Nat→List Nd→List Int→Bool
 | _,[],st=>st.isEmpty
 | _,_::_,[]=>false
 | n,x::r,s::st=>s==(n:Int)&&zCI N n x.kids&&zA7 N (n+1) r (x.kids++st)
def zB0 (ts:List Nd):Bool:=zA7 ts.length 0 ts [0]
def zDc (d:List Nat) (v:Nat):List Int→List Nat
 | []=>d
 | k::ks=>zDc (d.set k.toNat v) v ks
def zC4:Nat→List Nd→List Nat→List Nat
 | _,[],d=>d
 | n,x::r,d=>zC4 (n+1) r (zDc (d.set n (max (d.getD n 0) 1)) (max (d.getD n 0) 1+1) x.kids)
def zGx (ts:List Nd):List Nat:=zC4 0 ts (List.replicate ts.length 0)
def zEn:List Nat→Nat
 | []=>0
 | x::r=>max x (zEn r)
def zC5 (ts:List Nd):Nat:=zEn (zGx ts)
def zCU (ts:List Nd):Nat→List Nd→Bool
 | _,[]=>true
 | n,x::r=> !(decide (0 < n)&&x.kind==1)&&zh x&&zDh ts x&&zCU ts (n+1) r
def zJ1 (ts:List Nd):Bool:=
 match ts with
 | []=>false
 | x::_=>decide (ts.length≤4096)&&x.kind==1&&zB0 ts&&zCU ts 0 ts&&decide (zC5 ts≤48)
def zDY (l:List Int):List Value:=l.map (Value.int .i64)
theorem zI8 (l:List Int):(zDY l).length=l.length:=by simp[zDY]
def zUe (l:List Nat):List Value:=l.map fun n:Nat=>Value.int .u32 (n:Int)
structure NdSl where
 As:Option Addr
 Am:Option Addr
 Ak:Option Addr
 cs:Nat
 cm:Nat
 ck:Nat
structure NdR (w:World) (B:Nat) (x:Nd) (s:NdSl):Prop where
 str:Reads w B 1 s.As x.str.length (zAM x.str)
 mag:Reads w B 1 s.Am x.mag.length (zUe x.mag)
 kids:Reads w B 1 s.Ak x.kids.length (zDY x.kids)
 cs:x.str.length≤s.cs∧s.cs≤maxLen
 cm:x.mag.length≤s.cm∧s.cm≤maxLen
 ck:x.kids.length≤s.ck∧s.ck≤maxLen
 limb:∀y∈x.mag,y < 4294967296
 kin:∀y∈x.kids, -9223372036854775808≤y∧y≤9223372036854775807
 kb: -9223372036854775808≤x.kind∧x.kind≤9223372036854775807
 nkb: -9223372036854775808≤x.nk∧x.nk≤9223372036854775807
 nnb: -9223372036854775808≤x.nn∧x.nn≤9223372036854775807
 nm:x.name.length≤9223372036854775807
section
variable {w w':World} {B B':Nat} {x:Nd} {s:NdSl}
theorem NdR.below (h:NdR w B x s) (hb:Below B w w'):NdR w' B x s:=⟨h.str.below hb,h.mag.below hb,h.kids.below hb,h.cs,h.cm,h.ck,h.limb,h.kin,h.kb,h.nkb,h.nnb,h.nm⟩
theorem NdR.back (h:NdR w' B x s) (hb:Below B w w'):NdR w B x s:=
 ⟨h.str.keep fun _ hp=>(hb.cell hp).symm,h.mag.keep fun _ hp=>(hb.cell hp).symm,h.kids.keep fun _ hp=>(hb.cell hp).symm,h.cs,h.cm,h.ck,h.limb,h.kin,h.kb,h.nkb,h.nnb,h.nm⟩
theorem NdR.more (h:NdR w B x s) (hb:B≤B'):NdR w B' x s:=⟨h.str.more hb,h.mag.more hb,h.kids.more hb,h.cs,h.cm,h.ck,h.limb,h.kin,h.kb,h.nkb,h.nnb,h.nm⟩
end
structure NdC (w:World) (b o:Nat) (x:Nd) (s:NdSl):Prop where
 k0:w.cell? ⟨b,o,none⟩=some (.int .i64 x.kind)
 k1:w.cell? ⟨b,o+1,none⟩=some (.string ⟨x.name.toArray⟩)
 k2:w.cell? ⟨b,o+2,none⟩=some (.slice s.As x.str.length s.cs)
 k3:w.cell? ⟨b,o+3,none⟩=some (.int .i64 x.nk)
 k4:w.cell? ⟨b,o+4,none⟩=some (.int .i64 x.nn)
 k5:w.cell? ⟨b,o+5,none⟩=some (.bool x.neg)
 k6:w.cell? ⟨b,o+6,none⟩=some (.slice s.Am x.mag.length s.cm)
 k7:w.cell? ⟨b,o+7,none⟩=some (.slice s.Ak x.kids.length s.ck)
theorem NdC.keep {w w':World} {b o:Nat} {x:Nd} {s:NdSl} (h:NdC w b o x s) (hk:∀j,w'.cell? ⟨b,j,none⟩=w.cell? ⟨b,j,none⟩):NdC w' b o x s:=
 ⟨(hk _).trans h.k0,(hk _).trans h.k1,(hk _).trans h.k2,(hk _).trans h.k3,(hk _).trans h.k4,(hk _).trans h.k5,(hk _).trans h.k6,(hk _).trans h.k7⟩
theorem NdC.below {w w':World} {b o D:Nat} {x:Nd} {s:NdSl} (h:NdC w b o x s) (hb:Below D w w') (hd:b < D):NdC w' b o x s:=h.keep fun j=>hb.cell (p:=⟨b,j,none⟩) hd
def NdsR (w:World) (B:Nat) (A:Option Addr) (n:Nat) (ts:List Nd):Prop:=
 ts.length=n∧(0 < n→∃b o,A=some ⟨b,o,none⟩∧b < B∧∀i (h:i < ts.length),∃s,NdC w b (o+i*8) ts[i] s∧NdR w B ts[i] s)
section
variable {w w':World} {B B' n:Nat} {A:Option Addr} {ts:List Nd}
theorem NdsR.below (h:NdsR w B A n ts) (hb:Below B w w'):NdsR w' B A n ts:=⟨h.1,fun h0=>by
 obtain⟨b,o,hA,hB,hat⟩:=h.2 h0;refine⟨b,o,hA,hB,fun i hi=>?_⟩;obtain⟨s,h1,h2⟩:=hat i hi;exact⟨s,h1.below hb hB,h2.below hb⟩⟩
theorem NdsR.more (h:NdsR w B A n ts) (hb:B≤B'):NdsR w B' A n ts:=⟨h.1,fun h0=>by
 obtain⟨b,o,hA,hB,hat⟩:=h.2 h0;refine⟨b,o,hA,yAA hB hb,fun i hi=>?_⟩;obtain⟨s,h1,h2⟩:=hat i hi;exact⟨s,h1,h2.more hb⟩⟩
theorem NdsR.get (h:NdsR w B A n ts) {i:Nat} (hi:i < n):∃b o x s,A=some ⟨b,o,none⟩∧b < B∧ts[i]? =some x∧NdC w b (o+i*8) x s∧NdR w B x s:=by
 obtain⟨b,o,hA,hB,hat⟩:=h.2 (by omega);have hl:i < ts.length:=by rw[h.1];exact hi
 obtain⟨s,h1,h2⟩:=hat i hl;exact⟨b,o,ts[i],s,hA,hB,yAC hl,h1,h2⟩
end
theorem Reads.spotR {w:World} {B n:Nat} {A:Option Addr} {xs:List Value} (h:Reads w B 1 A n xs) (h0:0 < n):
 ∃b off,A=some ⟨b,off,none⟩∧b < B∧∀j u,xs[j]? =some u→w.cell? ⟨b,off+j,none⟩=some u:=by
 obtain⟨ad,u,e,hb,hx,hc⟩:=h.at_ h0;have hs:ad.spot=none:=by
  cases hsp:ad.spot with
  | none=>rfl
  | some s=>
   exfalso;rw[Addr.add_zero]at hc;simp only[World.cell?,hsp]at hc;split at hc
   · simp at hc
   · cases hc
 obtain⟨b,off,sp⟩:=ad;simp only at hs;subst hs;refine⟨b,off,e,hb,fun j v hv=>?_⟩;have hj:j < n:=by
  have:=(List.getElem?_eq_some_iff.1 hv).1;have h1:=h.1;omega
 obtain⟨ad',u',e',_,hx',h1⟩:=h.at_ hj;rw[e]at e';injection e' with e';subst e';rw[Addr.add_lit]at h1;rw[h1,←hx',hv]
theorem Reads.spotK {w:World} {B n:Nat} {A:Option Addr} {l:List Int} (h:Reads w B 1 A n (zDY l)) (h0:0 < l.length):
 ∃b off,A=some ⟨b,off,none⟩∧b < B∧∀j (hj:j < l.length),w.cell? ⟨b,off+j,none⟩=some (.int .i64 l[j]):=by
 have hl:l.length=n:=by have:=h.1;simpa [zDY]using this
 obtain⟨b,off,hA,hb,hc⟩:=h.spotR (by omega);exact⟨b,off,hA,hb,fun j hj=>hc j _ (by simp[zDY,yAC hj])⟩
theorem zR3 {w:World} {base:Nat} {e:TypeId} {A:Option Addr} {n c j:Nat} {xs:List Value} (h:w.ownsRow base e 1 (.slice A n c) n xs) (hj:j≤n):w.ownsRow base e 1 (.slice A j c) j (xs.take j):=by
 refine⟨by rw[List.length_take,h.1];omega,?_⟩;rcases h.2 with⟨h1,h2⟩ | ⟨g,cap,cur,h1,hb,hg,hn,hc,hs,ht⟩
 · left;injection h1 with h3 h4 h5;subst h2;obtain rfl:j=0:=by omega
   exact⟨by rw[h3,h5],rfl⟩
 · right;injection h1 with h3 h4 h5;subst h3 h5;refine⟨g,c,cur,rfl,hb,hg,by omega,hc,hs,?_⟩;rw[←ht,List.take_take];congr 1;omega
structure Kept (w w':World) (v v':Value):Prop where
 os:w'.os=w.os
 tape:w'.tape=w.tape
 output:w'.output=w.output
 size:w.heap.size≤w'.heap.size
 block:∀i,i < w.heap.size→v.ownBlock≠some i→w'.heap[i]? =w.heap[i]?
 own:v'.ownBlock=v.ownBlock∨∃r,v'.ownBlock=some r∧w.heap.size≤r
section
variable {w w' w'':World} {v v' v'':Value}
theorem Kept.trans (h:Kept w w' v v') (k:Kept w' w'' v' v''):Kept w w'' v v'':=
 ⟨k.os.trans h.os,k.tape.trans h.tape,k.output.trans h.output,yAE h.size k.size,fun i hi hne=>(k.block i (yAA hi h.size) (by
  rcases h.own with e | ⟨r,e,hr⟩
  · rw[e];exact hne
  · rw[e];intro e2;injection e2 with e2;omega)).trans (h.block i hi hne),by
  rcases k.own with e | ⟨r,e,hr⟩
  · rcases h.own with e2 | ⟨r,e2,hr⟩
    · exact .inl (e.trans e2)
    · exact .inr ⟨r,e.trans e2,hr⟩
  · exact .inr ⟨r,e,yAE h.size hr⟩⟩
theorem Kept.cell (h:Kept w w' v v') {p:Addr} (hp:p.block < w.heap.size) (hne:v.ownBlock≠some p.block):w'.cell? p=w.cell? p:=World.cell?_of_block (h.block p.block hp hne)
theorem Kept.apart (h:Kept w w' v v') {i:Nat} (hi:i < w.heap.size) (hne:v.ownBlock≠some i):v'.ownBlock≠some i:=by
 rcases h.own with e | ⟨r,e,hr⟩
 · rw[e];exact hne
 · rw[e];intro e2;injection e2 with e2;omega
theorem Kept.below {B:Nat} (h:Kept w w' v v') (hB:∀i,v.ownBlock=some i→B≤i) (hs:B≤w.heap.size):Below B w w':=
 ⟨h.os,h.tape,h.output,h.size,fun i hi=>h.block i (by omega) (fun e=>by have:=hB i e;omega)⟩
end
theorem zJ2 {w:World} {base e n size:Nat} {v:Value} {xs:List Value} (h:w.ownsRow base e size v n xs) (m:Nat):(w.drewN m).ownsRow base e size v n xs:=
 h.kept (row:=none) ⟨rfl,rfl,rfl,yAD _,fun _ _ _=>rfl⟩ (by cases hv:v.ownBlock<;>simp)
theorem zLs {w:World} {base n size:Nat} {e:TypeId} {v:Value} {xs:List Value} (h:w.ownsRow base e size v n xs):∀i,v.ownBlock=some i→base≤i:=fun i hi=>(h.lt i hi).1
section
variable {P:Program} {w:World} {ops:Array Oper} {rest:List Oper} {o:Oper} {a:Act} {Q:Exit→Act→World→Prop}
theorem zDi (hgd:o.guard=none) (s x:Operand) (t:TypeId)
 (ho:o.op=.call {callee:=.builtin .append,args:=#[s,x],argTypes:=#[t,t]})
 (base:Nat) (e:TypeId) (i:TypeInfo) (z:Value) (size bytes:Nat) (ht:P.underlying t=some (.slice e)) (hi:P.info? e=some i) (hz:i.zero=some z)
 (hsize:i.size=size) (hby:i.bytes=bytes) (hzs:z.cells.size=size) (hs0:0 < size)
 (v:Value) (n:Nat) (xs:List Value) (hs:a.eval s=v) (hown:w.ownsRow base e size v n xs) (hbase:base≤w.heap.size)
 (cs:List Value) (m c:Nat) (hx:a.eval x=.slice (some ⟨w.heap.size,0,none⟩) m c) (hl:cs.length=m*size) (h1:(cs.all fun u=>u.oneCell')=true)
 (hsz:n+m≤1099511627776) (hb2:bytes≤128)
 (h:∀v' w',w'.ownsRow base e size v' (n+m) (xs++cs)→Kept w w' v v'→wpList P ops Q rest (a.put o.dst v') w'):wpList P ops Q (o::rest) a (w.alloc (.cells cs.toArray e)):=by
 refine wpList_append_own_at (w.alloc (.cells cs.toArray e)) hgd s x t ho base e i z size bytes ht hi hz hsize hby hzs hs0 v n xs hs (hown.alloc _) ⟨w.heap.size,0,none⟩ m c cs hx hl ?_ (fun u hu=>List.all_eq_true.1 h1 u hu) (by unfold maxLen;omega) ?_ (by simp;omega) ?_
 · intro j u hu;rw[Addr.add_lit,World.cell?_alloc_at _ _ _ _ rfl];simpa using hu
 · calc (n+m)*bytes≤1099511627776*128:=Nat.mul_le_mul hsz hb2
    _≤140737488355328:=by omega
 · intro v' w' h2 h3 _ h5;refine h v' w' h2 ⟨h3.os,h3.tape,h3.output,yAE (by simp) h3.size,fun k hk hne=>?_,?_⟩
   · rw[h3.block k (by simp;omega) (fun e=>hne e.symm)];exact heap_alloc_old w _ hk
   · rcases h5 with e | e
     · exact .inl e
     · exact .inr ⟨_,e,by simp⟩
end
theorem Tryz.info_int:(prog.info? 3).map (fun i=>(i.zero,i.size,i.bytes))=some (some (.int .i64 0),1,8):=by kernel_rfl
theorem zI9 (k:Int) (w:World):Calls prog 121 #[.int .i64 k] w fun e w'=>e=.returned (.bool (zEb k))∧w=w':=by
 go_enter func121,ntmps121;go_wp2
 all_goals go_ret
 all_goals refine⟨zJ ?_,rfl⟩
 all_goals (rw[Bool.eq_iff_iff];simp[zEb];try omega)
theorem zR4 (k:Int) (w:World):Calls prog 122 #[.int .i64 k] w fun e w'=>e=.returned (.bool (zDt k))∧w=w':=by
 obtain⟨q,hq⟩:∃q,zEb k=q:=⟨_,rfl⟩;have HC:=zD (show∀w,Calls prog 121 #[.int .i64 k] w fun e w'=>e=.returned (.bool q)∧w=w' from fun w=>by rw[←hq];exact zI9 k w);have HS:=zD (show zDt k=(q&& !(k==5)&& !(k==6)&& !(k==19)) by unfold zDt;rw[hq]);clear hq;cases q with
 | false=>
  go_enter func122,ntmps122;go_wp2_with (go_at_call 121;refine(HC.out w).mono ?_;rintro e w' ⟨rfl,rfl⟩);go_ret;exact⟨zJ (by rw[HS.out];rfl),rfl⟩
 | true=>
  go_enter func122,ntmps122;go_wp2_with (go_at_call 121;refine(HC.out w).mono ?_;rintro e w' ⟨rfl,rfl⟩)
  all_goals go_ret
  all_goals refine⟨zJ ?_,rfl⟩
  all_goals (rw[HS.out,Bool.eq_iff_iff];simp;try omega)
theorem zOn (k:Int) (w:World):Calls prog 123 #[.int .i64 k] w fun e w'=>e=.returned (.bool (zDu k))∧w=w':=by
 go_enter func123,ntmps123;go_wp2
 all_goals go_ret
 all_goals refine⟨zJ ?_,rfl⟩
 all_goals (rw[Bool.eq_iff_iff];simp[zDu];try omega)
theorem zBf (k:Int) (w:World):Calls prog 124 #[.int .i64 k] w fun e w'=>e=.returned (.bool (zAH k))∧w=w':=by
 go_enter func124,ntmps124;go_wp2
 all_goals go_ret
 all_goals refine⟨zJ ?_,rfl⟩
 all_goals (rw[Bool.eq_iff_iff];simp[zAH];try omega)
theorem zGy (k:Int) (w:World):Calls prog 84 #[.int .i64 k] w fun e w'=>e=.returned (.bool (zAs k))∧w=w':=by
 go_enter func84,ntmps84;go_wp2
 all_goals go_ret
 all_goals refine⟨zJ ?_,rfl⟩
 all_goals (rw[Bool.eq_iff_iff];simp[zAs];try omega)
theorem zGR (k n:Int) (w:World):Calls prog 80 #[.agg #[.int .i64 k,.int .i64 n]] w fun e w'=>e=.returned (.bool (zEc k n))∧Below w.heap.size w w':=by
 go_enter func80,ntmps80;go_wp2
 all_goals go_ret
 all_goals refine⟨zJ ?_,by go_grown⟩
 all_goals (rw[Bool.eq_iff_iff];simp[zEc];simp only[beq_iff_eq,yA,ne_eq]at *;split<;>omega)
theorem zGS (s:Nat) (k:Int) (hs:s≤13) (w:World):Calls prog 85 #[.int .i64 (s:Int),.int .i64 k] w fun e w'=>e=.returned (.bool (zAS s k))∧w=w':=by
 have h:s=0∨s=1∨s=2∨s=3∨s=4∨s=5∨s=6∨s=7∨s=8∨s=9∨s=10∨s=11∨s=12∨s=13:=by omega
 obtain⟨q,hq⟩:∃q,zDu k=q:=⟨_,rfl⟩;have HQ:=zD hq;have HC:=zD (show∀w,Calls prog 123 #[.int .i64 k] w fun e w'=>e=.returned (.bool q)∧w=w' from fun w=>by rw[←hq];exact zOn k w);clear hs hq;rcases h with rfl | rfl | rfl | rfl | rfl | rfl | rfl | rfl | rfl | rfl | rfl | rfl | rfl | rfl
 all_goals
  go_enter func85,ntmps85;go_wp2_with (first | (go_at_call 121;refine(zI9 k w).mono ?_;rintro e w' ⟨rfl,rfl⟩) | (go_at_call 122;refine(zR4 k w).mono ?_;rintro e w' ⟨rfl,rfl⟩) | (go_at_call 123;refine(HC.out w).mono ?_;rintro e w' ⟨rfl,rfl⟩) | (go_at_call 124;refine(zBf k w).mono ?_;rintro e w' ⟨rfl,rfl⟩))
  all_goals go_ret
  all_goals refine⟨zJ ?_,rfl⟩
  all_goals first | rfl | exact HQ.out.symm | (simp[zAS, *];done) | (simp[zAS, *];exact HQ.out.symm) | (simp[zAS, *];rw[HQ.out])
def chr (n:Nat):UInt8:=UInt8.ofNat n
def zH8 (n:Nat):List UInt8:=if n < 10 then [chr (48+n)]else zH8 (n / 10)++[chr (48+n % 10)]
termination_by n
theorem zE4 {n:Nat} (h:n < 10):zH8 n=[chr (48+n)]:=by rw[zH8,if_pos h]
theorem zID {n:Nat} (h:¬n < 10):zH8 n=zH8 (n / 10)++[chr (48+n % 10)]:=by rw[zH8,if_neg h]
theorem zFj (n:Nat):Lib.decDigits n=zH8 n:=by
 induction n using Nat.strongRecOn with
 | _ n ih=>
  by_cases h:n < 10
  · rw[Lib.decDigits,dif_pos h,zE4 h];rfl
  · rw[Lib.decDigits,dif_neg h,zID h,ih _ (by omega)];rfl
theorem zOo (n:Int) (h:0≤n):Lib.itoa n=zH8 n.toNat:=by
 unfold Lib.itoa;rw[if_neg (by omega),zFj]
def Tab (w : World) : Prop := Lib.TabIs prog w "internal/strconv.uint64pow10" .u64 Lib.pow10Tab
theorem zUf : prog.globalNamed "internal/strconv.uint64pow10" = some 3 := by kernel_rfl
theorem Tab.below {B:Nat} {w w':World} (h:Tab w) (hg:3 < B) (hb:Below B w w'):Tab w':=by
 unfold Tab Lib.TabIs World.var? at h⊢;rw[zUf]at h⊢;simp only[Option.bind_some]at h⊢;rw[hb.block _ hg];exact h
theorem Tab.lt {w:World} (h:Tab w):3 < w.heap.size:=by
 unfold Tab Lib.TabIs World.var? at h;rw[zUf]at h;simp only[Option.bind_some]at h;rcases Nat.lt_or_ge 3 w.heap.size with h' | h'
 · exact h'
 · rw[Array.getElem?_eq_none h']at h;cases h
theorem zOp {n:Int} (h0:0≤n) (h1:n≤9007199254740991) {w:World} (ht:Tab w):
 Calls prog 166 #[.int .i64 n] w fun e w'=>e=.returned (.string ⟨(zH8 n.toNat).toArray⟩)∧Below w.heap.size w w':=by
 refine(Tryz.strconv_Itoa n (by omega) (by omega) w ht).mono ?_;rintro e w' ⟨rfl,k,os,rfl⟩;exact⟨by rw[zOo n h0],Go.Lib.below_grow _ w (yAD _) k os⟩
theorem zR5 (n:Int) (w:World) (h0:0≤n) (h1:n≤9007199254740991):Calls prog 80 #[.agg #[.int .i64 0,.int .i64 n]] w fun e w'=>e=.returned (.bool true)∧w'=w.alloc (.cells #[.int .i64 0,.int .i64 n] 39):=by
 have h2:decide ((-9007199254740991:Int)≤n)=true:=decide_eq_true (by omega);have h3:decide (n≤(9007199254740991:Int))=true:=decide_eq_true h1;go_enter func80,ntmps80;go_wp2
 all_goals go_ret
 all_goals exact⟨rfl,rfl⟩
theorem zR6 (n:Int) (w:World) (h0:0≤n) (h1:n≤9007199254740991):
 Calls prog 165 #[.agg #[.int .i64 0,.int .i64 n]] w fun e w'=>e=.returned (.agg #[.int .i64 0,.int .i64 n])∧w'=((w.alloc (.cells #[.int .i64 0,.int .i64 n] 39)).alloc (.cells #[.int .i64 0,.int .i64 n] 39)).alloc (.cells #[.int .i64 0,.int .i64 n] 39):=by
 go_enter func165,ntmps165;go_wp2_with (go_at_call 80;refine(zR5 n _ h0 h1).mono ?_;rintro e w' ⟨rfl,rfl⟩);refine bodyPost_ret (v:=.agg #[.int .i64 0,.int .i64 n]) (by simp[results,results165,go_sem]) rfl ?_;exact⟨rfl,rfl⟩
theorem zLt (n:Int) (w:World) (h0:0≤n) (h1:n≤9007199254740991) (ht:Tab w):
 Calls prog 130 #[.agg #[.int .i64 0,.int .i64 n]] w fun e w'=>e=.returned (.string ⟨(zH8 n.toNat).toArray⟩)∧Below w.heap.size w w':=by
 have HT:=zD (fun(W:World) (hb:Below w.heap.size w W)=>zOp h0 h1 (ht.below ht.lt hb));clear ht;go_enter func130,ntmps130;go_wp2_with first
  | (go_at_call 165;refine(zR6 n _ h0 h1).mono ?_;rintro e w' ⟨rfl,rfl⟩)
  | (go_at_call 166;refine(HT.out _ (by go_grown)).mono ?_;rintro e w' ⟨rfl,hb⟩)
 go_ret;refine⟨rfl,Below.trans (b:=_) ?_ (hb.mono (by simp;omega))⟩
 go_grown
section Zq
open Go.ChangeShapes Go.WideShapes Go.ChangeAt Go.RowKit Go.Lib
theorem own:ownKnob prog.godebug=none:=by kernel_rfl
theorem zOq:(prog.globals[3]?).map (·.type)=some 195:=by kernel_rfl
theorem zTm:(Rows.laid_internal_strconv_uint64pow10:DataW Unit)=Lib.tabData .u64 Lib.pow10Tab:=by kernel_rfl
theorem zOr {w : World} (h : laidMetH prog [("math/bits.deBruijn32tab", Rows.laid_math_bits_deBruijn32tab), ("math/bits.deBruijn64tab", Rows.laid_math_bits_deBruijn64tab), ("internal/strconv.uint64pow10", Rows.laid_internal_strconv_uint64pow10)] w) : Tab w := by
 have h' : laidMet prog [("math/bits.deBruijn32tab", Rows.laid_math_bits_deBruijn32tab), ("math/bits.deBruijn64tab", Rows.laid_math_bits_deBruijn64tab), ("internal/strconv.uint64pow10", Rows.laid_internal_strconv_uint64pow10)] w := h;rw[zTm]at h';obtain⟨_,⟨_,_,_,_,_,_,_,_,_,_,⟨_,_,_,_,_,_,_,_,_,_,⟨g',t',cs,fuel,p,q,hg',ht',hvar,hd,_,_⟩,_⟩,_⟩,_⟩:=h';obtain rfl:=Option.some.inj (zUf.symm.trans hg');obtain rfl:=Option.some.inj (zOq.symm.trans ht');unfold Tab Lib.TabIs;rw[hvar,←Lib.cells_of_tab underlying195 underlying170 (by kernel_rfl) (by kernel_rfl) hd]
section
variable {H:Type} {enc:TypeId×Value→H} {W:World} {base:Nat}
theorem Tryz.laidOut:laidOutB prog=true:=by kernel_rfl
theorem zGT {W':World} {sp':Nat→Bool}:∀{ts:List TypeId} {vs:List Value} {ds:List (DataW H)} {ps:List MemPlace},(∀t∈ts,prog.readableRec t=true∧t < prog.types.size)→
 DataW.TrodAll enc prog W 0 (fun _=>true) true ts vs ds ps→Below W.heap.size W W'→(∀x∈ps,x.block < W.heap.size)→(∀p∈ps,sp' p.block=true)→DataW.TrodAll enc prog W' 0 sp' true ts vs ds ps:=by
 intro ts
 induction ts with
 | nil=>
  intro vs ds ps _ h _ _ _;obtain⟨rfl,rfl,rfl⟩:=trodAll_nil h;exact trodAll_mk0
 | cons t ts ih=>
  intro vs ds ps hr h hb hlt hs;obtain⟨v,vs',d,ds',p,q,rfl,rfl,rfl,h0,r0⟩:=trodAll_cons h;have ht:=hr t (by simp);exact trodAll_cons_mk (WideElems.Trod_stays Tryz.laidOut ht.1 ht.2 h0 (fun x hx=>hb.same (hlt x (by simp[hx]))) (fun x hx=>hs x (by simp[hx])))
   (ih (fun t' h'=>hr t' (by simp[h'])) r0 hb (fun x hx=>hlt x (by simp[hx])) (fun x hx=>hs x (by simp[hx])))
theorem zGU {P:Program} {f:Func} {s:ChangeSpec} {apart fresh handsOn again:Bool} {W W':World} {args:Array Value} {v:Value} {ds gs:List (DataW H)} {before pa pv:List MemPlace}
 (hW:DataW.Whole enc P f.params.toList s.vars apart W args.toList ds gs before)
 (hres:∀(b:Nat) (sp:Nat→Bool) (hd:Bool),DataW.TrodAll enc P W' b sp hd f.resultTypes.toList (v.resultList f.resultTypes.size) (s.fn H (ds++gs)).results [])
 (hargs:∀sp:Nat→Bool,(∀p∈before,sp p.block=true)→DataW.TrodAll enc P W' 0 sp true f.params.toList args.toList (s.fn H (ds++gs)).args pa)
 (hvars:∀sp:Nat→Bool,(∀p∈before,sp p.block=true)→DataW.TrodVars enc P W' sp s.vars (s.fn H (ds++gs)).vars pv)
 (hps:before=pa++pv) (hb:Below W.heap.size W W')
 (hok:∀(j:Nat) (t:TypeId) (r:Value),f.resultTypes[j]? =some t→(v.resultList f.resultTypes.size)[j]? =some r→Value.okWide P W' .any 0 t r):
 s.post enc P f apart fresh handsOn again W args v W':=by
 have hlt:∀p∈before,p.block < W.heap.size:=fun p hp=>hW.lt p hp;have hold:∀p∈before,(fun b=>decide (b < W.heap.size)) p.block=true:=fun p hp=>by simpa using hlt p hp
 refine⟨ds,gs,before,[],pa,pv,hW,hres _ _ _,hargs _ hold,hvars _ hold,World.keptBut_mono (fun p hp=>⟨hp,?_⟩) (hb.frame (·∈before)),fun _=>?_⟩
 · rw[hps,List.mem_append]at hp;exact Or.inr hp
 · obtain⟨_,_,_,_,_,hz,hn⟩:=hW;refine⟨hok,_,_,([]++pa)++pv,⟨[]++pa,pv,trodAll_append (hargs _ (fun _ _=>rfl)) (hres _ _ _),hvars _ (fun _ _=>rfl),rfl,?_,?_⟩,?_⟩
   · intro b off hp;have hin:MemPlace.cell b off∈before:=by rw[hps];simpa using hp
     rw[hb.frozen (hlt _ hin)];exact hz b off hin
   · intro ha;have:=hn ha;rw[hps]at this;simpa using this
   · intro p hp _;rw[hps];simpa using hp
end
def zRn:DataW Unit→List Int
 | .agg l=>l.map fun d=>match d with | .lit (.int _ z)=>z | _=>0
 | _=>[]
def zOs (h:Array Obj):Array Obj:=
 ((h.modify 3 fun
  | .cells _ t frozen=>.cells (Lib.pow10Tab.map fun z=>Value.int .u64 z).toArray t frozen
  | o=>o).modify 4 fun
  | .cells _ t frozen=>.cells ((zRn Rows.laid_math_bits_deBruijn32tab).map fun z=>Value.int .u8 z).toArray t frozen
  | o=>o).modify 5 fun
  | .cells _ t frozen=>.cells ((zRn Rows.laid_math_bits_deBruijn64tab).map fun z=>Value.int .u8 z).toArray t frozen
  | o=>o
noncomputable def zE5 (os:Os):World:=
 let w:=World.holding prog os ⟨#[],#[],[]⟩
 {w with heap:=zOs w.heap}
end Zq
end Go.Proofs.YtlohaclgbfhijaaGreatDoor
