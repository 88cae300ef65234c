/- Joined for the claim EarlySame: the parser, the lexer and the trees as they are walked, made short by a program of mine. -/
import Derived.Test.YtjlfhidpmdgloaaGreatDoorProg
import Derived.WalkKit
import Derived.WalkSpells
import Derived.WalkLawsBesides
import Derived.Deep.AppendLies
import Derived.Deep.Draws
import Derived.Deep.QuietTactic
import Derived.BigQuiet
import Derived.Maps.AppendAt
import Derived.RegionTactic
import Derived.Lib.Hide
import Derived.Handy
import Derived.Shelf.Small.Strs
import Derived.Shelf.Strconv.Itoa0
import Derived.Shelf.Strconv.Itoa1
import Derived.Shelf.LaysM
import Derived.Shelf.Strconv.Itoa2
import Derived.Shelf.Strconv.Itoa3
import Derived.Shelf.Strings.Search1
import Derived.Shelf.Slices.Turned
import Derived.Ground.SlgnProg
import Derived.Shelf.SlicesE.Clone
import Derived.Lib.DecodeN
import Derived.Lib.AppendIntMem
import Derived.Deep.CutBlock
import Derived.Deep.DeepCutAuto
import Derived.Test.YtjlfhidpmdgloaaGreatDoorCards
import Derived.Test.YtjlfhidpmdgloaaGreatDoorTie
import Derived.ProofKit
import Derived.OpenShut
import Derived.Deep.DeepHandedRow
import Derived.Lib.LaidTab
import Derived.Shelf.Unicode.DecodeSlow
import Derived.Lib.LaidU8
import Derived.Deep.Slices
set_option maxHeartbeats 16000000
set_option maxRecDepth 1000000
namespace Go.Proofs.YtjlfhidpmdgloaaGreatDoor
open Go.Proofs.Tryz
abbrev yA:=@beq_eq_false_iff_ne
abbrev yAA:=@Nat.lt_of_lt_of_le
abbrev yAB:=@List.getElem?_eq_getElem
abbrev yAC:=@Nat.le_refl
abbrev yAD:=@Nat.le_trans
abbrev yAE:=@Nat.zero_le
abbrev yAF:=@Nat.lt_succ_self
abbrev yAG:=@List.getD_eq_getElem?_getD
abbrev yAH:=@List.drop_eq_getElem_cons
abbrev yAI:=@decide_eq_false
abbrev yAJ:=@World.ownsRow_nil
abbrev yAK:=@List.take_succ_eq_append_getElem
abbrev yAL:=@List.append_assoc
abbrev yAM:=@Nat.le_of_lt
abbrev yAN:=@List.length_append
abbrev yAO:=@List.length_cons
abbrev yAP:=@List.cons_append
abbrev yAQ:=@Bool.and_eq_true
abbrev yAR:=@List.length_drop
abbrev yAS:=@List.append_nil
abbrev yAT:=@List.getElem?_eq_some_iff
abbrev yAU:=@Prod.mk.injEq
abbrev yAV:=@List.mem_cons_of_mem
abbrev yAW:=@List.mem_cons
abbrev yAX:=@List.getElem?_append_right
abbrev yAY:=@List.nil_append
abbrev yAZ:=@List.getElem_mem
abbrev yB:=@List.take_of_length_le
abbrev yBA:=@List.length_nil
abbrev yBB:=@List.eq_nil_of_length_eq_zero
abbrev yBC:=@List.getElem?_eq_none
abbrev yBD:=@List.getElem?_append_left
abbrev yBE:=@decide_eq_true
abbrev yBF:=@of_decide_eq_true
abbrev yBG:=@decide_eq_true_eq
abbrev yBH:=@List.all_eq_true
abbrev yBI:=@Option.some.inj
abbrev yBJ:=@Bool.eq_iff_iff
abbrev yBK:=@List.length_take
abbrev yBL:=@beq_iff_eq
abbrev yBM:=@bne_iff_ne
abbrev yBN:=@List.mem_cons_self
abbrev yBO:=@Nat.lt_or_ge
abbrev yBP:=@Nat.lt_succ_of_le
abbrev yBQ:=@List.mem_append
abbrev yBR:=@World.cell?_alloc_at
abbrev yBS:=@UInt16.toNat_inj
abbrev yBT:=@List.mem_singleton
abbrev yBU:=@Bool.or_eq_true
abbrev yBV:=@List.mem_nil_iff
abbrev yBW:=@List.length_singleton
abbrev yBX:=@List.mem_append_right
abbrev yBY:=@List.takeWhile_cons_of_pos
abbrev yBZ:=@List.drop_length
abbrev yC:=@Bool.true_and
abbrev yCA:=@List.drop_of_length_le
abbrev yCB:=@List.getElem_cons_zero
abbrev yCC:=@List.drop_drop
abbrev yCD:=@List.singleton_append
abbrev yCE:=@Option.some.injEq
abbrev yCF:=@Bool.false_eq_true
abbrev yCG:=@List.mem_of_getElem?
abbrev yCH:=@List.getElem?_map
abbrev yCI:=@Option.getD_some
abbrev yCJ:=@List.mem_append_left
abbrev yCK:=@Nat.zero_add
abbrev yCL:=@List.length_pos_iff
abbrev yCM:=@List.getElem?_drop
abbrev yCN:=@Nat.eq_zero_or_pos
abbrev yCO:=@Nat.add_assoc
abbrev yCP:=@Nat.pow_succ
abbrev yCQ:=@List.getElem?_set
abbrev yCR:=@List.map_append
abbrev yCS:=@Nat.sub_self
abbrev yCT:=@List.length_eq_zero_iff
theorem jc{w W:World}{c:Array Value}{T i:Nat}{v:Value}(e:w.alloc (.cells c T)=W)(h:c[i]?=some v:=by rfl):W.cell? ⟨w.heap.size,i,none⟩=some v:=by rw[←e,World.cell?_alloc_at _ _ _ _ rfl];exact h
theorem ja{w:World}{o:Obj}:RowKit.Below w.heap.size w (w.alloc o):=(RowKit.Below.refl _ _).alloc (Nat.le_refl _) _
theorem jb{w W:World}{o:Obj}(e:w.alloc o=W):RowKit.Below w.heap.size w W:=e▸ja
theorem jn{α:Sort _}{c:Prop}[h:Decidable c]{a b:α}(hn:¬c:=by omega):ite c a b=b:=if_neg hn
theorem jr{P:Program}{fn:Func}{R:Ending→World→Prop}{a:Act}{w:World}(hR:R (.returned (.tuple #[])) w)(hf:fn.results=#[]:=by rfl)(hd:a.defers=[]:=by rfl):bodyPost P fn R .ret a w:=bodyPost_ret (results_none hf _ _ _) hd hR
theorem jo{p:Prop}(h:p:=by omega):p:=h
theorem jd{p:Prop}(h:p:=by decide):p:=h
theorem js{p:Prop}(h:p:=by simp):p:=h
theorem ji{α:Sort _}{c:Prop}[h:Decidable c]{a b:α}(hn:¬c:=by decide):ite c a b=b:=if_neg hn
theorem jx{α:Sort _}(a:α):∃x,a=x:=⟨a,rfl⟩
abbrev jY(w w2:World):Prop:=RowKit.Below w.heap.size w w2
instance jI:Coe Int Value:=⟨fun x=>.int .i64 x⟩
instance jN:Coe Nat Value:=⟨fun x=>.int .i64 (x:Int)⟩
instance jB:Coe Bool Value:=⟨fun x=>.bool x⟩
instance jU:Coe Unit Value:=⟨fun _=>.slice none 0 0⟩
instance jS:Coe String Value:=⟨fun _=>.string ⟨#[]⟩⟩
instance jL:Coe (List UInt8) Value:=⟨fun l=>.string ⟨l.toArray⟩⟩
instance jA:Coe Nat Addr:=⟨fun b=>⟨b,0,none⟩⟩
abbrev jH:=List UInt16
abbrev jE:=List UInt8
abbrev jQ:=Option Addr
open Go.RowKit
variable {e:TypeId} {v:Value} {k base c:Nat}
theorem zA {p:Prop} (h:p):Hid p:=h
theorem zF {a b:Bool} (h:a=b):Ending.returned a=.returned b:=by rw[h]
theorem zFL {k:IntKind} {a b:Int} (h:a=b):Ending.returned (.int k a)=.returned (.int k b):=by rw[h]
theorem zv {B:Nat} {a w:World} (h:Below B a w) (n:Nat):Below B a (w.drewN n):=⟨h.os,h.tape,h.output,h.size,h.block⟩
theorem zDc (a:Addr) (n:Nat):(a.add n).block=a.block:=by unfold Addr.add;split<;>rfl
theorem zHc (a:Addr) (i j:Nat):(a.add i).add j=a.add (i+j):=by
 unfold Addr.add
 by_cases hi:i=0<;>by_cases b:j=0<;>simp[hi,b,yCO]
def Reads (w:World) (B size:Nat) (A:jQ) (n:Nat) (xs:List Value):Prop:=
 xs.length=n*size∧(0 < n→∃ad,A=some ad∧ad.block < B∧∀j u,xs[j]? =some u→w.cell? (ad.add j)=some u)
section
variable {w w':World} {B B' size n:Nat} {A:jQ} {xs:List Value}
theorem Reads.none_:Reads w B size A 0 []:=⟨by simp,fun h=>absurd h jo⟩
theorem Reads.at_ (h:Reads w B 1 A n xs) (hk:k < n):∃b u,A=some b∧b.block < B∧xs[k]? =some u∧w.cell? (b.add k)=some u:=by
 obtain⟨b,e,hb,d⟩:=h.2 jo;have c:k < xs.length:=by have:=h.1;omega
 exact⟨b,xs[k],e,hb,yAB c,d k _ (yAB c)⟩
theorem Reads.keep (h:Reads w B size A n xs) (hk:∀p:Addr,p.block < B→w'.cell? p=w.cell? p):Reads w' B size A n xs:=
 ⟨h.1,fun b=>by
  obtain⟨c,e,hb,d⟩:=h.2 b;exact⟨c,e,hb,fun j u f=>(hk _ (by rw[zDc];exact hb)).trans (d j u f)⟩⟩
theorem Reads.more (h:Reads w B size A n xs) (hB:B≤B'):Reads w B' size A n xs:=
 ⟨h.1,fun b=>by
  obtain⟨c,e,hb,d⟩:=h.2 b;exact⟨c,e,by omega,d⟩⟩
theorem Reads.below (h:Reads w B size A n xs) (hb:Below B w w'):Reads w' B size A n xs:=h.keep fun _ b=>hb.cell b
theorem Reads.drew (h:Reads w B size A n xs):Reads w.drew B size A n xs:=h
theorem Reads.drewN (h:Reads w B size A n xs) (k:Nat):Reads (w.drewN k) B size A n xs:=h
theorem Reads.alloc (h:Reads w B size A n xs) (hB:B≤w.heap.size) (o:Obj):Reads (w.alloc o) B size A n xs:=h.keep fun p b=>World.cell?_alloc_lt w o p jo
theorem Reads.cut (h:Reads w B size A n xs) {cap:Nat} (hk:k≤n) (e:n≤cap):
 Reads w B size (if cap=k then A else A.map (·.add (k*size))) (n - k) (xs.drop (k*size)):=by
 refine⟨by rw[yAR,h.1,Nat.sub_mul],fun f=>?_⟩;obtain⟨c,rfl,hb,b⟩:=h.2 jo;rw[jn];refine⟨c.add (k*size),rfl,by rw[zDc];exact hb,fun j u d=>?_⟩;rw[zHc];exact b _ u (by rw[←d,yCM])
theorem Reads.take (h:Reads w B size A n xs) (hk:k≤n):Reads w B size A k (xs.take (k*size)):=by
 refine⟨by rw[yBK,h.1];exact Nat.min_eq_left (Nat.mul_le_mul_right _ hk),fun e=>?_⟩;obtain⟨d,rfl,hb,b⟩:=h.2 jo;refine⟨d,rfl,hb,fun j u c=>b j u ?_⟩;rw[List.getElem?_take]at c;split at c
 · exact c
 · cases c
theorem Reads.of_own (h:w.ownsRow base e size (.slice A n c) n xs):Reads w w.heap.size size A n xs:=by
 refine⟨h.1,fun d=>?_⟩;obtain⟨g,cap,hv,_,b⟩:=h.form d;have f:A=some ⟨g,0,none⟩:=by injection hv
 subst f;exact⟨_,rfl,b,h.cells (g:=g) rfl⟩
end
theorem zP {w:World} {size n:Nat} {xs:List Value} (h:w.ownsRow base e size v n xs):
 ∃A c,v=.slice A n c∧n≤c∧c≤maxLen:=by
 rcases h.2 with⟨rfl,rfl⟩ | ⟨g,cap,f,rfl,_,_,b,d,_⟩
 · exact⟨none,0,rfl,yAC _,by unfold maxLen;omega⟩
 · exact⟨_,cap,rfl,b,d⟩
def u8v (x:UInt8):Value:=.int .u8 (x.toNat:Int)
def zX6 (x:UInt16):Value:=.int .u16 (x.toNat:Int)
def u8s (l:jE):List Value:=l.map u8v
def zAC (l:jH):List Value:=l.map zX6
theorem zSI (l:jH):∀u∈zAC l,u.oneCell'=true:=by
 intro u b;obtain⟨_,_,rfl⟩:=List.mem_map.1 b;rfl
theorem zCR (l:jH):(zAC l).length=l.length:=by simp[zAC]
theorem zEU (l:jE):(u8s l).length=l.length:=by simp[u8s]
structure Made (w0 w:World) (e:TypeId) (v:Value) (xs:List Value):Prop where
 own:w.ownsRow w0.heap.size e 1 v xs.length xs
 below:jY w0 w
theorem Made.nil (w0:World) (e:TypeId):Made w0 w0 e (.slice none 0 0) []:=⟨yAJ _ _ _ _,Below.refl _ _⟩
theorem Made.of_below {w0 w:World} (h:jY w0 w) (e:TypeId):Made w0 w e (.slice none 0 0) []:=⟨yAJ _ _ _ _,h⟩
theorem Made.shape {w0 w:World} {xs:List Value} (h:Made w0 w e v xs):
 ∃A c,v=.slice A xs.length c∧xs.length≤c∧c≤maxLen∧Reads w w.heap.size 1 A xs.length xs:=by
 obtain⟨A,c,hv,h1,d⟩:=zP h.own;have b:=h.own;rw[hv]at b;exact⟨A,c,hv,h1,d,Reads.of_own b⟩
theorem Made.alloc {w0 w:World} {xs:List Value} (h:Made w0 w e v xs) (o:Obj):Made w0 (w.alloc o) e v xs:=
 ⟨h.own.alloc o,h.below.alloc h.below.size o⟩
theorem Made.drew {w0 w:World} {xs:List Value} (h:Made w0 w e v xs):Made w0 w.drew e v xs:=⟨h.own.drew,h.below.drew⟩
theorem Made.cells {w0 w:World} {xs b:List Value} (h:Made w0 w e v xs) (e1:xs=b):Made w0 w e v b:=e1▸h
section
variable {P:Program} {w0 w:World} {ops:Array Oper} {rest:List Oper} {o:Oper} {a:Act} {Q:Exit→Act→World→Prop}
theorem zM0 (b:o.guard=none) (s x:Operand) (t:TypeId)
 (f:o.op=.call {callee:=.builtin .append,args:=#[s,x],argTypes:=#[t,t]})
 (e:TypeId) (i:TypeInfo) (z:Value) (bytes:Nat) (ht:P.underlying t=some (.slice e)) (hi:P.info? e=some i) (hz:i.zero=some z)
 (hsize:i.size=1) (hby:i.bytes=bytes) (hzs:z.cells.size=1)
 (v:Value) (xs:List Value) (hs:a.eval s=v) (hm:Made w0 w e v xs)
 (ad:Addr) (m c:Nat) (news:List Value) (hx:a.eval x=.slice (some ad) m c) (hl:news.length=m) (hnews:∀j u,news[j]? =some u→w.cell? (ad.add j)=some u) (h1:∀u∈news,u.oneCell'=true)
 (hsz:xs.length+m≤70368744177664) (hb2:bytes≤2)
 (h:∀v' w',Made w0 w' e v' (xs++news)→w.grownBy w' v.ownBlock→wpList P ops Q rest (a.put o.dst v') w'):wpList P ops Q (o::rest) a w:=by
 subst hl;refine wpList_append_own w b s x t f w0.heap.size e i z 1 bytes ht hi hz hsize hby hzs jo v xs.length xs hs hm.own ad _ c news hx jo hnews h1 (by unfold maxLen;omega) ?_ hm.below.size ?_
 · calc (xs.length+news.length)*bytes≤70368744177664*2:=Nat.mul_le_mul hsz hb2
    _≤140737488355328:=by omega
 · intro v' w' h1 d _;refine h v' w' ⟨by rw[yAN];exact h1,hm.below.grown d hm.below.size (fun k hk=>(hm.own.lt k hk).1)⟩ d
theorem zCY (d:o.guard=none) (s x:Operand) (t:TypeId)
 (f:o.op=.call {callee:=.builtin .append,args:=#[s,x],argTypes:=#[t,t]})
 (e:TypeId) (i:TypeInfo) (z:Value) (bytes:Nat) (ht:P.underlying t=some (.slice e)) (hi:P.info? e=some i) (hz:i.zero=some z)
 (hsize:i.size=1) (hby:i.bytes=bytes) (hzs:z.cells.size=1)
 (v:Value) (xs:List Value) (hs:a.eval s=v) (hm:Made w0 w e v xs)
 (cs:List Value) (m c:Nat) (hx:a.eval x=.slice (some ⟨w.heap.size,0,none⟩) m c) (hl:cs.length=m) (h1:(cs.all fun u=>u.oneCell')=true)
 (hsz:xs.length+m≤70368744177664) (hb2:bytes≤2)
 (h:∀v' w',Made w0 w' e v' (xs++cs)→wpList P ops Q rest (a.put o.dst v') w'):wpList P ops Q (o::rest) a (w.alloc (.cells cs.toArray e)):=by
 refine zM0 d s x t f e i z bytes ht hi hz hsize hby hzs v xs hs (hm.alloc _) ⟨w.heap.size,0,none⟩ m c cs hx hl ?_ (fun u b=>yBH.1 h1 u b) hsz hb2 (fun v' w' g _=>h v' w' g);intro j u b;rw[Addr.add_lit,yBR _ _ _ _ rfl];simpa using b
end
theorem Tryz.info_u16:(prog.info? 104).map (fun i=>(i.zero,i.size,i.bytes))=some (some (.int .u16 0),1,2):=by kernel_rfl
theorem Tryz.info_u8:(prog.info? 5).map (fun i=>(i.zero,i.size,i.bytes))=some (some (.int .u8 0),1,1):=by kernel_rfl
theorem Made.call {w0 w w':World} {xs:List Value} (h:Made w0 w e v xs) (hb:jY w w'):Made w0 w' e v xs:=
 ⟨h.own.kept (row:=none) ⟨hb.os,hb.tape,hb.output,hb.size,fun k hk _=>hb.block k hk⟩ (by cases hv:v.ownBlock<;>simp),h.below.trans (hb.mono h.below.size)⟩
theorem Made.u16 {w0 w:World} {xs:jH} (h:Made w0 w e v (zAC xs)):
 ∃A c,v=.slice A xs.length c∧xs.length≤c∧c≤maxLen∧Reads w w.heap.size 1 A xs.length (zAC xs):=by
 obtain⟨A,c,hv,h1,d,b⟩:=h.shape;have e:(zAC xs).length=xs.length:=by simp[zAC]
 rw[e]at hv h1 b;exact⟨A,c,hv,h1,d,b⟩
theorem Made.u8 {w0 w:World} {xs:jE} (h:Made w0 w e v (u8s xs)):
 ∃A c,v=.slice A xs.length c∧xs.length≤c∧c≤maxLen∧Reads w w.heap.size 1 A xs.length (u8s xs):=by
 obtain⟨A,c,hv,h1,d,b⟩:=h.shape;have e:(u8s xs).length=xs.length:=by simp[u8s]
 rw[e]at hv h1 b;exact⟨A,c,hv,h1,d,b⟩
theorem Reads.u16 {w:World} {B n:Nat} {A:jQ} {xs:jH} (h:Reads w B 1 A n (zAC xs)) (hk:k < xs.length):
 ∃b,A=some b∧b.block < B∧w.cell? (b.add k)=some (.int .u16 (xs[k].toNat:Int)):=by
 have f:xs.length=n:=by have:=h.1;simpa [zAC]using this
 obtain⟨b,u,e,hb,c,d⟩:=h.at_ (k:=k) jo;refine⟨b,e,hb,?_⟩;rw[d];simp[zAC,hk]at c;rw[←c];rfl
theorem Reads.u8 {w:World} {B n:Nat} {A:jQ} {xs:jE} (h:Reads w B 1 A n (u8s xs)) (hk:k < xs.length):
 ∃b,A=some b∧b.block < B∧w.cell? (b.add k)=some (.int .u8 (xs[k].toNat:Int)):=by
 have f:xs.length=n:=by have:=h.1;simpa [u8s]using this
 obtain⟨b,u,e,hb,c,d⟩:=h.at_ (k:=k) jo;refine⟨b,e,hb,?_⟩;rw[d];simp[u8s,hk]at c;rw[←c];rfl
theorem Addr.add_zero (a:Addr):a.add 0=a:=by simp[Addr.add]
theorem Reads.u16_0 {w:World} {B n:Nat} {A:jQ} {xs:jH} (h:Reads w B 1 A n (zAC xs)) (hk:0 < xs.length):
 ∃b,A=some b∧b.block < B∧w.cell? b=some (.int .u16 (xs[0].toNat:Int)):=by
 obtain⟨b,h1,d,c⟩:=h.u16 hk;rw[Addr.add_zero]at c;exact⟨b,h1,d,c⟩
theorem Reads.cut16 {w:World} {B:Nat} {A:jQ} {xs:jH} (h:Reads w B 1 A xs.length (zAC xs)) (hk:k≤xs.length) (b:xs.length≤c):
 Reads w B 1 (if c=k then A else A.map (·.add k)) (xs.drop k).length (zAC (xs.drop k)):=by
 have h1:=h.cut (k:=k) (cap:=c) hk b;simp only[Nat.mul_one]at h1;rw[yAR];simpa [zAC,List.map_drop]using h1
theorem Reads.cut8 {w:World} {B:Nat} {A:jQ} {xs:jE} (h:Reads w B 1 A xs.length (u8s xs)) (hk:k≤xs.length) (b:xs.length≤c):
 Reads w B 1 (if c=k then A else A.map (·.add k)) (xs.drop k).length (u8s (xs.drop k)):=by
 have h1:=h.cut (k:=k) (cap:=c) hk b;simp only[Nat.mul_one]at h1;rw[yAR];simpa [u8s,List.map_drop]using h1
theorem Reads.take16 {w:World} {B n:Nat} {A:jQ} {xs:jH} (h:Reads w B 1 A n (zAC xs)) (hk:k≤xs.length):
 Reads w B 1 A (xs.take k).length (zAC (xs.take k)):=by
 have b:xs.length=n:=by have:=h.1;simpa [zAC]using this
 have h1:=h.take (k:=k) jo;rw[yBK,Nat.min_eq_left hk];simpa [zAC,List.map_take]using h1
theorem zVl {k:IntKind} {n m:Int} {a b:Bool} (h:n=m) (c:a=b):Ending.returned (.tuple #[.int k n,a])=.returned (.tuple #[.int k m,b]):=by rw[h,c]
end Go.Proofs.YtjlfhidpmdgloaaGreatDoor
namespace Go.Proofs
open Go.Proofs.Tryz
open Go.Shelf
def Tryz.laysM171_ren:Go.Shelf.Ren:=⟨fun | 171=>102 | 243=>135 | 246=>159 | 283=>173 | 284=>174 | 285=>175 | 286=>176 | 129=>182 | 317=>181 | 318=>183 | 319=>184 | 320=>185 | 337=>188 | 338=>189 | n=>n,fun | 3=>3 | 9=>9 | 2=>2 | 4=>4 | 171=>173 | 0=>0 | 53=>127 | 37=>68 | 5=>5 | 173=>176 | 212=>181 | 51=>119 | 20=>20 | 213=>182 | 46=>118 | 232=>186 | 233=>187 | n=>n,fun | 17=>2 | 18=>4 | 19=>5 | n=>n⟩
theorem Tryz.laysM171:Go.Proofs.LaysM.n171 prog Tryz.laysM171_ren:={
 mixed:=by kernel_rfl
 f129:=func182.trans (congrArg some (by kernel_rfl))
 f171:=func102.trans (congrArg some (by kernel_rfl))
 f243:=func135.trans (congrArg some (by kernel_rfl))
 f246:=func159.trans (congrArg some (by kernel_rfl))
 f283:=func173.trans (congrArg some (by kernel_rfl))
 f284:=func174.trans (congrArg some (by kernel_rfl))
 f285:=func175.trans (congrArg some (by kernel_rfl))
 f286:=func176.trans (congrArg some (by kernel_rfl))
 f317:=func181.trans (congrArg some (by kernel_rfl))
 f318:=func183.trans (congrArg some (by kernel_rfl))
 f319:=func184.trans (congrArg some (by kernel_rfl))
 f320:=func185.trans (congrArg some (by kernel_rfl))
 f337:=func188.trans (congrArg some (by kernel_rfl))
 f338:=func189.trans (congrArg some (by kernel_rfl))
 t0:=underlying0
 a0:=Tryz.isAgg0
 z0:=Tryz.sizeOf0
 v0:=Tryz.zeroValue0
 t2:=underlying2
 a2:=Tryz.isAgg2
 z2:=Tryz.sizeOf2
 v2:=Tryz.zeroValue2
 t3:=underlying3
 a3:=Tryz.isAgg3
 z3:=Tryz.sizeOf3
 v3:=Tryz.zeroValue3
 t4:=underlying4
 a4:=Tryz.isAgg4
 z4:=Tryz.sizeOf4
 v4:=Tryz.zeroValue4
 t5:=underlying5
 a5:=Tryz.isAgg5
 z5:=Tryz.sizeOf5
 v5:=Tryz.zeroValue5
 t9:=underlying9
 a9:=Tryz.isAgg9
 z9:=Tryz.sizeOf9
 v9:=Tryz.zeroValue9
 t20:=underlying20
 a20:=Tryz.isAgg20
 z20:=Tryz.sizeOf20
 v20:=Tryz.zeroValue20
 t37:=underlying68
 a37:=Tryz.isAgg68
 z37:=Tryz.sizeOf68
 v37:=Tryz.zeroValue68
 t46:=underlying118
 a46:=Tryz.isAgg118
 z46:=Tryz.sizeOf118
 v46:=Tryz.zeroValue118
 t51:=underlying119
 a51:=Tryz.isAgg119
 z51:=Tryz.sizeOf119
 v51:=Tryz.zeroValue119
 t53:=underlying127
 a53:=Tryz.isAgg127
 z53:=Tryz.sizeOf127
 v53:=Tryz.zeroValue127
 t171:=underlying173
 a171:=Tryz.isAgg173
 z171:=Tryz.sizeOf173
 v171:=Tryz.zeroValue173
 t173:=underlying176
 a173:=Tryz.isAgg176
 z173:=Tryz.sizeOf176
 v173:=Tryz.zeroValue176
 t212:=underlying181
 a212:=Tryz.isAgg181
 z212:=Tryz.sizeOf181
 v212:=Tryz.zeroValue181
 t213:=underlying182
 a213:=Tryz.isAgg182
 z213:=Tryz.sizeOf182
 t232:=underlying186
 a232:=Tryz.isAgg186
 z232:=Tryz.sizeOf186
 v232:=Tryz.zeroValue186
 t233:=underlying187
 a233:=Tryz.isAgg187
 z233:=Tryz.sizeOf187
 v233:=Tryz.zeroValue187
 g17:=by kernel_rfl
 g18:=by kernel_rfl
 g19:=by kernel_rfl
 i0:=by kernel_rfl
 i2:=by kernel_rfl
 i3:=by kernel_rfl
 i4:=by kernel_rfl
 i5:=by kernel_rfl
 i9:=by kernel_rfl
 i20:=by kernel_rfl
 i37:=by kernel_rfl
 i46:=by kernel_rfl
 i51:=by kernel_rfl
 i53:=by kernel_rfl
 i171:=by kernel_rfl
 i173:=by kernel_rfl
 i212:=by kernel_rfl
 i232:=by kernel_rfl
 i233:=by kernel_rfl
 m17:=by kernel_rfl
 m18:=by kernel_rfl
 m19:=by kernel_rfl}
open Go.RowKit Go.Sort Go.Lib in
theorem Tryz.strconv_Itoa (n : Int) (c : -9223372036854775808 ≤ n) (h1 : n ≤ 9223372036854775807) (w : World) (b : Lib.TabIs prog w "internal/strconv.uint64pow10" .u64 Lib.pow10Tab) :
 Calls prog 102 #[.int .i64 n] w fun e w'=>e=.returned (.string ⟨(Lib.itoa n).toArray⟩)∧∃k os,w'=grow (w.drewN k) os:=Any.strconv_Itoa Tryz.laysM171 n c h1 w b
def Tryz.laysSlE041_f136_ren:Go.Shelf.Ren:=⟨fun | 41=>136 | n=>n,fun | 22=>53 | 23=>119 | 4=>4 | n=>n,fun | n=>n⟩
theorem Tryz.laysSlE041_f136:Go.Proofs.SlLaysE0.n41 prog Tryz.laysSlE041_f136_ren:={
 mixed:=by kernel_rfl
 f41:=⟨Tryz.f136.name,by decide,func136.trans (congrArg some (by kernel_rfl))⟩
 t4:=underlying4
 a4:=Tryz.isAgg4
 z4:=Tryz.sizeOf4
 v4:=Tryz.zeroValue4
 t22:=underlying53
 a22:=Tryz.isAgg53
 z22:=Tryz.sizeOf53
 v22:=Tryz.zeroValue53}
open Go.RowKit Go.Lib in
theorem Tryz.slices_Clone_nil (n c:Nat) (w:World):
 Calls prog 136 #[.slice none n c] w fun e w'=>e=.returned (.slice none 0 0)∧w'=w:=AnyE.slices_Clone_nil Tryz.laysSlE041_f136 n c w
end Go.Proofs
namespace Go.Proofs.YtjlfhidpmdgloaaGreatDoor
open Go.Proofs.Tryz
open Go.RowKit
variable {xs cs:List Value} {e:TypeId} {w1 b:World} {p:Addr} {k' i D:Nat} {z:Int}
theorem zC {a c:World} {row:Option Nat} (h:a.grownBy b row) (k:b.grownBy c row):a.grownBy c row:=
 ⟨k.os.trans h.os,k.tape.trans h.tape,k.output.trans h.output,yAD h.size k.size,fun i hi d=>(k.block i (yAA hi h.size) d).trans (h.block i hi d)⟩
theorem zw {a:World} (row:Option Nat) (h:jY a b):a.grownBy b row:=⟨h.os,h.tape,h.output,h.size,fun i hi _=>h.block i hi⟩
theorem zAw (a:World) (row:Option Nat):a.grownBy a.drew row:=⟨rfl,rfl,rfl,yAC _,fun _ _ _=>rfl⟩
theorem zAA (a:World) (row:Option Nat) (n:Nat):a.grownBy (a.drewN n) row:=⟨rfl,rfl,rfl,yAC _,fun _ _ _=>rfl⟩
theorem zM (a:World) (g j:Nat) (v:Value):a.grownBy (a.setCell ⟨g,j,none⟩ v) (some g):=
 ⟨rfl,rfl,rfl,by simp[World.setCell],fun i _ b=>Below.heap_setCell _ _ _ _ (fun e=>b (by rw[e]))⟩
theorem zG (a:World) (o:Obj) (row:Option Nat):a.grownBy (a.alloc o) row:=World.grownBy_alloc a o row
theorem zAg {B:Nat} {a:World} {g:Nat} (h:a.grownBy b (some g)) (hB:B≤g) (hg:g≤a.heap.size):Below B a b:=
 ⟨h.os,h.tape,h.output,h.size,fun i hi=>h.block i jo (by intro e;injection e with e;omega)⟩
theorem zBT {a:World} {g:Nat} (h:a.grownBy b (some g)) {v:Value} (c:a.cell? p=some v) (d:p.block≠g):b.cell? p=some v:=
 h.cell c (by intro e;injection e with e;exact d e)
theorem zDd {a:World} {g:Nat} (h:a.grownBy b (some g)) (c:p.block < a.heap.size) (d:p.block≠g):b.frozen? p=a.frozen? p:=
 World.frozen?_of_block (w:=a) (h.block p.block c (by intro e;injection e with e;exact d e))
theorem Reads.grown {w w':World} {B size n g:Nat} {A:jQ} (h:Reads w B size A n xs) (hg:w.grownBy w' (some g)) (hB:B≤g) (b:g≤w.heap.size):Reads w' B size A n xs:=
 h.below (zAg hg hB b)
theorem zBl {w w':World} {base g:Nat} {size n:Nat} {v:Value} (h:w.ownsRow base e size v n xs) (hg:w.grownBy w' (some g)) (hb:g < base):w'.ownsRow base e size v n xs:=
 h.kept hg (by
  cases hv:v.ownBlock with
  | none=>exact .inl rfl
  | some k=>
   right;intro e;injection e with e;have:=(h.lt k hv).1;omega)
theorem zC2 {w w':World} {base:Nat} {size n:Nat} {v:Value} (h:w.ownsRow base e size v n xs) (hb:jY w w'):w'.ownsRow base e size v n xs:=
 h.kept (row:=none) ⟨hb.os,hb.tape,hb.output,hb.size,fun k hk _=>hb.block k hk⟩ (by cases hv:v.ownBlock<;>simp)
theorem zAY {w:World} {base b:Nat} {size n:Nat} {v:Value} (h:w.ownsRow base e size v n xs) (hb:b≤base):w.ownsRow b e size v n xs:=by
 refine⟨h.1,?_⟩;rcases h.2 with d | ⟨g,cap,c,h1,f,j,k⟩
 · exact Or.inl d
 · exact Or.inr ⟨g,cap,c,h1,yAD hb f,j,k⟩
structure Rd (w:World) (g:Nat) (A:jQ) (n c k:Nat):Prop where
 c0:w.cell? g=some (.slice A n c)
 c1:w.cell? ⟨g,1,none⟩=some (.int .i64 (k:Int))
 f1:w.frozen? ⟨g,1,none⟩=false
section
variable {w w':World} {g n c k:Nat} {A:jQ}
theorem Rd.lt (h:Rd w g A n c k):g < w.heap.size:=World.block_lt_of_cell? w _ h.c0
theorem Rd.below (h:Rd w g A n c k) (hb:Below D w w') (hg:g < D):Rd w' g A n c k:=
 ⟨(hb.cell (p:=g) hg).trans h.c0,(hb.cell (p:=⟨g,1,none⟩) hg).trans h.c1,(hb.frozen (p:=⟨g,1,none⟩) hg).trans h.f1⟩
theorem Rd.drew (h:Rd w g A n c k):Rd w.drew g A n c k:=⟨h.c0,h.c1,h.f1⟩
theorem Rd.drewN (h:Rd w g A n c k) (m:Nat):Rd (w.drewN m) g A n c k:=⟨h.c0,h.c1,h.f1⟩
theorem Rd.alloc (h:Rd w g A n c k) (o:Obj):Rd (w.alloc o) g A n c k:=h.below ((Below.refl _ w).alloc (yAC _) o) h.lt
theorem Rd.set (h:Rd w g A n c k) (k':Nat):Rd (w.setCell ⟨g,1,none⟩ (.int .i64 (k':Int))) g A n c k':=by
 have h1:=h.c0;have b:=h.c1;have d:=h.f1;exact⟨by go_simp,by go_simp,by go_simp⟩
theorem Rd.setI (h:Rd w g A n c k) (b:z=(k':Int)):Rd (w.setCell ⟨g,1,none⟩ (.int .i64 z)) g A n c k':=by
 subst b;exact h.set k'
end
structure Mv (w w':World) (g:Nat) (A:jQ) (n c k:Nat):Prop where
 rd:Rd w' g A n c k
 grown:w.grownBy w' (some g)
theorem Mv.refl {w:World} {g n c k:Nat} {A:jQ} (h:Rd w g A n c k):Mv w w g A n c k:=⟨h,World.grownBy.refl w _⟩
theorem Mv.then {w w2:World} {g n c k:Nat} {A:jQ} (h:Mv w w1 g A n c k) (b:Mv w1 w2 g A n c k'):Mv w w2 g A n c k':=⟨b.rd,zC h.grown b.grown⟩
theorem Mv.step {w:World} {g n c k:Nat} {A:jQ} (h:Mv w w1 g A n c k) (b:z=(k':Int)):Mv w (w1.setCell ⟨g,1,none⟩ (.int .i64 z)) g A n c k':=
 ⟨h.rd.setI b,zC h.grown (zM w1 g 1 _)⟩
theorem Mv.below {w w2:World} {g n c k:Nat} {A:jQ} (h:Mv w w1 g A n c k) (hb:jY w1 w2):Mv w w2 g A n c k:=
 ⟨h.rd.below hb h.rd.lt,zC h.grown (zw _ hb)⟩
theorem Mv.drewN {w:World} {g n c k:Nat} {A:jQ} (h:Mv w w1 g A n c k) (m:Nat):Mv w (w1.drewN m) g A n c k:=⟨h.rd.drewN m,zC h.grown (zAA _ _ _)⟩
theorem Mv.drew {w:World} {g n c k:Nat} {A:jQ} (h:Mv w w1 g A n c k):Mv w w1.drew g A n c k:=⟨h.rd.drew,zC h.grown (zAw _ _)⟩
structure MadeM (w0 w:World) (g:Nat) (e:TypeId) (v:Value) (xs:List Value):Prop where
 own:w.ownsRow w0.heap.size e 1 v xs.length xs
 grown:w0.grownBy w (some g)
theorem MadeM.nil {w0 w:World} {g:Nat} (h:w0.grownBy w (some g)) (e:TypeId):MadeM w0 w g e (.slice none 0 0) []:=⟨yAJ _ _ _ _,h⟩
theorem MadeM.go {w0 w w':World} {g:Nat} {v:Value} (h:MadeM w0 w g e v xs) (hg:g < w0.heap.size) (b:w.grownBy w' (some g)):MadeM w0 w' g e v xs:=
 ⟨zBl h.own b hg,zC h.grown b⟩
theorem MadeM.cells {w0 w:World} {g:Nat} {v:Value} {b:List Value} (h:MadeM w0 w g e v xs) (e1:xs=b):MadeM w0 w g e v b:=e1▸h
theorem MadeM.shape {w0 w:World} {g:Nat} {v:Value} (h:MadeM w0 w g e v xs):
 ∃A c,v=.slice A xs.length c∧xs.length≤c∧c≤maxLen∧Reads w w.heap.size 1 A xs.length xs:=by
 obtain⟨A,c,hv,h1,d⟩:=zP h.own;have b:=h.own;rw[hv]at b;exact⟨A,c,hv,h1,d,Reads.of_own b⟩
theorem MadeM.u8 {w0 w:World} {g:Nat} {v:Value} {xs:jE} (h:MadeM w0 w g e v (u8s xs)):
 ∃A c,v=.slice A xs.length c∧xs.length≤c∧c≤maxLen∧Reads w w.heap.size 1 A xs.length (u8s xs):=by
 obtain⟨A,c,hv,h1,d,b⟩:=h.shape;have e:(u8s xs).length=xs.length:=by simp[u8s]
 rw[e]at hv h1 b;exact⟨A,c,hv,h1,d,b⟩
theorem MadeM.u16 {w0 w:World} {g:Nat} {v:Value} {xs:jH} (h:MadeM w0 w g e v (zAC xs)):
 ∃A c,v=.slice A xs.length c∧xs.length≤c∧c≤maxLen∧Reads w w.heap.size 1 A xs.length (zAC xs):=by
 obtain⟨A,c,hv,h1,d,b⟩:=h.shape;have e:(zAC xs).length=xs.length:=by simp[zAC]
 rw[e]at hv h1 b;exact⟨A,c,hv,h1,d,b⟩
section
variable {P:Program} {w0 w:World} {g:Nat} {ops:Array Oper} {rest:List Oper} {o:Oper} {a:Act} {Q:Exit→Act→World→Prop}
theorem zKR (f:o.guard=none) (s x:Operand) (t:TypeId)
 (p:o.op=.call {callee:=.builtin .append,args:=#[s,x],argTypes:=#[t,t]})
 (e:TypeId) (i:TypeInfo) (z:Value) (bytes:Nat) (ht:P.underlying t=some (.slice e)) (hi:P.info? e=some i) (hz:i.zero=some z)
 (hsize:i.size=1) (hby:i.bytes=bytes) (hzs:z.cells.size=1)
 (v:Value) (xs:List Value) (hs:a.eval s=v) (hm:MadeM w0 w g e v xs)
 (cs:List Value) (m c:Nat) (hx:a.eval x=.slice (some ⟨w.heap.size,0,none⟩) m c) (hl:cs.length=m) (h1:(cs.all fun u=>u.oneCell')=true)
 (hsz:xs.length+m≤70368744177664) (hb2:bytes≤2)
 (h:∀v' w',MadeM w0 w' g e v' (xs++cs)→w.grownBy w' v.ownBlock→wpList P ops Q rest (a.put o.dst v') w'):wpList P ops Q (o::rest) a (w.alloc (.cells cs.toArray e)):=by
 subst hl;refine wpList_append_own (w.alloc (.cells cs.toArray e)) f s x t p w0.heap.size e i z 1 bytes ht hi hz hsize hby hzs jo v xs.length xs hs (hm.own.alloc _) ⟨w.heap.size,0,none⟩ _ c cs hx jo ?_ (fun u d=>yBH.1 h1 u d) (by unfold maxLen;omega) ?_ (yAD hm.grown.size js) ?_
 · intro j u d;rw[Addr.add_lit,yBR _ _ _ _ rfl];simpa using d
 · calc (xs.length+cs.length)*bytes≤70368744177664*2:=Nat.mul_le_mul hsz hb2
    _≤140737488355328:=by omega
 · intro v' w' h1 q _;have b:w.grownBy w' v.ownBlock:=zC (zG w _ _) q;refine h v' w' ⟨by rw[yAN];exact h1,⟨b.os.trans hm.grown.os,b.tape.trans hm.grown.tape,b.output.trans hm.grown.output,yAD hm.grown.size b.size,fun k hk l=>?_⟩⟩ b;rw[b.block k (yAA hk hm.grown.size) (fun e=>by have:=(hm.own.lt k e.symm).1;omega)];exact hm.grown.block k hk l
end
theorem Rd.appended {w0 w w':World} {g gr n c k:Nat} {A:jQ} {v:Value} (h:Rd w gr A n c k) (f:MadeM w0 w g e v xs) (hg:gr < w0.heap.size) (d:w.grownBy w' v.ownBlock):Rd w' gr A n c k:=by
 have b:some gr≠v.ownBlock:=fun e=>by have:=(f.own.lt gr e.symm).1;omega
 exact⟨d.cell h.c0 b,d.cell h.c1 b,(World.frozen?_of_block (w:=w) (d.block gr h.lt b)).trans h.f1⟩
def zJ (x:UInt16):Bool:=decide (48≤x.toNat)&&decide (x.toNat≤57)
def zAp (x:UInt16):Bool:=x.toNat==32 || x.toNat==9 || x.toNat==10 || x.toNat==13
theorem zA2 {x:UInt16}:zJ x=true↔48≤x.toNat∧x.toNat≤57:=by simp[zJ]
def zKS (n:Nat):jH→Nat
 | []=>n
 | x::r=>zKS (10*n+(x.toNat - 48)) r
def zn (l:jH):Nat:=zKS 0 l
theorem zFp (n:Nat) (l r:jH):zKS n (l++r)=zKS (zKS n l) r:=by
 induction l generalizing n with
 | nil=>rfl
 | cons x l b=>exact b _
theorem zEV (l:jH) (x:UInt16):zn (l++[x])=10*zn l+(x.toNat - 48):=by
 unfold zn;rw[zFp];rfl
theorem zSJ (n:Nat) (l:jH):n≤zKS n l:=by
 induction l generalizing n with
 | nil=>exact yAC _
 | cons x l b=>exact yAD jo (b _)
theorem zIz (l r:jH):zn (l++r)=zKS (zn l) r:=zFp 0 l r
theorem zEL (l:jH) (k:Nat):zn (l.take k)≤zn l:=by
 conv=>rhs;rw[←List.take_append_drop k l]
 rw[zIz];exact zSJ _ _
theorem zHL (l:jH) (k:Nat) (h:k < l.length):10*zn (l.take k)≤zn l:=by
 have h1:=zEL l (k+1);rw[yAK h,zEV]at h1;omega
theorem zDT (l:jH) (k:Nat) (h:k < l.length):zn (l.take (k+1))=10*zn (l.take k)+(l[k].toNat - 48):=by
 rw[yAK h,zEV]
def zDG:jH:=[120,88,111,79,46,43,45,95]
def zCc (x:UInt16):Bool:=zJ x || (decide (97≤x.toNat)&&decide (x.toNat≤102)) || (decide (65≤x.toNat)&&decide (x.toNat≤70)) || decide (x∈zDG)
def zBm (u:jH):Bool:=u.all zCc&&u.any zJ
theorem zI0 {x:UInt16} (h:zJ x=true):zCc x=true:=by simp[zCc,h]
structure Nm where
 kind:Int
 n:Int
deriving DecidableEq
def zGK (u:jH):jH:=(u.reverse.dropWhile zAp).reverse
def zOj (u:jH):jH:=zGK (u.dropWhile zAp)
def zBU:jH:=[73,110,102,105,110,105,116,121]
def zCd (t:jH):Bool:=t.headD 0==45
def zAT (t:jH):jH:=if t.headD 0=45∨t.headD 0=43 then t.tail else t
def zFM (t:jH):Nm×Bool:=
 if zAT t=zBU then(⟨3,0⟩,true)
 else if zAT t≠[]∧(zAT t).all zJ=true then
  (if zn (zAT t)≤9007199254740991 then(⟨0,zn (zAT t)⟩,true)else(⟨2,0⟩,false))
 else(⟨2,0⟩, !zBm t)
def zFN (a:Nm):Nm:=if a.kind=2 then a else if a.kind=3 then⟨4,0⟩else if a.n=0 then⟨1,0⟩else⟨0, -a.n⟩
def zSK (t:jH):Nm×Bool:=
 if t=[]then(⟨0,0⟩,true)else(if zCd t=true then zFN (zFM t).1 else(zFM t).1,(zFM t).2)
theorem zKT {t:jH} (h:zAT t=zBU):zBm t=false:=by
 have b:(73:UInt16)∈t:=by
  have h1:(73:UInt16)∈zAT t:=by rw[h];decide
  unfold zAT at h1;split at h1
  · exact List.mem_of_mem_tail h1
  · exact h1
 have:t.all zCc=false:=List.all_eq_false.2 ⟨73,b,by decide⟩;simp[zBm,this]
def zOk (u:jH):Nm×Bool:=zSK (zOj u)
structure Tok where
 kind:Nat
 text:jE
 str:jH
 nk:Int
 nn:Int
 mag:List Nat
 pos:Nat
 nl:Bool
deriving DecidableEq
def zh:Tok:=⟨0,[],[],0,0,[],0,false⟩
def zAx (x:UInt16):Bool:=(decide (97≤x.toNat)&&decide (x.toNat≤122)) || (decide (65≤x.toNat)&&decide (x.toNat≤90)) || x.toNat==95 || x.toNat==36
def zHd (x:UInt16):Bool:=x.toNat==9 || x.toNat==11 || x.toNat==12 || x.toNat==32
def zAG (x:UInt16):Bool:=x.toNat==10 || x.toNat==13
def zH9 (x:UInt16):Bool:=x.toNat==8232 || x.toNat==8233
def zAu (x:UInt16):Bool:=zAx x || zJ x
def zBE (k:Nat) (p:UInt16→Bool) (l:jH):Bool:=(l[k]?).any p
def zg (s:jE) (l:jH):Bool:=(s.map (·.toUInt16)).isPrefixOf l
def asc (l:jH):jE:=l.map (·.toUInt8)
def zF3 (n:Nat) (p:Nat×Bool×Nat):Nat×Bool×Nat:=(n+p.1,p.2)
def zIA (st:Bool):Nat:=if st=true then 6 else 0
def zDe (long:Bool):jH→Bool→Bool→Nat×Bool×Nat
 | [],_,st=>(0,false,if long=true then 5 else zIA st)
 | x::r,nl,st=>
  if(long&&zg [42,47] (x::r))=true then(2,nl,zIA st)
  else if(!long &&zAG x)=true then(0,false,zIA st)
  else zF3 1 (zDe long r (nl || zAG x) (st || zH9 x))
def zAq (l:jH):Nat×Bool×Nat:=zF3 2 (zDe (zg [47,42] l) (l.drop 2) false false)
def zEl:Nat→jH→Bool→Nat×Bool×Nat
 | 0,_,nl=>(0,nl,0)
 | _+1,[],nl=>(0,nl,0)
 | f+1,x::r,nl=>
  if(zHd x || zAG x)=true then zF3 1 (zEl f r (nl || zAG x))
  else if(zg [47,47] (x::r) || zg [47,42] (x::r))=true then
   (if(zAq (x::r)).2.2≠0 then(0,false,(zAq (x::r)).2.2)
    else zF3 (zAq (x::r)).1 (zEl f ((x::r).drop (zAq (x::r)).1) (nl || (zAq (x::r)).2.1)))
  else(0,nl,0)
def zAM (l:jH):Nat×Bool×Nat:=zEl l.length l false
def zAB:List jE:=[[98,114,101,97,107],[99,97,116,99,104],[99,111,110,115,116],[99,111,110,116,105,110,117,101],[101,108,115,101],[102,97,108,115,101],[102,105,110,97,108,108,121],[102,111,114],[102,117,110,99,116,105,111,110],[105,102],[105,110],[108,101,116],[110,101,119],[110,117,108,108],[114,101,116,117,114,110],[116,104,105,115],[116,104,114,111,119],[116,114,117,101],[116,114,121],[116,121,112,101,111,102],[118,111,105,100],[119,104,105,108,101]]
def zD1:List jE:=[[97,114,103,117,109,101,110,116,115],[97,115,121,110,99],[97,119,97,105,116],[99,97,115,101],[99,108,97,115,115],[100,101,98,117,103,103,101,114],[100,101,102,97,117,108,116],[100,101,108,101,116,101],[100,111],[101,110,117,109],[101,118,97,108],[101,120,112,111,114,116],[101,120,116,101,110,100,115],[105,109,112,108,101,109,101,110,116,115],[105,109,112,111,114,116],[105,110,115,116,97,110,99,101,111,102],[105,110,116,101,114,102,97,99,101],[112,97,99,107,97,103,101],[112,114,105,118,97,116,101],[112,114,111,116,101,99,116,101,100],[112,117,98,108,105,99],[115,116,97,116,105,99],[115,117,112,101,114],[115,119,105,116,99,104],[118,97,114],[119,105,116,104],[121,105,101,108,100]]
def zl:List jE:=[[123],[125],[40],[41],[91],[93],[59],[44],[46],[63],[58],[126],[60],[62],[60,61],[62,61],[61,61],[33,61],[61,61,61],[33,61,61],[43],[45],[42],[47],[37],[38],[124],[94],[33],[38,38],[124,124],[63,63],[61],[43,61],[45,61],[42,61],[47,61],[37,61],[38,61],[124,61],[94,61],[60,60,61],[62,62,61],[62,62,62,61],[43,43],[45,45],[60,60],[62,62],[62,62,62],[61,62]]
def zCn:List jE:=[[46,46,46],[63,46],[42,42],[42,42,61],[38,38,61],[124,124,61],[63,63,61]]
def zCS (s:jE):Nat:=if s∈zAB then 1 else if s∈zD1 then 2 else 0
def zCA (s:jE):Nat:=if s∈zl then 1 else if s∈zCn then 2 else 0
def zGL (s:jE):Bool:=match s with | []=>false | b::r=>zAx b.toUInt16&&r.all fun c=>zAu c.toUInt16
def zBn (s:jE):Bool:=zGL s&&zCS s==0
abbrev Ans:=Nat×Tok×Nat
def bad (e:Nat):Ans:=(e,zh,0)
def zCm (l:jH):Ans:=
 if zg [92] (l.drop (l.takeWhile zAu).length)=true then bad 6
 else(0,{zh with kind:=if 0 < zCS (asc (l.takeWhile zAu))then 6 else 1,text:=asc (l.takeWhile zAu)},(l.takeWhile zAu).length)
def zBH:Nat→Nat→List Nat
 | 0,_=>[]
 | f+1,v=>if v=0 then []else v % 4294967296::zBH f (v / 4294967296)
def limbs (v:Nat):List Nat:=zBH 9 v
def zGM:Nat:=4294967296^8
def zy (zero:Bool) (x:UInt16):Bool:=
 x.toNat==46 || x.toNat==101 || x.toNat==69 || x.toNat==95 || (zero&&(x.toNat==120 || x.toNat==88 || x.toNat==111 || x.toNat==79 || x.toNat==98 || x.toNat==66))
def zIy (v n:Nat) (r:jH):Ans:=
 if zGM≤v then bad 6
 else if(zBE 0 zAx r || zBE 0 zJ r)=true then bad 5
 else(0,{zh with kind:=3,mag:=limbs v},n+1)
def zBx (d r:jH):Ans:=
 if(zBE 0 (fun x=>x.toNat==48) d&& !decide (d=[48]))=true then bad 5
 else if zg [110] r=true then zIy (zn d) d.length (r.drop 1)
 else if zBE 0 (zy (decide (d=[48]))) r=true then bad 6
 else if zBE 0 zAx r=true then bad 5
 else if 9007199254740991 < zn d then bad 6
 else(0,{zh with kind:=2,nn:=zn d},d.length)
def zBf (l:jH):Ans:=zBx (l.takeWhile zJ) (l.drop (l.takeWhile zJ).length)
def zIB (x:UInt16):Nat:=
 if zJ x=true then x.toNat - 48 else if 97≤x.toNat∧x.toNat≤102 then x.toNat - 87 else if 65≤x.toNat∧x.toNat≤70 then x.toNat - 55 else 16
def zEM (v:Nat):jH→Nat
 | []=>v
 | x::r=>zEM (16*v+zIB x) r
def zEH (x:UInt16):Bool:=decide (zIB x < 16)
def zCT (n:Nat) (l:jH):Nat×UInt16×Nat:=
 if(decide (n≤l.length)&&(l.take n).all zEH)=true then(0,UInt16.ofNat (zEM 0 (l.take n)),n)else(5,0,0)
def zBz (x:UInt16):Option UInt16:=
 if x=110 then some 10 else if x=116 then some 9 else if x=114 then some 13 else if x=98 then some 8 else if x=118 then some 11 else if x=102 then some 12 else none
def more (n:Nat) (p:Nat×UInt16×Nat):Nat×UInt16×Nat:=if p.1=0 then(0,p.2.1,n+p.2.2)else p
def zSL (x:UInt16) (r:jH):Nat×UInt16×Nat:=
 if(x.toNat==48&& !zBE 0 zJ r)=true then(0,0,1)
 else if zJ x=true then(5,0,0)
 else if(zAG x || zH9 x || (x.toNat==117&&zg [123] r))=true then(6,0,0)
 else if x.toNat=120 then more 1 (zCT 2 r)
 else if x.toNat=117 then more 1 (zCT 4 r)
 else(0,x,1)
def zEI:jH→Nat×UInt16×Nat
 | []=>(5,0,0)
 | x::r=>if(zBz x).isSome=true then(0,(zBz x).getD 0,1)else zSL x r
def zDH (q:UInt16):Nat→jH→jH→Nat×jH×Nat
 | 0,_,_=>(5,[],0)
 | _+1,[],_=>(5,[],0)
 | f+1,x::r,acc=>
  if zAG x=true then(5,[],0)
  else if x=q then(0,acc,1)
  else if x.toNat=92 then
   (if(zEI r).1≠0 then((zEI r).1,[],0)
    else((zDH q f (r.drop (zEI r).2.2) (acc++[(zEI r).2.1])).1,(zDH q f (r.drop (zEI r).2.2) (acc++[(zEI r).2.1])).2.1,1+(zEI r).2.2+(zDH q f (r.drop (zEI r).2.2) (acc++[(zEI r).2.1])).2.2))
  else((zDH q f r (acc++[x])).1,(zDH q f r (acc++[x])).2.1,1+(zDH q f r (acc++[x])).2.2)
def zKU (q:UInt16) (l:jH):Nat×jH×Nat:=zDH q (l.length+1) l []
def zAv (q:UInt16) (r:jH):Ans:=
 if(zKU q r).1≠0 then bad (zKU q r).1 else(0,{zh with kind:=4,str:=(zKU q r).2.1},1+(zKU q r).2.2)
def zAy (l:jH) (n:Nat):Nat:=
 if(decide (n≤l.length)&&(l.take n).all (fun x=>decide (x.toNat≤127))&& !(decide (asc (l.take n)=[63,46])&&zBE 2 zJ l))=true then zCA (asc (l.take n))else 0
def zBa (l:jH):Nat→Option Nat
 | 0=>none
 | n+1=>if zAy l (n+1)≠0 then some (n+1)else zBa l n
def zCI (z:Bool) (l:jH):Ans:=
 match zBa l 4 with
 | some n=>if zAy l n=2 then bad 6 else(0,{zh with kind:=5,text:=asc (l.take n)},n)
 | none=>if(zBE 0 (fun x=>decide (128≤x.toNat) || x.toNat==96 || x.toNat==92) l || (z&&zg [35,33] l))=true then bad 6 else bad 5
def zAU (z:Bool):jH→Ans
 | []=>bad 5
 | x::r=>
  if zAx x=true then zCm (x::r)
  else if zJ x=true then zBf (x::r)
  else if(x.toNat==39 || x.toNat==34)=true then zAv x r
  else if(x.toNat==46&&zBE 0 zJ r)=true then bad 6
  else zCI z (x::r)
def zFy (t:Tok) (p:List Tok×Nat×Nat):List Tok×Nat×Nat:=if p.2.2≠0 then([],p.2)else(t::p.1,0,0)
def zA6 (k:Nat) (l:jH):Ans:=zAU (k+(zAM l).1==0) (l.drop (zAM l).1)
def setAt (t:Tok) (k:Nat) (nl:Bool):Tok:={t with pos:=k,nl:=nl}
def zFJ:Nat→Nat→jH→List Tok×Nat×Nat
 | 0,_,_=>([],0,0)
 | f+1,k,l=>
  if(zAM l).2.2≠0 then([],k+(zAM l).1,(zAM l).2.2)
  else if l.drop (zAM l).1=[]then([setAt zh (k+(zAM l).1) (zAM l).2.1],0,0)
  else if(zA6 k l).1≠0 then([],k+(zAM l).1,(zA6 k l).1)
  else zFy (setAt (zA6 k l).2.1 (k+(zAM l).1) (zAM l).2.1) (zFJ f (k+(zAM l).1+(zA6 k l).2.2) (l.drop ((zAM l).1+(zA6 k l).2.2)))
def zDX (u:jH):List Tok×Nat×Nat:=if 4096 < u.length then([],0,3)else zFJ (u.length+1) 0 u
structure Nd where
 kind:Int
 name:jE
 str:jH
 nk:Int
 nn:Int
 neg:Bool
 mag:List Nat
 kids:List Int
deriving DecidableEq
def zB6:Nd:=⟨0,[],[],0,0,false,[],[]⟩
def zEm (k:Int):Bool:=decide (2≤k)&&decide (k≤19)&& !(k==7)&& !(k==11)&& !(k==17)
def zEJ (k:Int):Bool:=zEm k&& !(k==5)&& !(k==6)&& !(k==19)
def zBb (k:Int):Bool:=decide (30≤k)&&decide (k≤53)&& !(k==40)
def zAN (k:Int):Bool:=k==33 || k==52 || k==53
def zC3 (k:Int):Bool:=(decide (1≤k)&&decide (k≤20)) || (decide (30≤k)&&decide (k≤53))
def zAd (s:Nat) (k:Int):Bool:=
 if s=1 then zEm k else if s=2 then zEJ k else if s=3 then zBb k else if s=4 then zAN k
 else if s=5 then k==7 else if s=6 then k==20 else if s=7 then k==40 else if s=8 then k==4
 else if s=9 then k==11 || zBb k else if s=10 then k==11 || k==5 || k==6 || zBb k
 else if s=11 then k==11 || k==17 else if s=12 then k==11 || k==4 else if s=13 then k==4 || zBb k else false
def zBA (n last:Nat):List Nat:=List.replicate (n - 1) 6++[last]
def zu (k:Int) (n:Nat):List Nat×Nat:=
 if k=1∨k=4 then([],1)
 else if k=3∨k=15∨k=40∨k=43∨k=52 then([3],0)
 else if k=5∨k=6 then([5],5)
 else if k=7∨k=14 then([3].take (min n 1),0)
 else if k=8 then([3,2,2].take (min (max n 2) 3),0)
 else if k=9 then([3,2],0)
 else if k=10 then([10,9,9,2],0)
 else if k=16 then([8,11,12],0)
 else if k=17 then([8],0)
 else if k=18 then([2],0)
 else if k=19∨k=41 then(zBA n 8,0)
 else if k=42 then(zBA n 13,0)
 else if k=38 then([],3)
 else if k=39 then([],7)
 else if k=44∨k=45 then([4],0)
 else if k=46∨k=47∨k=53 then([3,3],0)
 else if k=48 then([3,3,3],0)
 else if k=49 then([4,3],0)
 else if k=50∨k=51 then([3],3)
 else([],0)
def atN (ts:List Nd) (k:Int):Nd:=ts.getD k.toNat zB6
def zBo (ts:List Nd):List Nat→Nat→List Int→Bool
 | _,_,[]=>true
 | [],r,k::ks=>zAd r (atN ts k).kind&&zBo ts [] r ks
 | s::l,r,k::ks=>zAd s (atN ts k).kind&&zBo ts l r ks
def zM1:Nat→List Nd→Int→Bool
 | 0,_,_=>false
 | f+1,ts,n=>
  if(atN ts n).kind=8∧(atN ts n).kids.length=2 then true
  else if(atN ts n).kind=8∨(atN ts n).kind=9∨(atN ts n).kind=10∨(atN ts n).kind=18 then
   (match (atN ts n).kids.getLast? with | none=>false | some k=>zM1 f ts k)
  else false
def zDf (ts:List Nd) (n:Int):Bool:=zM1 ts.length ts n
def zCz (ts:List Nd) (x:Nd):Bool:=
 zC3 x.kind&&decide ((zu x.kind x.kids.length).1.length≤x.kids.length)
 &&zBo ts (zu x.kind x.kids.length).1 (zu x.kind x.kids.length).2 x.kids
 &&(if x.kind=16 then((atN ts (x.kids.getD 1 0)).kind==17 || (atN ts (x.kids.getD 2 0)).kind==4)
  else if x.kind=8∧x.kids.length=3 then !(zDf ts (x.kids.getD 1 0))else true)
def zHe:List jE:=[[45],[43],[33],[126],[116,121,112,101,111,102],[118,111,105,100]]
def zDa:List jE:=[[43,43],[45,45]]
def zX7:List jE:=[[43],[45],[42],[47],[37],[38],[124],[94],[60,60],[62,62],[62,62,62],[60],[62],[60,61],[62,61],[61,61],[33,61],[61,61,61],[33,61,61],[105,110]]
def zV3:List jE:=[[38,38],[124,124],[63,63]]
def zKO:List jE:=[[61],[43,61],[45,61],[42,61],[47,61],[37,61],[38,61],[124,61],[94,61],[60,60,61],[62,62,61],[62,62,62,61]]
def zOh (k:Int):List jE:=
 if k=43 then zHe else if k=44∨k=45 then zDa else if k=46 then zX7 else if k=47 then zV3 else if k=49 then zKO else []
def zC4 (k:Int) (s:jE):Bool:=
 if k=7∨k=18∨k=19∨k=20∨k=33 then zBn s
 else if k=12∨k=13∨k=17∨k=41 then decide (s=[]) || zBn s
 else if k=52 then zGL s
 else if zOh k≠[]then decide (s∈zOh k)else decide (s=[])
def zDg (k n:Int):Bool:=if k=0 then decide (-9007199254740991≤n)&&decide (n≤9007199254740991)else decide (1≤k)&&decide (k≤4)&&n==0
def zBL (neg:Bool) (m:List Nat):Bool:=decide (m.length≤8)&&(match m.getLast? with | none=> !neg | some x=> !(x==0))
def zL (x:Nd):Bool:=
 if 4096 < x.name.length then false
 else if(!(x.kind==32)&& !(x.kind==40)&& !x.str.isEmpty)=true then false
 else if(!(x.kind==30)&& !(x.nk==0&&x.nn==0))=true then false
 else if(!(x.kind==31)&&(x.neg || !x.mag.isEmpty))=true then false
 else if x.kind=32∨x.kind=40 then decide (x.name=[])&&decide (x.str.length≤4096)
 else if x.kind=30 then decide (x.name=[])&&x.nk==0&&zDg x.nk x.nn&&decide (0≤x.nn)
 else if x.kind=31 then decide (x.name=[])&&zBL x.neg x.mag&& !x.neg
 else zC4 x.kind x.name
def zCo (N n:Nat) (ks:List Int):Bool:=ks.all fun k=>decide ((n:Int) < k)&&decide (k < (N:Int))
def zBK (N:Nat):Nat→List Nd→List Int→Bool
 | _,[],st=>st.isEmpty
 | _,_::_,[]=>false
 | n,x::r,s::st=>s==(n:Int)&&zCo N n x.kids&&zBK N (n+1) r (x.kids++st)
def zCP (ts:List Nd):Bool:=zBK ts.length 0 ts [0]
def zEN (d:List Nat) (v:Nat):List Int→List Nat
 | []=>d
 | k::ks=>zEN (d.set k.toNat v) v ks
def zDh:Nat→List Nd→List Nat→List Nat
 | _,[],d=>d
 | n,x::r,d=>zDh (n+1) r (zEN (d.set n (max (d.getD n 0) 1)) (max (d.getD n 0) 1+1) x.kids)
def zKV (ts:List Nd):List Nat:=zDh 0 ts (List.replicate ts.length 0)
def zGN:List Nat→Nat
 | []=>0
 | x::r=>max x (zGN r)
def zM2 (ts:List Nd):Nat:=zGN (zKV ts)
def zB0 (ts:List Nd):Nat→List Nd→Bool
 | _,[]=>true
 | n,x::r=> !(decide (0 < n)&&x.kind==1)&&zL x&&zCz ts x&&zB0 ts (n+1) r
def zI1 (ts:List Nd):Bool:=
 match ts with
 | []=>false
 | x::_=>decide (ts.length≤4096)&&x.kind==1&&zCP ts&&zB0 ts 0 ts&&decide (zM2 ts≤48)
def zBw (l:List Int):List Value:=l.map (Value.int .i64)
theorem zIC (l:List Int):(zBw l).length=l.length:=by simp[zBw]
def zSM (l:List Nat):List Value:=l.map fun n:Nat=>Value.int .u32 (n:Int)
structure NdSl where
 As:jQ
 Am:jQ
 Ak:jQ
 cs:Nat
 cm:Nat
 ck:Nat
def ndV (x:Nd) (s:NdSl):List Value:=[x.kind,x.name,.slice s.As x.str.length s.cs,x.nk,x.nn,x.neg,.slice s.Am x.mag.length s.cm,.slice s.Ak x.kids.length s.ck]
structure NdR (w:World) (B:Nat) (x:Nd) (s:NdSl):Prop where
 str:Reads w B 1 s.As x.str.length (zAC x.str)
 mag:Reads w B 1 s.Am x.mag.length (zSM x.mag)
 kids:Reads w B 1 s.Ak x.kids.length (zBw x.kids)
 cs:x.str.length≤s.cs∧s.cs≤maxLen
 cm:x.mag.length≤s.cm∧s.cm≤maxLen
 ck:x.kids.length≤s.ck∧s.ck≤maxLen
 limb:∀y∈x.mag,y < 4294967296
 kin:∀y∈x.kids, -9223372036854775808≤y∧y≤9223372036854775807
 kb: -9223372036854775808≤x.kind∧x.kind≤9223372036854775807
 nkb: -9223372036854775808≤x.nk∧x.nk≤9223372036854775807
 nnb: -9223372036854775808≤x.nn∧x.nn≤9223372036854775807
 nm:x.name.length≤9223372036854775807
section
variable {w w':World} {B B':Nat} {x:Nd} {s:NdSl}
theorem NdR.below (h:NdR w B x s) (hb:Below B w w'):NdR w' B x s:=⟨h.str.below hb,h.mag.below hb,h.kids.below hb,h.cs,h.cm,h.ck,h.limb,h.kin,h.kb,h.nkb,h.nnb,h.nm⟩
theorem NdR.back (h:NdR w' B x s) (hb:Below B w w'):NdR w B x s:=
 ⟨h.str.keep fun _ b=>(hb.cell b).symm,h.mag.keep fun _ b=>(hb.cell b).symm,h.kids.keep fun _ b=>(hb.cell b).symm,h.cs,h.cm,h.ck,h.limb,h.kin,h.kb,h.nkb,h.nnb,h.nm⟩
theorem NdR.more (h:NdR w B x s) (hb:B≤B'):NdR w B' x s:=⟨h.str.more hb,h.mag.more hb,h.kids.more hb,h.cs,h.cm,h.ck,h.limb,h.kin,h.kb,h.nkb,h.nnb,h.nm⟩
end
structure NdC (w:World) (b o:Nat) (x:Nd) (s:NdSl):Prop where
 k0:w.cell? ⟨b,o,none⟩=some (.int .i64 x.kind)
 k1:w.cell? ⟨b,o+1,none⟩=some (.string ⟨x.name.toArray⟩)
 k2:w.cell? ⟨b,o+2,none⟩=some (.slice s.As x.str.length s.cs)
 k3:w.cell? ⟨b,o+3,none⟩=some (.int .i64 x.nk)
 k4:w.cell? ⟨b,o+4,none⟩=some (.int .i64 x.nn)
 k5:w.cell? ⟨b,o+5,none⟩=some (.bool x.neg)
 k6:w.cell? ⟨b,o+6,none⟩=some (.slice s.Am x.mag.length s.cm)
 k7:w.cell? ⟨b,o+7,none⟩=some (.slice s.Ak x.kids.length s.ck)
theorem NdC.keep {w w':World} {b o:Nat} {x:Nd} {s:NdSl} (h:NdC w b o x s) (hk:∀j,w'.cell? ⟨b,j,none⟩=w.cell? ⟨b,j,none⟩):NdC w' b o x s:=
 ⟨(hk _).trans h.k0,(hk _).trans h.k1,(hk _).trans h.k2,(hk _).trans h.k3,(hk _).trans h.k4,(hk _).trans h.k5,(hk _).trans h.k6,(hk _).trans h.k7⟩
theorem NdC.below {w w':World} {b o:Nat} {x:Nd} {s:NdSl} (h:NdC w b o x s) (hb:Below D w w') (c:b < D):NdC w' b o x s:=h.keep fun j=>hb.cell (p:=⟨b,j,none⟩) c
def NdsR (w:World) (B:Nat) (A:jQ) (n:Nat) (ts:List Nd):Prop:=
 ts.length=n∧(0 < n→∃b o,A=some ⟨b,o,none⟩∧b < B∧∀i (h:i < ts.length),∃s,NdC w b (o+i*8) ts[i] s∧NdR w B ts[i] s)
section
variable {w w':World} {B B' n:Nat} {A:jQ} {ts:List Nd}
theorem NdsR.below (h:NdsR w B A n ts) (hb:Below B w w'):NdsR w' B A n ts:=⟨h.1,fun d=>by
 obtain⟨b,o,e,hB,c⟩:=h.2 d;refine⟨b,o,e,hB,fun i hi=>?_⟩;obtain⟨s,h1,f⟩:=c i hi;exact⟨s,h1.below hb hB,f.below hb⟩⟩
theorem NdsR.more (h:NdsR w B A n ts) (hb:B≤B'):NdsR w B' A n ts:=⟨h.1,fun d=>by
 obtain⟨b,o,e,hB,c⟩:=h.2 d;refine⟨b,o,e,yAA hB hb,fun i hi=>?_⟩;obtain⟨s,h1,f⟩:=c i hi;exact⟨s,h1,f.more hb⟩⟩
theorem NdsR.get (h:NdsR w B A n ts) (hi:i < n):∃b o x s,A=some ⟨b,o,none⟩∧b < B∧ts[i]? =some x∧NdC w b (o+i*8) x s∧NdR w B x s:=by
 obtain⟨b,o,e,hB,c⟩:=h.2 jo;have d:i < ts.length:=by rw[h.1];exact hi
 obtain⟨s,h1,f⟩:=c i d;exact⟨b,o,ts[i],s,e,hB,yAB d,h1,f⟩
theorem NdsR.limbs (h:NdsR w B A n ts):∀x∈ts,∀y∈x.mag,y < 4294967296:=by
 intro x c;obtain⟨i,hi,rfl⟩:=List.getElem_of_mem c;have d:i < n:=by rw[←h.1];exact hi
 obtain⟨b,o,x,s,_,_,c,_,e⟩:=h.get d;rw[yAB hi]at c;obtain rfl:=yBI c;exact e.limb
theorem NdsR.nil (h:n=0):NdsR w B A n []:=⟨h.symm,fun b=>by omega⟩
end
theorem Reads.spotR {w:World} {B n:Nat} {A:jQ} (h:Reads w B 1 A n xs) (g:0 < n):
 ∃b off,A=some ⟨b,off,none⟩∧b < B∧∀j u,xs[j]? =some u→w.cell? ⟨b,off+j,none⟩=some u:=by
 obtain⟨d,u,e,hb,m,c⟩:=h.at_ g;have hs:d.spot=none:=by
  cases hsp:d.spot with
  | none=>rfl
  | some s=>
   exfalso;rw[Addr.add_zero]at c;simp only[World.cell?,hsp]at c;split at c
   · simp at c
   · cases c
 obtain⟨b,off,o⟩:=d;simp only at hs;subst hs;refine⟨b,off,e,hb,fun j v hv=>?_⟩;have k:j < n:=by
  have:=(yAT.1 hv).1;have h1:=h.1;omega
 obtain⟨l,p,e',_,f,h1⟩:=h.at_ k;rw[e]at e';injection e' with e';subst e';rw[Addr.add_lit]at h1;rw[h1,←f,hv]
theorem Reads.spotK {w:World} {B n:Nat} {A:jQ} {l:List Int} (h:Reads w B 1 A n (zBw l)) (f:0 < l.length):
 ∃b off,A=some ⟨b,off,none⟩∧b < B∧∀j (c:j < l.length),w.cell? ⟨b,off+j,none⟩=some (.int .i64 l[j]):=by
 have g:l.length=n:=by have:=h.1;simpa [zBw]using this
 obtain⟨b,off,d,hb,e⟩:=h.spotR jo;exact⟨b,off,d,hb,fun j c=>e j _ (by simp[zBw,yAB c])⟩
theorem zV4 {w:World} {base:Nat} {A:jQ} {n c j:Nat} (h:w.ownsRow base e 1 (.slice A n c) n xs) (l:j≤n):w.ownsRow base e 1 (.slice A j c) j (xs.take j):=by
 refine⟨by rw[yBK,h.1];omega,?_⟩;rcases h.2 with⟨h1,d⟩ | ⟨g,cap,b,h1,hb,hg,m,f,hs,k⟩
 · left;injection h1 with h3 h4 h5;subst d;obtain rfl:j=0:=by omega
   exact⟨by rw[h3,h5],rfl⟩
 · right;injection h1 with h3 h4 h5;subst h3 h5;refine⟨g,c,b,rfl,hb,hg,by omega,f,hs,?_⟩;rw[←k,List.take_take];congr 1;omega
structure Kept (w w':World) (v v':Value):Prop where
 os:w'.os=w.os
 tape:w'.tape=w.tape
 output:w'.output=w.output
 size:w.heap.size≤w'.heap.size
 block:∀i,i < w.heap.size→v.ownBlock≠some i→w'.heap[i]? =w.heap[i]?
 own:v'.ownBlock=v.ownBlock∨∃r,v'.ownBlock=some r∧w.heap.size≤r
section
variable {w w' w'':World} {v v' v'':Value}
theorem Kept.refl (w:World) (v:Value):Kept w w v v:=⟨rfl,rfl,rfl,yAC _,fun _ _ _=>rfl,.inl rfl⟩
theorem Kept.trans (h:Kept w w' v v') (k:Kept w' w'' v' v''):Kept w w'' v v'':=
 ⟨k.os.trans h.os,k.tape.trans h.tape,k.output.trans h.output,yAD h.size k.size,fun i hi c=>(k.block i (yAA hi h.size) (by
  rcases h.own with e | ⟨r,e,b⟩
  · rw[e];exact c
  · rw[e];intro e2;injection e2 with e2;omega)).trans (h.block i hi c),by
  rcases k.own with e | ⟨r,e,b⟩
  · rcases h.own with e2 | ⟨r,e2,b⟩
    · exact .inl (e.trans e2)
    · exact .inr ⟨r,e.trans e2,b⟩
  · exact .inr ⟨r,e,yAD h.size b⟩⟩
theorem Kept.cell (h:Kept w w' v v') (c:p.block < w.heap.size) (b:v.ownBlock≠some p.block):w'.cell? p=w.cell? p:=World.cell?_of_block (h.block p.block c b)
theorem Kept.frozen (h:Kept w w' v v') (c:p.block < w.heap.size) (b:v.ownBlock≠some p.block):w'.frozen? p=w.frozen? p:=World.frozen?_of_block (h.block p.block c b)
theorem Kept.apart (h:Kept w w' v v') (hi:i < w.heap.size) (b:v.ownBlock≠some i):v'.ownBlock≠some i:=by
 rcases h.own with e | ⟨r,e,c⟩
 · rw[e];exact b
 · rw[e];intro e2;injection e2 with e2;omega
theorem Kept.below {B:Nat} (h:Kept w w' v v') (hB:∀i,v.ownBlock=some i→B≤i) (hs:B≤w.heap.size):Below B w w':=
 ⟨h.os,h.tape,h.output,h.size,fun i hi=>h.block i jo (fun e=>by have:=hB i e;omega)⟩
theorem Kept.alloc (h:Kept w w' v v') (o:Obj):Kept w (w'.alloc o) v v':=
 ⟨h.os,h.tape,h.output,by have:=h.size;simp;omega,fun i hi b=>(heap_alloc_old w' o (yAA hi h.size)).trans (h.block i hi b),h.own⟩
end
theorem zM3 {w:World} {base e n size:Nat} {v:Value} (h:w.ownsRow base e size v n xs) (m:Nat):(w.drewN m).ownsRow base e size v n xs:=
 h.kept (row:=none) ⟨rfl,rfl,rfl,yAC _,fun _ _ _=>rfl⟩ (by cases hv:v.ownBlock<;>simp)
theorem zLa {w:World} {base n size:Nat} {v:Value} (h:w.ownsRow base e size v n xs):∀i,v.ownBlock=some i→base≤i:=fun i hi=>(h.lt i hi).1
section
variable {P:Program} {w:World} {ops:Array Oper} {rest:List Oper} {o:Oper} {a:Act} {Q:Exit→Act→World→Prop}
theorem zDI (f:o.guard=none) (s x:Operand) (t:TypeId)
 (l:o.op=.call {callee:=.builtin .append,args:=#[s,x],argTypes:=#[t,t]})
 (base:Nat) (e:TypeId) (i:TypeInfo) (z:Value) (size bytes:Nat) (ht:P.underlying t=some (.slice e)) (hi:P.info? e=some i) (hz:i.zero=some z)
 (hsize:i.size=size) (hby:i.bytes=bytes) (hzs:z.cells.size=size) (hs0:0 < size)
 (v:Value) (n:Nat) (xs:List Value) (hs:a.eval s=v) (hown:w.ownsRow base e size v n xs) (hbase:base≤w.heap.size)
 (cs:List Value) (m c:Nat) (hx:a.eval x=.slice (some ⟨w.heap.size,0,none⟩) m c) (hl:cs.length=m*size) (h1:(cs.all fun u=>u.oneCell')=true)
 (hsz:n+m≤1099511627776) (hb2:bytes≤128)
 (h:∀v' w',w'.ownsRow base e size v' (n+m) (xs++cs)→Kept w w' v v'→wpList P ops Q rest (a.put o.dst v') w'):wpList P ops Q (o::rest) a (w.alloc (.cells cs.toArray e)):=by
 refine wpList_append_own_at (w.alloc (.cells cs.toArray e)) f s x t l base e i z size bytes ht hi hz hsize hby hzs hs0 v n xs hs (hown.alloc _) ⟨w.heap.size,0,none⟩ m c cs hx hl ?_ (fun u d=>yBH.1 h1 u d) (by unfold maxLen;omega) ?_ (by simp;omega) ?_
 · intro j u d;rw[Addr.add_lit,yBR _ _ _ _ rfl];simpa using d
 · calc (n+m)*bytes≤1099511627776*128:=Nat.mul_le_mul hsz hb2
    _≤140737488355328:=by omega
 · intro v' w' p b _ q;refine h v' w' p ⟨b.os,b.tape,b.output,yAD js b.size,fun k hk g=>?_,?_⟩
   · rw[b.block k (by simp;omega) (fun e=>g e.symm)];exact heap_alloc_old w _ hk
   · rcases q with e | e
     · exact .inl e
     · exact .inr ⟨_,e,by simp⟩
end
theorem Tryz.info_int:(prog.info? 3).map (fun i=>(i.zero,i.size,i.bytes))=some (some (.int .i64 0),1,8):=by kernel_rfl
theorem zLb (k:Int) (w:World):Calls prog 94 #[k] w fun e w'=>e=.returned (zEm k)∧w=w':=by
 go_enter func94,ntmps94;go_wp2
 all_goals go_ret
 all_goals refine⟨zF ?_,rfl⟩
 all_goals (rw[yBJ];simp[zEm];try omega)
theorem zV5 (k:Int) (w:World):Calls prog 95 #[k] w fun e w'=>e=.returned (zEJ k)∧w=w':=by
 obtain⟨q,b⟩:=jx (zEm k);have c:=zA (show∀w,Calls prog 94 #[k] w fun e w'=>e=.returned q∧w=w' from fun w=>by rw[←b];exact zLb k w);have d:=zA (show zEJ k=(q&& !(k==5)&& !(k==6)&& !(k==19)) by unfold zEJ;rw[b]);clear b;cases q with
 | false=>
  go_enter func95,ntmps95;go_wp2_with (go_at_call 94;refine(c.out w).mono ?_;rintro e w' ⟨rfl,rfl⟩);go_ret;exact⟨zF (by rw[d.out];rfl),rfl⟩
 | true=>
  go_enter func95,ntmps95;go_wp2_with (go_at_call 94;refine(c.out w).mono ?_;rintro e w' ⟨rfl,rfl⟩)
  all_goals go_ret
  all_goals refine⟨zF ?_,rfl⟩
  all_goals (rw[d.out,yBJ];simp;try omega)
theorem zSN (k:Int) (w:World):Calls prog 96 #[k] w fun e w'=>e=.returned (zBb k)∧w=w':=by
 go_enter func96,ntmps96;go_wp2
 all_goals go_ret
 all_goals refine⟨zF ?_,rfl⟩
 all_goals (rw[yBJ];simp[zBb];try omega)
theorem zB1 (k:Int) (w:World):Calls prog 97 #[k] w fun e w'=>e=.returned (zAN k)∧w=w':=by
 go_enter func97,ntmps97;go_wp2
 all_goals go_ret
 all_goals refine⟨zF ?_,rfl⟩
 all_goals (rw[yBJ];simp[zAN];try omega)
theorem zI2 (k:Int) (w:World):Calls prog 49 #[k] w fun e w'=>e=.returned (zC3 k)∧w=w':=by
 go_enter func49,ntmps49;go_wp2
 all_goals go_ret
 all_goals refine⟨zF ?_,rfl⟩
 all_goals (rw[yBJ];simp[zC3];try omega)
theorem zID (k n:Int) (w:World):Calls prog 45 #[.agg #[k,n]] w fun e w'=>e=.returned (zDg k n)∧jY w w':=by
 go_enter func45,ntmps45;go_wp2
 all_goals go_ret
 all_goals refine⟨zF ?_,by go_grown⟩
 all_goals (rw[yBJ];simp[zDg];simp only[yBL,yA,ne_eq]at *;split<;>omega)
theorem zIE (s:Nat) (k:Int) (hs:s≤13) (w:World):Calls prog 50 #[s,k] w fun e w'=>e=.returned (zAd s k)∧w=w':=by
 have h:s=0∨s=1∨s=2∨s=3∨s=4∨s=5∨s=6∨s=7∨s=8∨s=9∨s=10∨s=11∨s=12∨s=13:=by omega
 obtain⟨q,b⟩:=jx (zBb k);have c:=zA b;have d:=zA (show∀w,Calls prog 96 #[k] w fun e w'=>e=.returned q∧w=w' from fun w=>by rw[←b];exact zSN k w);clear hs b;rcases h with rfl | rfl | rfl | rfl | rfl | rfl | rfl | rfl | rfl | rfl | rfl | rfl | rfl | rfl
 all_goals
  go_enter func50,ntmps50;go_wp2_with (first | (go_at_call 94;refine(zLb k w).mono ?_;rintro e w' ⟨rfl,rfl⟩) | (go_at_call 95;refine(zV5 k w).mono ?_;rintro e w' ⟨rfl,rfl⟩) | (go_at_call 96;refine(d.out w).mono ?_;rintro e w' ⟨rfl,rfl⟩) | (go_at_call 97;refine(zB1 k w).mono ?_;rintro e w' ⟨rfl,rfl⟩))
  all_goals go_ret
  all_goals refine⟨zF ?_,rfl⟩
  all_goals first | rfl | exact c.out.symm | (simp[zAd, *];done) | (simp[zAd, *];exact c.out.symm) | (simp[zAd, *];rw[c.out])
def chr (n:Nat):UInt8:=UInt8.ofNat n
theorem zOl {n:Nat} (h:n < 256):(chr n).toNat=n:=by
 unfold chr;simp;omega
def zBQ (n:Nat):jE:=if n < 10 then [chr (48+n)]else zBQ (n / 10)++[chr (48+n % 10)]
termination_by n
theorem zCe {n:Nat} (h:n < 10):zBQ n=[chr (48+n)]:=by rw[zBQ,if_pos h]
theorem zDJ {n:Nat} (h:¬n < 10):zBQ n=zBQ (n / 10)++[chr (48+n % 10)]:=by rw[zBQ,if_neg h]
theorem zHM (n:Nat):Lib.decDigits n=zBQ n:=by
 induction n using Nat.strongRecOn with
 | _ n b=>
  by_cases h:n < 10
  · rw[Lib.decDigits,dif_pos h,zCe h];rfl
  · rw[Lib.decDigits,dif_neg h,zDJ h,b _ jo];rfl
theorem zSO (n:Int) (h:0≤n):Lib.itoa n=zBQ n.toNat:=by
 unfold Lib.itoa;rw[jn,zHM]
def Tab (w : World) : Prop := Lib.TabIs prog w "internal/strconv.uint64pow10" .u64 Lib.pow10Tab
theorem zZF : prog.globalNamed "internal/strconv.uint64pow10" = some 2 := by kernel_rfl
theorem Tab.below {B:Nat} {w w':World} (h:Tab w) (hg:2 < B) (hb:Below B w w'):Tab w':=by
 unfold Tab Lib.TabIs World.var? at h⊢;rw[zZF]at h⊢;simp only[Option.bind_some]at h⊢;rw[hb.block _ hg];exact h
theorem Tab.lt {w:World} (h:Tab w):2 < w.heap.size:=by
 unfold Tab Lib.TabIs World.var? at h;rw[zZF]at h;simp only[Option.bind_some]at h;rcases yBO 2 w.heap.size with b | b
 · exact b
 · rw[Array.getElem?_eq_none b]at h;cases h
theorem zSP {n:Int} (b:0≤n) (h1:n≤9007199254740991) {w:World} (c:Tab w):
 Calls prog 102 #[n] w fun e w'=>e=.returned (zBQ n.toNat)∧jY w w':=by
 refine(Tryz.strconv_Itoa n jo jo w c).mono ?_;rintro e w' ⟨rfl,k,os,rfl⟩;exact⟨by rw[zSO n b],Go.Lib.below_grow _ w (yAC _) k os⟩
theorem zV6 (n:Int) (w:World) (b:0≤n) (h1:n≤9007199254740991):Calls prog 45 #[.agg #[(0:Int),n]] w fun e w'=>e=.returned true∧w'=w.alloc (.cells #[(0:Int),n] 52):=by
 have c:decide ((-9007199254740991:Int)≤n)=true:=yBE jo;have d:decide (n≤(9007199254740991:Int))=true:=yBE h1;go_enter func45,ntmps45;go_wp2
 all_goals go_ret
 all_goals exact⟨rfl,rfl⟩
theorem zV7 (n:Int) (w:World) (b:0≤n) (h1:n≤9007199254740991):
 Calls prog 101 #[.agg #[(0:Int),n]] w fun e w'=>e=.returned (.agg #[(0:Int),n])∧w'=((w.alloc (.cells #[(0:Int),n] 52)).alloc (.cells #[(0:Int),n] 52)).alloc (.cells #[(0:Int),n] 52):=by
 go_enter func101,ntmps101;go_wp2_with (go_at_call 45;refine(zV6 n _ b h1).mono ?_;rintro e w' ⟨rfl,rfl⟩);refine bodyPost_ret (v:=.agg #[(0:Int),n]) (by simp[results,results101,go_sem]) rfl ?_;exact⟨rfl,rfl⟩
theorem zI3 (n:Int) (w:World) (d:0≤n) (h1:n≤9007199254740991) (c:Tab w):
 Calls prog 57 #[.agg #[(0:Int),n]] w fun e w'=>e=.returned (zBQ n.toNat)∧jY w w':=by
 have f:=zA (fun(W:World) (hb:jY w W)=>zSP d h1 (c.below c.lt hb));clear c;go_enter func57,ntmps57;go_wp2_with first
  | (go_at_call 101;refine(zV7 n _ d h1).mono ?_;rintro e w' ⟨rfl,rfl⟩)
  | (go_at_call 102;refine(f.out _ (by go_grown)).mono ?_;rintro e w' ⟨rfl,hb⟩)
 go_ret;refine⟨rfl,Below.trans (b:=_) ?_ (hb.mono (by simp;omega))⟩
 go_grown
section Zq
open Go.ChangeShapes Go.WideShapes Go.ChangeAt Go.RowKit Go.Lib
theorem own:ownKnob prog.godebug=none:=by kernel_rfl
theorem zSQ:(prog.globals[2]?).map (·.type)=some 181:=by kernel_rfl
theorem zYB:(Rows.laid_internal_strconv_uint64pow10:DataW Unit)=Lib.tabData .u64 Lib.pow10Tab:=by kernel_rfl
section
variable {H:Type} {enc:TypeId×Value→H} {W:World} {base:Nat}
theorem Tryz.laidOut:laidOutB prog=true:=by kernel_rfl
theorem zIF {f:World} {c:Nat→Bool}:∀{ts:List TypeId} {vs:List Value} {ds:List (DataW H)} {ps:List MemPlace},(∀t∈ts,prog.readableRec t=true∧t < prog.types.size)→
 DataW.TrodAll enc prog W 0 (fun _=>true) true ts vs ds ps→jY W f→(∀x∈ps,x.block < W.heap.size)→(∀p∈ps,c p.block=true)→DataW.TrodAll enc prog f 0 c true ts vs ds ps:=by
 intro ts
 induction ts with
 | nil=>
  intro vs ds ps _ h _ _ _;obtain⟨rfl,rfl,rfl⟩:=trodAll_nil h;exact trodAll_mk0
 | cons t ts k=>
  intro vs ds ps g h hb e hs;obtain⟨v,r,d,s,p,q,rfl,rfl,rfl,l,r0⟩:=trodAll_cons h;have j:=g t js;exact trodAll_cons_mk (WideElems.Trod_stays Tryz.laidOut j.1 j.2 l (fun x b=>hb.same (e x (by simp[b]))) (fun x b=>hs x (by simp[b])))
   (k (fun m o=>g m (by simp[o])) r0 hb (fun x b=>e x (by simp[b])) (fun x b=>hs x (by simp[b])))
theorem zIG {P:Program} {f:Func} {s:ChangeSpec} {apart z m A:Bool} {W o:World} {args:Array Value} {v:Value} {ds q:List (DataW H)} {c pa pv:List MemPlace}
 (D:DataW.Whole enc P f.params.toList s.vars apart W args.toList ds q c)
 (u:∀(b:Nat) (e:Nat→Bool) (F:Bool),DataW.TrodAll enc P o b e F f.resultTypes.toList (v.resultList f.resultTypes.size) (s.fn H (ds++q)).results [])
 (g:∀e:Nat→Bool,(∀p∈c,e p.block=true)→DataW.TrodAll enc P o 0 e true f.params.toList args.toList (s.fn H (ds++q)).args pa)
 (k:∀e:Nat→Bool,(∀p∈c,e p.block=true)→DataW.TrodVars enc P o e s.vars (s.fn H (ds++q)).vars pv)
 (l:c=pa++pv) (hb:jY W o)
 (E:∀(j:Nat) (t:TypeId) (r:Value),f.resultTypes[j]? =some t→(v.resultList f.resultTypes.size)[j]? =some r→Value.okWide P o .any 0 t r):
 s.post enc P f apart z m A W args v o:=by
 have B:∀p∈c,p.block < W.heap.size:=fun p d=>D.lt p d;have y:∀p∈c,(fun b=>decide (b < W.heap.size)) p.block=true:=fun p d=>by simpa using B p d
 refine⟨ds,q,c,[],pa,pv,D,u _ _ _,g _ y,k _ y,World.keptBut_mono (fun p d=>⟨d,?_⟩) (hb.frame (·∈c)),fun _=>?_⟩
 · rw[l,yBQ]at d;exact Or.inr d
 · obtain⟨_,_,_,_,_,G,I⟩:=D;refine⟨E,_,_,([]++pa)++pv,⟨[]++pa,pv,trodAll_append (g _ (fun _ _=>rfl)) (u _ _ _),k _ (fun _ _=>rfl),rfl,?_,?_⟩,?_⟩
   · intro b off d;have C:MemPlace.cell b off∈c:=by rw[l];simpa using d
     rw[hb.frozen (B _ C)];exact G b off C
   · intro J;have:=I J;rw[l]at this;simpa using this
   · intro p d _;rw[l];simpa using d
end
def zVm:DataW Unit→List Int
 | .agg l=>l.map fun d=>match d with | .lit (.int _ z)=>z | _=>0
 | _=>[]
def zSR (h:Array Obj):Array Obj:=
 ((h.modify 2 fun
  | .cells _ t frozen=>.cells (Lib.pow10Tab.map fun z=>Value.int .u64 z).toArray t frozen
  | o=>o).modify 4 fun
  | .cells _ t frozen=>.cells ((zVm Rows.laid_math_bits_deBruijn32tab).map fun z=>Value.int .u8 z).toArray t frozen
  | o=>o).modify 5 fun
  | .cells _ t frozen=>.cells ((zVm Rows.laid_math_bits_deBruijn64tab).map fun z=>Value.int .u8 z).toArray t frozen
  | o=>o
end Zq
section Zq
open Go.RowKit Go.Lib
def Tabs (w:World):Prop:=Lib.Utf8Tabs 0 1 w
theorem Tabs.below {B:Nat} {w w':World} (h:Tabs w) (hb:Below B w w') (h1:0 < B) (b:1 < B):Tabs w':=by
 refine⟨fun c d=>?_,fun i hi=>⟨?_,?_⟩⟩
 · rw[hb.cell (p:=⟨_,c,none⟩) h1];exact h.1 c d
 · rw[hb.cell (p:=⟨_,2*i,none⟩) b];exact(h.2 i hi).1
 · rw[hb.cell (p:=⟨_,2*i+1,none⟩) b];exact(h.2 i hi).2
theorem Tabs.lt {w:World} (h:Tabs w):0 < w.heap.size∧1 < w.heap.size:=
 ⟨World.block_lt_of_cell? w _ (h.1 0 jo),World.block_lt_of_cell? w _ (h.2 0 jo).1⟩
theorem Tabs.grow {w w':World} (h:Tabs w) (hb:jY w w'):Tabs w':=h.below hb h.lt.1 h.lt.2
theorem zSS (n b off cap:Nat) (x0 x1 u v:UInt8) (w:World) (k:Tabs w) (E:0 < n)
 (B:w.cell? ⟨b,off,none⟩=some (.int .u8 x0.toNat)) (d:1 < n→w.cell? ⟨b,off+1,none⟩=some (.int .u8 x1.toNat))
 (f:2 < n→w.cell? ⟨b,off+2,none⟩=some (.int .u8 u.toNat)) (g:3 < n→w.cell? ⟨b,off+3,none⟩=some (.int .u8 v.toNat)):
 Calls prog 133 #[.slice (some ⟨b,off,none⟩) n cap] w fun e w'=>e=.returned (.tuple #[.int .i32 (decodeN n x0.toNat x1.toNat u.toNat v.toNat).1,.int .i64 (decodeN n x0.toNat x1.toNat u.toNat v.toNat).2])∧jY w w':=by
 have F:(0:Int) < (n:Int):=by omega
 have D:¬((n:Int) < 1):=by omega
 have hb:b < w.heap.size:=World.block_lt_of_cell? w _ B;have C:=x0.toNat_lt;have l1:=x1.toNat_lt;have l2:=u.toNat_lt;have G:=v.toNat_lt;have o:=k.1 x0.toNat jo;have c:firstT x0.toNat < 240→decodeN n x0.toNat x1.toNat u.toNat v.toNat=slowN n x0.toNat x1.toNat u.toNat v.toNat (firstT x0.toNat % 8) (accLo (firstT x0.toNat / 16)) (accHi (firstT x0.toNat / 16)):=
  fun h=>(Lib.slow_eq _ _ _ _ _ jo jo jo jo h).symm
 rcases Lib.firstT_cases x0.toNat with j | j | j | j | j | j | j | j | j
 · rw[Lib.ascii_eq _ _ _ _ _ j];rw[j]at o;clear c k j;clear d f g;go_enter func133,ntmps133;go_wp2;rw[Utf8W.mask240,Utf8W.keep_byte ⟨x0.toNat,C⟩]
   go_ret2
   exact⟨rfl,Below.refl _ _⟩
 · rw[Lib.bad_eq _ _ _ _ _ jo j];rw[j]at o;clear c k j;clear d f g;go_enter func133,ntmps133;go_wp2;rw[Utf8W.mask241,Utf8W.drop_byte ⟨x0.toNat,C⟩]
   go_ret2
   exact⟨rfl,Below.refl _ _⟩
 all_goals replace c:=c jo
 · rw[j]at o c;have l:=(k.2 0 jo).1;have m:=(k.2 0 jo).2;simp only[accLo,accHi,Nat.reduceMul,Nat.reduceAdd,Nat.reduceEqDiff,if_true,if_false,Nat.reduceMod,Nat.reduceDiv]at l m c;rw[c];clear c k j
   by_cases y:n < 2
   · have p:(n:Int) < 2:=by omega
     clear d f g;go_enter func133,ntmps133;go_wp2
     all_goals (go_ret2;refine⟨?_,ja⟩;utf8_leaf)
   · have q:(1:Int) < (n:Int):=by omega
     have r:=d jo;clear d f g;go_enter func133,ntmps133;go_wp2
     all_goals (go_ret2;refine⟨?_,ja⟩;utf8_leaf)
 · rw[j]at o c;have l:=(k.2 1 jo).1;have m:=(k.2 1 jo).2;simp only[accLo,accHi,Nat.reduceMul,Nat.reduceAdd,Nat.reduceEqDiff,if_true,if_false,Nat.reduceMod,Nat.reduceDiv]at l m c;rw[c];clear c k j
   by_cases y:n < 3
   · have p:(n:Int) < 3:=by omega
     clear d f g;go_enter func133,ntmps133;go_wp2
     all_goals (go_ret2;refine⟨?_,ja⟩;utf8_leaf)
   · have q:(1:Int) < (n:Int):=by omega
     have r:=d jo;have s:(2:Int) < (n:Int):=by omega
     have t:=f jo;clear d f g;go_enter func133,ntmps133;go_wp2
     all_goals (go_ret2;refine⟨?_,ja⟩;utf8_leaf)
 · rw[j]at o c;have l:=(k.2 0 jo).1;have m:=(k.2 0 jo).2;simp only[accLo,accHi,Nat.reduceMul,Nat.reduceAdd,Nat.reduceEqDiff,if_true,if_false,Nat.reduceMod,Nat.reduceDiv]at l m c;rw[c];clear c k j
   by_cases y:n < 3
   · have p:(n:Int) < 3:=by omega
     clear d f g;go_enter func133,ntmps133;go_wp2
     all_goals (go_ret2;refine⟨?_,ja⟩;utf8_leaf)
   · have q:(1:Int) < (n:Int):=by omega
     have r:=d jo;have s:(2:Int) < (n:Int):=by omega
     have t:=f jo;clear d f g;go_enter func133,ntmps133;go_wp2
     all_goals (go_ret2;refine⟨?_,ja⟩;utf8_leaf)
 · rw[j]at o c;have l:=(k.2 2 jo).1;have m:=(k.2 2 jo).2;simp only[accLo,accHi,Nat.reduceMul,Nat.reduceAdd,Nat.reduceEqDiff,if_true,if_false,Nat.reduceMod,Nat.reduceDiv]at l m c;rw[c];clear c k j
   by_cases y:n < 3
   · have p:(n:Int) < 3:=by omega
     clear d f g;go_enter func133,ntmps133;go_wp2
     all_goals (go_ret2;refine⟨?_,ja⟩;utf8_leaf)
   · have q:(1:Int) < (n:Int):=by omega
     have r:=d jo;have s:(2:Int) < (n:Int):=by omega
     have t:=f jo;clear d f g;go_enter func133,ntmps133;go_wp2
     all_goals (go_ret2;refine⟨?_,ja⟩;utf8_leaf)
 · rw[j]at o c;have l:=(k.2 3 jo).1;have m:=(k.2 3 jo).2;simp only[accLo,accHi,Nat.reduceMul,Nat.reduceAdd,Nat.reduceEqDiff,if_true,if_false,Nat.reduceMod,Nat.reduceDiv]at l m c;rw[c];clear c k j
   by_cases y:n < 4
   · have p:(n:Int) < 4:=by omega
     clear d f g;go_enter func133,ntmps133;go_wp2
     all_goals (go_ret2;refine⟨?_,ja⟩;utf8_leaf)
   · have q:(1:Int) < (n:Int):=by omega
     have r:=d jo;have s:(2:Int) < (n:Int):=by omega
     have t:=f jo;have z:(3:Int) < (n:Int):=by omega
     have A:=g jo;clear d f g;go_enter func133,ntmps133;go_wp2
     all_goals (go_ret2;refine⟨?_,ja⟩;utf8_leaf)
 · rw[j]at o c;have l:=(k.2 0 jo).1;have m:=(k.2 0 jo).2;simp only[accLo,accHi,Nat.reduceMul,Nat.reduceAdd,Nat.reduceEqDiff,if_true,if_false,Nat.reduceMod,Nat.reduceDiv]at l m c;rw[c];clear c k j
   by_cases y:n < 4
   · have p:(n:Int) < 4:=by omega
     clear d f g;go_enter func133,ntmps133;go_wp2
     all_goals (go_ret2;refine⟨?_,ja⟩;utf8_leaf)
   · have q:(1:Int) < (n:Int):=by omega
     have r:=d jo;have s:(2:Int) < (n:Int):=by omega
     have t:=f jo;have z:(3:Int) < (n:Int):=by omega
     have A:=g jo;clear d f g;go_enter func133,ntmps133;go_wp2
     all_goals (go_ret2;refine⟨?_,ja⟩;utf8_leaf)
 · rw[j]at o c;have l:=(k.2 4 jo).1;have m:=(k.2 4 jo).2;simp only[accLo,accHi,Nat.reduceMul,Nat.reduceAdd,Nat.reduceEqDiff,if_true,if_false,Nat.reduceMod,Nat.reduceDiv]at l m c;rw[c];clear c k j
   by_cases y:n < 4
   · have p:(n:Int) < 4:=by omega
     clear d f g;go_enter func133,ntmps133;go_wp2
     all_goals (go_ret2;refine⟨?_,ja⟩;utf8_leaf)
   · have q:(1:Int) < (n:Int):=by omega
     have r:=d jo;have s:(2:Int) < (n:Int):=by omega
     have t:=f jo;have z:(3:Int) < (n:Int):=by omega
     have A:=g jo;clear d f g;go_enter func133,ntmps133;go_wp2
     all_goals (go_ret2;refine⟨?_,ja⟩;utf8_leaf)
end Zq
section Zq
open Go.ChangeShapes Go.WideShapes Go.ChangeAt Go.RowKit Go.Lib
theorem zYC : prog.globalNamed "unicode/utf8.first" = some 0 := by kernel_rfl
theorem zag : prog.globalNamed "unicode/utf8.acceptRanges" = some 1 := by kernel_rfl
theorem zM4:(prog.globals[0]?).map (·.type)=some 162:=by kernel_rfl
theorem zST:(prog.globals[1]?).map (·.type)=some 165:=by kernel_rfl
theorem zOm:prog.cellsOf 5=1:=by kernel_rfl
theorem zSU:prog.cellsOf 162=256:=by kernel_rfl
theorem zLc:prog.cellsOf 164=2:=by kernel_rfl
theorem zSV:Rows.laid_unicode_utf8_first=firstData:=by kernel_rfl
theorem zYD:(Rows.laid_unicode_utf8_acceptRanges:DataW Unit)=acceptData:=by kernel_rfl
theorem zV8 {w : World} (v : VarReads prog w "unicode/utf8.first" firstData) (y : VarReads prog w "unicode/utf8.acceptRanges" acceptData) : Tabs w := by
 refine⟨fun c z=>?_,fun i hi=>?_⟩
 · obtain⟨g,t,cs,o,p,hg,l,b,r⟩:=v;obtain rfl:=yBI (zYC.symm.trans hg);obtain rfl:=yBI (zM4.symm.trans l);have k:=cells_of_tab underlying162 underlying5 zOm zSU r;have:=World.var?_cell hg b c;rw[this,←Array.getElem?_toList,k];simp[firstTab,z]
 · obtain⟨g,t,cs,o,p,hg,l,b,r⟩:=y;obtain rfl:=yBI (zag.symm.trans hg);obtain rfl:=yBI (zST.symm.trans l);obtain⟨u,d,q,m,s⟩:=array_elem underlying165 r i hi;simp only[yCH,List.getElem?_range hi,Option.map_some,yCE]at m;subst m;rw[zLc]at s;have k:=ints_of_struct underlying164 (fun j f e=>by
    match j,e with
    | 0,e=>simp at e;subst e;exact⟨underlying5,rfl,zOm⟩
    | 1,e=>simp at e;subst e;exact⟨underlying5,rfl,zOm⟩
    | j+2,e=>simp at e) (by rw[zLc];rfl) s
   have e0:=congrArg (·[0]?) k;have e1:=congrArg (·[1]?) k;simp only[List.getElem?_take,yCM]at e0 e1;constructor
   · rw[World.var?_cell hg b (2*i),←Array.getElem?_toList];simpa [Nat.mul_comm]using e0
   · rw[World.var?_cell hg b (2*i+1),←Array.getElem?_toList];simpa [Nat.mul_comm]using e1
theorem zOn {w : World} (h : laidMetH prog [("math/bits.deBruijn32tab", Rows.laid_math_bits_deBruijn32tab), ("math/bits.deBruijn64tab", Rows.laid_math_bits_deBruijn64tab), ("internal/strconv.uint64pow10", Rows.laid_internal_strconv_uint64pow10), ("unicode/utf8.acceptRanges", Rows.laid_unicode_utf8_acceptRanges), ("unicode/utf8.first", Rows.laid_unicode_utf8_first)] w) : Tab w ∧ Tabs w := by
 have b : laidMet prog [("math/bits.deBruijn32tab", Rows.laid_math_bits_deBruijn32tab), ("math/bits.deBruijn64tab", Rows.laid_math_bits_deBruijn64tab), ("internal/strconv.uint64pow10", Rows.laid_internal_strconv_uint64pow10), ("unicode/utf8.acceptRanges", Rows.laid_unicode_utf8_acceptRanges), ("unicode/utf8.first", Rows.laid_unicode_utf8_first)] w := h;have e := laidMet.reads b (n := "unicode/utf8.first") (d := Rows.laid_unicode_utf8_first) js;have f := laidMet.reads b (n := "unicode/utf8.acceptRanges") (d := Rows.laid_unicode_utf8_acceptRanges) js;have g := laidMet.reads b (n := "internal/strconv.uint64pow10") (d := Rows.laid_internal_strconv_uint64pow10) js;rw[zSV]at e;rw[zYD]at f;refine⟨?_,zV8 e f⟩;rw[zYB]at g;obtain⟨o,q,cs,l,p,j,k,c,m⟩:=g;obtain rfl:=yBI (zZF.symm.trans j);obtain rfl:=yBI (zSQ.symm.trans k);unfold Tab Lib.TabIs;rw[c,←Lib.cells_of_tab underlying181 underlying127 (by kernel_rfl) (by kernel_rfl) m]
def zOo (h:Array Obj):Array Obj:=
 (h.modify 0 fun
  | .cells _ t frozen=>.cells (((List.range 256).map fun c=>Value.int .u8 (firstT c:Int)).toArray) t frozen
  | o=>o).modify 1 fun
  | .cells _ t frozen=>.cells (((List.range 16).flatMap fun i=>[Value.int .u8 (accLo i:Int),Value.int .u8 (accHi i:Int)]).toArray) t frozen
  | o=>o
noncomputable def zFO (os:Os):World:=
 let w:=World.holding prog os ⟨#[],#[],[]⟩
 {w with heap:=zOo (zSR w.heap)}
end Zq
section Zq
open Go.ChangeShapes Go.WideShapes Go.ChangeAt Go.RowKit
theorem zI4:prog.cellsOf 58=8:=by kernel_rfl
theorem zOp:prog.cellsOf 24=1:=by kernel_rfl
theorem zLd:prog.cellsOf 52=2:=by kernel_rfl
theorem zLe:prog.cellsOf 55=2:=by kernel_rfl
theorem zIH:prog.cellsOf 3=1:=by kernel_rfl
theorem zSW:prog.cellsOf 9=1:=by kernel_rfl
theorem zOq:prog.cellsOf 4=1:=by kernel_rfl
theorem zSX:prog.cellsOf 104=1:=by kernel_rfl
theorem zSY:prog.cellsOf 119=1:=by kernel_rfl
theorem zOr:prog.cellsOf 27=1:=by kernel_rfl
theorem zOs:prog.cellsOf 53=1:=by kernel_rfl
theorem zOt:prog.cellsOf 56=1:=by kernel_rfl
theorem zM5:prog.cellsOf 22=1:=by kernel_rfl
section
variable {H:Type} {enc:TypeId×Value→H} {W:World}
theorem zFP {t:TypeId} {k:IntKind} {g:Nat} {x:DataW H×List MemPlace} (r:prog.underlying t=some (.slice e)) (s:prog.underlying e=some (.int k)) (v:prog.cellsOf e=1)
 (h:DataW.trod enc prog W 0 (fun _=>true) true g t cs=some x):
 ∃(A:jQ) (n c:Nat) (zs:List Int),cs=[.slice A n c]∧n≤c∧c≤maxLen∧zs.length=n∧(∀z∈zs,(Lit.int k z).wf=true)∧Reads W W.heap.size 1 A n (zs.map (Value.int k)):=by
 rcases open_ints r s v h with⟨f,_⟩ | ⟨a,len,cap,zs,f,_,y,B,l,_,d,m⟩
 · exact⟨none,0,0,[],f,yAC _,yAE _,rfl,fun z l=>(by cases l),Reads.none_⟩
 · simp only[if_true]at l;have b:(zs.take len).length=len:=by rw[yBK];omega
   refine⟨some a,len,cap,zs.take len,f,y,B,b,fun z o=>m z (List.mem_of_mem_take o),by rw[List.length_map,b,Nat.mul_one],fun E=>⟨a,rfl,?_,fun j u p=>?_⟩⟩
   · have C:=d 0 jo;have:=World.block_lt_of_cell? W _ C;rwa [zDc]at this
   · have D:j < len:=by
      have:=(yAT.1 p).1;rwa[List.length_map,b]at this
     rw[d j jo,←p,yCH,List.getElem?_take,if_pos D];have q:j < zs.length:=by omega
     simp[yAB q]
theorem zSZ {c:Nat} {x:DataW H×List MemPlace} (h:DataW.trod enc prog W 0 (fun _=>true) true c 52 cs=some x):
 ∃k n:Int,cs=[.int .i64 k,.int .i64 n]∧(Lit.int .i64 k).wf=true∧(Lit.int .i64 n).wf=true:=by
 obtain⟨f,g,m,_,d,e,h1⟩:=trod_struct2 underlying52 h;rw[zLd]at d;simp only[zIH]at e h1
 match cs,d with
 | [a,b],_=>
  obtain⟨k,e0,_,w0⟩:=DataW.trod_int underlying3 e;obtain⟨n,e1,_,w1⟩:=DataW.trod_int underlying3 h1;simp only[List.drop_zero,List.take_succ_cons,List.take_zero,List.drop_succ_cons,List.cons.injEq,and_true]at e0 e1;subst e0 e1;exact⟨k,n,rfl,w0,w1⟩
theorem zSa {d:Nat} {x:DataW H×List MemPlace} (h:DataW.trod enc prog W 0 (fun _=>true) true d 55 cs=some x):
 ∃(b:Bool) (A:jQ) (n c:Nat) (zs:List Int),cs=[.bool b,.slice A n c]∧n≤c∧c≤maxLen∧zs.length=n∧(∀z∈zs,(Lit.int .u32 z).wf=true)∧Reads W W.heap.size 1 A n (zs.map (Value.int .u32)):=by
 obtain⟨p,q,m,_,e,f,h1⟩:=trod_struct2 underlying55 h;rw[zLe]at e;simp only[zOq,zOs]at f h1
 match cs,e with
 | [a,b],_=>
  obtain⟨k,e0,_⟩:=DataW.trod_bool underlying4 f;obtain⟨A,n,c,zs,e1,g,j,l,o,h6⟩:=zFP underlying53 underlying119 zSY h1;simp only[List.drop_zero,List.take_succ_cons,List.take_zero,List.drop_succ_cons,List.cons.injEq,and_true]at e0 e1;subst e0 e1;exact⟨k,A,n,c,zs,rfl,g,j,l,o,h6⟩
theorem zOu (s:ByteArray):(⟨s.toList.toArray⟩:ByteArray)=s:=by
 rw[ByteArray.toList_eq]
theorem zOv {g:Nat} {d:DataW H×List MemPlace} (h:DataW.trod enc prog W 0 (fun _=>true) true g 58 cs=some d):
 ∃x s,cs=ndV x s∧NdR W W.heap.size x s:=by
 obtain⟨xs,m,_,_,l,o,b⟩:=DataW.trod_struct underlying58 h;rw[zI4]at l
 match cs,l with
 | [a0,a1,a2,a3,a4,a5,a6,a7],_=>
  match xs,o with
  | [y0,y1,y2,y3,y4,y5],_=>
   have p:DataW.trod enc prog W 0 (fun _=>true) true m 3 (([a0,a1,a2,a3,a4,a5,a6,a7].drop 0).take (prog.cellsOf 3))=[y0,y1,y2,y3,y4,y5][0]? :=b 0 _ rfl;have f1:DataW.trod enc prog W 0 (fun _=>true) true m 9 (([a0,a1,a2,a3,a4,a5,a6,a7].drop 1).take (prog.cellsOf 9))=[y0,y1,y2,y3,y4,y5][1]? :=b 1 _ rfl;have q:DataW.trod enc prog W 0 (fun _=>true) true m 27 (([a0,a1,a2,a3,a4,a5,a6,a7].drop 2).take (prog.cellsOf 27))=[y0,y1,y2,y3,y4,y5][2]? :=b 2 _ rfl;have f3:DataW.trod enc prog W 0 (fun _=>true) true m 52 (([a0,a1,a2,a3,a4,a5,a6,a7].drop 3).take (prog.cellsOf 52))=[y0,y1,y2,y3,y4,y5][3]? :=b 3 _ rfl;have r:DataW.trod enc prog W 0 (fun _=>true) true m 55 (([a0,a1,a2,a3,a4,a5,a6,a7].drop 5).take (prog.cellsOf 55))=[y0,y1,y2,y3,y4,y5][4]? :=b 4 _ rfl;have t:DataW.trod enc prog W 0 (fun _=>true) true m 56 (([a0,a1,a2,a3,a4,a5,a6,a7].drop 7).take (prog.cellsOf 56))=[y0,y1,y2,y3,y4,y5][5]? :=b 5 _ rfl;simp only[zIH,zSW,zOr,zLd,zLe,zOt,List.drop_zero,List.take_succ_cons,List.take_zero,List.drop_succ_cons,List.getElem?_cons_zero,List.getElem?_cons_succ]at p f1 q f3 r t;obtain⟨k,e0,_,w0⟩:=DataW.trod_int underlying3 p;obtain⟨nm,e1,_,w1⟩:=DataW.trod_string underlying9 f1;obtain⟨As,S,u,zs,e2,s1,D,E,F,G⟩:=zFP underlying27 underlying104 zSX q;obtain⟨nk,nn,e3,w3,I⟩:=zSZ f3;obtain⟨J,Am,Q,cm,c,e4,m1,m2,L,v,M⟩:=zSa r;obtain⟨Ak,R,ck,N,e5,k1,k2,k3,k4,k5⟩:=zFP underlying56 underlying3 zIH t;simp only[List.cons.injEq,and_true]at e0 e1 e2 e3 e4 e5;obtain⟨e3,A⟩:=e3;obtain⟨e4,B⟩:=e4;subst e0 e1 e2 e3 A e4 B e5;subst E L k3;have O:zAC (zs.map fun n=>UInt16.ofNat n.toNat)=zs.map (Value.int .u16):=by
    unfold zAC;rw[List.map_map];refine List.map_congr_left fun z f=>?_;have C:=bounds_u16 (F z f);show Value.int .u16 _=_;have e:((UInt16.ofNat z.toNat).toNat:Int)=z:=by simp;omega
    exact congrArg _ e
   have P:zSM (c.map fun n=>n.toNat)=c.map (Value.int .u32):=by
    unfold zSM;rw[List.map_map];refine List.map_congr_left fun z f=>?_;have C:=bounds_u32 (v z f);have e:((z.toNat:Nat):Int)=z:=by omega
    exact congrArg _ e
   refine⟨⟨k,nm.toList,zs.map fun n=>UInt16.ofNat n.toNat,nk,nn,J,c.map fun n=>n.toNat,N⟩,⟨As,Am,Ak,u,cm,ck⟩,?_,?_⟩
   · unfold ndV;simp only[zOu,List.length_map]
   · refine⟨?_,?_,?_,?_,?_,?_,fun y j=>?_,fun y j=>bounds_i64 (k4 y j),bounds_i64 w0,bounds_i64 w3,bounds_i64 I,?_⟩
     · show Reads W W.heap.size 1 As (List.map _ zs).length (zAC _);rw[O,List.length_map];exact G
     · show Reads W W.heap.size 1 Am (List.map _ c).length (zSM _);rw[P,List.length_map];exact M
     · exact k5
     · show(List.map _ zs).length≤_∧_;rw[List.length_map];exact⟨s1,D⟩
     · show(List.map _ c).length≤_∧_;rw[List.length_map];exact⟨m1,m2⟩
     · exact⟨k1,k2⟩
     · obtain⟨z,f,rfl⟩:=List.mem_map.1 j;have C:=bounds_u32 (v z f);omega
     · show nm.toList.length≤_;rw[ByteArray.toList_eq];have:nm.data.toList.length=nm.size:=by simp
       rw[this];unfold maxLen at w1;omega
theorem zM6 {t:Nat} {d:DataW H×List MemPlace} (h:DataW.trod enc prog W 0 (fun _=>true) true t 22 cs=some d):
 ∃(A:jQ) (n c:Nat) (ts:List Nd),cs=[.slice A n c]∧n≤c∧c≤maxLen∧NdsR W W.heap.size A n ts:=by
 rcases Go.Deep.open_slice underlying22 h with⟨k,_⟩ | ⟨a,len,cap,m,n,D,I,k,_,y,z,l,_,B⟩
 · exact⟨none,0,0,[],k,yAC _,yAE _,NdsR.nil rfl⟩
 · simp only[if_true]at l;subst l;have each:∀i,i < len→∃p:Nd×NdSl,W.cells? 0 (a.add (i*8)) 8=some (ndV p.1 p.2)∧NdR W W.heap.size p.1 p.2:=by
    intro i hi;obtain⟨G,h1,C⟩:=B i jo;rw[zI4]at h1;obtain⟨x,s,rfl,E⟩:=zOv C;exact⟨(x,s),h1,E⟩
   obtain⟨f,v⟩:∃f:Nat→Nd×NdSl,∀i,i < len→W.cells? 0 (a.add (i*8)) 8=some (ndV (f i).1 (f i).2)∧NdR W W.heap.size (f i).1 (f i).2:=by
    classical
    refine⟨fun i=>if hi:i < len then Classical.choose (each i hi)else(zB6,⟨none,none,none,0,0,0⟩),fun i hi=>?_⟩;simp only[dif_pos hi];exact Classical.choose_spec (each i hi)
   refine⟨some a,len,m,(List.range len).map fun i=>(f i).1,k,y,z,by simp,fun F=>?_⟩;have q:∀i,i < len→∀j,j < 8→W.cell? (a.add (i*8+j))=(ndV (f i).1 (f i).2)[j]? :=by
    intro i hi j u;have:=(World.cells?_some (v i hi).1).2.2 j u;rwa [zHc]at this
   have e:=q 0 F 0 jo;rw[Nat.zero_mul,yCK,Addr.add_zero]at e;have g:a.spot=none:=by
    cases g:a.spot with
    | none=>rfl
    | some s=>
     exfalso;simp only[World.cell?,g]at e;split at e
     · simp[ndV]at e
     · cases e
   obtain⟨b,o,J⟩:=a;simp only at g;subst g;refine⟨b,o,rfl,World.block_lt_of_cell? W _ e,fun i hi=>?_⟩;have r:i < len:=by simpa using hi
   have hg:((List.range len).map fun i=>(f i).1)[i]=(f i).1:=by simp
   rw[hg];have hk:∀j,j < 8→W.cell? ⟨b,o+i*8+j,none⟩=(ndV (f i).1 (f i).2)[j]? :=fun j u=>by
    have:=q i r j u;rwa[Addr.add_lit,←yCO]at this
   exact⟨(f i).2,⟨hk 0 jo,hk 1 jo,hk 2 jo,hk 3 jo,hk 4 jo,hk 5 jo,hk 6 jo,hk 7 jo⟩,(v i r).2⟩
theorem zM7 {base:Nat} {v:Value} {d:DataW H} {p:List MemPlace} (hv:Value.okWide prog W .any base 24 v) (h:DataW.Trod enc prog W 0 (fun _=>true) true 24 v d p):
 ∃(A:jQ) (n c:Nat) (ts:List Nd),v=.agg #[.slice A n c]∧n≤c∧c≤maxLen∧NdsR W W.heap.size A n ts:=by
 obtain⟨cs,rfl,hs⟩:=okWide_struct underlying24 hv;obtain⟨f,g⟩:=h;obtain⟨o,m,_,q,b⟩:=trod_struct1 underlying24 g;rw[zOp]at hs;simp only[zM5]at b;obtain⟨l⟩:=cs
 match l,hs with
 | [a],_=>
  obtain⟨A,n,c,ts,e,h1,j,k⟩:=zM6 b;have e':[a]=[.slice A n c]:=e;obtain rfl:a=.slice A n c:=by injection e'
  exact⟨A,n,c,ts,rfl,h1,j,k⟩
end
end Zq
inductive Tr where
 | mk (x:Nd) (l:List Tr)
mutual
def Tr.size:Tr→Nat
 | .mk _ l=>1+sizes l
def sizes:List Tr→Nat
 | []=>0
 | t::r=>t.size+sizes r
end
def Tr.nd:Tr→Nd | .mk x _=>x
def Tr.subs:Tr→List Tr | .mk _ l=>l
def zx (n:Nat):List Tr→List Int
 | []=>[]
 | t::r=>(n:Int)::zx (n+t.size) r
mutual
def flatT (n:Nat):Tr→List Nd
 | .mk x l=>{x with kids:=zx (n+1) l}::flatL (n+1) l
def flatL (n:Nat):List Tr→List Nd
 | []=>[]
 | t::r=>flatT n t++flatL (n+t.size) r
end
theorem zAk (x:Nd) (l:List Tr):(Tr.mk x l).size=1+sizes l:=by rw[Tr.size]
theorem zo:sizes []=0:=by rw[sizes]
theorem zY (t:Tr) (r:List Tr):sizes (t::r)=t.size+sizes r:=by rw[sizes]
theorem zBF (t:Tr):1≤t.size:=by cases t;rw[zAk];omega
theorem zAz (n:Nat) (x:Nd) (l:List Tr):flatT n (.mk x l)={x with kids:=zx (n+1) l}::flatL (n+1) l:=by rw[flatT]
theorem zA0 (n:Nat):flatL n []=[]:=by rw[flatL]
theorem zAP (n:Nat) (t:Tr) (r:List Tr):flatL n (t::r)=flatT n t++flatL (n+t.size) r:=by rw[flatL]
mutual
theorem flatT_len (n:Nat) (t:Tr):(flatT n t).length=t.size:=by
 cases t with
 | mk x l=>rw[zAz,zAk,yAO,flatL_len (n+1) l];omega
theorem flatL_len (n:Nat) (l:List Tr):(flatL n l).length=sizes l:=by
 cases l with
 | nil=>rw[zA0,zo];rfl
 | cons t r=>rw[zAP,zY,yAN,flatT_len n t,flatL_len (n+t.size) r]
end
theorem zBV (n:Nat) (l:List Tr):(zx n l).length=l.length:=by
 induction l generalizing n with
 | nil=>rfl
 | cons t r b=>simp[zx,b]
theorem zBp {n:Nat} {l:List Tr} {p:Int} (h:p∈zx n l):(n:Int)≤p∧p < ((n+sizes l:Nat):Int):=by
 induction l generalizing n with
 | nil=>cases h
 | cons t r b=>
  have:=zBF t;rw[zY];rcases yAW.1 h with h | h
  · omega
  · have:=b h;omega
def Tr.laid (n:Nat):Tr→Nd | .mk x l=>{x with kids:=zx (n+1) l}
theorem zD2 (n:Nat) (t:Tr):(flatT n t)[0]? =some (t.laid n):=by cases t;rw[zAz];rfl
def At (ts:List Nd) (n:Nat) (t:Tr):Prop:=∃a b,ts=a++flatT n t++b∧a.length=n
def AtL (ts:List Nd) (n:Nat) (l:List Tr):Prop:=∃a b,ts=a++flatL n l++b∧a.length=n
theorem At.get {ts:List Nd} {n:Nat} {t:Tr} (h:At ts n t):ts[n]? =some (t.laid n):=by
 obtain⟨a,b,rfl,c⟩:=h;rw[yAL,yAX jo,c,yCS,yBD (by rw[flatT_len];exact zBF t)];exact zD2 n t
theorem At.le {ts:List Nd} {n:Nat} {t:Tr} (h:At ts n t):n+t.size≤ts.length:=by
 obtain⟨a,b,rfl,c⟩:=h;simp only[yAN,flatT_len];omega
theorem At.subs {ts:List Nd} {n:Nat} {x:Nd} {l:List Tr} (h:At ts n (.mk x l)):AtL ts (n+1) l:=by
 obtain⟨a,b,rfl,c⟩:=h;rw[zAz];exact⟨a++[{x with kids:=zx (n+1) l}],b,by simp,by simp[c]⟩
theorem AtL.head {ts:List Nd} {n:Nat} {t:Tr} {l:List Tr} (h:AtL ts n (t::l)):At ts n t:=by
 obtain⟨a,b,rfl,c⟩:=h;rw[zAP];exact⟨a,flatL (n+t.size) l++b,by simp,c⟩
theorem AtL.tail {ts:List Nd} {n:Nat} {t:Tr} {l:List Tr} (h:AtL ts n (t::l)):AtL ts (n+t.size) l:=by
 obtain⟨a,b,rfl,c⟩:=h;rw[zAP];exact⟨a++flatT n t,b,by simp,by simp[c,flatT_len]⟩
theorem AtL.kid {ts:List Nd}:∀{l:List Tr} {n:Nat} (_:AtL ts n l) (i:Nat) (hi:i < l.length),∃p:Nat,(zx n l)[i]? =some (p:Int)∧At ts p l[i]∧n≤p:=by
 intro l
 induction l with
 | nil=>intro n h i hi;simp at hi
 | cons t r b=>
  intro n h i hi;cases i with
  | zero=>exact⟨n,rfl,h.head,yAC _⟩
  | succ i=>
   obtain⟨p,h1,c,d⟩:=b h.tail i (by simpa using hi);exact⟨p,by simpa [zx]using h1,c,by omega⟩
theorem At.kid {ts:List Nd} {n:Nat} {x:Nd} {l:List Tr} (h:At ts n (.mk x l)) (i:Nat) (hi:i < l.length):∃p:Nat,(zx (n+1) l)[i]? =some (p:Int)∧At ts p l[i]∧n < p:=by
 obtain⟨p,h1,b,c⟩:=h.subs.kid i hi;exact⟨p,h1,b,by omega⟩
theorem At.whole (t:Tr):At (flatT 0 t) 0 t:=⟨[],[],by simp,rfl⟩
theorem zCp (N n:Nat) (x:Nd) (r:List Nd) (s:Int) (b:List Int):zBK N n (x::r) (s::b)=(s==(n:Int)&&zCo N n x.kids&&zBK N (n+1) r (x.kids++b)):=rfl
theorem zGO (n:Nat) (x:Nd) (r:List Nd) (d:List Nat):zDh n (x::r) d=zDh (n+1) r (zEN (d.set n (max (d.getD n 0) 1)) (max (d.getD n 0) 1+1) x.kids):=rfl
theorem zM8 {N m:Nat} (o:∀n r k b,r.length < m→zBK N n r (k::b)=true→∃t c,k=(n:Int)∧r=flatT n t++c∧zBK N (n+t.size) c b=true):
 ∀(ks:List Int) (n:Nat) (r:List Nd) (b:List Int),r.length < m→zBK N n r (ks++b)=true→∃l c,ks=zx n l∧r=flatL n l++c∧zBK N (n+sizes l) c b=true:=by
 intro ks
 induction ks with
 | nil=>intro n r b _ h;exact⟨[],r,rfl,by rw[zA0];rfl,by rw[zo];exact h⟩
 | cons k ks d=>
  intro n r b p h;obtain⟨t,c,hk,e,q⟩:=o n r k (ks++b) p h;have s:c.length < m:=by
   have:=congrArg List.length e;rw[yAN]at this;omega
  obtain⟨l,f,g,j,u⟩:=d (n+t.size) c b s q;refine⟨t::l,f,by rw[hk,g];rfl,by rw[e,j,zAP,yAL],?_⟩;rw[zY,←yCO];exact u
theorem zOw (N:Nat):∀(m n:Nat) (r:List Nd) (k:Int) (b:List Int),r.length < m→zBK N n r (k::b)=true→∃t c,k=(n:Int)∧r=flatT n t++c∧zBK N (n+t.size) c b=true:=by
 intro m
 induction m with
 | zero=>intro n r k b h;omega
 | succ m d=>
  intro n r k b e h;cases r with
  | nil=>cases h
  | cons x r=>
   unfold zBK at h;simp only[yAQ,yBL]at h;obtain⟨⟨hk,_⟩,h⟩:=h;obtain⟨l,c,h1,f,g⟩:=zM8 (m:=m) d x.kids (n+1) r b (by simp at e;omega) h;refine⟨.mk x l,c,hk,?_,?_⟩
   · rw[zAz,←h1,f];rfl
   · rw[zAk,←yCO];exact g
theorem zHf {ts:List Nd} (h:zCP ts=true):∃t,ts=flatT 0 t:=by
 obtain⟨t,b,_,h1,c⟩:=zOw ts.length (ts.length+1) 0 ts 0 [] jo h;cases b with
 | nil=>exact⟨t,by rw[h1];simp⟩
 | cons x r=>cases c
mutual
theorem order_flatT (N:Nat) (t:Tr) (n:Nat) (r:List Nd) (st:List Int) (h:n+t.size≤N):zBK N n (flatT n t++r) ((n:Int)::st)=zBK N (n+t.size) r st:=by
 cases t with
 | mk x l=>
  rw[zAk]at h⊢;rw[zAz,yAP];have hk:zCo N n (zx (n+1) l)=true:=by
   unfold zCo;rw[yBH];intro p hp;have:=zBp hp;simp only[yAQ,yBG];omega
  rw[zCp];simp only[beq_self_eq_true,hk,yC];rw[order_flatL N l (n+1) r st jo,yCO]
theorem order_flatL (N:Nat) (l:List Tr) (n:Nat) (r:List Nd) (st:List Int) (h:n+sizes l≤N):zBK N n (flatL n l++r) (zx n l++st)=zBK N (n+sizes l) r st:=by
 cases l with
 | nil=>rw[zA0,zo];rfl
 | cons t l=>
  rw[zY]at h⊢;rw[zAP,yAL];show zBK N n (flatT n t++(flatL (n+t.size) l++r)) ((n:Int)::(zx (n+t.size) l++st))=_;rw[order_flatT N t n _ _ jo,order_flatL N l (n+t.size) r st jo,yCO]
end
theorem zFQ (t:Tr):zCP (flatT 0 t)=true:=by
 have h:=order_flatT t.size t 0 [] [] jo;rw[yAS]at h;unfold zCP;rw[flatT_len];exact h.trans rfl
mutual
def depsT (v:Nat):Tr→List Nat
 | .mk _ l=>v::depsL (v+1) l
def depsL (v:Nat):List Tr→List Nat
 | []=>[]
 | t::r=>depsT v t++depsL v r
end
theorem zDK (v:Nat) (x:Nd) (l:List Tr):depsT v (.mk x l)=v::depsL (v+1) l:=by rw[depsT]
theorem zEn (v:Nat):depsL v []=[]:=by rw[depsL]
theorem zC5 (v:Nat) (t:Tr) (r:List Tr):depsL v (t::r)=depsT v t++depsL v r:=by rw[depsL]
mutual
theorem depsT_len (v:Nat) (t:Tr):(depsT v t).length=t.size:=by
 cases t with
 | mk x l=>rw[zDK,zAk,yAO,depsL_len (v+1) l];omega
theorem depsL_len (v:Nat) (l:List Tr):(depsL v l).length=sizes l:=by
 cases l with
 | nil=>rw[zEn,zo];rfl
 | cons t r=>rw[zC5,zY,yAN,depsT_len v t,depsL_len v r]
end
def over (d:List Nat) (n:Nat) (e:List Nat):List Nat:=d.take n++e++d.drop (n+e.length)
theorem zSb {d e:List Nat} {n:Nat} (h:n+e.length≤d.length):(over d n e).length=d.length:=by
 unfold over;simp only[yAN,yBK,yAR];omega
theorem zD3 {d e:List Nat} {n:Nat} (h:n+e.length≤d.length):(over d n e)[i]? =if n≤i∧i < n+e.length then e[i - n]? else d[i]? :=by
 unfold over
 by_cases h1:i < n
 · rw[jn,yAL,yBD (by rw[yBK];omega),List.getElem?_take_of_lt h1]
 · by_cases b:i < n+e.length
   · rw[if_pos ⟨by omega,b⟩,yAL,yAX (by rw[yBK];omega),yBK,Nat.min_eq_left jo,yBD jo]
   · rw[jn,yAX (by rw[yAN,yBK];omega),yCM,yAN,yBK,Nat.min_eq_left jo];congr 1;omega
theorem zFR {v:Nat}:∀(ks:List Int) (d:List Nat) (i:Nat),(∀k∈ks,0≤k)→(zEN d v ks)[i]? =if(i:Int)∈ks∧i < d.length then some v else d[i]? :=by
 intro ks
 induction ks with
 | nil=>intro d i _;simp[zEN]
 | cons k ks f=>
  intro d i h;unfold zEN;rw[f _ _ (fun k hk=>h k (yAV _ hk)),List.length_set];have hk:=h k (yBN ..)
  by_cases h1:(i:Int)∈ks∧i < d.length
  · rw[if_pos h1,if_pos ⟨yAV _ h1.1,h1.2⟩]
  · rw[if_neg h1,yCQ]
    by_cases e:k.toNat=i
    · subst e;have g:((k.toNat:Nat):Int)=k:=Int.toNat_of_nonneg hk;rw[if_pos rfl]
      by_cases b:k.toNat < d.length
      · rw[if_pos b,if_pos ⟨by rw[g];exact yBN ..,b⟩]
      · rw[if_neg b,if_neg (fun j=>b j.2),yBC jo]
    · rw[if_neg e,if_neg];rintro⟨c,h6⟩;rcases yAW.1 c with c | c
      · exact e jo
      · exact h1 ⟨c,h6⟩
theorem zM9 {v:Nat}:∀(ks:List Int) (d:List Nat),(zEN d v ks).length=d.length:=by
 intro ks
 induction ks with
 | nil=>intro d;rfl
 | cons k ks b=>intro d;unfold zEN;rw[b,List.length_set]
theorem zGP:∀{l:List Tr} {n:Nat},∀p∈zx n l,(0:Int)≤p:=by
 intro l n p b;have:=zBp b;omega
mutual
theorem deep_flatT (t:Tr) (n v:Nat) (r:List Nd) (d:List Nat) (hv:1≤v) (hd:n+t.size≤d.length) (h:max (d.getD n 0) 1=v):zDh n (flatT n t++r) d=zDh (n+t.size) r (over d n (depsT v t)):=by
 cases t with
 | mk x l=>
  rw[zAk]at hd⊢;rw[zAz,yAP];rw[zGO,h];have hlen:(zEN (d.set n v) (v+1) (zx (n+1) l)).length=d.length:=by rw[zM9,List.length_set]
  rw[deep_flatL l (n+1) (v+1) r _ jo (by rw[hlen];omega) (fun p hp=>by
   have:=zBp hp;rw[zFR _ _ _ (fun k hk=>zGP k hk),if_pos ⟨hp,by rw[List.length_set];omega⟩])]
  rw[yCO];congr 1;apply List.ext_getElem?;intro i;have e1:(depsT v (.mk x l)).length=1+sizes l:=by rw[depsT_len,zAk]
  have e2:=depsL_len (v+1) l;rw[zD3 (by rw[e2,hlen];omega),zD3 (by rw[e1];omega),e1,e2]
  by_cases h1:n+1≤i∧i < n+1+sizes l
  · rw[if_pos h1,if_pos jo,zDK,show i - n=(i - (n+1))+1 by omega,List.getElem?_cons_succ]
  · rw[if_neg h1]
    by_cases h2:i=n
    · subst h2;rw[if_pos jo,yCS,zDK,zFR _ _ _ (fun k hk=>zGP k hk),if_neg (fun hh=>by have:=zBp hh.1;omega),List.getElem?_set_self jo];rfl
    · rw[jn,zFR _ _ _ (fun k hk=>zGP k hk),if_neg (fun hh=>by have:=zBp hh.1;omega),List.getElem?_set_ne jo]
theorem deep_flatL (l:List Tr) (n v:Nat) (r:List Nd) (d:List Nat) (hv:1≤v) (hd:n+sizes l≤d.length) (h:∀p:Nat,(p:Int)∈zx n l→d[p]? =some v):zDh n (flatL n l++r) d=zDh (n+sizes l) r (over d n (depsL v l)):=by
 cases l with
 | nil=>
  rw[zA0,zo,zEn];have:over d n []=d:=by unfold over;simp
  rw[this];rfl
 | cons t l=>
  rw[zY]at hd⊢;have e1:=depsT_len v t;have e2:=depsL_len v l;have hn:d[n]? =some v:=h n (yBN ..);rw[zAP,yAL,deep_flatT t n v _ d hv jo (by rw[yAG,hn];simp only[yCI];omega)];have hol:(over d n (depsT v t)).length=d.length:=zSb (by rw[e1];omega);rw[deep_flatL l (n+t.size) v r _ hv (by rw[hol];omega) (fun p hp=>by
   have:=zBp hp;rw[zD3 (by rw[e1];omega),e1,jn];exact h p (yAV _ hp))]
  rw[yCO];congr 1;apply List.ext_getElem?;intro i;rw[zD3 (by rw[e2,hol];omega),zD3 (by rw[e1];omega),zD3 (by rw[depsL_len,zY];omega),e1,e2,depsL_len,zY,zC5]
  by_cases h1:n+t.size≤i∧i < n+t.size+sizes l
  · rw[if_pos h1,if_pos jo,yAX jo,e1];congr 1;omega
  · rw[if_neg h1]
    by_cases h2:n≤i∧i < n+t.size
    · rw[if_pos h2,if_pos jo,yBD jo]
    · rw[if_neg h2,jn]
end
theorem zOx (t:Tr):zKV (flatT 0 t)=depsT 1 t:=by
 have h:=deep_flatT t 0 1 [] (List.replicate t.size 0) (yAC _) js (by
  have:=zBF t;rw[yAG,List.getElem?_replicate_of_lt jo];rfl)
 rw[yAS]at h;unfold zKV;rw[flatT_len,h];unfold over;have:=depsT_len 1 t;simp only[zDh,List.take_zero,yAY,yCK,this];rw[yCA js];simp
mutual
def depT:Tr→Nat
 | .mk _ l=>1+depL l
def depL:List Tr→Nat
 | []=>0
 | t::r=>max (depT t) (depL r)
end
theorem zKW (x:Nd) (l:List Tr):depT (.mk x l)=1+depL l:=by rw[depT]
theorem zLf:depL []=0:=by rw[depL]
theorem zGQ (t:Tr) (r:List Tr):depL (t::r)=max (depT t) (depL r):=by rw[depL]
theorem zLg (a b:List Nat):zGN (a++b)=max (zGN a) (zGN b):=by
 induction a with
 | nil=>simp[zGN]
 | cons x r c=>simp only[yAP,zGN,c];omega
mutual
theorem maxL_depsT (v:Nat) (t:Tr):zGN (depsT (v+1) t)=v+depT t:=by
 cases t with
 | mk x l=>
  rw[zDK,zKW];have:=maxL_depsL (v+1) l;unfold zGN;rcases this with⟨h1,h2⟩ | h
  · subst h1;rw[zEn,zLf];unfold zGN;omega
  · rw[h];omega
theorem maxL_depsL (v:Nat) (l:List Tr):(l=[]∧zGN (depsL (v+1) l)=0)∨zGN (depsL (v+1) l)=v+depL l:=by
 cases l with
 | nil=>exact .inl ⟨rfl,by rw[zEn];rfl⟩
 | cons t r=>
  right;rw[zC5,zLg,maxL_depsT v t,zGQ];rcases maxL_depsL v r with⟨h1,h2⟩ | h
  · rw[h2];subst h1;rw[zLf];omega
  · rw[h];omega
end
theorem zGR (t:Tr):zM2 (flatT 0 t)=depT t:=by
 unfold zM2;rw[zOx];have:=maxL_depsT 0 t;rwa[yCK,yCK]at this
def zV (l:jE):jH:=l.map (·.toUInt16)
theorem zNA (s:ByteArray) (k:Nat) (h:k < s.size):zAC (zV (s.data.toList.take (k+1)))=zAC (zV (s.data.toList.take k))++[.int .u16 (s[k].toNat:Int)]:=by
 rw[yAK (by simpa using h)];simp[zV,zAC,zX6];rfl
theorem zDi (s:ByteArray) (w:World) (hs:s.size≤70368744177664):
 Calls prog 98 #[.string s] w fun e w'=>∃v,e=.returned v∧Made w w' 104 v (zAC (zV s.data.toList)):=by
 obtain⟨o,b,c,d,f⟩:=info_parts Tryz.info_u16;go_enter func98,ntmps98;go_wp2
 go_loopw [3,7] (fun v i wr=>∃k:Nat,k≤s.size∧i=.int .i64 k∧Made w wr 104 v (zAC (zV (s.data.toList.take k)))) (fun _ i _=>s.size - (intOf i).toNat)
 case atStart=>exact⟨0,yAE _,rfl,Made.nil _ _⟩
 case round=>
  obtain⟨k,hk,rfl,g⟩:=hrel
  by_cases j:k < s.size
  · have hb:=s[k].toNat_lt;have p:(zAC (zV (s.data.toList.take k))).length≤k:=by simp[zAC,zV];omega
    go_wp2_with (at_builtin;refine zCY rfl _ _ 27 rfl 104 o _ 2 underlying27 b c d f rfl _ _ rfl g _ 1 1 rfl rfl rfl jo jo ?_;intro v' w' l)
    go_roundw
    case rel=>exact⟨k+1,by omega,by go_num,by rw[zNA s k j];exact l⟩
    case measure=>simp[intOf];omega
  · go_wp2;go_ret;have m:k=s.size:=by omega
    subst m;exact⟨_,rfl,g.cells (by rw[yB js])⟩
abbrev Tks:=List jE
abbrev Kd:=Int×Tks
def inP (t:Tks):Tks:=[40]::(t++[[41]])
def zc (k:Kd):Tks:=if 30≤k.1∧k.1≤37 then k.2 else inP k.2
def zr (k:Kd):Tks:=if k.1=5∨k.1=6 then k.2.dropLast else if k.1=11 then []else inP k.2
def zGS (f:Kd→Tks):List Kd→Tks
 | []=>[]
 | k::r=>[44]::(f k++zGS f r)
def zAS (f:Kd→Tks):List Kd→Tks
 | []=>[]
 | k::r=>f k++zGS f r
def zAl (s:jE):Tks:=if s=[]then []else [s]
def zp (l:List Kd):Tks:=[40]::(zAS (·.2) l++[[41]])
def kd (ks:List Kd) (i:Nat):Kd:=ks.getD i (0,[])
def zCJ (n:Nat):UInt8:=if n < 10 then UInt8.ofNat (48+n)else UInt8.ofNat (87+n)
def zGT (x:UInt16):jE:=
 if 32≤x.toNat∧x.toNat≤126∧x.toNat≠34∧x.toNat≠92 then [x.toUInt8]
 else [92,117,zCJ (x.toNat / 4096),zCJ (x.toNat / 256 % 16),zCJ (x.toNat / 16 % 16),zCJ (x.toNat % 16)]
def zFq (u:jH):jE:=34::(u.flatMap zGT++[34])
def zEW:List Nat→Nat
 | []=>0
 | x::r=>x+4294967296*zEW r
def zBI (x:Nd) (ks:List Kd):Tks:=(if x.kind=6 then [99,111,110,115,116]else [108,101,116])::zAS (·.2) ks
def zFS (x:Nd) (ks:List Kd):Tks:=[102,117,110,99,116,105,111,110]::(zAl x.name++(zp ks.dropLast++(kd ks (ks.length - 1)).2))
def zEo (ks:List Kd):Tks:=zp ks.dropLast++([61,62]::(if(kd ks (ks.length - 1)).1=4 then(kd ks (ks.length - 1)).2 else inP (kd ks (ks.length - 1)).2))
def zEX (ks:List Kd):Tks:=zc (kd ks 0)++([40]::(zAS zc (ks.drop 1)++[[41]]))
def zt (x:Nd) (ks:List Kd):Tks:=
 if x.kind=1 then ks.flatMap (·.2)
 else if x.kind=2 then [[59]]
 else if x.kind=3 then inP (kd ks 0).2++[[59]]
 else if x.kind=4 then [123]::(ks.flatMap (·.2)++[[125]])
 else if x.kind=5∨x.kind=6 then zBI x ks++[[59]]
 else if x.kind=7 then x.name::(if ks=[]then []else [61]::inP (kd ks 0).2)
 else if x.kind=12∨x.kind=13 then(if x.kind=13 then [99,111,110,116,105,110,117,101]else [98,114,101,97,107])::(zAl x.name++[[59]])
 else if x.kind=14 then [114,101,116,117,114,110]::((if ks=[]then []else inP (kd ks 0).2)++[[59]])
 else if x.kind=15 then [116,104,114,111,119]::(inP (kd ks 0).2++[[59]])
 else if x.kind=18 then x.name::[58]::(kd ks 0).2
 else if x.kind=20 then [x.name]
 else if x.kind=8 then [105,102]::(inP (kd ks 0).2++((kd ks 1).2++(if 2 < ks.length then [101,108,115,101]::(kd ks 2).2 else [])))
 else if x.kind=9 then [119,104,105,108,101]::(inP (kd ks 0).2++(kd ks 1).2)
 else if x.kind=10 then [102,111,114]::[40]::(zr (kd ks 0)++([59]::(zr (kd ks 1)++([59]::(zr (kd ks 2)++([41]::(kd ks 3).2))))))
 else if x.kind=16 then [116,114,121]::((kd ks 0).2++((kd ks 1).2++(if(kd ks 2).1=4 then [102,105,110,97,108,108,121]::(kd ks 2).2 else [])))
 else if x.kind=17 then [99,97,116,99,104]::((if x.name=[]then []else [[40],x.name,[41]])++(kd ks 0).2)
 else if x.kind=19 then zFS x ks
 else []
def zq (x:Nd) (ks:List Kd):Tks:=
 if x.kind=30 then [zBQ x.nn.toNat]
 else if x.kind=31 then [zBQ (zEW x.mag)++[110]]
 else if x.kind=32 then [zFq x.str]
 else if x.kind=33 then [x.name]
 else if x.kind=34 then [[116,114,117,101]]
 else if x.kind=35 then [[102,97,108,115,101]]
 else if x.kind=36 then [[110,117,108,108]]
 else if x.kind=37 then [[116,104,105,115]]
 else if x.kind=38 then [91]::(zAS zc ks++[[93]])
 else if x.kind=39 then [123]::(zAS (·.2) ks++[[125]])
 else if x.kind=40 then zFq x.str::[58]::zc (kd ks 0)
 else if x.kind=41 then zFS x ks
 else if x.kind=42 then zEo ks
 else if x.kind=43 then x.name::zc (kd ks 0)
 else if x.kind=44 then x.name::(kd ks 0).2
 else if x.kind=45 then(kd ks 0).2++[x.name]
 else if x.kind=46∨x.kind=47 then zc (kd ks 0)++(x.name::zc (kd ks 1))
 else if x.kind=48 then zc (kd ks 0)++([63]::(zc (kd ks 1)++([58]::zc (kd ks 2))))
 else if x.kind=49 then(kd ks 0).2++(x.name::zc (kd ks 1))
 else if x.kind=50 then zEX ks
 else if x.kind=51 then [110,101,119]::zEX ks
 else if x.kind=52 then zc (kd ks 0)++([46]::[x.name])
 else if x.kind=53 then zc (kd ks 0)++([91]::(zc (kd ks 1)++[[93]]))
 else []
def zAh (x:Nd) (ks:List Kd):Tks:=if x.kind < 30 then zt x ks else zq x ks
mutual
def prT:Tr→Tks
 | .mk x l=>zAh x (prs l)
def prs:List Tr→List Kd
 | []=>[]
 | t::r=>(t.nd.kind,prT t)::prs r
end
theorem zAO (x:Nd) (l:List Tr):prT (.mk x l)=zAh x (prs l):=by rw[prT]
theorem zU:prs []=[]:=by rw[prs]
theorem zI (t:Tr) (r:List Tr):prs (t::r)=(t.nd.kind,prT t)::prs r:=by rw[prs]
theorem zCK (l:List Tr):prs l=l.map fun t=>(t.nd.kind,prT t):=by
 induction l with
 | nil=>rw[zU];rfl
 | cons t r b=>rw[zI,b];rfl
theorem zV9 (l:List Tr):(prs l).length=l.length:=by rw[zCK,List.length_map]
def zOy (u:jH) (s:jE):jH:=(if u=[]then []else u++[32])++zV s
def zC1 (u:jH) (t:Tks):jH:=t.foldl zOy u
def zDj (t:Tr):jH:=zC1 [] (prT t)
theorem zSc (u:jH):zC1 u []=u:=rfl
theorem zGU (u:jH) (s:jE) (t:Tks):zC1 u (s::t)=zC1 (zOy u s) t:=rfl
theorem zAZ (u:jH) (a b:Tks):zC1 u (a++b)=zC1 (zC1 u a) b:=List.foldl_append ..
def zBZ:Tks→Nat
 | []=>0
 | s::r=>s.length+1+zBZ r
theorem zBq (a b:Tks):zBZ (a++b)=zBZ a+zBZ b:=by
 induction a with
 | nil=>simp[zBZ]
 | cons s r c=>simp only[yAP,zBZ,c];omega
theorem zSd (u:jH) (s:jE):(zOy u s).length≤u.length+(s.length+1):=by
 unfold zOy;rw[yAN];have:(zV s).length=s.length:=by simp[zV]
 split<;>simp[this]<;>omega
theorem zLh (t:Tks):∀u,(zC1 u t).length≤u.length+zBZ t:=by
 induction t with
 | nil=>intro u;exact yAC _
 | cons s r b=>
  intro u;rw[zGU];have h1:=b (zOy u s);have c:=zSd u s;unfold zBZ;omega
def zEO:List Kd→Nat
 | []=>0
 | k::r=>zBZ k.2+10+zEO r
theorem zSe (a b:List Kd):zEO (a++b)=zEO a+zEO b:=by
 induction a with
 | nil=>simp[zEO]
 | cons k r c=>simp only[yAP,zEO,c];omega
theorem zF4 (t:Tks):zBZ (inP t)=zBZ t+4:=by
 unfold inP;simp only[zBZ,zBq,yAO,yBA];omega
theorem zCZ (k:Kd):zBZ (zc k)≤zBZ k.2+4:=by
 unfold zc;split
 · omega
 · rw[zF4];omega
theorem zII:∀(t:Tks),zBZ t.dropLast≤zBZ t:=by
 intro t
 induction t with
 | nil=>exact yAC _
 | cons s r b=>
  cases r with
  | nil=>simp[zBZ]
  | cons c r2=>
   rw[List.dropLast_cons_of_ne_nil js];show s.length+1+zBZ _≤s.length+1+zBZ _;omega
theorem zDk (k:Kd):zBZ (zr k)≤zBZ k.2+4:=by
 unfold zr;split
 · have:=zII k.2;omega
 · split
   · simp[zBZ]
   · rw[zF4];omega
theorem zOz (f:Kd→Tks) (h:∀k,zBZ (f k)≤zBZ k.2+4):∀ks,zBZ (zGS f ks)≤zEO ks:=by
 intro ks
 induction ks with
 | nil=>exact yAC _
 | cons k r b=>
  have:=h k;simp only[zGS,zBZ,zBq,zEO,yAO,yBA];omega
theorem zGV (f:Kd→Tks) (h:∀k,zBZ (f k)≤zBZ k.2+4) (ks:List Kd):zBZ (zAS f ks)≤zEO ks:=by
 cases ks with
 | nil=>exact yAC _
 | cons k r=>
  have h1:=h k;have b:=zOz f h r;simp only[zAS,zBq,zEO];omega
theorem zGW (ks:List Kd):zBZ (zAS (·.2) ks)≤zEO ks:=zGV _ (fun k=>by show zBZ k.2≤_;omega) ks
theorem zO0 (ks:List Kd):zBZ (ks.flatMap (·.2))≤zEO ks:=by
 induction ks with
 | nil=>exact yAC _
 | cons k r b=>
  simp only[List.flatMap_cons,zBq,zEO];omega
theorem zO1 (i:Nat):kd [] i=(0,[]):=by simp[kd]
theorem zWA (k:Kd) (r:List Kd) (i:Nat):kd (k::r) (i+1)=kd r i:=by simp[kd]
theorem zO2 (k:Kd) (r:List Kd):kd (k::r) 0=k:=by simp[kd]
theorem zaZ (ks:List Kd):zBZ (kd ks 0).2+zBZ (kd ks 1).2+zBZ (kd ks 2).2+zBZ (kd ks 3).2≤zEO ks:=by
 rcases ks with _ | ⟨a,_ | ⟨b,_ | ⟨c,_ | ⟨d,r⟩⟩⟩⟩<;>simp only[zO1,zWA,zO2,zEO,zBZ]<;>omega
theorem zWB (ks:List Kd):zBZ (kd ks 0).2+zEO (ks.drop 1)≤zEO ks:=by
 rcases ks with _ | ⟨a,r⟩
 · simp[zO1,zEO,zBZ]
 · simp only[zO2,zEO,List.drop_succ_cons,List.drop_zero];omega
theorem zO3 (ks:List Kd):zEO ks.dropLast+zBZ (kd ks (ks.length - 1)).2≤zEO ks:=by
 rcases List.eq_nil_or_concat ks with rfl | ⟨a,k,rfl⟩
 · simp[zO1,zEO,zBZ]
 · rw[List.concat_eq_append,List.dropLast_concat,zSe];have:kd (a++[k]) ((a++[k]).length - 1)=k:=by
    unfold kd;rw[yAN,yBW,Nat.add_sub_cancel,yAG,yAX (yAC _),yCS];rfl
   rw[this];simp only[zEO];omega
theorem zLi (x:UInt16):(zGT x).length≤6:=by
 unfold zGT;split<;>simp
theorem zSf (u:jH):(zFq u).length≤6*u.length+2:=by
 unfold zFq;have:(u.flatMap zGT).length≤6*u.length:=by
  induction u with
  | nil=>simp
  | cons x r b=>
   have:=zLi x;simp only[List.flatMap_cons,yAN,yAO];omega
 simp only[yAO,yAN,yBA];omega
theorem zLj:∀(k n:Nat),n < 10^(k+1)→(zBQ n).length≤k+1:=by
 intro k
 induction k with
 | zero=>intro n h;rw[zBQ];rw[if_pos jo];simp
 | succ k b=>
  intro n h;rw[zBQ];split
  · simp
  · have c:n / 10 < 10^(k+1):=by rw[Nat.div_lt_iff_lt_mul jo];rwa [yCP]at h
    have:=b (n / 10) c;rw[yAN,yBW];omega
theorem zWC:∀(m:List Nat),(∀x∈m,x < 4294967296)→zEW m < 4294967296^m.length:=by
 intro m
 induction m with
 | nil=>intro _;simp[zEW]
 | cons x r b=>
  intro h;have h1:=b fun y c=>h y (yAV _ c);have d:=h x (yBN ..);simp only[zEW,yAO,yCP];omega
structure Short (x:Nd):Prop where
 name:x.name.length≤4096
 str:x.str.length≤4096
 mag:x.mag.length≤8
 limb:∀y∈x.mag,y < 4294967296
 nn:x.nn≤9007199254740991
theorem Short.dec {x:Nd} (h:Short x):(zBQ x.nn.toNat).length≤16:=zLj 15 _ (by have:=h.nn;omega)
theorem Short.big {x:Nd} (h:Short x):(zBQ (zEW x.mag)).length≤78:=by
 refine zLj 77 _ (yAA (zWC x.mag h.limb) (yAD (Nat.pow_le_pow_right jo h.mag) (by decide+kernel)))
theorem zGX (ks:List Kd):zBZ (zp ks)≤zEO ks+4:=by
 unfold zp;have:=zGW ks;simp only[zBZ,zBq,yAO,yBA];omega
theorem zHg (s:jE):zBZ (zAl s)≤s.length+1:=by
 unfold zAl;split<;>simp[zBZ]
theorem zI5 (x:Nd) (ks:List Kd):zBZ (zFS x ks)≤x.name.length+20+zEO ks:=by
 unfold zFS;have h1:=zHg x.name;have b:=zGX ks.dropLast;have c:=zO3 ks;simp only[zBZ,zBq,yAO,yBA];omega
theorem zO4 (ks:List Kd):zBZ (zEX ks)≤20+zEO ks:=by
 unfold zEX;have h1:=zWB ks;have b:=zCZ (kd ks 0);have c:=zGV zc zCZ (ks.drop 1);simp only[zBZ,zBq,yAO,yBA];omega
theorem zLk {p:Prop} [Decidable p] (a b:Tks):zBZ (if p then a else b)=if p then zBZ a else zBZ b:=by split<;>rfl
theorem zVn {p:Prop} [Decidable p] {a b:Tks} {n:Nat} (h1:zBZ a≤n) (c:zBZ b≤n):zBZ (if p then a else b)≤n:=by
 split
 · exact h1
 · exact c
theorem zO5 {x:Nd} (h:Short x) (ks:List Kd):zBZ (zt x ks)≤30000+zEO ks:=by
 have d:=h.name;have e:=zaZ ks;have f:=zO0 ks;have g:=zGW ks;have b:=zI5 x ks;have c:=zHg x.name;have c0:=zDk (kd ks 0);have c1:=zDk (kd ks 1);have c2:=zDk (kd ks 2);unfold zt zBI
 repeat' refine zVn ?_ ?_
 all_goals try simp only[zBq,zF4,zLk,yAO,yBA,zBZ]
 all_goals repeat' split
 all_goals first | omega | (simp only[yAO,yBA];omega)
theorem zO6 {x:Nd} (h:Short x) (ks:List Kd):zBZ (zq x ks)≤30000+zEO ks:=by
 have e:=h.name;have hs:=h.str;have f:=zSf x.str;have g:=h.dec;have hb:=h.big;have j:=zaZ ks;have k:=zGW ks;have b:=zGV zc zCZ ks;have c:=zI5 x ks;have d:=zO4 ks;have l:=zGX ks.dropLast;have m:=zO3 ks;have p0:=zCZ (kd ks 0);have p1:=zCZ (kd ks 1);have p2:=zCZ (kd ks 2);unfold zq zEo
 repeat' refine zVn ?_ ?_
 all_goals try simp only[zBq,zF4,zLk,yAN,yAO,yBA,zBZ]
 all_goals repeat' split
 all_goals first | omega | (simp only[yAO,yBA];omega)
theorem zO7 {x:Nd} (h:Short x) (ks:List Kd):zBZ (zAh x ks)≤30000+zEO ks:=by
 unfold zAh;split
 · exact zO5 h ks
 · exact zO6 h ks
mutual
def ShortT:Tr→Prop
 | .mk x l=>Short x∧ShortL l
def ShortL:List Tr→Prop
 | []=>True
 | t::r=>ShortT t∧ShortL r
end
theorem zCB (x:Nd) (l:List Tr):ShortT (.mk x l)=(Short x∧ShortL l):=by rw[ShortT]
theorem zEY (t:Tr) (r:List Tr):ShortL (t::r)=(ShortT t∧ShortL r):=by rw[ShortL]
mutual
theorem prT_len (t:Tr) (h:ShortT t):zBZ (prT t)+10≤30010*t.size:=by
 cases t with
 | mk x l=>
  rw[zCB]at h;have h1:=zO7 h.1 (prs l);have h2:=prs_sum l h.2;rw[zAO,zAk];omega
theorem prs_sum (l:List Tr) (h:ShortL l):zEO (prs l)≤30010*sizes l:=by
 cases l with
 | nil=>rw[zU,zo];simp[zEO]
 | cons t r=>
  rw[zEY]at h;have h1:=prT_len t h.1;have h2:=prs_sum r h.2;rw[zI,zY];simp only[zEO];omega
end
end Go.Proofs.YtjlfhidpmdgloaaGreatDoor
