/- Joined for the claim ParseEnds: the parser, the lexer and the trees as they are walked, made short by a program of mine. -/
import Derived.Test.YtlohaclgbfhijaaGreatDoorProg
import Derived.WalkKit
import Derived.WalkSpells
import Derived.WalkLawsBesides
import Derived.Deep.AppendLies
import Derived.Deep.Draws
import Derived.Deep.QuietTactic
import Derived.BigQuiet
import Derived.Maps.AppendAt
import Derived.RegionTactic
import Derived.Lib.Hide
import Derived.Handy
import Derived.Lib.DecodeN
import Derived.Test.YtlohaclgbfhijaaGreatDoorShelf
import Derived.Lib.AppendIntMem
import Derived.Deep.CutBlock
import Derived.Deep.DeepCutAuto
import Derived.Test.YtlohaclgbfhijaaGreatDoorCards
import Derived.Test.YtlohaclgbfhijaaGreatDoorTie
import Derived.ProofKit
import Derived.OpenShut
import Derived.Deep.DeepHandedRow
import Derived.Lib.LaidTab
import Derived.Deep.Slices
set_option maxHeartbeats 16000000
set_option maxRecDepth 1000000
namespace Go.Proofs.YtlohaclgbfhijaaGreatDoor
open Go.RowKit
theorem zD {p:Prop} (h:p):Hid p:=h
theorem zf {a b:Bool} (h:a=b):Ending.returned (.bool a)=.returned (.bool b):=by rw[h]
theorem zED {k:IntKind} {a b:Int} (h:a=b):Ending.returned (.int k a)=.returned (.int k b):=by rw[h]
theorem zBn {B:Nat} {a w:World} (h:Below B a w) (n:Nat):Below B a (w.drewN n):=⟨h.os,h.tape,h.output,h.size,h.block⟩
theorem zCY (a:Addr) (n:Nat):(a.add n).block=a.block:=by unfold Addr.add;split<;>rfl
theorem zIL (a:Addr) (i j:Nat):(a.add i).add j=a.add (i+j):=by
 unfold Addr.add
 by_cases hi:i=0<;>by_cases hj:j=0<;>simp[hi,hj,Nat.add_assoc]
def Reads (w:World) (B size:Nat) (A:Option Addr) (n:Nat) (xs:List Value):Prop:=
 xs.length=n*size∧(0 < n→∃ad,A=some ad∧ad.block < B∧∀j u,xs[j]? =some u→w.cell? (ad.add j)=some u)
section
variable {w w':World} {B B' size n:Nat} {A:Option Addr} {xs:List Value}
theorem Reads.none_:Reads w B size A 0 []:=⟨by simp,fun h=>absurd h (by omega)⟩
theorem Reads.at_ {k:Nat} (h:Reads w B 1 A n xs) (hk:k < n):∃ad u,A=some ad∧ad.block < B∧xs[k]? =some u∧w.cell? (ad.add k)=some u:=by
 obtain⟨ad,e,hb,hc⟩:=h.2 (by omega)
 have hl:k < xs.length:=by have:=h.1;omega
 exact⟨ad,xs[k],e,hb,List.getElem?_eq_getElem hl,hc k _ (List.getElem?_eq_getElem hl)⟩
theorem Reads.keep (h:Reads w B size A n xs) (hk:∀p:Addr,p.block < B→w'.cell? p=w.cell? p):Reads w' B size A n xs:=
 ⟨h.1,fun hn=>by
  obtain⟨ad,e,hb,hc⟩:=h.2 hn
  exact⟨ad,e,hb,fun j u hu=>(hk _ (by rw[zCY];exact hb)).trans (hc j u hu)⟩⟩
theorem Reads.more (h:Reads w B size A n xs) (hB:B≤B'):Reads w B' size A n xs:=
 ⟨h.1,fun hn=>by
  obtain⟨ad,e,hb,hc⟩:=h.2 hn
  exact⟨ad,e,by omega,hc⟩⟩
theorem Reads.below (h:Reads w B size A n xs) (hb:Below B w w'):Reads w' B size A n xs:=h.keep fun _ hp=>hb.cell hp
theorem Reads.drew (h:Reads w B size A n xs):Reads w.drew B size A n xs:=h
theorem Reads.drewN (h:Reads w B size A n xs) (k:Nat):Reads (w.drewN k) B size A n xs:=h
theorem Reads.alloc (h:Reads w B size A n xs) (hB:B≤w.heap.size) (o:Obj):Reads (w.alloc o) B size A n xs:=h.keep fun p hp=>World.cell?_alloc_lt w o p (by omega)
theorem Reads.cut (h:Reads w B size A n xs) {k cap:Nat} (hk:k≤n) (hc:n≤cap):
 Reads w B size (if cap=k then A else A.map (·.add (k*size))) (n - k) (xs.drop (k*size)):=by
 refine⟨by rw[List.length_drop,h.1,Nat.sub_mul],fun hn=>?_⟩
 obtain⟨ad,rfl,hb,hcell⟩:=h.2 (by omega)
 rw[if_neg (by omega)]
 refine⟨ad.add (k*size),rfl,by rw[zCY];exact hb,fun j u hu=>?_⟩
 rw[zIL]
 exact hcell _ u (by rw[←hu,List.getElem?_drop])
theorem Reads.take (h:Reads w B size A n xs) {k:Nat} (hk:k≤n):Reads w B size A k (xs.take (k*size)):=by
 refine⟨by rw[List.length_take,h.1];exact Nat.min_eq_left (Nat.mul_le_mul_right _ hk),fun hn=>?_⟩
 obtain⟨ad,rfl,hb,hcell⟩:=h.2 (by omega)
 refine⟨ad,rfl,hb,fun j u hu=>hcell j u ?_⟩
 rw[List.getElem?_take]at hu
 split at hu
 · exact hu
 · cases hu
theorem Reads.of_own {base:Nat} {e:TypeId} {c:Nat} (h:w.ownsRow base e size (.slice A n c) n xs):Reads w w.heap.size size A n xs:=by
 refine⟨h.1,fun hn=>?_⟩
 obtain⟨g,cap,hv,_,hlt⟩:=h.form hn
 have hA:A=some ⟨g,0,none⟩:=by injection hv
 subst hA
 exact⟨_,rfl,hlt,h.cells (g:=g) rfl⟩
end
theorem zb {w:World} {base:Nat} {e:TypeId} {size n:Nat} {v:Value} {xs:List Value} (h:w.ownsRow base e size v n xs):
 ∃A c,v=.slice A n c∧n≤c∧c≤maxLen:=by
 rcases h.2 with⟨rfl,rfl⟩ | ⟨g,cap,cur,rfl,_,_,hnc,hm,_⟩
 · exact⟨none,0,rfl,Nat.le_refl _,by unfold maxLen;omega⟩
 · exact⟨_,cap,rfl,hnc,hm⟩
def u8v (x:UInt8):Value:=.int .u8 (x.toNat:Int)
def zRj (x:UInt16):Value:=.int .u16 (x.toNat:Int)
def u8s (l:List UInt8):List Value:=l.map u8v
def zAH (l:List UInt16):List Value:=l.map zRj
theorem zHh (l:List UInt16):∀u∈zAH l,u.oneCell'=true:=by
 intro u hu
 obtain⟨_,_,rfl⟩:=List.mem_map.1 hu
 rfl
theorem zBj (l:List UInt16):(zAH l).length=l.length:=by simp[zAH]
theorem zK0 (l:List UInt8):(u8s l).length=l.length:=by simp[u8s]
structure Made (w0 w:World) (e:TypeId) (v:Value) (xs:List Value):Prop where
 own:w.ownsRow w0.heap.size e 1 v xs.length xs
 below:Below w0.heap.size w0 w
theorem Made.nil (w0:World) (e:TypeId):Made w0 w0 e (.slice none 0 0) []:=⟨World.ownsRow_nil _ _ _ _,Below.refl _ _⟩
theorem Made.shape {w0 w:World} {e:TypeId} {v:Value} {xs:List Value} (h:Made w0 w e v xs):
 ∃A c,v=.slice A xs.length c∧xs.length≤c∧c≤maxLen∧Reads w w.heap.size 1 A xs.length xs:=by
 obtain⟨A,c,hv,h1,h2⟩:=zb h.own
 have h':=h.own
 rw[hv]at h'
 exact⟨A,c,hv,h1,h2,Reads.of_own h'⟩
theorem Made.alloc {w0 w:World} {e:TypeId} {v:Value} {xs:List Value} (h:Made w0 w e v xs) (o:Obj):Made w0 (w.alloc o) e v xs:=
 ⟨h.own.alloc o,h.below.alloc h.below.size o⟩
theorem Made.drew {w0 w:World} {e:TypeId} {v:Value} {xs:List Value} (h:Made w0 w e v xs):Made w0 w.drew e v xs:=⟨h.own.drew,h.below.drew⟩
theorem Made.cells {w0 w:World} {e:TypeId} {v:Value} {xs ys:List Value} (h:Made w0 w e v xs) (e1:xs=ys):Made w0 w e v ys:=e1▸h
section
variable {P:Program} {w0 w:World} {ops:Array Oper} {rest:List Oper} {o:Oper} {a:Act} {Q:Exit→Act→World→Prop}
theorem zIM (hgd:o.guard=none) (s x:Operand) (t:TypeId)
 (ho:o.op=.call {callee:=.builtin .append,args:=#[s,x],argTypes:=#[t,t]})
 (e:TypeId) (i:TypeInfo) (z:Value) (bytes:Nat) (ht:P.underlying t=some (.slice e)) (hi:P.info? e=some i) (hz:i.zero=some z)
 (hsize:i.size=1) (hby:i.bytes=bytes) (hzs:z.cells.size=1)
 (v:Value) (xs:List Value) (hs:a.eval s=v) (hm:Made w0 w e v xs)
 (ad:Addr) (m c:Nat) (news:List Value) (hx:a.eval x=.slice (some ad) m c) (hl:news.length=m) (hnews:∀j u,news[j]? =some u→w.cell? (ad.add j)=some u) (h1:∀u∈news,u.oneCell'=true)
 (hsz:xs.length+m≤70368744177664) (hb2:bytes≤2)
 (h:∀v' w',Made w0 w' e v' (xs++news)→w.grownBy w' v.ownBlock→wpList P ops Q rest (a.put o.dst v') w'):wpList P ops Q (o::rest) a w:=by
 subst hl
 refine wpList_append_own w hgd s x t ho w0.heap.size e i z 1 bytes ht hi hz hsize hby hzs (by omega) v xs.length xs hs hm.own ad _ c news hx (by omega) hnews h1 (by unfold maxLen;omega) ?_ hm.below.size ?_
 · calc (xs.length+news.length)*bytes≤70368744177664*2:=Nat.mul_le_mul hsz hb2
    _≤140737488355328:=by omega
 · intro v' w' h1 h2 _
   refine h v' w' ⟨by rw[List.length_append];exact h1,hm.below.grown h2 hm.below.size (fun k hk=>(hm.own.lt k hk).1)⟩ h2
theorem zDh (hgd:o.guard=none) (s x:Operand) (t:TypeId)
 (ho:o.op=.call {callee:=.builtin .append,args:=#[s,x],argTypes:=#[t,t]})
 (e:TypeId) (i:TypeInfo) (z:Value) (bytes:Nat) (ht:P.underlying t=some (.slice e)) (hi:P.info? e=some i) (hz:i.zero=some z)
 (hsize:i.size=1) (hby:i.bytes=bytes) (hzs:z.cells.size=1)
 (v:Value) (xs:List Value) (hs:a.eval s=v) (hm:Made w0 w e v xs)
 (cs:List Value) (m c:Nat) (hx:a.eval x=.slice (some ⟨w.heap.size,0,none⟩) m c) (hl:cs.length=m) (h1:(cs.all fun u=>u.oneCell')=true)
 (hsz:xs.length+m≤70368744177664) (hb2:bytes≤2)
 (h:∀v' w',Made w0 w' e v' (xs++cs)→wpList P ops Q rest (a.put o.dst v') w'):wpList P ops Q (o::rest) a (w.alloc (.cells cs.toArray e)):=by
 refine zIM hgd s x t ho e i z bytes ht hi hz hsize hby hzs v xs hs (hm.alloc _) ⟨w.heap.size,0,none⟩ m c cs hx hl ?_ (fun u hu=>List.all_eq_true.1 h1 u hu) hsz hb2 (fun v' w' h' _=>h v' w' h')
 intro j u hu
 rw[Addr.add_lit,World.cell?_alloc_at _ _ _ _ rfl]
 simpa using hu
end
theorem Tryz.info_u16:(Tryz.prog.info? 24).map (fun i=>(i.zero,i.size,i.bytes))=some (some (.int .u16 0),1,2):=by kernel_rfl
theorem Tryz.info_u8:(Tryz.prog.info? 5).map (fun i=>(i.zero,i.size,i.bytes))=some (some (.int .u8 0),1,1):=by kernel_rfl
theorem Made.call {w0 w w':World} {e:TypeId} {v:Value} {xs:List Value} (h:Made w0 w e v xs) (hb:Below w.heap.size w w'):Made w0 w' e v xs:=
 ⟨h.own.kept (row:=none) ⟨hb.os,hb.tape,hb.output,hb.size,fun k hk _=>hb.block k hk⟩ (by cases hv:v.ownBlock<;>simp),h.below.trans (hb.mono h.below.size)⟩
theorem Made.u16 {w0 w:World} {e:TypeId} {v:Value} {xs:List UInt16} (h:Made w0 w e v (zAH xs)):
 ∃A c,v=.slice A xs.length c∧xs.length≤c∧c≤maxLen∧Reads w w.heap.size 1 A xs.length (zAH xs):=by
 obtain⟨A,c,hv,h1,h2,h3⟩:=h.shape
 have e:(zAH xs).length=xs.length:=by simp[zAH]
 rw[e]at hv h1 h3
 exact⟨A,c,hv,h1,h2,h3⟩
theorem Made.u8 {w0 w:World} {e:TypeId} {v:Value} {xs:List UInt8} (h:Made w0 w e v (u8s xs)):
 ∃A c,v=.slice A xs.length c∧xs.length≤c∧c≤maxLen∧Reads w w.heap.size 1 A xs.length (u8s xs):=by
 obtain⟨A,c,hv,h1,h2,h3⟩:=h.shape
 have e:(u8s xs).length=xs.length:=by simp[u8s]
 rw[e]at hv h1 h3
 exact⟨A,c,hv,h1,h2,h3⟩
theorem Reads.u16 {w:World} {B n:Nat} {A:Option Addr} {xs:List UInt16} (h:Reads w B 1 A n (zAH xs)) {k:Nat} (hk:k < xs.length):
 ∃ad,A=some ad∧ad.block < B∧w.cell? (ad.add k)=some (.int .u16 (xs[k].toNat:Int)):=by
 have hl:xs.length=n:=by have:=h.1;simpa [zAH]using this
 obtain⟨ad,u,e,hb,hx,hc⟩:=h.at_ (k:=k) (by omega)
 refine⟨ad,e,hb,?_⟩
 rw[hc]
 simp[zAH,hk]at hx
 rw[←hx];rfl
theorem Reads.u8 {w:World} {B n:Nat} {A:Option Addr} {xs:List UInt8} (h:Reads w B 1 A n (u8s xs)) {k:Nat} (hk:k < xs.length):
 ∃ad,A=some ad∧ad.block < B∧w.cell? (ad.add k)=some (.int .u8 (xs[k].toNat:Int)):=by
 have hl:xs.length=n:=by have:=h.1;simpa [u8s]using this
 obtain⟨ad,u,e,hb,hx,hc⟩:=h.at_ (k:=k) (by omega)
 refine⟨ad,e,hb,?_⟩
 rw[hc]
 simp[u8s,hk]at hx
 rw[←hx];rfl
theorem Addr.add_zero (a:Addr):a.add 0=a:=by simp[Addr.add]
theorem Reads.u16_0 {w:World} {B n:Nat} {A:Option Addr} {xs:List UInt16} (h:Reads w B 1 A n (zAH xs)) (hk:0 < xs.length):
 ∃ad,A=some ad∧ad.block < B∧w.cell? ad=some (.int .u16 (xs[0].toNat:Int)):=by
 obtain⟨ad,h1,h2,h3⟩:=h.u16 hk
 rw[Addr.add_zero]at h3
 exact⟨ad,h1,h2,h3⟩
theorem Reads.cut16 {w:World} {B c:Nat} {A:Option Addr} {xs:List UInt16} (h:Reads w B 1 A xs.length (zAH xs)) {k:Nat} (hk:k≤xs.length) (hc:xs.length≤c):
 Reads w B 1 (if c=k then A else A.map (·.add k)) (xs.drop k).length (zAH (xs.drop k)):=by
 have h1:=h.cut (k:=k) (cap:=c) hk hc
 simp only[Nat.mul_one]at h1
 rw[List.length_drop]
 simpa [zAH,List.map_drop]using h1
theorem Reads.take16 {w:World} {B n:Nat} {A:Option Addr} {xs:List UInt16} (h:Reads w B 1 A n (zAH xs)) {k:Nat} (hk:k≤xs.length):
 Reads w B 1 A (xs.take k).length (zAH (xs.take k)):=by
 have hl:xs.length=n:=by have:=h.1;simpa [zAH]using this
 have h1:=h.take (k:=k) (by omega)
 rw[List.length_take,Nat.min_eq_left hk]
 simpa [zAH,List.map_take]using h1
theorem zQK {k:IntKind} {n m:Int} {a b:Bool} (h:n=m) (h2:a=b):Ending.returned (.tuple #[.int k n,.bool a])=.returned (.tuple #[.int k m,.bool b]):=by rw[h,h2]
theorem zF {a b c:World} {row:Option Nat} (h:a.grownBy b row) (k:b.grownBy c row):a.grownBy c row:=
 ⟨k.os.trans h.os,k.tape.trans h.tape,k.output.trans h.output,Nat.le_trans h.size k.size,fun i hi hne=>(k.block i (Nat.lt_of_lt_of_le hi h.size) hne).trans (h.block i hi hne)⟩
theorem zz {a b:World} (row:Option Nat) (h:Below a.heap.size a b):a.grownBy b row:=⟨h.os,h.tape,h.output,h.size,fun i hi _=>h.block i hi⟩
theorem zAc (a:World) (row:Option Nat):a.grownBy a.drew row:=⟨rfl,rfl,rfl,Nat.le_refl _,fun _ _ _=>rfl⟩
theorem zAB (a:World) (row:Option Nat) (n:Nat):a.grownBy (a.drewN n) row:=⟨rfl,rfl,rfl,Nat.le_refl _,fun _ _ _=>rfl⟩
theorem zR (a:World) (g j:Nat) (v:Value):a.grownBy (a.setCell ⟨g,j,none⟩ v) (some g):=
 ⟨rfl,rfl,rfl,by simp[World.setCell],fun i _ hne=>Below.heap_setCell _ _ _ _ (fun e=>hne (by rw[e]))⟩
theorem zL (a:World) (o:Obj) (row:Option Nat):a.grownBy (a.alloc o) row:=World.grownBy_alloc a o row
theorem zAf {B:Nat} {a b:World} {g:Nat} (h:a.grownBy b (some g)) (hB:B≤g) (hg:g≤a.heap.size):Below B a b:=
 ⟨h.os,h.tape,h.output,h.size,fun i hi=>h.block i (by omega) (by intro e;injection e with e;omega)⟩
theorem zBP {a b:World} {g:Nat} (h:a.grownBy b (some g)) {p:Addr} {v:Value} (hc:a.cell? p=some v) (hp:p.block≠g):b.cell? p=some v:=
 h.cell hc (by intro e;injection e with e;exact hp e)
theorem zCZ {a b:World} {g:Nat} (h:a.grownBy b (some g)) {p:Addr} (hl:p.block < a.heap.size) (hp:p.block≠g):b.frozen? p=a.frozen? p:=
 World.frozen?_of_block (w:=a) (h.block p.block hl (by intro e;injection e with e;exact hp e))
theorem Reads.grown {w w':World} {B size n g:Nat} {A:Option Addr} {xs:List Value} (h:Reads w B size A n xs) (hg:w.grownBy w' (some g)) (hB:B≤g) (hl:g≤w.heap.size):Reads w' B size A n xs:=
 h.below (zAf hg hB hl)
theorem zBX {w w':World} {base g:Nat} {e:TypeId} {size n:Nat} {v:Value} {xs:List Value} (h:w.ownsRow base e size v n xs) (hg:w.grownBy w' (some g)) (hb:g < base):w'.ownsRow base e size v n xs:=
 h.kept hg (by
  cases hv:v.ownBlock with
  | none=>exact .inl rfl
  | some k=>
   right
   intro e
   injection e with e
   have:=(h.lt k hv).1
   omega)
theorem zDM {w w':World} {base:Nat} {e:TypeId} {size n:Nat} {v:Value} {xs:List Value} (h:w.ownsRow base e size v n xs) (hb:Below w.heap.size w w'):w'.ownsRow base e size v n xs:=
 h.kept (row:=none) ⟨hb.os,hb.tape,hb.output,hb.size,fun k hk _=>hb.block k hk⟩ (by cases hv:v.ownBlock<;>simp)
theorem zAM {w:World} {base base':Nat} {e:TypeId} {size n:Nat} {v:Value} {xs:List Value} (h:w.ownsRow base e size v n xs) (hb:base'≤base):w.ownsRow base' e size v n xs:=by
 refine⟨h.1,?_⟩
 rcases h.2 with h2 | ⟨g,cap,cur,h1,h3,h4,h5⟩
 · exact Or.inl h2
 · exact Or.inr ⟨g,cap,cur,h1,Nat.le_trans hb h3,h4,h5⟩
structure Rd (w:World) (g:Nat) (A:Option Addr) (n c k:Nat):Prop where
 c0:w.cell? ⟨g,0,none⟩=some (.slice A n c)
 c1:w.cell? ⟨g,1,none⟩=some (.int .i64 (k:Int))
 f1:w.frozen? ⟨g,1,none⟩=false
section
variable {w w':World} {g n c k:Nat} {A:Option Addr}
theorem Rd.lt (h:Rd w g A n c k):g < w.heap.size:=World.block_lt_of_cell? w _ h.c0
theorem Rd.below {D:Nat} (h:Rd w g A n c k) (hb:Below D w w') (hg:g < D):Rd w' g A n c k:=
 ⟨(hb.cell (p:=⟨g,0,none⟩) hg).trans h.c0,(hb.cell (p:=⟨g,1,none⟩) hg).trans h.c1,(hb.frozen (p:=⟨g,1,none⟩) hg).trans h.f1⟩
theorem Rd.drew (h:Rd w g A n c k):Rd w.drew g A n c k:=⟨h.c0,h.c1,h.f1⟩
theorem Rd.drewN (h:Rd w g A n c k) (m:Nat):Rd (w.drewN m) g A n c k:=⟨h.c0,h.c1,h.f1⟩
theorem Rd.alloc (h:Rd w g A n c k) (o:Obj):Rd (w.alloc o) g A n c k:=h.below ((Below.refl _ w).alloc (Nat.le_refl _) o) h.lt
theorem Rd.set (h:Rd w g A n c k) (k':Nat):Rd (w.setCell ⟨g,1,none⟩ (.int .i64 (k':Int))) g A n c k':=by
 have h1:=h.c0
 have h2:=h.c1
 have h3:=h.f1
 exact⟨by go_simp,by go_simp,by go_simp⟩
theorem Rd.setI (h:Rd w g A n c k) {z:Int} {k':Nat} (hz:z=(k':Int)):Rd (w.setCell ⟨g,1,none⟩ (.int .i64 z)) g A n c k':=by
 subst hz
 exact h.set k'
end
structure Mv (w w':World) (g:Nat) (A:Option Addr) (n c k:Nat):Prop where
 rd:Rd w' g A n c k
 grown:w.grownBy w' (some g)
theorem Mv.refl {w:World} {g n c k:Nat} {A:Option Addr} (h:Rd w g A n c k):Mv w w g A n c k:=⟨h,World.grownBy.refl w _⟩
theorem Mv.then {w w1 w2:World} {g n c k k':Nat} {A:Option Addr} (h:Mv w w1 g A n c k) (h2:Mv w1 w2 g A n c k'):Mv w w2 g A n c k':=⟨h2.rd,zF h.grown h2.grown⟩
theorem Mv.step {w w1:World} {g n c k:Nat} {A:Option Addr} (h:Mv w w1 g A n c k) {z:Int} {k':Nat} (hz:z=(k':Int)):Mv w (w1.setCell ⟨g,1,none⟩ (.int .i64 z)) g A n c k':=
 ⟨h.rd.setI hz,zF h.grown (zR w1 g 1 _)⟩
theorem Mv.below {w w1 w2:World} {g n c k:Nat} {A:Option Addr} (h:Mv w w1 g A n c k) (hb:Below w1.heap.size w1 w2):Mv w w2 g A n c k:=
 ⟨h.rd.below hb h.rd.lt,zF h.grown (zz _ hb)⟩
theorem Mv.drewN {w w1:World} {g n c k:Nat} {A:Option Addr} (h:Mv w w1 g A n c k) (m:Nat):Mv w (w1.drewN m) g A n c k:=⟨h.rd.drewN m,zF h.grown (zAB _ _ _)⟩
theorem Mv.drew {w w1:World} {g n c k:Nat} {A:Option Addr} (h:Mv w w1 g A n c k):Mv w w1.drew g A n c k:=⟨h.rd.drew,zF h.grown (zAc _ _)⟩
structure MadeM (w0 w:World) (g:Nat) (e:TypeId) (v:Value) (xs:List Value):Prop where
 own:w.ownsRow w0.heap.size e 1 v xs.length xs
 grown:w0.grownBy w (some g)
theorem MadeM.nil {w0 w:World} {g:Nat} (h:w0.grownBy w (some g)) (e:TypeId):MadeM w0 w g e (.slice none 0 0) []:=⟨World.ownsRow_nil _ _ _ _,h⟩
theorem MadeM.go {w0 w w':World} {g:Nat} {e:TypeId} {v:Value} {xs:List Value} (h:MadeM w0 w g e v xs) (hg:g < w0.heap.size) (hw:w.grownBy w' (some g)):MadeM w0 w' g e v xs:=
 ⟨zBX h.own hw hg,zF h.grown hw⟩
theorem MadeM.cells {w0 w:World} {g:Nat} {e:TypeId} {v:Value} {xs ys:List Value} (h:MadeM w0 w g e v xs) (e1:xs=ys):MadeM w0 w g e v ys:=e1▸h
theorem MadeM.shape {w0 w:World} {g:Nat} {e:TypeId} {v:Value} {xs:List Value} (h:MadeM w0 w g e v xs):
 ∃A c,v=.slice A xs.length c∧xs.length≤c∧c≤maxLen∧Reads w w.heap.size 1 A xs.length xs:=by
 obtain⟨A,c,hv,h1,h2⟩:=zb h.own
 have h':=h.own
 rw[hv]at h'
 exact⟨A,c,hv,h1,h2,Reads.of_own h'⟩
theorem MadeM.u8 {w0 w:World} {g:Nat} {e:TypeId} {v:Value} {xs:List UInt8} (h:MadeM w0 w g e v (u8s xs)):
 ∃A c,v=.slice A xs.length c∧xs.length≤c∧c≤maxLen∧Reads w w.heap.size 1 A xs.length (u8s xs):=by
 obtain⟨A,c,hv,h1,h2,h3⟩:=h.shape
 have e:(u8s xs).length=xs.length:=by simp[u8s]
 rw[e]at hv h1 h3
 exact⟨A,c,hv,h1,h2,h3⟩
theorem MadeM.u16 {w0 w:World} {g:Nat} {e:TypeId} {v:Value} {xs:List UInt16} (h:MadeM w0 w g e v (zAH xs)):
 ∃A c,v=.slice A xs.length c∧xs.length≤c∧c≤maxLen∧Reads w w.heap.size 1 A xs.length (zAH xs):=by
 obtain⟨A,c,hv,h1,h2,h3⟩:=h.shape
 have e:(zAH xs).length=xs.length:=by simp[zAH]
 rw[e]at hv h1 h3
 exact⟨A,c,hv,h1,h2,h3⟩
theorem Rd.appended {w0 w w':World} {g gr n c k:Nat} {A:Option Addr} {e:TypeId} {v:Value} {xs:List Value} (h:Rd w gr A n c k) (hm:MadeM w0 w g e v xs) (hg:gr < w0.heap.size) (hw:w.grownBy w' v.ownBlock):Rd w' gr A n c k:=by
 have hne:some gr≠v.ownBlock:=fun e=>by have:=(hm.own.lt gr e.symm).1;omega
 exact⟨hw.cell h.c0 hne,hw.cell h.c1 hne,(World.frozen?_of_block (w:=w) (hw.block gr h.lt hne)).trans h.f1⟩
def zQ (x:UInt16):Bool:=decide (48≤x.toNat)&&decide (x.toNat≤57)
def zAX (x:UInt16):Bool:=x.toNat==32 || x.toNat==9 || x.toNat==10 || x.toNat==13
theorem zBB {x:UInt16}:zQ x=true↔48≤x.toNat∧x.toNat≤57:=by simp[zQ]
def zGx (n:Nat):List UInt16→Nat
 | []=>n
 | x::r=>zGx (10*n+(x.toNat - 48)) r
def zr (l:List UInt16):Nat:=zGx 0 l
theorem zDx (n:Nat) (l r:List UInt16):zGx n (l++r)=zGx (zGx n l) r:=by
 induction l generalizing n with
 | nil=>rfl
 | cons x l ih=>exact ih _
theorem zEE (l:List UInt16) (x:UInt16):zr (l++[x])=10*zr l+(x.toNat - 48):=by
 unfold zr;rw[zDx];rfl
theorem zNq (n:Nat) (l:List UInt16):n≤zGx n l:=by
 induction l generalizing n with
 | nil=>exact Nat.le_refl _
 | cons x l ih=>exact Nat.le_trans (by omega) (ih _)
theorem zFw (l r:List UInt16):zr (l++r)=zGx (zr l) r:=zDx 0 l r
theorem zC5 (l:List UInt16) (k:Nat):zr (l.take k)≤zr l:=by
 conv=>rhs;rw[←List.take_append_drop k l]
 rw[zFw];exact zNq _ _
theorem zEk (l:List UInt16) (k:Nat) (h:k < l.length):10*zr (l.take k)≤zr l:=by
 have h1:=zC5 l (k+1)
 rw[List.take_succ_eq_append_getElem h,zEE]at h1
 omega
theorem zCS (l:List UInt16) (k:Nat) (h:k < l.length):zr (l.take (k+1))=10*zr (l.take k)+(l[k].toNat - 48):=by
 rw[List.take_succ_eq_append_getElem h,zEE]
def zCI:List UInt16:=[120,88,111,79,46,43,45,95]
def zBo (x:UInt16):Bool:=zQ x || (decide (97≤x.toNat)&&decide (x.toNat≤102)) || (decide (65≤x.toNat)&&decide (x.toNat≤70)) || decide (x∈zCI)
def zBJ (u:List UInt16):Bool:=u.all zBo&&u.any zQ
theorem zFx {x:UInt16} (h:zQ x=true):zBo x=true:=by simp[zBo,h]
structure Nm where
 kind:Int
 n:Int
deriving DecidableEq
def zEF (u:List UInt16):List UInt16:=(u.reverse.dropWhile zAX).reverse
def zK1 (u:List UInt16):List UInt16:=zEF (u.dropWhile zAX)
def zAz:List UInt16:=[73,110,102,105,110,105,116,121]
def zBp (t:List UInt16):Bool:=t.headD 0==45
def zAJ (t:List UInt16):List UInt16:=if t.headD 0=45∨t.headD 0=43 then t.tail else t
def zDi (t:List UInt16):Nm×Bool:=
 if zAJ t=zAz then(⟨3,0⟩,true)
 else if zAJ t≠[]∧(zAJ t).all zQ=true then
  (if zr (zAJ t)≤9007199254740991 then(⟨0,zr (zAJ t)⟩,true)else(⟨2,0⟩,false))
 else(⟨2,0⟩, !zBJ t)
def zDj (a:Nm):Nm:=if a.kind=2 then a else if a.kind=3 then⟨4,0⟩else if a.n=0 then⟨1,0⟩else⟨0, -a.n⟩
def zNr (t:List UInt16):Nm×Bool:=
 if t=[]then(⟨0,0⟩,true)else(if zBp t=true then zDj (zDi t).1 else(zDi t).1,(zDi t).2)
theorem zGy {t:List UInt16} (h:zAJ t=zAz):zBJ t=false:=by
 have hm:(73:UInt16)∈t:=by
  have h1:(73:UInt16)∈zAJ t:=by rw[h];decide
  unfold zAJ at h1
  split at h1
  · exact List.mem_of_mem_tail h1
  · exact h1
 have:t.all zBo=false:=List.all_eq_false.2 ⟨73,hm,by decide⟩
 simp[zBJ,this]
def zK2 (u:List UInt16):Nm×Bool:=zNr (zK1 u)
structure Tok where
 kind:Nat
 text:List UInt8
 str:List UInt16
 nk:Int
 nn:Int
 mag:List Nat
 pos:Nat
 nl:Bool
deriving DecidableEq
def zo:Tok:=⟨0,[],[],0,0,[],0,false⟩
def zBI (x:UInt16):Bool:=(decide (97≤x.toNat)&&decide (x.toNat≤122)) || (decide (65≤x.toNat)&&decide (x.toNat≤90)) || x.toNat==95 || x.toNat==36
def zFQ (x:UInt16):Bool:=x.toNat==9 || x.toNat==11 || x.toNat==12 || x.toNat==32
def zw (x:UInt16):Bool:=x.toNat==10 || x.toNat==13
def zFR (x:UInt16):Bool:=x.toNat==8232 || x.toNat==8233
def zA0 (x:UInt16):Bool:=zBI x || zQ x
def zAx (k:Nat) (p:UInt16→Bool) (l:List UInt16):Bool:=(l[k]?).any p
def zi (s:List UInt8) (l:List UInt16):Bool:=(s.map (·.toUInt16)).isPrefixOf l
def asc (l:List UInt16):List UInt8:=l.map (·.toUInt8)
def zCG (n:Nat) (p:Nat×Bool×Nat):Nat×Bool×Nat:=(n+p.1,p.2)
def zFS (st:Bool):Nat:=if st=true then 6 else 0
def zBQ (long:Bool):List UInt16→Bool→Bool→Nat×Bool×Nat
 | [],_,st=>(0,false,if long=true then 5 else zFS st)
 | x::r,nl,st=>
  if(long&&zi [42,47] (x::r))=true then(2,nl,zFS st)
  else if(!long &&zw x)=true then(0,false,zFS st)
  else zCG 1 (zBQ long r (nl || zw x) (st || zFR x))
def zq (l:List UInt16):Nat×Bool×Nat:=zCG 2 (zBQ (zi [47,42] l) (l.drop 2) false false)
def zBe:Nat→List UInt16→Bool→Nat×Bool×Nat
 | 0,_,nl=>(0,nl,0)
 | _+1,[],nl=>(0,nl,0)
 | f+1,x::r,nl=>
  if(zFQ x || zw x)=true then zCG 1 (zBe f r (nl || zw x))
  else if(zi [47,47] (x::r) || zi [47,42] (x::r))=true then
   (if(zq (x::r)).2.2≠0 then(0,false,(zq (x::r)).2.2)
    else zCG (zq (x::r)).1 (zBe f ((x::r).drop (zq (x::r)).1) (nl || (zq (x::r)).2.1)))
  else(0,nl,0)
def zd (l:List UInt16):Nat×Bool×Nat:=zBe l.length l false
def zDk:List (List UInt8):=[[98,114,101,97,107],[99,97,116,99,104],[99,111,110,115,116],[99,111,110,116,105,110,117,101],[101,108,115,101],[102,97,108,115,101],[102,105,110,97,108,108,121],[102,111,114],[102,117,110,99,116,105,111,110],[105,102],[105,110],[108,101,116],[110,101,119],[110,117,108,108],[114,101,116,117,114,110],[116,104,105,115],[116,104,114,111,119],[116,114,117,101],[116,114,121],[116,121,112,101,111,102],[118,111,105,100],[119,104,105,108,101]]
def zCq:List (List UInt8):=[[97,114,103,117,109,101,110,116,115],[97,115,121,110,99],[97,119,97,105,116],[99,97,115,101],[99,108,97,115,115],[100,101,98,117,103,103,101,114],[100,101,102,97,117,108,116],[100,101,108,101,116,101],[100,111],[101,110,117,109],[101,118,97,108],[101,120,112,111,114,116],[101,120,116,101,110,100,115],[105,109,112,108,101,109,101,110,116,115],[105,109,112,111,114,116],[105,110,115,116,97,110,99,101,111,102],[105,110,116,101,114,102,97,99,101],[112,97,99,107,97,103,101],[112,114,105,118,97,116,101],[112,114,111,116,101,99,116,101,100],[112,117,98,108,105,99],[115,116,97,116,105,99],[115,117,112,101,114],[115,119,105,116,99,104],[118,97,114],[119,105,116,104],[121,105,101,108,100]]
def zBf:List (List UInt8):=[[123],[125],[40],[41],[91],[93],[59],[44],[46],[63],[58],[126],[60],[62],[60,61],[62,61],[61,61],[33,61],[61,61,61],[33,61,61],[43],[45],[42],[47],[37],[38],[124],[94],[33],[38,38],[124,124],[63,63],[61],[43,61],[45,61],[42,61],[47,61],[37,61],[38,61],[124,61],[94,61],[60,60,61],[62,62,61],[62,62,62,61],[43,43],[45,45],[60,60],[62,62],[62,62,62],[61,62]]
def zBU:List (List UInt8):=[[46,46,46],[63,46],[42,42],[42,42,61],[38,38,61],[124,124,61],[63,63,61]]
def zB2 (s:List UInt8):Nat:=if s∈zDk then 1 else if s∈zCq then 2 else 0
def zBK (s:List UInt8):Nat:=if s∈zBf then 1 else if s∈zBU then 2 else 0
def zQL (s:List UInt8):Bool:=match s with | []=>false | b::r=>zBI b.toUInt16&&r.all fun c=>zA0 c.toUInt16
def zFT (s:List UInt8):Bool:=zQL s&&zB2 s==0
abbrev Ans:=Nat×Tok×Nat
def bad (e:Nat):Ans:=(e,zo,0)
def zDD (l:List UInt16):Ans:=
 if zi [92] (l.drop (l.takeWhile zA0).length)=true then bad 6
 else(0,{zo with kind:=if 0 < zB2 (asc (l.takeWhile zA0))then 6 else 1,text:=asc (l.takeWhile zA0)},(l.takeWhile zA0).length)
def zAn:Nat→Nat→List Nat
 | 0,_=>[]
 | f+1,v=>if v=0 then []else v % 4294967296::zAn f (v / 4294967296)
def zA7 (v:Nat):List Nat:=zAn 9 v
def zEl:Nat:=4294967296^8
def zu (zero:Bool) (x:UInt16):Bool:=
 x.toNat==46 || x.toNat==101 || x.toNat==69 || x.toNat==95 || (zero&&(x.toNat==120 || x.toNat==88 || x.toNat==111 || x.toNat==79 || x.toNat==98 || x.toNat==66))
def zGw (v n:Nat) (r:List UInt16):Ans:=
 if zEl≤v then bad 6
 else if(zAx 0 zBI r || zAx 0 zQ r)=true then bad 5
 else(0,{zo with kind:=3,mag:=zA7 v},n+1)
def zBq (d r:List UInt16):Ans:=
 if(zAx 0 (fun x=>x.toNat==48) d&& !decide (d=[48]))=true then bad 5
 else if zi [110] r=true then zGw (zr d) d.length (r.drop 1)
 else if zAx 0 (zu (decide (d=[48]))) r=true then bad 6
 else if zAx 0 zBI r=true then bad 5
 else if 9007199254740991 < zr d then bad 6
 else(0,{zo with kind:=2,nn:=zr d},d.length)
def zBg (l:List UInt16):Ans:=zBq (l.takeWhile zQ) (l.drop (l.takeWhile zQ).length)
def zFy (x:UInt16):Nat:=
 if zQ x=true then x.toNat - 48 else if 97≤x.toNat∧x.toNat≤102 then x.toNat - 87 else if 65≤x.toNat∧x.toNat≤70 then x.toNat - 55 else 16
def zDy (v:Nat):List UInt16→Nat
 | []=>v
 | x::r=>zDy (16*v+zFy x) r
def zDN (x:UInt16):Bool:=decide (zFy x < 16)
def zBr (n:Nat) (l:List UInt16):Nat×UInt16×Nat:=
 if(decide (n≤l.length)&&(l.take n).all zDN)=true then(0,UInt16.ofNat (zDy 0 (l.take n)),n)else(5,0,0)
def zBs (x:UInt16):Option UInt16:=
 if x=110 then some 10 else if x=116 then some 9 else if x=114 then some 13 else if x=98 then some 8 else if x=118 then some 11 else if x=102 then some 12 else none
def more (n:Nat) (p:Nat×UInt16×Nat):Nat×UInt16×Nat:=if p.1=0 then(0,p.2.1,n+p.2.2)else p
def zQX (x:UInt16) (r:List UInt16):Nat×UInt16×Nat:=
 if(x.toNat==48&& !zAx 0 zQ r)=true then(0,0,1)
 else if zQ x=true then(5,0,0)
 else if(zw x || zFR x || (x.toNat==117&&zi [123] r))=true then(6,0,0)
 else if x.toNat=120 then more 1 (zBr 2 r)
 else if x.toNat=117 then more 1 (zBr 4 r)
 else(0,x,1)
def zC6:List UInt16→Nat×UInt16×Nat
 | []=>(5,0,0)
 | x::r=>if(zBs x).isSome=true then(0,(zBs x).getD 0,1)else zQX x r
def zCX (q:UInt16):Nat→List UInt16→List UInt16→Nat×List UInt16×Nat
 | 0,_,_=>(5,[],0)
 | _+1,[],_=>(5,[],0)
 | f+1,x::r,acc=>
  if zw x=true then(5,[],0)
  else if x=q then(0,acc,1)
  else if x.toNat=92 then
   (if(zC6 r).1≠0 then((zC6 r).1,[],0)
    else((zCX q f (r.drop (zC6 r).2.2) (acc++[(zC6 r).2.1])).1,(zCX q f (r.drop (zC6 r).2.2) (acc++[(zC6 r).2.1])).2.1,1+(zC6 r).2.2+(zCX q f (r.drop (zC6 r).2.2) (acc++[(zC6 r).2.1])).2.2))
  else((zCX q f r (acc++[x])).1,(zCX q f r (acc++[x])).2.1,1+(zCX q f r (acc++[x])).2.2)
def zIN (q:UInt16) (l:List UInt16):Nat×List UInt16×Nat:=zCX q (l.length+1) l []
def zAr (q:UInt16) (r:List UInt16):Ans:=
 if(zIN q r).1≠0 then bad (zIN q r).1 else(0,{zo with kind:=4,str:=(zIN q r).2.1},1+(zIN q r).2.2)
def zAS (l:List UInt16) (n:Nat):Nat:=
 if(decide (n≤l.length)&&(l.take n).all (fun x=>decide (x.toNat≤127))&& !(decide (asc (l.take n)=[63,46])&&zAx 2 zQ l))=true then zBK (asc (l.take n))else 0
def zAs (l:List UInt16):Nat→Option Nat
 | 0=>none
 | n+1=>if zAS l (n+1)≠0 then some (n+1)else zAs l n
def zBY (z:Bool) (l:List UInt16):Ans:=
 match zAs l 4 with
 | some n=>if zAS l n=2 then bad 6 else(0,{zo with kind:=5,text:=asc (l.take n)},n)
 | none=>if(zAx 0 (fun x=>decide (128≤x.toNat) || x.toNat==96 || x.toNat==92) l || (z&&zi [35,33] l))=true then bad 6 else bad 5
def zAo (z:Bool):List UInt16→Ans
 | []=>bad 5
 | x::r=>
  if zBI x=true then zDD (x::r)
  else if zQ x=true then zBg (x::r)
  else if(x.toNat==39 || x.toNat==34)=true then zAr x r
  else if(x.toNat==46&&zAx 0 zQ r)=true then bad 6
  else zBY z (x::r)
def zBZ (t:Tok) (p:List Tok×Nat×Nat):List Tok×Nat×Nat:=if p.2.2≠0 then([],p.2)else(t::p.1,0,0)
def zAA (k:Nat) (l:List UInt16):Ans:=zAo (k+(zd l).1==0) (l.drop (zd l).1)
def setAt (t:Tok) (k:Nat) (nl:Bool):Tok:={t with pos:=k,nl:=nl}
def zCr:Nat→Nat→List UInt16→List Tok×Nat×Nat
 | 0,_,_=>([],0,0)
 | f+1,k,l=>
  if(zd l).2.2≠0 then([],k+(zd l).1,(zd l).2.2)
  else if l.drop (zd l).1=[]then([setAt zo (k+(zd l).1) (zd l).2.1],0,0)
  else if(zAA k l).1≠0 then([],k+(zd l).1,(zAA k l).1)
  else zBZ (setAt (zAA k l).2.1 (k+(zd l).1) (zd l).2.1) (zCr f (k+(zd l).1+(zAA k l).2.2) (l.drop ((zd l).1+(zAA k l).2.2)))
def zCH (u:List UInt16):List Tok×Nat×Nat:=if 4096 < u.length then([],0,3)else zCr (u.length+1) 0 u
structure Nd where
 kind:Int
 name:List UInt8
 str:List UInt16
 nk:Int
 nn:Int
 neg:Bool
 mag:List Nat
 kids:List Int
deriving DecidableEq
def zB3:Nd:=⟨0,[],[],0,0,false,[],[]⟩
def zQM (k:Int):Bool:=decide (2≤k)&&decide (k≤19)&& !(k==7)&& !(k==11)&& !(k==17)
def zRk (k:Int):Bool:=zQM k&& !(k==5)&& !(k==6)&& !(k==19)
def zFz (k:Int):Bool:=decide (30≤k)&&decide (k≤53)&& !(k==40)
def zAQ (k:Int):Bool:=k==33 || k==52 || k==53
def zQN (k:Int):Bool:=(decide (1≤k)&&decide (k≤20)) || (decide (30≤k)&&decide (k≤53))
def zIO (s:Nat) (k:Int):Bool:=
 if s=1 then zQM k else if s=2 then zRk k else if s=3 then zFz k else if s=4 then zAQ k
 else if s=5 then k==7 else if s=6 then k==20 else if s=7 then k==40 else if s=8 then k==4
 else if s=9 then k==11 || zFz k else if s=10 then k==11 || k==5 || k==6 || zFz k
 else if s=11 then k==11 || k==17 else if s=12 then k==11 || k==4 else if s=13 then k==4 || zFz k else false
def zK3 (n last:Nat):List Nat:=List.replicate (n - 1) 6++[last]
def zE2 (k:Int) (n:Nat):List Nat×Nat:=
 if k=1∨k=4 then([],1)
 else if k=3∨k=15∨k=40∨k=43∨k=52 then([3],0)
 else if k=5∨k=6 then([5],5)
 else if k=7∨k=14 then([3].take (min n 1),0)
 else if k=8 then([3,2,2].take (min (max n 2) 3),0)
 else if k=9 then([3,2],0)
 else if k=10 then([10,9,9,2],0)
 else if k=16 then([8,11,12],0)
 else if k=17 then([8],0)
 else if k=18 then([2],0)
 else if k=19∨k=41 then(zK3 n 8,0)
 else if k=42 then(zK3 n 13,0)
 else if k=38 then([],3)
 else if k=39 then([],7)
 else if k=44∨k=45 then([4],0)
 else if k=46∨k=47∨k=53 then([3,3],0)
 else if k=48 then([3,3,3],0)
 else if k=49 then([4,3],0)
 else if k=50∨k=51 then([3],3)
 else([],0)
def atN (ts:List Nd) (k:Int):Nd:=ts.getD k.toNat zB3
def zK4 (ts:List Nd):List Nat→Nat→List Int→Bool
 | _,_,[]=>true
 | [],r,k::ks=>zIO r (atN ts k).kind&&zK4 ts [] r ks
 | s::l,r,k::ks=>zIO s (atN ts k).kind&&zK4 ts l r ks
def zNs:Nat→List Nd→Int→Bool
 | 0,_,_=>false
 | f+1,ts,n=>
  if(atN ts n).kind=8∧(atN ts n).kids.length=2 then true
  else if(atN ts n).kind=8∨(atN ts n).kind=9∨(atN ts n).kind=10∨(atN ts n).kind=18 then
   (match (atN ts n).kids.getLast? with | none=>false | some k=>zNs f ts k)
  else false
def zQY (ts:List Nd) (n:Int):Bool:=zNs ts.length ts n
def zSf (ts:List Nd) (x:Nd):Bool:=
 zQN x.kind&&decide ((zE2 x.kind x.kids.length).1.length≤x.kids.length)
 &&zK4 ts (zE2 x.kind x.kids.length).1 (zE2 x.kind x.kids.length).2 x.kids
 &&(if x.kind=16 then((atN ts (x.kids.getD 1 0)).kind==17 || (atN ts (x.kids.getD 2 0)).kind==4)
  else if x.kind=8∧x.kids.length=3 then !(zQY ts (x.kids.getD 1 0))else true)
def zEm:List (List UInt8):=[[45],[43],[33],[126],[116,121,112,101,111,102],[118,111,105,100]]
def zCs:List (List UInt8):=[[43,43],[45,45]]
def zSx:List (List UInt8):=[[43],[45],[42],[47],[37],[38],[124],[94],[60,60],[62,62],[62,62,62],[60],[62],[60,61],[62,61],[61,61],[33,61],[61,61,61],[33,61,61],[105,110]]
def zSy:List (List UInt8):=[[38,38],[124,124],[63,63]]
def zKx:List (List UInt8):=[[61],[43,61],[45,61],[42,61],[47,61],[37,61],[38,61],[124,61],[94,61],[60,60,61],[62,62,61],[62,62,62,61]]
def zHi (k:Int):List (List UInt8):=
 if k=43 then zEm else if k=44∨k=45 then zCs else if k=46 then zSx else if k=47 then zSy else if k=49 then zKx else []
def zRl (k:Int) (s:List UInt8):Bool:=
 if k=7∨k=18∨k=19∨k=20∨k=33 then zFT s
 else if k=12∨k=13∨k=17∨k=41 then decide (s=[]) || zFT s
 else if k=52 then zQL s
 else if zHi k≠[]then decide (s∈zHi k)else decide (s=[])
def zRm (k n:Int):Bool:=if k=0 then decide (-9007199254740991≤n)&&decide (n≤9007199254740991)else decide (1≤k)&&decide (k≤4)&&n==0
def zF0 (neg:Bool) (m:List Nat):Bool:=decide (m.length≤8)&&(match m.getLast? with | none=> !neg | some x=> !(x==0))
def zK5 (x:Nd):Bool:=
 if 4096 < x.name.length then false
 else if(!(x.kind==32)&& !(x.kind==40)&& !x.str.isEmpty)=true then false
 else if(!(x.kind==30)&& !(x.nk==0&&x.nn==0))=true then false
 else if(!(x.kind==31)&&(x.neg || !x.mag.isEmpty))=true then false
 else if x.kind=32∨x.kind=40 then decide (x.name=[])&&decide (x.str.length≤4096)
 else if x.kind=30 then decide (x.name=[])&&x.nk==0&&zRm x.nk x.nn&&decide (0≤x.nn)
 else if x.kind=31 then decide (x.name=[])&&zF0 x.neg x.mag&& !x.neg
 else zRl x.kind x.name
def zDz (N n:Nat) (ks:List Int):Bool:=ks.all fun k=>decide ((n:Int) < k)&&decide (k < (N:Int))
def zAt (N:Nat):Nat→List Nd→List Int→Bool
 | _,[],st=>st.isEmpty
 | _,_::_,[]=>false
 | n,x::r,s::st=>s==(n:Int)&&zDz N n x.kids&&zAt N (n+1) r (x.kids++st)
def zDO (ts:List Nd):Bool:=zAt ts.length 0 ts [0]
def zC7 (d:List Nat) (v:Nat):List Int→List Nat
 | []=>d
 | k::ks=>zC7 (d.set k.toNat v) v ks
def zCa:Nat→List Nd→List Nat→List Nat
 | _,[],d=>d
 | n,x::r,d=>zCa (n+1) r (zC7 (d.set n (max (d.getD n 0) 1)) (max (d.getD n 0) 1+1) x.kids)
def zIP (ts:List Nd):List Nat:=zCa 0 ts (List.replicate ts.length 0)
def zEj:List Nat→Nat
 | []=>0
 | x::r=>max x (zEj r)
def zRn (ts:List Nd):Nat:=zEj (zIP ts)
def zRo (ts:List Nd):Nat→List Nd→Bool
 | _,[]=>true
 | n,x::r=> !(decide (0 < n)&&x.kind==1)&&zK5 x&&zSf ts x&&zRo ts (n+1) r
def zD2 (l:List Int):List Value:=l.map (Value.int .i64)
theorem zHj (l:List Int):(zD2 l).length=l.length:=by simp[zD2]
def zSz (l:List Nat):List Value:=l.map fun n:Nat=>Value.int .u32 (n:Int)
structure NdSl where
 As:Option Addr
 Am:Option Addr
 Ak:Option Addr
 cs:Nat
 cm:Nat
 ck:Nat
structure NdR (w:World) (B:Nat) (x:Nd) (s:NdSl):Prop where
 str:Reads w B 1 s.As x.str.length (zAH x.str)
 mag:Reads w B 1 s.Am x.mag.length (zSz x.mag)
 kids:Reads w B 1 s.Ak x.kids.length (zD2 x.kids)
 cs:x.str.length≤s.cs∧s.cs≤maxLen
 cm:x.mag.length≤s.cm∧s.cm≤maxLen
 ck:x.kids.length≤s.ck∧s.ck≤maxLen
 limb:∀y∈x.mag,y < 4294967296
 kin:∀y∈x.kids, -9223372036854775808≤y∧y≤9223372036854775807
 kb: -9223372036854775808≤x.kind∧x.kind≤9223372036854775807
 nkb: -9223372036854775808≤x.nk∧x.nk≤9223372036854775807
 nnb: -9223372036854775808≤x.nn∧x.nn≤9223372036854775807
 nm:x.name.length≤9223372036854775807
section
variable {w w':World} {B B':Nat} {x:Nd} {s:NdSl}
theorem NdR.below (h:NdR w B x s) (hb:Below B w w'):NdR w' B x s:=⟨h.str.below hb,h.mag.below hb,h.kids.below hb,h.cs,h.cm,h.ck,h.limb,h.kin,h.kb,h.nkb,h.nnb,h.nm⟩
theorem NdR.back (h:NdR w' B x s) (hb:Below B w w'):NdR w B x s:=
 ⟨h.str.keep fun _ hp=>(hb.cell hp).symm,h.mag.keep fun _ hp=>(hb.cell hp).symm,h.kids.keep fun _ hp=>(hb.cell hp).symm,h.cs,h.cm,h.ck,h.limb,h.kin,h.kb,h.nkb,h.nnb,h.nm⟩
theorem NdR.more (h:NdR w B x s) (hb:B≤B'):NdR w B' x s:=⟨h.str.more hb,h.mag.more hb,h.kids.more hb,h.cs,h.cm,h.ck,h.limb,h.kin,h.kb,h.nkb,h.nnb,h.nm⟩
end
structure NdC (w:World) (b o:Nat) (x:Nd) (s:NdSl):Prop where
 k0:w.cell? ⟨b,o,none⟩=some (.int .i64 x.kind)
 k1:w.cell? ⟨b,o+1,none⟩=some (.string ⟨x.name.toArray⟩)
 k2:w.cell? ⟨b,o+2,none⟩=some (.slice s.As x.str.length s.cs)
 k3:w.cell? ⟨b,o+3,none⟩=some (.int .i64 x.nk)
 k4:w.cell? ⟨b,o+4,none⟩=some (.int .i64 x.nn)
 k5:w.cell? ⟨b,o+5,none⟩=some (.bool x.neg)
 k6:w.cell? ⟨b,o+6,none⟩=some (.slice s.Am x.mag.length s.cm)
 k7:w.cell? ⟨b,o+7,none⟩=some (.slice s.Ak x.kids.length s.ck)
theorem NdC.keep {w w':World} {b o:Nat} {x:Nd} {s:NdSl} (h:NdC w b o x s) (hk:∀j,w'.cell? ⟨b,j,none⟩=w.cell? ⟨b,j,none⟩):NdC w' b o x s:=
 ⟨(hk _).trans h.k0,(hk _).trans h.k1,(hk _).trans h.k2,(hk _).trans h.k3,(hk _).trans h.k4,(hk _).trans h.k5,(hk _).trans h.k6,(hk _).trans h.k7⟩
theorem NdC.below {w w':World} {b o D:Nat} {x:Nd} {s:NdSl} (h:NdC w b o x s) (hb:Below D w w') (hd:b < D):NdC w' b o x s:=h.keep fun j=>hb.cell (p:=⟨b,j,none⟩) hd
def NdsR (w:World) (B:Nat) (A:Option Addr) (n:Nat) (ts:List Nd):Prop:=
 ts.length=n∧(0 < n→∃b o,A=some ⟨b,o,none⟩∧b < B∧∀i (h:i < ts.length),∃s,NdC w b (o+i*8) ts[i] s∧NdR w B ts[i] s)
section
variable {w w':World} {B B' n:Nat} {A:Option Addr} {ts:List Nd}
theorem NdsR.below (h:NdsR w B A n ts) (hb:Below B w w'):NdsR w' B A n ts:=⟨h.1,fun h0=>by
 obtain⟨b,o,hA,hB,hat⟩:=h.2 h0
 refine⟨b,o,hA,hB,fun i hi=>?_⟩
 obtain⟨s,h1,h2⟩:=hat i hi
 exact⟨s,h1.below hb hB,h2.below hb⟩⟩
theorem NdsR.more (h:NdsR w B A n ts) (hb:B≤B'):NdsR w B' A n ts:=⟨h.1,fun h0=>by
 obtain⟨b,o,hA,hB,hat⟩:=h.2 h0
 refine⟨b,o,hA,Nat.lt_of_lt_of_le hB hb,fun i hi=>?_⟩
 obtain⟨s,h1,h2⟩:=hat i hi
 exact⟨s,h1,h2.more hb⟩⟩
theorem NdsR.get (h:NdsR w B A n ts) {i:Nat} (hi:i < n):∃b o x s,A=some ⟨b,o,none⟩∧b < B∧ts[i]? =some x∧NdC w b (o+i*8) x s∧NdR w B x s:=by
 obtain⟨b,o,hA,hB,hat⟩:=h.2 (by omega)
 have hl:i < ts.length:=by rw[h.1];exact hi
 obtain⟨s,h1,h2⟩:=hat i hl
 exact⟨b,o,ts[i],s,hA,hB,List.getElem?_eq_getElem hl,h1,h2⟩
theorem NdsR.nil (h:n=0):NdsR w B A n []:=⟨h.symm,fun h0=>by omega⟩
end
theorem Reads.spotR {w:World} {B n:Nat} {A:Option Addr} {xs:List Value} (h:Reads w B 1 A n xs) (h0:0 < n):
 ∃b off,A=some ⟨b,off,none⟩∧b < B∧∀j u,xs[j]? =some u→w.cell? ⟨b,off+j,none⟩=some u:=by
 obtain⟨ad,u,e,hb,hx,hc⟩:=h.at_ h0
 have hs:ad.spot=none:=by
  cases hsp:ad.spot with
  | none=>rfl
  | some s=>
   exfalso
   rw[Addr.add_zero]at hc
   simp only[World.cell?,hsp]at hc
   split at hc
   · simp at hc
   · cases hc
 obtain⟨b,off,sp⟩:=ad
 simp only at hs
 subst hs
 refine⟨b,off,e,hb,fun j v hv=>?_⟩
 have hj:j < n:=by
  have:=(List.getElem?_eq_some_iff.1 hv).1
  have h1:=h.1
  omega
 obtain⟨ad',u',e',_,hx',h1⟩:=h.at_ hj
 rw[e]at e'
 injection e' with e'
 subst e'
 rw[Addr.add_lit]at h1
 rw[h1,←hx',hv]
theorem Reads.spotK {w:World} {B n:Nat} {A:Option Addr} {l:List Int} (h:Reads w B 1 A n (zD2 l)) (h0:0 < l.length):
 ∃b off,A=some ⟨b,off,none⟩∧b < B∧∀j (hj:j < l.length),w.cell? ⟨b,off+j,none⟩=some (.int .i64 l[j]):=by
 have hl:l.length=n:=by have:=h.1;simpa [zD2]using this
 obtain⟨b,off,hA,hb,hc⟩:=h.spotR (by omega)
 exact⟨b,off,hA,hb,fun j hj=>hc j _ (by simp[zD2,List.getElem?_eq_getElem hj])⟩
structure Kept (w w':World) (v v':Value):Prop where
 os:w'.os=w.os
 tape:w'.tape=w.tape
 output:w'.output=w.output
 size:w.heap.size≤w'.heap.size
 block:∀i,i < w.heap.size→v.ownBlock≠some i→w'.heap[i]? =w.heap[i]?
 own:v'.ownBlock=v.ownBlock∨∃r,v'.ownBlock=some r∧w.heap.size≤r
section
variable {w w' w'':World} {v v' v'':Value}
theorem Kept.refl (w:World) (v:Value):Kept w w v v:=⟨rfl,rfl,rfl,Nat.le_refl _,fun _ _ _=>rfl,.inl rfl⟩
theorem Kept.trans (h:Kept w w' v v') (k:Kept w' w'' v' v''):Kept w w'' v v'':=
 ⟨k.os.trans h.os,k.tape.trans h.tape,k.output.trans h.output,Nat.le_trans h.size k.size,fun i hi hne=>(k.block i (Nat.lt_of_lt_of_le hi h.size) (by
  rcases h.own with e | ⟨r,e,hr⟩
  · rw[e];exact hne
  · rw[e];intro e2;injection e2 with e2;omega)).trans (h.block i hi hne),by
  rcases k.own with e | ⟨r,e,hr⟩
  · rcases h.own with e2 | ⟨r,e2,hr⟩
    · exact .inl (e.trans e2)
    · exact .inr ⟨r,e.trans e2,hr⟩
  · exact .inr ⟨r,e,Nat.le_trans h.size hr⟩⟩
theorem Kept.cell (h:Kept w w' v v') {p:Addr} (hp:p.block < w.heap.size) (hne:v.ownBlock≠some p.block):w'.cell? p=w.cell? p:=World.cell?_of_block (h.block p.block hp hne)
theorem Kept.frozen (h:Kept w w' v v') {p:Addr} (hp:p.block < w.heap.size) (hne:v.ownBlock≠some p.block):w'.frozen? p=w.frozen? p:=World.frozen?_of_block (h.block p.block hp hne)
theorem Kept.below {B:Nat} (h:Kept w w' v v') (hB:∀i,v.ownBlock=some i→B≤i) (hs:B≤w.heap.size):Below B w w':=
 ⟨h.os,h.tape,h.output,h.size,fun i hi=>h.block i (by omega) (fun e=>by have:=hB i e;omega)⟩
theorem Kept.alloc (h:Kept w w' v v') (o:Obj):Kept w (w'.alloc o) v v':=
 ⟨h.os,h.tape,h.output,by have:=h.size;simp;omega,fun i hi hne=>(heap_alloc_old w' o (Nat.lt_of_lt_of_le hi h.size)).trans (h.block i hi hne),h.own⟩
end
theorem Tryz.info_int:(Tryz.prog.info? 3).map (fun i=>(i.zero,i.size,i.bytes))=some (some (.int .i64 0),1,8):=by kernel_rfl
theorem zBD (k:Int) (w:World):Calls Tryz.prog 124 #[.int .i64 k] w fun e w'=>e=.returned (.bool (zAQ k))∧w=w':=by
 go_enter Tryz.func124,Tryz.ntmps124
 go_wp2
 all_goals go_ret
 all_goals refine⟨zf ?_,rfl⟩
 all_goals (rw[Bool.eq_iff_iff];simp[zAQ];try omega)
def chr (n:Nat):UInt8:=UInt8.ofNat n
def zEG (n:Nat):List UInt8:=if n < 10 then [chr (48+n)]else zEG (n / 10)++[chr (48+n % 10)]
termination_by n
theorem zFU {n:Nat} (h:n < 10):zEG n=[chr (48+n)]:=by rw[zEG,if_pos h]
theorem zGz {n:Nat} (h:¬n < 10):zEG n=zEG (n / 10)++[chr (48+n % 10)]:=by rw[zEG,if_neg h]
theorem zEn (n:Nat):Lib.decDigits n=zEG n:=by
 induction n using Nat.strongRecOn with
 | _ n ih=>
  by_cases h:n < 10
  · rw[Lib.decDigits,dif_pos h,zFU h];rfl
  · rw[Lib.decDigits,dif_neg h,zGz h,ih _ (by omega)];rfl
theorem zNt (n:Int) (h:0≤n):Lib.itoa n=zEG n.toNat:=by
 unfold Lib.itoa
 rw[if_neg (by omega),zEn]
def Tab (w : World) : Prop := Lib.TabIs Tryz.prog w "internal/strconv.uint64pow10" .u64 Lib.pow10Tab
theorem zSg : Tryz.prog.globalNamed "internal/strconv.uint64pow10" = some 3 := by kernel_rfl
theorem Tab.below {B:Nat} {w w':World} (h:Tab w) (hg:3 < B) (hb:Below B w w'):Tab w':=by
 unfold Tab Lib.TabIs World.var? at h⊢
 rw[zSg]at h⊢
 simp only[Option.bind_some]at h⊢
 rw[hb.block _ hg]
 exact h
theorem Tab.lt {w:World} (h:Tab w):3 < w.heap.size:=by
 unfold Tab Lib.TabIs World.var? at h
 rw[zSg]at h
 simp only[Option.bind_some]at h
 rcases Nat.lt_or_ge 3 w.heap.size with h' | h'
 · exact h'
 · rw[Array.getElem?_eq_none h']at h;cases h
theorem zNu {n:Int} (h0:0≤n) (h1:n≤9007199254740991) {w:World} (ht:Tab w):
 Calls Tryz.prog 166 #[.int .i64 n] w fun e w'=>e=.returned (.string ⟨(zEG n.toNat).toArray⟩)∧Below w.heap.size w w':=by
 refine(Tryz.strconv_Itoa n (by omega) (by omega) w ht).mono ?_
 rintro e w' ⟨rfl,k,os,rfl⟩
 exact⟨by rw[zNt n h0],Go.Lib.below_grow _ w (Nat.le_refl _) k os⟩
theorem zQZ (n:Int) (w:World) (h0:0≤n) (h1:n≤9007199254740991):Calls Tryz.prog 80 #[.agg #[.int .i64 0,.int .i64 n]] w fun e w'=>e=.returned (.bool true)∧w'=w.alloc (.cells #[.int .i64 0,.int .i64 n] 39):=by
 have h2:decide ((-9007199254740991:Int)≤n)=true:=decide_eq_true (by omega)
 have h3:decide (n≤(9007199254740991:Int))=true:=decide_eq_true h1
 go_enter Tryz.func80,Tryz.ntmps80
 go_wp2
 all_goals go_ret
 all_goals exact⟨rfl,rfl⟩
theorem zQa (n:Int) (w:World) (h0:0≤n) (h1:n≤9007199254740991):
 Calls Tryz.prog 165 #[.agg #[.int .i64 0,.int .i64 n]] w fun e w'=>e=.returned (.agg #[.int .i64 0,.int .i64 n])∧w'=((w.alloc (.cells #[.int .i64 0,.int .i64 n] 39)).alloc (.cells #[.int .i64 0,.int .i64 n] 39)).alloc (.cells #[.int .i64 0,.int .i64 n] 39):=by
 go_enter Tryz.func165,Tryz.ntmps165
 go_wp2_with (go_at_call 80;refine(zQZ n _ h0 h1).mono ?_;rintro e w' ⟨rfl,rfl⟩)
 refine bodyPost_ret (v:=.agg #[.int .i64 0,.int .i64 n]) (by simp[results,Tryz.results165,go_sem]) rfl ?_
 exact⟨rfl,rfl⟩
theorem zK6 (n:Int) (w:World) (h0:0≤n) (h1:n≤9007199254740991) (ht:Tab w):
 Calls Tryz.prog 130 #[.agg #[.int .i64 0,.int .i64 n]] w fun e w'=>e=.returned (.string ⟨(zEG n.toNat).toArray⟩)∧Below w.heap.size w w':=by
 have HT:=zD (fun(W:World) (hb:Below w.heap.size w W)=>zNu h0 h1 (ht.below ht.lt hb))
 clear ht
 go_enter Tryz.func130,Tryz.ntmps130
 go_wp2_with first
  | (go_at_call 165;refine(zQa n _ h0 h1).mono ?_;rintro e w' ⟨rfl,rfl⟩)
  | (go_at_call 166;refine(HT.out _ (by go_grown)).mono ?_;rintro e w' ⟨rfl,hb⟩)
 go_ret
 refine⟨rfl,Below.trans (b:=_) ?_ (hb.mono (by simp;omega))⟩
 go_grown
open Go.ChangeShapes Go.WideShapes Go.ChangeAt Go.RowKit Go.Lib
theorem own:ownKnob Tryz.prog.godebug=none:=by kernel_rfl
theorem zNv:(Tryz.prog.globals[3]?).map (·.type)=some 195:=by kernel_rfl
theorem zRp:(Rows.laid_internal_strconv_uint64pow10:DataW Unit)=Lib.tabData .u64 Lib.pow10Tab:=by kernel_rfl
theorem zNw {w : World} (h : laidMetH Tryz.prog [("math/bits.deBruijn32tab", Rows.laid_math_bits_deBruijn32tab), ("math/bits.deBruijn64tab", Rows.laid_math_bits_deBruijn64tab), ("internal/strconv.uint64pow10", Rows.laid_internal_strconv_uint64pow10)] w) : Tab w := by
 have h' : laidMet Tryz.prog [("math/bits.deBruijn32tab", Rows.laid_math_bits_deBruijn32tab), ("math/bits.deBruijn64tab", Rows.laid_math_bits_deBruijn64tab), ("internal/strconv.uint64pow10", Rows.laid_internal_strconv_uint64pow10)] w := h
 rw[zRp]at h'
 obtain⟨_,⟨_,_,_,_,_,_,_,_,_,_,⟨_,_,_,_,_,_,_,_,_,_,⟨g',t',cs,fuel,p,q,hg',ht',hvar,hd,_,_⟩,_⟩,_⟩,_⟩:=h'
 obtain rfl:=Option.some.inj (zSg.symm.trans hg')
 obtain rfl:=Option.some.inj (zNv.symm.trans ht')
 unfold Tab Lib.TabIs
 rw[hvar,←Lib.cells_of_tab Tryz.underlying195 Tryz.underlying170 (by kernel_rfl) (by kernel_rfl) hd]
section
variable {H:Type} {enc:TypeId×Value→H} {W:World} {base:Nat}
theorem Tryz.laidOut:laidOutB Tryz.prog=true:=by kernel_rfl
theorem zFV {W':World} {sp':Nat→Bool}:∀{ts:List TypeId} {vs:List Value} {ds:List (DataW H)} {ps:List MemPlace},(∀t∈ts,Tryz.prog.readableRec t=true∧t < Tryz.prog.types.size)→
 DataW.TrodAll enc Tryz.prog W 0 (fun _=>true) true ts vs ds ps→Below W.heap.size W W'→(∀x∈ps,x.block < W.heap.size)→(∀p∈ps,sp' p.block=true)→DataW.TrodAll enc Tryz.prog W' 0 sp' true ts vs ds ps:=by
 intro ts
 induction ts with
 | nil=>
  intro vs ds ps _ h _ _ _
  obtain⟨rfl,rfl,rfl⟩:=trodAll_nil h
  exact trodAll_mk0
 | cons t ts ih=>
  intro vs ds ps hr h hb hlt hs
  obtain⟨v,vs',d,ds',p,q,rfl,rfl,rfl,h0,r0⟩:=trodAll_cons h
  have ht:=hr t (by simp)
  exact trodAll_cons_mk (WideElems.Trod_stays Tryz.laidOut ht.1 ht.2 h0 (fun x hx=>hb.same (hlt x (by simp[hx]))) (fun x hx=>hs x (by simp[hx])))
   (ih (fun t' h'=>hr t' (by simp[h'])) r0 hb (fun x hx=>hlt x (by simp[hx])) (fun x hx=>hs x (by simp[hx])))
theorem zFW {P:Program} {f:Func} {s:ChangeSpec} {apart fresh handsOn again:Bool} {W W':World} {args:Array Value} {v:Value} {ds gs:List (DataW H)} {before pa pv:List MemPlace}
 (hW:DataW.Whole enc P f.params.toList s.vars apart W args.toList ds gs before)
 (hres:∀(b:Nat) (sp:Nat→Bool) (hd:Bool),DataW.TrodAll enc P W' b sp hd f.resultTypes.toList (v.resultList f.resultTypes.size) (s.fn H (ds++gs)).results [])
 (hargs:∀sp:Nat→Bool,(∀p∈before,sp p.block=true)→DataW.TrodAll enc P W' 0 sp true f.params.toList args.toList (s.fn H (ds++gs)).args pa)
 (hvars:∀sp:Nat→Bool,(∀p∈before,sp p.block=true)→DataW.TrodVars enc P W' sp s.vars (s.fn H (ds++gs)).vars pv)
 (hps:before=pa++pv) (hb:Below W.heap.size W W')
 (hok:∀(j:Nat) (t:TypeId) (r:Value),f.resultTypes[j]? =some t→(v.resultList f.resultTypes.size)[j]? =some r→Value.okWide P W' .any 0 t r):
 s.post enc P f apart fresh handsOn again W args v W':=by
 have hlt:∀p∈before,p.block < W.heap.size:=fun p hp=>hW.lt p hp
 have hold:∀p∈before,(fun b=>decide (b < W.heap.size)) p.block=true:=fun p hp=>by simpa using hlt p hp
 refine⟨ds,gs,before,[],pa,pv,hW,hres _ _ _,hargs _ hold,hvars _ hold,World.keptBut_mono (fun p hp=>⟨hp,?_⟩) (hb.frame (·∈before)),fun _=>?_⟩
 · rw[hps,List.mem_append]at hp
   exact Or.inr hp
 · obtain⟨_,_,_,_,_,hz,hn⟩:=hW
   refine⟨hok,_,_,([]++pa)++pv,⟨[]++pa,pv,trodAll_append (hargs _ (fun _ _=>rfl)) (hres _ _ _),hvars _ (fun _ _=>rfl),rfl,?_,?_⟩,?_⟩
   · intro b off hp
     have hin:MemPlace.cell b off∈before:=by rw[hps];simpa using hp
     rw[hb.frozen (hlt _ hin)]
     exact hz b off hin
   · intro ha
     have:=hn ha
     rw[hps]at this
     simpa using this
   · intro p hp _
     rw[hps]
     simpa using hp
end
def zQO:DataW Unit→List Int
 | .agg l=>l.map fun d=>match d with | .lit (.int _ z)=>z | _=>0
 | _=>[]
def zNx (h:Array Obj):Array Obj:=
 ((h.modify 3 fun
  | .cells _ t frozen=>.cells (Lib.pow10Tab.map fun z=>Value.int .u64 z).toArray t frozen
  | o=>o).modify 4 fun
  | .cells _ t frozen=>.cells ((zQO Rows.laid_math_bits_deBruijn32tab).map fun z=>Value.int .u8 z).toArray t frozen
  | o=>o).modify 5 fun
  | .cells _ t frozen=>.cells ((zQO Rows.laid_math_bits_deBruijn64tab).map fun z=>Value.int .u8 z).toArray t frozen
  | o=>o
noncomputable def zEH (os:Os):World:=
 let w:=World.holding Tryz.prog os ⟨#[],#[],[]⟩
 {w with heap:=zNx w.heap}
open Go.ChangeShapes Go.WideShapes Go.ChangeAt Go.RowKit Go.Lib
theorem zQb:Tryz.prog.cellsOf 24=1:=by kernel_rfl
section
variable {H:Type} {enc:TypeId×Value→H} {W:World} {base:Nat}
theorem zF1 {v:Value} {d:DataW H} {p:List MemPlace} (hv:Value.okWide Tryz.prog W .any base 22 v) (h:DataW.Trod enc Tryz.prog W 0 (fun _=>true) true 22 v d p):
 ∃A c xs,v=.slice A (xs:List UInt16).length c∧xs.length≤c∧c≤maxLen∧Reads W W.heap.size 1 A xs.length (zAH xs):=by
 obtain⟨a0,len,cap,rfl⟩:=okWide_slice Tryz.underlying22 hv
 obtain⟨fuel,hf⟩:=h
 rcases open_ints Tryz.underlying22 Tryz.underlying24 zQb hf with⟨hcs,_⟩ | ⟨a,len',cap',zs,hcs,_,hl,hm,hz,_,hcell,hwf⟩
 · simp only[Value.cells,List.cons.injEq,and_true,Value.slice.injEq]at hcs
   obtain⟨rfl,rfl,rfl⟩:=hcs
   exact⟨none,0,[],rfl,Nat.le_refl _,Nat.zero_le _,Reads.none_⟩
 · simp only[Value.cells,List.cons.injEq,and_true,Value.slice.injEq]at hcs
   obtain⟨rfl,rfl,rfl⟩:=hcs
   simp only[if_true]at hz
   have hlen:((zs.take len).map fun n=>UInt16.ofNat n.toNat).length=len:=by simp;omega
   refine⟨some a,cap,(zs.take len).map fun n=>UInt16.ofNat n.toNat,by rw[hlen],by rw[hlen];exact hl,hm,?_⟩
   refine⟨by rw[zBj];omega,fun hn=>⟨a,rfl,?_,fun j u hu=>?_⟩⟩
   · have h0:=hcell 0 (by omega)
     have:=World.block_lt_of_cell? W _ h0
     rwa [zCY]at this
   · have hj:j < len:=by
      have:=(List.getElem?_eq_some_iff.1 hu).1
      rw[zBj,hlen]at this
      exact this
     rw[hcell j (by omega)]
     have hzj:j < zs.length:=by omega
     have hw:=hwf zs[j] (List.getElem_mem _)
     have hw:=bounds_u16 hw
     rw[←hu]
     simp only[zAH,List.getElem?_map,List.getElem?_take,hj,if_true,List.getElem?_eq_getElem hzj,Option.map_some,zRj,List.getD_eq_getElem?_getD,Option.getD_some]
     congr 2
     simp
     omega
end
open Go.ChangeShapes Go.WideShapes Go.ChangeAt Go.RowKit
def zAv:List Nat→List Nat
 | []=>[]
 | x::r=>if zAv r=[]∧x=0 then []else x::zAv r
theorem zIQ (l:List Nat):zAv (l++[0])=zAv l:=by
 induction l with
 | nil=>rfl
 | cons x r ih=>rw[List.cons_append,zAv,zAv,ih]
theorem zIR {x:Nat} (h:x≠0) (l:List Nat):zAv (l++[x])=l++[x]:=by
 induction l with
 | nil=>simp[zAv,h]
 | cons y r ih=>rw[List.cons_append,zAv,ih,if_neg (by simp)]
theorem zE3 (l:List Nat):zAv l=l.take (zAv l).length:=by
 induction l with
 | nil=>rfl
 | cons x r ih=>
  by_cases h:zAv r=[]∧x=0
  · simp[zAv,h]
  · rw[zAv,if_neg h,List.length_cons,List.take_succ_cons,←ih]
theorem zK7 (l:List Nat):(zAv l).length≤l.length:=by
 have:=congrArg List.length (zE3 l)
 rw[List.length_take]at this
 omega
def zDE:List Nat→Nat
 | []=>0
 | x::r=>x+4294967296*zDE r
theorem zNy (l r:List Nat):zDE (l++r)=zDE l+4294967296^l.length*zDE r:=by
 induction l with
 | nil=>simp[zDE]
 | cons x l ih=>
  rw[List.cons_append,zDE,zDE,ih,List.length_cons,Nat.pow_succ,Nat.mul_add,Nat.mul_comm (4294967296^l.length) 4294967296,Nat.mul_assoc]
  omega
theorem zF2 {l:List Nat}:zAv l=[]↔zDE l=0:=by
 induction l with
 | nil=>simp[zAv,zDE]
 | cons x r ih=>
  rw[zAv,zDE]
  by_cases h:zAv r=[]∧x=0
  · rw[if_pos h]
    have:=ih.1 h.1
    simp[this,h.2]
  · rw[if_neg h]
    constructor
    · intro h2;cases h2
    · intro h2
      exact absurd ⟨ih.2 (by omega),by omega⟩ h
theorem zD0:∀(f:Nat) (l:List Nat),l.length≤f→(∀x∈l,x < 4294967296)→zAv l=zAn f (zDE l):=by
 intro f
 induction f with
 | zero=>
  intro l hl _
  have:l=[]:=List.eq_nil_of_length_eq_zero (by omega)
  subst this;rfl
 | succ f ih=>
  intro l hl hx
  cases l with
  | nil=>rfl
  | cons x r=>
   have h1:=hx x (by simp)
   have h2:=ih r (by simp at hl;omega) (fun y hy=>hx y (by simp[hy]))
   rw[zAn,zAv]
   by_cases h:zAv r=[]∧x=0
   · rw[if_pos h,if_pos (by rw[zDE,zF2.1 h.1,h.2])]
   · have hv:zDE (x::r)≠0:=fun h3=>h (by
      rw[zDE]at h3
      exact⟨zF2.2 (by omega),by omega⟩)
     rw[if_neg h,if_neg hv,zDE,h2]
     congr 1
     · omega
     · congr 1;omega
theorem zK8:∀(k f v:Nat),v < 4294967296^k→(zAn f v).length≤k:=by
 intro k
 induction k with
 | zero=>
  intro f v hv
  have:v=0:=by simpa using hv
  subst this
  cases f<;>simp[zAn]
 | succ k ih=>
  intro f v hv
  cases f with
  | zero=>simp[zAn]
  | succ f=>
   rw[zAn]
   by_cases h:v=0
   · rw[if_pos h];simp
   · rw[if_neg h,List.length_cons]
     have:=ih f (v / 4294967296) (Nat.div_lt_of_lt_mul (by rw[Nat.pow_succ,Nat.mul_comm]at hv;exact hv))
     omega
theorem zK9:∀(k f v:Nat),k < f→4294967296^k≤v→k < (zAn f v).length:=by
 intro k
 induction k with
 | zero=>
  intro f v hf hv
  obtain⟨f,rfl⟩:∃m,f=m+1:=⟨f - 1,by omega⟩
  have hv1:1≤v:=hv
  rw[zAn,if_neg (by omega)];simp
 | succ k ih=>
  intro f v hf hv
  obtain⟨f,rfl⟩:∃m,f=m+1:=⟨f - 1,by omega⟩
  have h1:4294967296^k≤v / 4294967296:=(Nat.le_div_iff_mul_le (by omega)).2 (by rw[←Nat.pow_succ];exact hv)
  have h2:0 < 4294967296^k:=Nat.pow_pos (by omega)
  rw[zAn,if_neg (by intro h;subst h;simp at h1),List.length_cons]
  have:=ih f _ (by omega) h1
  omega
theorem zLA:∀(f v:Nat),∀x∈zAn f v,x < 4294967296:=by
 intro f
 induction f with
 | zero=>intro v x hx;simp[zAn]at hx
 | succ f ih=>
  intro v x hx
  rw[zAn]at hx
  split at hx
  · simp at hx
  · rcases List.mem_cons.1 hx with h | h
    · rw[h];exact Nat.mod_lt _ (by omega)
    · exact ih _ x h
theorem zE4:∀(f v:Nat),v < 4294967296^f→zDE (zAn f v)=v:=by
 intro f
 induction f with
 | zero=>intro v hv;simp at hv;subst hv;rfl
 | succ f ih=>
  intro v hv
  rw[zAn]
  by_cases h:v=0
  · rw[if_pos h,h];rfl
  · rw[if_neg h,zDE,ih _ (Nat.div_lt_of_lt_mul (by rw[Nat.pow_succ,Nat.mul_comm]at hv;exact hv))]
    exact Nat.mod_add_div _ _
def zBt:List Nat→Nat→List Nat×Nat
 | [],c=>([],c)
 | x::r,c=>((c+10*x) % 4294967296::(zBt r ((c+10*x) / 4294967296)).1,(zBt r ((c+10*x) / 4294967296)).2)
theorem zF3:∀(l:List Nat) (c:Nat),(zBt l c).1.length=l.length:=by
 intro l
 induction l with
 | nil=>intro c;rfl
 | cons x r ih=>intro c;simp[zBt,ih]
theorem zNz:∀(l:List Nat) (c:Nat),∀x∈(zBt l c).1,x < 4294967296:=by
 intro l
 induction l with
 | nil=>intro c x hx;simp[zBt]at hx
 | cons y r ih=>
  intro c x hx
  rw[zBt]at hx
  rcases List.mem_cons.1 hx with h | h
  · rw[h];exact Nat.mod_lt _ (by omega)
  · exact ih _ x h
theorem zLB:∀(l:List Nat) (c:Nat),zDE (zBt l c).1+4294967296^l.length*(zBt l c).2=10*zDE l+c:=by
 intro l
 induction l with
 | nil=>intro c;simp[zBt,zDE]
 | cons x r ih=>
  intro c
  have h:=ih ((c+10*x) / 4294967296)
  have h2:=Nat.mod_add_div (c+10*x) 4294967296
  simp only[zBt,zDE,List.length_cons]
  rw[Nat.pow_succ,Nat.mul_comm (4294967296^r.length) 4294967296,Nat.mul_assoc]
  omega
theorem zG0:∀(l:List Nat) (c:Nat),c≤9→(∀x∈l,x < 4294967296)→(zBt l c).2≤9:=by
 intro l
 induction l with
 | nil=>intro c hc _;exact hc
 | cons x r ih=>
  intro c hc hx
  have:=hx x (by simp)
  exact ih _ (by omega) (fun y hy=>hx y (by simp[hy]))
theorem zN0:zEl=4294967296^8:=rfl
theorem zDP {v:Nat} (h:v < zEl):(zA7 v).length≤8:=zK8 8 9 v h
theorem zN1 {v:Nat} (h:zEl≤v):8 < (zA7 v).length:=zK9 8 9 v (by omega) h
theorem zD4 (v:Nat):∀x∈zA7 v,x < 4294967296:=zLA 9 v
theorem zRq {v:Nat} (h:v < zEl):v < 4294967296^9:=Nat.lt_of_lt_of_le h (by rw[zN0];exact Nat.pow_le_pow_right (by omega) (by omega))
theorem zIS {v d:Nat} (h:v < zEl) (hd:d≤9):zAv ((zBt (zA7 v) d).1++[(zBt (zA7 v) d).2])=zA7 (10*v+d):=by
 have hc:=zG0 (zA7 v) d hd (zD4 v)
 have hv:=zLB (zA7 v) d
 have h1:zDE (zA7 v)=v:=zE4 9 v (zRq h)
 rw[zD0 9 _ (by rw[List.length_append,zF3];have:=zDP h;simp;omega) (by
  intro x hx
  rcases List.mem_append.1 hx with h2 | h2
  · exact zNz _ _ x h2
  · simp at h2;omega)]
 rw[zNy,zF3,show zDE [(zBt (zA7 v) d).2]=(zBt (zA7 v) d).2 by simp[zDE],hv,h1]
 rfl
theorem zIT {v:Nat} (h:v < zEl):zAv (zA7 v)=zA7 v:=by
 rw[zD0 9 _ (by have:=zDP h;omega) (zD4 v),show zDE (zA7 v)=v from zE4 9 v (zRq h)]
 rfl
end Go.Proofs.YtlohaclgbfhijaaGreatDoor
