/- Joined for the claim ParseEnds: the parser, the lexer and the trees as they are walked, made short by a program of mine. -/
import Derived.Deep.AppendLies
import Derived.Test.YtlohaclgbfhijaaGreatDoorS01
import Derived.Test.YtlohaclgbfhijaaGreatDoorS02
import Derived.Test.YtlohaclgbfhijaaGreatDoorS03
set_option maxHeartbeats 16000000
set_option maxRecDepth 1000000
namespace Go.Proofs.YtlohaclgbfhijaaGreatDoor
open Go.RowKit
def zQr (x:Nd) (vs vm vo:Value):List Value:=[.int .i64 x.kind,.string ⟨x.name.toArray⟩,vs,.int .i64 x.nk,.int .i64 x.nn,.bool x.neg,vm,.slice none 0 0,vo]
mutual
def TrC (w:World) (F:Nat→Prop):Tr→List Value→Prop
 | .mk x l,cs=>∃vs vm vo ks,cs=zQr x vs vm vo∧x.kids=[]∧w.ownsRow 0 24 1 vs x.str.length (zAH x.str)∧w.ownsRow 0 87 1 vm x.mag.length (zBv x.mag)∧w.ownsRow 0 72 9 vo l.length ks∧(∀b,vo.ownBlock=some b→F b)∧TrsC w F l ks
def TrsC (w:World) (F:Nat→Prop):List Tr→List Value→Prop
 | [],cs=>cs=[]
 | t::r,cs=>∃c0 rest,cs=c0++rest∧TrC w F t c0∧TrsC w F r rest
end
theorem zC8 {w:World} {F:Nat→Prop} {x:Nd} {l:List Tr} {cs:List Value}:TrC w F (.mk x l) cs↔∃vs vm vo ks,cs=zQr x vs vm vo∧x.kids=[]∧w.ownsRow 0 24 1 vs x.str.length (zAH x.str)∧w.ownsRow 0 87 1 vm x.mag.length (zBv x.mag)∧w.ownsRow 0 72 9 vo l.length ks∧(∀b,vo.ownBlock=some b→F b)∧TrsC w F l ks:=by rw[TrC]
theorem zBw {w:World} {F:Nat→Prop} {cs:List Value}:TrsC w F [] cs↔cs=[]:=by rw[TrsC]
theorem zBM {w:World} {F:Nat→Prop} {t:Tr} {r:List Tr} {cs:List Value}:TrsC w F (t::r) cs↔∃c0 rest,cs=c0++rest∧TrC w F t c0∧TrsC w F r rest:=by rw[TrsC]
def Bx (w:World) (R:Nat) (T:TypeId) (cs:List Value):Prop:=w.heap[R]? =some (.cells cs.toArray T (0,0))
def Fz (w:World) (P:Nat→Prop) (r:Option Nat):Prop:=∀b,r=some b→¬P b∧∃cur T,w.heap[b]? =some (.cells cur T (0,0))∧T≠24∧T≠87
section
variable {w w':World} {P Q F G:Nat→Prop} {r:Option Nat} {R:Nat} {T:TypeId} {cs:List Value}
theorem Bx.lt (h:Bx w R T cs):R < w.heap.size:=by
 rcases Nat.lt_or_ge R w.heap.size with h1 | h1
 · exact h1
 · unfold Bx at h
   rw[Array.getElem?_eq_none h1]at h
   cases h
theorem Bx.cell (h:Bx w R T cs) (j:Nat):w.cell? ⟨R,j,none⟩=cs[j]? :=by
 unfold World.cell?
 have h':w.heap[(⟨R,j,none⟩:Addr).block]? =_:=h
 rw[h']
 simp
theorem Bx.frozen (h:Bx w R T cs) (j:Nat):w.frozen? ⟨R,j,none⟩=false:=by
 unfold World.frozen?
 have h':w.heap[(⟨R,j,none⟩:Addr).block]? =_:=h
 rw[h']
 simp
theorem Bx.new (w:World) (cs:List Value) (T:TypeId):Bx (w.alloc (.cells cs.toArray T)) w.heap.size T cs:=by
 unfold Bx World.alloc
 simp
theorem Bx.grown (h:Bx w R T cs) (hg:w.grownBy w' r) (hr:r≠some R):Bx w' R T cs:=(hg.block R h.lt (fun e=>hr e.symm)).trans h
theorem Bx.alloc (h:Bx w R T cs) (o:Obj):Bx (w.alloc o) R T cs:=h.grown (zL w o none) (by simp)
theorem Bx.set (h:Bx w R T cs) (j:Nat) (v:Value):Bx (w.setCell ⟨R,j,none⟩ v) R T (cs.set j v):=by
 unfold Bx at h⊢
 unfold World.setCell
 show(w.heap.modify R _)[R]? =_
 rw[Array.getElem?_modify,if_pos rfl,h]
 simp
theorem Fz.none_ (w:World) (P:Nat→Prop):Fz w P none:=fun b h=>by cases h
theorem Fz.box (h:Bx w R T cs) (h1:T≠24) (h2:T≠87) (hP:¬P R):Fz w P (some R):=fun b e=>by
 injection e with e
 subst e
 exact⟨hP,_,_,h,h1,h2⟩
theorem Fz.own {base n:Nat} {v:Value} {xs:List Value} (h:w.ownsRow base 72 9 v n xs) (hP:∀b,v.ownBlock=some b→¬P b):Fz w P v.ownBlock:=fun b e=>by
 refine⟨hP b e,?_⟩
 rcases h.2 with⟨rfl,_⟩ | ⟨g,cap,cur,rfl,_,hg,_⟩
 · cases e
 · simp only[Value.ownBlock,Option.some.injEq]at e
   subst e
   exact⟨cur,_,hg,by decide,by decide⟩
theorem zA8 {base n s:Nat} {e:TypeId} {v:Value} {xs:List Value} (h:w.ownsRow base e s v n xs) {b:Nat} (hb:v.ownBlock=some b):∃cur,w.heap[b]? =some (.cells cur e (0,0)):=by
 rcases h.2 with⟨rfl,_⟩ | ⟨g,cap,cur,rfl,_,hg,_⟩
 · cases hb
 · simp only[Value.ownBlock,Option.some.injEq]at hb
   subst hb
   exact⟨cur,hg⟩
theorem zBa {base n:Nat} {e:TypeId} {v:Value} {xs:List Value} (h:w.ownsRow base e 1 v n xs) (he:e=24∨e=87) (hg:w.grownBy w' r) (hz:Fz w P r):w'.ownsRow base e 1 v n xs:=by
 refine h.kept hg ?_
 cases hb:v.ownBlock with
 | none=>exact .inl rfl
 | some b=>
  right
  intro e2
  obtain⟨_,cur,T,h1,h2,h3⟩:=hz b e2.symm
  obtain⟨cur2,h4⟩:=zA8 h hb
  rw[h1]at h4
  injection h4 with h4
  injection h4 with _ h5 _
  subst h5
  rcases he with he | he
  · exact h2 he
  · exact h3 he
theorem zHm {base n s:Nat} {e:TypeId} {v:Value} {xs:List Value} (h:w.ownsRow base e s v n xs) (hF:∀b,v.ownBlock=some b→P b) (hg:w.grownBy w' r) (hz:Fz w P r):w'.ownsRow base e s v n xs:=by
 refine h.kept hg ?_
 cases hb:v.ownBlock with
 | none=>exact .inl rfl
 | some b=>exact .inr (fun e2=>(hz b e2.symm).1 (hF b hb))
mutual
theorem TrC.keep {w w':World} {P:Nat→Prop} {r:Option Nat} (hg:w.grownBy w' r) (hz:Fz w P r) (t:Tr) (cs:List Value) (h:TrC w P t cs):TrC w' P t cs:=by
 cases t with
 | mk x l=>
  rw[zC8]at h⊢
  obtain⟨vs,vm,vo,ks,h1,h2,h3,h4,h5,h6,h7⟩:=h
  exact⟨vs,vm,vo,ks,h1,h2,zBa h3 (.inl rfl) hg hz,zBa h4 (.inr rfl) hg hz,zHm h5 h6 hg hz,h6,TrsC.keep hg hz l ks h7⟩
theorem TrsC.keep {w w':World} {P:Nat→Prop} {r:Option Nat} (hg:w.grownBy w' r) (hz:Fz w P r) (l:List Tr) (cs:List Value) (h:TrsC w P l cs):TrsC w' P l cs:=by
 cases l with
 | nil=>rw[zBw]at h⊢;exact h
 | cons t q=>
  rw[zBM]at h⊢
  obtain⟨c0,rest,h1,h2,h3⟩:=h
  exact⟨c0,rest,h1,TrC.keep hg hz t c0 h2,TrsC.keep hg hz q rest h3⟩
end
mutual
theorem TrC.sub {w:World} {P Q:Nat→Prop} (hs:∀b,P b→b < w.heap.size→Q b) (t:Tr) (cs:List Value) (h:TrC w P t cs):TrC w Q t cs:=by
 cases t with
 | mk x l=>
  rw[zC8]at h⊢
  obtain⟨vs,vm,vo,ks,h1,h2,h3,h4,h5,h6,h7⟩:=h
  exact⟨vs,vm,vo,ks,h1,h2,h3,h4,h5,fun b hb=>hs b (h6 b hb) (h5.lt b hb).2,TrsC.sub hs l ks h7⟩
theorem TrsC.sub {w:World} {P Q:Nat→Prop} (hs:∀b,P b→b < w.heap.size→Q b) (l:List Tr) (cs:List Value) (h:TrsC w P l cs):TrsC w Q l cs:=by
 cases l with
 | nil=>rw[zBw]at h⊢;exact h
 | cons t q=>
  rw[zBM]at h⊢
  obtain⟨c0,rest,h1,h2,h3⟩:=h
  exact⟨c0,rest,h1,TrC.sub hs t c0 h2,TrsC.sub hs q rest h3⟩
end
theorem TrC.len {t:Tr} (h:TrC w F t cs):cs.length=9:=by
 cases t with
 | mk x l=>
  rw[zC8]at h
  obtain⟨vs,vm,vo,ks,rfl,_⟩:=h
  rfl
theorem TrC.one {t:Tr} (h:TrC w F t cs):(cs.all fun u=>u.oneCell')=true:=by
 cases t with
 | mk x l=>
  rw[zC8]at h
  obtain⟨vs,vm,vo,ks,rfl,_,h3,h4,h5,_⟩:=h
  obtain⟨_,_,rfl,_⟩:=zb h3
  obtain⟨_,_,rfl,_⟩:=zb h4
  obtain⟨_,_,rfl,_⟩:=zb h5
  rfl
end
section
variable {w w':World} {P Q F G:Nat→Prop} {r:Option Nat}
theorem TrsC.len:∀{l:List Tr} {cs:List Value},TrsC w F l cs→cs.length=l.length*9:=by
 intro l
 induction l with
 | nil=>intro cs h;rw[zBw]at h;rw[h];rfl
 | cons t r ih=>
  intro cs h
  rw[zBM]at h
  obtain⟨c0,rest,rfl,h1,h2⟩:=h
  rw[List.length_append,h1.len,ih h2,List.length_cons]
  omega
theorem TrsC.one:∀{l:List Tr} {cs:List Value},TrsC w F l cs→(cs.all fun u=>u.oneCell')=true:=by
 intro l
 induction l with
 | nil=>intro cs h;rw[zBw]at h;rw[h];rfl
 | cons t r ih=>
  intro cs h
  rw[zBM]at h
  obtain⟨c0,rest,rfl,h1,h2⟩:=h
  rw[List.all_append,h1.one,ih h2]
  rfl
theorem TrsC.app:∀{l r:List Tr} {cs ds:List Value},TrsC w F l cs→TrsC w F r ds→TrsC w F (l++r) (cs++ds):=by
 intro l
 induction l with
 | nil=>intro r cs ds h h2;rw[zBw]at h;subst h;exact h2
 | cons t l ih=>
  intro r cs ds h h2
  rw[zBM]at h
  obtain⟨c0,rest,rfl,h3,h4⟩:=h
  rw[List.cons_append,zBM]
  exact⟨c0,rest++ds,by rw[List.append_assoc],h3,ih h4 h2⟩
theorem TrsC.cons {t:Tr} {l:List Tr} {c cs:List Value} (h:TrC w F t c) (h2:TrsC w F l cs):TrsC w F (t::l) (c++cs):=by
 rw[zBM]
 exact⟨c,cs,rfl,h,h2⟩
theorem TrsC.nil (w:World) (F:Nat→Prop):TrsC w F [] []:=by rw[zBw]
theorem TrsC.single {t:Tr} {c:List Value} (h:TrC w F t c):TrsC w F [t] c:=by
 have:=TrsC.cons h (.nil w F)
 rwa [List.append_nil]at this
theorem TrsC.snoc {l:List Tr} {t:Tr} {cs c:List Value} (h:TrsC w F l cs) (h2:TrC w F t c):TrsC w F (l++[t]) (cs++c):=h.app (.single h2)
structure RowK (w:World) (P:Nat→Prop) (v:Value) (l:List Tr) (ks:List Value) (F:Nat→Prop):Prop where
 own:w.ownsRow 0 72 9 v l.length ks
 blk:∀b,v.ownBlock=some b→P b
 subs:TrsC w F l ks
 off:∀b,v.ownBlock=some b→¬F b
 low:∀b,F b→P b∧b < w.heap.size
def RowP (w:World) (P:Nat→Prop) (v:Value) (l:List Tr):Prop:=∃ks F,RowK w P v l ks F
theorem RowP.nil (w:World) (P:Nat→Prop):RowP w P (.slice none 0 0) []:=⟨[],fun _=>False,World.ownsRow_nil _ _ _ _,(fun _ h=>by cases h),.nil _ _,(fun _ h=>by cases h),fun _ h=>h.elim⟩
theorem Fz.less (h:Fz w P r) (hs:∀b,F b→P b):Fz w F r:=fun b e=>⟨fun hb=>(h b e).1 (hs b hb),(h b e).2⟩
theorem RowK.keep {v:Value} {l:List Tr} {ks:List Value} (h:RowK w P v l ks F) (hg:w.grownBy w' r) (hz:Fz w P r):RowK w' P v l ks F:=
 ⟨zHm h.own h.blk hg hz,h.blk,.keep hg (hz.less fun b hb=>(h.low b hb).1) l ks h.subs,h.off,fun b hb=>⟨(h.low b hb).1,Nat.lt_of_lt_of_le (h.low b hb).2 hg.size⟩⟩
theorem RowP.keep {v:Value} {l:List Tr} (h:RowP w P v l) (hg:w.grownBy w' r) (hz:Fz w P r):RowP w' P v l:=by
 obtain⟨ks,F,h⟩:=h
 exact⟨ks,F,h.keep hg hz⟩
theorem RowP.new {v:Value} {l:List Tr} (h:RowP w P v l) (hg:w.grownBy w' none):RowP w' P v l:=h.keep hg (.none_ w P)
theorem RowP.sub {v:Value} {l:List Tr} (h:RowP w P v l) (hs:∀b,P b→b < w.heap.size→Q b):RowP w Q v l:=by
 obtain⟨ks,F,h⟩:=h
 exact⟨ks,F,h.own,fun b hb=>hs b (h.blk b hb) (h.own.lt b hb).2,h.subs,h.off,fun b hb=>⟨hs b (h.low b hb).1 (h.low b hb).2,(h.low b hb).2⟩⟩
theorem RowP.shape {v:Value} {l:List Tr} (h:RowP w P v l):∃A c,v=.slice A l.length c∧l.length≤c∧c≤maxLen:=by
 obtain⟨ks,F,h⟩:=h
 exact zb h.own
theorem RowP.tree {x:Nd} {l:List Tr} {v vs vm:Value} (h:RowP w P v l) (hk:x.kids=[]) (h1:w.ownsRow 0 24 1 vs x.str.length (zAH x.str)) (h2:w.ownsRow 0 87 1 vm x.mag.length (zBv x.mag)):TrC w P (.mk x l) (zQr x vs vm v):=by
 obtain⟨ks,F,h⟩:=h
 rw[zC8]
 exact⟨vs,vm,v,ks,rfl,hk,h1,h2,h.own,h.blk,.sub (fun b hb _=>(h.low b hb).1) l ks h.subs⟩
def zSk (k:Int) (n:List UInt8) (v:Value):List Value:=[.int .i64 k,.string ⟨n.toArray⟩,.slice none 0 0,.int .i64 0,.int .i64 0,.bool false,.slice none 0 0,.slice none 0 0,v]
theorem RowP.treeN {k:Int} {n:List UInt8} {l:List Tr} {v:Value} (h:RowP w P v l):TrC w P (trN k n l) (zSk k n v):=h.tree (x:={zB3 with kind:=k,name:=n}) rfl (World.ownsRow_nil _ _ _ _) (World.ownsRow_nil _ _ _ _)
theorem RowP.treeK {k:Int} {l:List Tr} {v:Value} (h:RowP w P v l):TrC w P (trK k l) (zSk k [] v):=h.tree (x:={zB3 with kind:=k}) rfl (World.ownsRow_nil _ _ _ _) (World.ownsRow_nil _ _ _ _)
theorem RowK.snoc {w1:World} {v v':Value} {l:List Tr} {ks:List Value} {t:Tr} {c:List Value} (h:RowK w1 P v l ks F) (ht:TrC w1 Q t c) (hQ:∀b,Q b→b < w1.heap.size→P b) (hQv:∀b,v.ownBlock=some b→¬Q b) (hP:P w1.heap.size)
 (ho:w'.ownsRow 0 72 9 v' (l.length+1) (ks++c)) (hg:w1.grownBy w' v.ownBlock) (hw:v'.ownBlock=v.ownBlock∨v'.ownBlock=some w1.heap.size):RowP w' P v' (l++[t]):=by
 have hsz:=hg.size
 refine⟨ks++c,fun b=>F b∨(Q b∧b < w1.heap.size),by rw[List.length_append];exact ho,?_,?_,?_,?_⟩
 · intro b hb
   rcases hw with e | e
   · rw[e]at hb;exact h.blk b hb
   · rw[e]at hb;injection hb with hb;subst hb;exact hP
 · refine .snoc (.sub (fun b hb _=>.inl hb) l ks (.keep hg (.own h.own h.off) l ks h.subs)) ?_
   have h1:TrC w1 (fun b=>Q b∧b < w1.heap.size) t c:=.sub (fun b hb hl=>⟨hb,hl⟩) t c ht
   exact .sub (fun b hb _=>.inr hb) t c (.keep hg (.own h.own fun b hb h2=>hQv b hb h2.1) t c h1)
 · intro b hb h2
   rcases hw with e | e
   · rw[e]at hb
     rcases h2 with h2 | h2
     · exact h.off b hb h2
     · exact hQv b hb h2.1
   · rw[e]at hb
     injection hb with hb
     subst hb
     rcases h2 with h2 | h2
     · have:=(h.low _ h2).2;omega
     · omega
 · intro b hb
   rcases hb with hb | hb
   · exact⟨(h.low b hb).1,Nat.lt_of_lt_of_le (h.low b hb).2 hsz⟩
   · exact⟨hQ b hb.1 hb.2,by omega⟩
theorem RowP.lit {l:List Tr} {cs:List Value} {n:Nat} (hn:n=l.length) (h:TrsC w P l cs) (hP:P w.heap.size) (hl:l.length≤maxLen):RowP (w.alloc (.cells cs.toArray 72)) P (.slice (some ⟨w.heap.size,0,none⟩) n n) l:=by
 subst hn
 have hb:=Bx.new w cs 72
 have h2:TrsC w (fun b=>P b∧b < w.heap.size) l cs:=.sub (fun b hb hl=>⟨hb,hl⟩) l cs h
 have h3:=TrsC.keep (zL w (.cells cs.toArray 72) none) (.none_ w _) l cs h2
 refine⟨cs,_,⟨h.len,.inr ⟨w.heap.size,l.length,cs.toArray,rfl,Nat.zero_le _,hb,Nat.le_refl _,hl,?_,?_⟩⟩,?_,h3,?_,?_⟩
 · simp[h.len]
 · rw[←h.len];simp
 · intro b e
   simp only[Value.ownBlock,Option.some.injEq]at e
   subst e;exact hP
 · intro b e h4
   simp only[Value.ownBlock,Option.some.injEq]at e
   subst e;omega
 · intro b h4
   exact⟨h4.1,by simp;omega⟩
end
theorem zB9 (x:UInt16) (w:World):Calls Tryz.prog 156 #[.int .u16 (x.toNat:Int)] w fun e w'=>e=.returned (.bool (zQ x))∧w=w':=by
 have h1:=x.toNat_lt
 go_enter Tryz.func156,Tryz.ntmps156
 go_wp2
 all_goals go_ret
 all_goals refine⟨zf ?_,rfl⟩
 all_goals (rw[Bool.eq_iff_iff];simp only[zQ,Bool.and_eq_true,decide_eq_true_eq,Bool.false_eq_true,false_iff];omega)
theorem zDV (x:UInt16) (w:World):Calls Tryz.prog 151 #[.int .u16 (x.toNat:Int)] w fun e w'=>e=.returned (.bool (zAX x))∧w=w':=by
 have h1:=x.toNat_lt
 go_enter Tryz.func151,Tryz.ntmps151
 go_wp2
 all_goals go_ret
 all_goals refine⟨zf ?_,rfl⟩
 all_goals (rw[Bool.eq_iff_iff];simp[zAX];omega)
theorem zQs (w:World):Calls Tryz.prog 158 #[.agg #[.int .i64 2,.int .i64 0]] w fun e w'=>e=.returned (.agg #[.int .i64 2,.int .i64 0])∧Below w.heap.size w w':=by
 go_enter Tryz.func158,Tryz.ntmps158
 go_wp2
 go_returns
 exact⟨rfl,by go_grown⟩
theorem zQt (w:World):Calls Tryz.prog 158 #[.agg #[.int .i64 3,.int .i64 0]] w fun e w'=>e=.returned (.agg #[.int .i64 4,.int .i64 0])∧Below w.heap.size w w':=by
 go_enter Tryz.func158,Tryz.ntmps158
 go_wp2
 go_returns
 exact⟨rfl,by go_grown⟩
theorem zIc (w:World):Calls Tryz.prog 158 #[.agg #[.int .i64 0,.int .i64 0]] w fun e w'=>e=.returned (.agg #[.int .i64 1,.int .i64 0])∧Below w.heap.size w w':=by
 go_enter Tryz.func158,Tryz.ntmps158
 go_wp2
 go_returns
 exact⟨rfl,by go_grown⟩
theorem zLR (n:Int) (h0:0 < n) (h1:n≤9007199254740991) (w:World):Calls Tryz.prog 158 #[.agg #[.int .i64 0,.int .i64 n]] w fun e w'=>e=.returned (.agg #[.int .i64 0,.int .i64 (-n)])∧Below w.heap.size w w':=by
 have e0:(n==0)=false:=beq_eq_false_iff_ne.2 (by omega)
 have e1:(-9007199254740991:Int)≤n:=by omega
 go_enter Tryz.func158,Tryz.ntmps158
 go_wp2
 go_returns
 exact⟨rfl,by go_grown⟩
def zLS (m:Nat) (A:Option Addr) (c:Nat):Value:=if m=0 then .slice none 0 0 else .slice A m c
theorem zHn {A:Option Addr} {c B n m:Nat} {xs:List Nat} {w:World} (hn:xs.length=n) (ha:Reads w B 1 A n (zBv xs)) (hB:B≤w.heap.size) (hl:n≤4096) (hc:n≤c) (hc2:c≤maxLen) (hm:(zAv xs).length=m):
 Calls Tryz.prog 184 #[.slice A n c,.bool false] w fun e w'=>e=.returned (.agg #[.bool false,zLS m A c])∧Below w.heap.size w w':=by
 have HA:=zD (ha.alloc hB (.cells #[.bool false,.slice none 0 0] 42))
 have HM:=zD hm
 have HN:=zD hn
 clear ha hm hn
 by_cases h0:m=0
 · have HI:=zD (show zLS m A c=.slice none 0 0 from if_pos h0)
   have e1:((m:Int)==0)=true:=by rw[h0];rfl
   clear h0
   go_enter Tryz.func184,Tryz.ntmps184
   go_wp2_with (go_at_call 168;refine(zD6 HN.out HA.out hl hc hc2 HM.out).mono ?_;rintro e w' ⟨rfl,rfl⟩)
   rw[HI.out]
   exact bodyPost_ret (v:=.agg #[.bool false,.slice none 0 0]) (by simp[results,Tryz.results184,go_sem]) rfl ⟨rfl,(Below.refl _ _).alloc (Nat.le_refl _) _⟩
 · have HI:=zD (show zLS m A c=.slice A m c from if_neg h0)
   have e1:((m:Int)==0)=false:=beq_eq_false_iff_ne.2 (by omega)
   clear h0
   go_enter Tryz.func184,Tryz.ntmps184
   go_wp2_with (go_at_call 168;refine(zD6 HN.out HA.out hl hc hc2 HM.out).mono ?_;rintro e w' ⟨rfl,rfl⟩)
   rw[HI.out]
   exact bodyPost_ret (v:=.agg #[.bool false,.slice A m c]) (by simp[results,Tryz.results184,go_sem]) rfl ⟨rfl,(Below.refl _ _).alloc (Nat.le_refl _) _⟩
theorem zLT {s:ByteArray} {l:List UInt16} (h:s.data.toList=asc l) (hd:∀x∈l,zQ x=true):s.size=l.length∧∀i (hi:i < s.size) (hj:i < l.length),s[i].toNat=l[i].toNat∧48≤s[i].toNat∧s[i].toNat≤57:=by
 have h1:s.size=l.length:=by
  have:=congrArg List.length h
  simpa [asc]using this
 refine⟨h1,fun i hi hj=>?_⟩
 have h2:s.data.toList[i]? =(asc l)[i]? :=by rw[h]
 have h3:s[i]=l[i].toUInt8:=by
  have e1:s.data.toList[i]? =some s[i]:=by
   rw[List.getElem?_eq_getElem (by simpa using hi)];rfl
  have e2:(asc l)[i]? =some l[i].toUInt8:=by simp[asc,List.getElem?_eq_getElem hj]
  rw[e1,e2]at h2
  exact Option.some.inj h2
 have h4:=hd l[i] (List.getElem_mem hj)
 simp only[zQ,Bool.and_eq_true,decide_eq_true_eq]at h4
 have h5:l[i].toUInt8.toNat=l[i].toNat % 256:=rfl
 rw[h3,h5]
 omega
theorem zId {s:ByteArray} {l:List UInt16} (h:s.data.toList=asc l) (hd:∀x∈l,zQ x=true) (h0:0 < l.length) (hz:l[0]≠48∨l=[48]) (hl:l.length≤4096) (w:World):
 Calls Tryz.prog 183 #[.string s] w fun e w'=>e=.returned (.bool true)∧w=w':=by
 obtain⟨hs,hget⟩:=zLT h hd
 have HG:=zD (show∀i (hi:i < s.size),48≤s[i].toNat∧s[i].toNat≤57 from fun i hi=>(hget i hi (by omega)).2)
 have hs1:s.size≤4096:=by omega
 have hs0:0 < s.size:=by omega
 have hem:s.toList≠[]:=by
  rw[ByteArray.toList_eq,h]
  intro h2
  have:=congrArg List.length h2
  rw[asc,List.length_map,List.length_nil]at this
  omega
 have e1:(s.toList==[])=false:=beq_eq_false_iff_ne.2 hem
 have e2:s.toList.isEmpty=false:=by
  cases hh:s.toList with
  | nil=>exact absurd hh hem
  | cons=>rfl
 have hcase:((s[0].toNat:Int) !=48)=true∨s=⟨#[48]⟩:=by
  rcases hz with hz | hz
  · left
    rw[bne_iff_ne]
    intro h3
    have:=(hget 0 hs0 h0).1
    exact hz (UInt16.toNat_inj.1 (by show l[0].toNat=48;omega))
  · right
    have h4:s=⟨#[48]⟩:=by
     cases s with
     | mk d=>
      simp only at h
      rw[hz]at h
      have:d=#[48]:=by
       apply Array.toList_inj.1
       rw[h];rfl
      rw[this]
    exact h4
 clear hget h hz hem
 rcases hcase with h3 | rfl
 · go_enter Tryz.func183,Tryz.ntmps183
   go_wp2
   go_loop [6] (fun i=>∃k:Nat,k≤s.size∧i=.int .i64 k) (fun i=>s.size - (intOf i).toNat)
   case atStart=>exact⟨0,Nat.zero_le _,rfl⟩
   case round=>
    obtain⟨k,hk,rfl⟩:=hrel
    by_cases hlt:k < s.size
    · have hb:=HG.out k hlt
      go_wp2
      go_round
      case rel=>exact⟨k+1,by omega,by go_num⟩
      case measure=>simp[intOf];omega
    · go_wp2
      go_ret
      exact⟨rfl,rfl⟩
 · clear e1 e2 HG hs hs1 hs0
   go_enter Tryz.func183,Tryz.ntmps183
   go_wp2
   go_loop [6] (fun i=>∃k:Nat,k≤1∧i=.int .i64 k) (fun i=>1 - (intOf i).toNat)
   case atStart=>exact⟨0,Nat.zero_le _,rfl⟩
   case round=>
    obtain⟨k,hk,rfl⟩:=hrel
    by_cases hlt:k=0
    · subst hlt
      go_wp2
      go_round
      case rel=>exact⟨1,by omega,rfl⟩
      case measure=>simp[intOf]
    · obtain rfl:k=1:=by omega
      go_wp2
      go_ret
      exact⟨rfl,rfl⟩
theorem zCA {s:List UInt8} {l:List UInt16} (h:zi s l=true):s.length≤l.length:=by
 unfold zi at h
 rw[List.isPrefixOf_iff_prefix]at h
 simpa using h.length_le
theorem zRu (long:Bool):∀(l:List UInt16) (nl st:Bool),(zBQ long l nl st).1≤l.length:=by
 intro l
 induction l with
 | nil=>intro nl st;simp[zBQ]
 | cons x r ih=>
  intro nl st
  unfold zBQ
  split
  · rename_i h
    have:=zCA (Bool.and_eq_true _ _▸h).2
    simpa using this
  · split
    · simp
    · have:=ih (nl || zw x) (st || zFR x)
      simp only[zCG,List.length_cons]
      omega
theorem zCd {l:List UInt16} (h:2≤l.length):2≤(zq l).1∧(zq l).1≤l.length:=by
 have:=zRu (zi [47,42] l) (l.drop 2) false false
 rw[List.length_drop]at this
 simp only[zq,zCG]
 omega
theorem zBm {l:List UInt16} (h:(zi [47,47] l || zi [47,42] l)=true):2≤l.length:=by
 rw[Bool.or_eq_true]at h
 rcases h with h | h
 · exact zCA h
 · exact zCA h
theorem zOF:∀(f:Nat) (l:List UInt16) (nl:Bool),(zBe f l nl).1≤l.length:=by
 intro f
 induction f with
 | zero=>intro l nl;simp[zBe]
 | succ f ih=>
  intro l nl
  cases l with
  | nil=>simp[zBe]
  | cons x r=>
   unfold zBe
   split
   · have:=ih r (nl || zw x)
     simp only[zCG,List.length_cons]
     omega
   · split
     · rename_i h
       have h2:=zCd (zBm h)
       split
       · simp
       · have:=ih ((x::r).drop (zq (x::r)).1) (nl || (zq (x::r)).2.1)
         rw[List.length_drop]at this
         simp only[zCG]
         omega
     · simp
theorem zEL (l:List UInt16):(zd l).1≤l.length:=zOF _ _ _
theorem zIe:∀(f g:Nat) (l:List UInt16) (nl:Bool),l.length≤f→l.length≤g→zBe f l nl=zBe g l nl:=by
 intro f
 induction f with
 | zero=>
  intro g l nl hf _
  have:l=[]:=List.eq_nil_of_length_eq_zero (by omega)
  subst this
  cases g<;>rfl
 | succ f ih=>
  intro g l nl hf hg
  cases l with
  | nil=>cases g<;>rfl
  | cons x r=>
   obtain⟨g,rfl⟩:∃k,g=k+1:=⟨g - 1,by simp at hg;omega⟩
   simp only[List.length_cons]at hf hg
   unfold zBe
   rw[ih g r (nl || zw x) (by omega) (by omega)]
   split
   · rfl
   · split
     · rename_i h
       have h2:=zCd (zBm h)
       rw[ih g ((x::r).drop (zq (x::r)).1) _ (by rw[List.length_drop,List.length_cons];omega) (by rw[List.length_drop,List.length_cons];omega)]
     · rfl
def zA4 (l:List UInt16) (nl:Bool):Nat×Bool×Nat:=zBe l.length l nl
theorem zGA (nl:Bool):zA4 [] nl=(0,nl,0):=rfl
theorem zCK {x:UInt16} {r:List UInt16} (h:(zFQ x || zw x)=true) (nl:Bool):zA4 (x::r) nl=zCG 1 (zA4 r (nl || zw x)):=by
 unfold zA4
 rw[List.length_cons,zBe,if_pos h]
theorem zBx {x:UInt16} {r:List UInt16} (h:(zFQ x || zw x)=false) (h2:(zi [47,47] (x::r) || zi [47,42] (x::r))=true) (nl:Bool):
 zA4 (x::r) nl=if(zq (x::r)).2.2≠0 then(0,false,(zq (x::r)).2.2)else zCG (zq (x::r)).1 (zA4 ((x::r).drop (zq (x::r)).1) (nl || (zq (x::r)).2.1)):=by
 have h3:=zCd (zBm h2)
 unfold zA4
 rw[List.length_cons,zBe,if_neg (by rw[h];simp),if_pos h2]
 rw[zIe r.length ((x::r).drop (zq (x::r)).1).length _ _ (by rw[List.length_drop,List.length_cons];omega) (Nat.le_refl _)]
theorem zCy {x:UInt16} {r:List UInt16} (h:(zFQ x || zw x)=false) (h2:(zi [47,47] (x::r) || zi [47,42] (x::r))=false) (nl:Bool):zA4 (x::r) nl=(0,nl,0):=by
 unfold zA4
 rw[List.length_cons,zBe,if_neg (by rw[h];simp),if_neg (by rw[h2];simp)]
theorem zAy {α:Type} (p:α→Bool) (l:List α):(l.takeWhile p).length≤l.length:=(List.takeWhile_sublist p).length_le
theorem zHo {n:Nat} {l:List UInt16} (h:(zBr n l).1=0):(zBr n l).2.2=n∧n≤l.length:=by
 unfold zBr at h⊢
 split
 · rename_i h2
   simp only[Bool.and_eq_true,decide_eq_true_eq]at h2
   exact⟨rfl,h2.1⟩
 · rename_i h2
   rw[if_neg h2]at h
   cases h
theorem zDW (x:UInt16) (r:List UInt16):zC6 (x::r)=if(zBs x).isSome=true then(0,(zBs x).getD 0,1)else zQX x r:=rfl
theorem zAY (z:Bool) (x:UInt16) (r:List UInt16):zAo z (x::r)=if zBI x=true then zDD (x::r)else if zQ x=true then zBg (x::r)else if(x.toNat==39 || x.toNat==34)=true then zAr x r
 else if(x.toNat==46&&zAx 0 zQ r)=true then bad 6 else zBY z (x::r):=rfl
theorem zDn {l:List UInt16} (h:(zC6 l).1=0):1≤(zC6 l).2.2∧(zC6 l).2.2≤l.length:=by
 cases l with
 | nil=>simp[zC6]at h
 | cons x r=>
  rw[zDW]at h⊢
  have hm:∀k,(more 1 (zBr k r)).1=0→1≤(more 1 (zBr k r)).2.2∧(more 1 (zBr k r)).2.2≤(x::r).length:=by
   intro k hk
   unfold more at hk⊢
   split
   · rename_i h3
     have:=zHo h3
     simp only[List.length_cons]
     omega
   · rename_i h3
     rw[if_neg h3]at hk
     exact absurd hk h3
  split
  · simp
  · rename_i hs
    rw[if_neg hs]at h
    unfold zQX at h⊢
    by_cases h1:(x.toNat==48&& !zAx 0 zQ r)=true
    · rw[if_pos h1];simp
    rw[if_neg h1]at h⊢
    by_cases h2:zQ x=true
    · rw[if_pos h2]at h;cases h
    rw[if_neg h2]at h⊢
    by_cases h3:(zw x || zFR x || (x.toNat==117&&zi [123] r))=true
    · rw[if_pos h3]at h;cases h
    rw[if_neg h3]at h⊢
    by_cases h4:x.toNat=120
    · rw[if_pos h4]at h⊢;exact hm 2 h
    rw[if_neg h4]at h⊢
    by_cases h5:x.toNat=117
    · rw[if_pos h5]at h⊢;exact hm 4 h
    rw[if_neg h5];simp
theorem zQu (q:UInt16):∀(f:Nat) (l:List UInt16) (acc:List UInt16),(zCX q f l acc).1=0→1≤(zCX q f l acc).2.2∧(zCX q f l acc).2.2≤l.length:=by
 intro f
 induction f with
 | zero=>intro l acc h;simp[zCX]at h
 | succ f ih=>
  intro l acc h
  cases l with
  | nil=>simp[zCX]at h
  | cons x r=>
   unfold zCX at h⊢
   by_cases h1:zw x=true
   · rw[if_pos h1]at h;cases h
   rw[if_neg h1]at h⊢
   by_cases h2:x=q
   · rw[if_pos h2];simp
   rw[if_neg h2]at h⊢
   by_cases h3:x.toNat=92
   · rw[if_pos h3]at h⊢
     by_cases h4:(zC6 r).1≠0
     · rw[if_pos h4]at h
       exact absurd h h4
     · rw[if_neg h4]at h⊢
       have h5:=zDn (Decidable.not_not.1 h4)
       have h6:=ih _ _ h
       rw[List.length_drop]at h6
       simp only[List.length_cons]
       omega
   · rw[if_neg h3]at h⊢
     have h6:=ih _ _ h
     simp only[List.length_cons]
     omega
theorem zDo {l:List UInt16}:∀{m n:Nat},zAs l m=some n→1≤n∧n≤m∧zAS l n≠0:=by
 intro m
 induction m with
 | zero=>intro n h;simp[zAs]at h
 | succ m ih=>
  intro n h
  unfold zAs at h
  split at h
  · injection h with h
    subst h
    exact⟨by omega,by omega,by assumption⟩
  · have:=ih h
    exact⟨this.1,by omega,this.2.2⟩
theorem zDp {l:List UInt16} {n:Nat} (h:zAS l n≠0):n≤l.length:=by
 unfold zAS at h
 split at h
 · rename_i h2
   simp only[Bool.and_eq_true,decide_eq_true_eq]at h2
   exact h2.1.1
 · exact absurd rfl h
theorem zDX {α:Type} {p:α→Bool} {x:α} {r:List α} (h:p x=true):1≤((x::r).takeWhile p).length:=by
 rw[List.takeWhile_cons_of_pos h];simp
theorem zOG {d r:List UInt16} (h:(zBq d r).1=0) (hd:1≤d.length):1≤(zBq d r).2.2∧(zBq d r).2.2≤d.length+r.length:=by
 unfold zBq at h⊢
 split
 · rename_i h1;rw[if_pos h1]at h;cases h
 · rename_i h1
   rw[if_neg h1]at h
   split
   · rename_i h2
     rw[if_pos h2]at h
     have hl:=zCA h2
     unfold zGw at h⊢
     split
     · rename_i h3;rw[if_pos h3]at h;cases h
     · rename_i h3
       rw[if_neg h3]at h
       split
       · rename_i h4;rw[if_pos h4]at h;cases h
       · simp at hl
         show 1≤d.length+1∧d.length+1≤_
         omega
   · rename_i h2
     rw[if_neg h2]at h
     split
     · rename_i h3;rw[if_pos h3]at h;cases h
     · rename_i h3
       rw[if_neg h3]at h
       split
       · rename_i h4;rw[if_pos h4]at h;cases h
       · rename_i h4
         rw[if_neg h4]at h
         split
         · rename_i h5;rw[if_pos h5]at h;cases h
         · show 1≤d.length∧d.length≤_
           omega
theorem zGB {z:Bool} {l:List UInt16} (h:(zAo z l).1=0):1≤(zAo z l).2.2∧(zAo z l).2.2≤l.length:=by
 cases l with
 | nil=>cases h
 | cons x r=>
  rw[zAY]at h⊢
  by_cases h1:zBI x=true
  · rw[if_pos h1]at h⊢
    unfold zDD at h⊢
    split
    · rename_i h2;rw[if_pos h2]at h;cases h
    · exact⟨zDX (by simp[zA0,h1]),zAy _ _⟩
  rw[if_neg h1]at h⊢
  by_cases h2:zQ x=true
  · rw[if_pos h2]at h⊢
    unfold zBg at h⊢
    have:=zOG h (zDX h2)
    have h3:=zAy zQ (x::r)
    rw[List.length_drop]at this
    omega
  rw[if_neg h2]at h⊢
  by_cases h3:(x.toNat==39 || x.toNat==34)=true
  · rw[if_pos h3]at h⊢
    unfold zAr at h⊢
    split
    · rename_i h4;rw[if_pos h4]at h;exact absurd h h4
    · rename_i h4
      have:=zQu x _ _ _ (Decidable.not_not.1 h4)
      simp only[List.length_cons,zIN]
      omega
  rw[if_neg h3]at h⊢
  by_cases h4:(x.toNat==46&&zAx 0 zQ r)=true
  · rw[if_pos h4]at h;cases h
  rw[if_neg h4]at h⊢
  unfold zBY at h⊢
  cases hs:zAs (x::r) 4 with
  | none=>
   rw[hs]at h
   simp only at h
   split at h<;>cases h
  | some n=>
   rw[hs]at h
   have h5:=zDo hs
   have h6:=zDp h5.2.2
   simp only at h⊢
   split
   · rename_i h7;rw[if_pos h7]at h;cases h
   · exact⟨h5.1,h6⟩
theorem zCB {k:Nat} {l:List UInt16} (h:(zAA k l).1=0):1≤(zAA k l).2.2∧(zd l).1+(zAA k l).2.2≤l.length:=by
 have h1:=zGB h
 have h2:=zEL l
 rw[List.length_drop]at h1
 unfold zAA
 omega
theorem zLU:∀(f g k:Nat) (l:List UInt16),l.length < f→l.length < g→zCr f k l=zCr g k l:=by
 intro f
 induction f with
 | zero=>intro g k l hf _;omega
 | succ f ih=>
  intro g k l hf hg
  obtain⟨g,rfl⟩:∃m,g=m+1:=⟨g - 1,by omega⟩
  unfold zCr
  split
  · rfl
  · split
    · rfl
    · split
      · rfl
      · rename_i h3
        have h4:=zCB (Decidable.not_not.1 h3)
        rw[ih g _ (l.drop ((zd l).1+(zAA k l).2.2)) (by rw[List.length_drop];omega) (by rw[List.length_drop];omega)]
def zBb (k:Nat) (l:List UInt16):List Tok×Nat×Nat:=zCr (l.length+1) k l
theorem zDY {k:Nat} {l:List UInt16} (h:(zd l).2.2≠0):zBb k l=([],k+(zd l).1,(zd l).2.2):=by
 unfold zBb;rw[zCr,if_pos h]
theorem zD9 {k:Nat} {l:List UInt16} (h:(zd l).2.2=0) (h2:l.drop (zd l).1=[]):zBb k l=([setAt zo (k+(zd l).1) (zd l).2.1],0,0):=by
 unfold zBb;rw[zCr,if_neg (by rw[h];simp),if_pos h2]
theorem zEA {k:Nat} {l:List UInt16} (h:(zd l).2.2=0) (h2:l.drop (zd l).1≠[]) (h3:(zAA k l).1≠0):zBb k l=([],k+(zd l).1,(zAA k l).1):=by
 unfold zBb;rw[zCr,if_neg (by rw[h];simp),if_neg h2,if_pos h3]
theorem zCC {k:Nat} {l:List UInt16} (h:(zd l).2.2=0) (h2:l.drop (zd l).1≠[]) (h3:(zAA k l).1=0):
 zBb k l=zBZ (setAt (zAA k l).2.1 (k+(zd l).1) (zd l).2.1) (zBb (k+(zd l).1+(zAA k l).2.2) (l.drop ((zd l).1+(zAA k l).2.2))):=by
 have h4:=zCB h3
 unfold zBb
 rw[zCr,if_neg (by rw[h];simp),if_neg h2,if_neg (by rw[h3];simp)]
 rw[zLU l.length ((l.drop ((zd l).1+(zAA k l).2.2)).length+1) _ _ (by rw[List.length_drop];omega) (by omega)]
theorem zBF {u:List UInt16} (h:¬4096 < u.length):zCH u=zBb 0 u:=by unfold zCH zBb;rw[if_neg h]
theorem zAm (x:UInt16) (w:World):Calls Tryz.prog 66 #[.int .u16 (x.toNat:Int)] w fun e w'=>e=.returned (.bool (zBI x))∧w=w':=by
 have h1:=x.toNat_lt
 go_enter Tryz.func66,Tryz.ntmps66
 go_wp2
 all_goals go_ret
 all_goals refine⟨zf ?_,rfl⟩
 all_goals (rw[Bool.eq_iff_iff];simp only[zBI,Bool.and_eq_true,Bool.or_eq_true,beq_iff_eq,decide_eq_true_eq,true_iff];omega)
theorem zAG (x:UInt16) (w:World):Calls Tryz.prog 68 #[.int .u16 (x.toNat:Int)] w fun e w'=>e=.returned (.bool (zQ x))∧w=w':=by
 have h1:=x.toNat_lt
 go_enter Tryz.func68,Tryz.ntmps68
 go_wp2
 all_goals go_ret
 all_goals refine⟨zf ?_,rfl⟩
 all_goals (rw[Bool.eq_iff_iff];simp only[zQ,Bool.and_eq_true,decide_eq_true_eq,Bool.false_eq_true,false_iff];omega)
theorem zBR (x:UInt16) (w:World):Calls Tryz.prog 62 #[.int .u16 (x.toNat:Int)] w fun e w'=>e=.returned (.bool (zFQ x))∧w=w':=by
 have h1:=x.toNat_lt
 go_enter Tryz.func62,Tryz.ntmps62
 go_wp2
 all_goals go_ret
 all_goals refine⟨zf ?_,rfl⟩
 all_goals (rw[Bool.eq_iff_iff];simp[zFQ];omega)
theorem zAI (x:UInt16) (w:World):Calls Tryz.prog 63 #[.int .u16 (x.toNat:Int)] w fun e w'=>e=.returned (.bool (zw x))∧w=w':=by
 have h1:=x.toNat_lt
 go_enter Tryz.func63,Tryz.ntmps63
 go_wp2
 all_goals go_ret
 all_goals refine⟨zf ?_,rfl⟩
 all_goals (rw[Bool.eq_iff_iff];simp[zw];omega)
theorem zAj (x:UInt16) (w:World):Calls Tryz.prog 100 #[.int .u16 (x.toNat:Int)] w fun e w'=>e=.returned (.bool (zFR x))∧w=w':=by
 have h1:=x.toNat_lt
 go_enter Tryz.func100,Tryz.ntmps100
 go_wp2
 all_goals go_ret
 all_goals refine⟨zf ?_,rfl⟩
 all_goals (rw[Bool.eq_iff_iff];simp[zFR];omega)
theorem zEM (b:Bool) (w:World):Calls Tryz.prog 99 #[.bool b] w fun e w'=>e=.returned (.int .i64 (zFS b:Nat))∧w=w':=by
 cases b
 all_goals
  go_enter Tryz.func99,Tryz.ntmps99
  go_wp2
  go_ret
  exact⟨rfl,rfl⟩
theorem zLV (x:UInt16) (w:World):Calls Tryz.prog 102 #[.int .u16 (x.toNat:Int)] w fun e w'=>e=.returned (.bool (zA0 x))∧w=w':=by
 cases hl:zBI x with
 | true=>
  have HR:=zD (show zA0 x=true by simp[zA0,hl])
  go_enter Tryz.func102,Tryz.ntmps102
  go_wp2_with (go_at_call 66;refine(zAm _ _).mono ?_;rintro e w' ⟨rfl,rfl⟩)
  go_ret
  exact⟨zf HR.out.symm,rfl⟩
 | false=>
  have HR:=zD (show zA0 x=zQ x by simp[zA0,hl])
  go_enter Tryz.func102,Tryz.ntmps102
  go_wp2_with (first | (go_at_call 66;refine(zAm _ _).mono ?_;rintro e w' ⟨rfl,rfl⟩) | (go_at_call 68;refine(zAG _ _).mono ?_;rintro e w' ⟨rfl,rfl⟩))
  go_ret
  exact⟨zf HR.out.symm,rfl⟩
theorem zHp (x:UInt16) (w:World):Calls Tryz.prog 192 #[.int .u16 (x.toNat:Int)] w fun e w'=>e=.returned (.int .u16 (zFy x:Nat))∧w=w':=by
 have h1:=x.toNat_lt
 cases hd:zQ x with
 | true=>
  have hdd:=zBB.1 hd
  have HR:=zD (show zFy x=x.toNat - 48 by rw[zFy,if_pos hd])
  go_enter Tryz.func192,Tryz.ntmps192
  go_wp2_with (go_at_call 68;refine(zAG _ _).mono ?_;rintro e w' ⟨rfl,rfl⟩)
  go_ret
  exact⟨zED (by rw[HR.out];omega),rfl⟩
 | false=>
  by_cases h2:97≤x.toNat∧x.toNat≤102
  · have HR:=zD (show zFy x=x.toNat - 87 by rw[zFy,if_neg (by rw[hd];simp),if_pos h2])
    obtain⟨h2,h3⟩:=h2
    go_enter Tryz.func192,Tryz.ntmps192
    go_wp2_with (go_at_call 68;refine(zAG _ _).mono ?_;rintro e w' ⟨rfl,rfl⟩)
    go_ret
    exact⟨zED (by rw[HR.out];omega),rfl⟩
  · by_cases h3:65≤x.toNat∧x.toNat≤70
    · have HR:=zD (show zFy x=x.toNat - 55 by rw[zFy,if_neg (by rw[hd];simp),if_neg h2,if_pos h3])
      obtain⟨h3,h4⟩:=h3
      have h5:¬(97:Int)≤(x.toNat:Int):=by omega
      clear h2
      go_enter Tryz.func192,Tryz.ntmps192
      go_wp2_with (go_at_call 68;refine(zAG _ _).mono ?_;rintro e w' ⟨rfl,rfl⟩)
      go_ret
      exact⟨zED (by rw[HR.out];omega),rfl⟩
    · have HR:=zD (show zFy x=16 by rw[zFy,if_neg (by rw[hd];simp),if_neg h2,if_neg h3])
      have hw:¬(97:Int)≤(x.toNat:Int)∨((97:Int)≤(x.toNat:Int)∧¬(x.toNat:Int)≤102):=by omega
      have hw2:¬(65:Int)≤(x.toNat:Int)∨((65:Int)≤(x.toNat:Int)∧¬(x.toNat:Int)≤70):=by omega
      clear h2 h3
      rcases hw with r1 | ⟨r1,r1b⟩
      all_goals rcases hw2 with r2 | ⟨r2,r2b⟩
      all_goals first
       | (exfalso;omega)
       | (
        go_enter Tryz.func192,Tryz.ntmps192
        go_wp2_with (go_at_call 68;refine(zAG _ _).mono ?_;rintro e w' ⟨rfl,rfl⟩)
        go_ret
        exact⟨zED (by rw[HR.out];rfl),rfl⟩)
theorem zIf (x:UInt16) (w:World):Calls Tryz.prog 191 #[.int .u16 (x.toNat:Int)] w fun e w'=>e=.returned (.bool (zDN x))∧w=w':=by
 go_enter Tryz.func191,Tryz.ntmps191
 go_wp2_with (go_at_call 192;refine(zHp _ _).mono ?_;rintro e w' ⟨rfl,rfl⟩)
 go_ret
 exact⟨zf (by unfold zDN;exact decide_eq_decide.2 (by omega)),rfl⟩
theorem Reads.spotL {w:World} {B n:Nat} {A:Option Addr} {l:List UInt16} (h:Reads w B 1 A n (zAH l)) (h0:0 < l.length):
 ∃b off,A=some ⟨b,off,none⟩∧b < B∧∀j (hj:j < l.length),w.cell? ⟨b,off+j,none⟩=some (.int .u16 (l[j].toNat:Int)):=by
 obtain⟨ad,e,hb,hc⟩:=h.u16_0 h0
 have hs:ad.spot=none:=by
  cases hsp:ad.spot with
  | none=>rfl
  | some s=>
   exfalso
   simp only[World.cell?,hsp]at hc
   split at hc
   · simp at hc
   · cases hc
 obtain⟨b,off,sp⟩:=ad
 simp only at hs
 subst hs
 refine⟨b,off,e,hb,fun j hj=>?_⟩
 obtain⟨ad',e',_,h1⟩:=h.u16 hj
 rw[e]at e'
 injection e' with e'
 subst e'
 rw[Addr.add_lit]at h1
 exact h1
theorem zCe {u:List UInt16} {k j:Nat} {p:UInt16→Bool} (h:k+j < u.length):zAx j p (u.drop k)=p u[k+j]:=by
 unfold zAx
 rw[List.getElem?_drop,List.getElem?_eq_getElem h];rfl
theorem zCL {u:List UInt16} {k j:Nat} {p:UInt16→Bool} (h:¬k+j < u.length):zAx j p (u.drop k)=false:=by
 unfold zAx
 rw[List.getElem?_drop,List.getElem?_eq_none (by omega)];rfl
theorem zCg {α:Type} {e e':α} {w w':World} (h:e=e'∧w=w'):e=e'∧w'=w:=⟨h.1,h.2.symm⟩
theorem zE6 {A:Option Addr} {c g B k j n:Nat} {u:List UInt16} {w:World} (hr:Rd w g A n c k) (hn:u.length=n) (ha:Reads w B 1 A n (zAH u)) (hk:k≤n) (hl:n≤4096) (hj:j≤4096) {q:Bool} (hq:zAx j zBI (u.drop k)=q):
 Calls Tryz.prog 71 #[.pointer (some ⟨g,0,none⟩),.int .i64 (j:Int),.func (.func 66) #[] #[]] w fun e w'=>e=.returned (.bool q)∧∃m,w'=w.drewN m:=by
 subst hn
 have hc0:=hr.c0
 have hc1:=hr.c1
 by_cases hin:k+j < u.length
 · have hin2:(k:Int)+(j:Int) < (u.length:Int):=by omega
   have HQ:=zD (show zBI u[k+j]=q by rw[←hq,zCe hin])
   obtain⟨b,off,rfl,_,hcell⟩:=ha.spotL (by omega)
   have hca:=hcell (k+j) hin
   obtain⟨x,hx⟩:∃x,u[k+j]=x:=⟨_,rfl⟩
   rw[hx]at hca HQ
   clear hcell hq hx hr
   go_enter Tryz.func71,Tryz.ntmps71
   go_wp2_with fail
   go_quiet (first | (go_at_call 66;refine Calls.quiet_of_same ((zAm _ _).mono fun _ _ h=>zCg h)))
   go_wp2
   go_ret
   exact⟨zf HQ.out,_,rfl⟩
 · have hin2:¬(k:Int)+(j:Int) < (u.length:Int):=by omega
   have hin3:decide ((k:Int)+(j:Int) < (u.length:Int))=false:=decide_eq_false hin2
   have HQ:=zD (show false=q by rw[←hq,zCL hin])
   clear hin hq hr
   go_enter Tryz.func71,Tryz.ntmps71
   go_wp2_with fail
   go_quiet (fail)
   go_wp2
   go_ret
   exact⟨zf HQ.out,_,rfl⟩
theorem zAU {A:Option Addr} {c g B k j n:Nat} {u:List UInt16} {w:World} (hr:Rd w g A n c k) (hn:u.length=n) (ha:Reads w B 1 A n (zAH u)) (hk:k≤n) (hl:n≤4096) (hj:j≤4096) {q:Bool} (hq:zAx j zQ (u.drop k)=q):
 Calls Tryz.prog 71 #[.pointer (some ⟨g,0,none⟩),.int .i64 (j:Int),.func (.func 68) #[] #[]] w fun e w'=>e=.returned (.bool q)∧∃m,w'=w.drewN m:=by
 subst hn
 have hc0:=hr.c0
 have hc1:=hr.c1
 by_cases hin:k+j < u.length
 · have hin2:(k:Int)+(j:Int) < (u.length:Int):=by omega
   have HQ:=zD (show zQ u[k+j]=q by rw[←hq,zCe hin])
   obtain⟨b,off,rfl,_,hcell⟩:=ha.spotL (by omega)
   have hca:=hcell (k+j) hin
   obtain⟨x,hx⟩:∃x,u[k+j]=x:=⟨_,rfl⟩
   rw[hx]at hca HQ
   clear hcell hq hx hr
   go_enter Tryz.func71,Tryz.ntmps71
   go_wp2_with fail
   go_quiet (first | (go_at_call 68;refine Calls.quiet_of_same ((zAG _ _).mono fun _ _ h=>zCg h)))
   go_wp2
   go_ret
   exact⟨zf HQ.out,_,rfl⟩
 · have hin2:¬(k:Int)+(j:Int) < (u.length:Int):=by omega
   have hin3:decide ((k:Int)+(j:Int) < (u.length:Int))=false:=decide_eq_false hin2
   have HQ:=zD (show false=q by rw[←hq,zCL hin])
   clear hin hq hr
   go_enter Tryz.func71,Tryz.ntmps71
   go_wp2_with fail
   go_quiet (fail)
   go_wp2
   go_ret
   exact⟨zf HQ.out,_,rfl⟩
theorem zG2 {A:Option Addr} {c g B k j n:Nat} {u:List UInt16} {w:World} (hr:Rd w g A n c k) (hn:u.length=n) (ha:Reads w B 1 A n (zAH u)) (hk:k≤n) (hl:n≤4096) (hj:j≤4096) {q:Bool} (hq:zAx j zA0 (u.drop k)=q):
 Calls Tryz.prog 71 #[.pointer (some ⟨g,0,none⟩),.int .i64 (j:Int),.func (.func 102) #[] #[]] w fun e w'=>e=.returned (.bool q)∧∃m,w'=w.drewN m:=by
 subst hn
 have hc0:=hr.c0
 have hc1:=hr.c1
 by_cases hin:k+j < u.length
 · have hin2:(k:Int)+(j:Int) < (u.length:Int):=by omega
   have HQ:=zD (show zA0 u[k+j]=q by rw[←hq,zCe hin])
   obtain⟨b,off,rfl,_,hcell⟩:=ha.spotL (by omega)
   have hca:=hcell (k+j) hin
   obtain⟨x,hx⟩:∃x,u[k+j]=x:=⟨_,rfl⟩
   rw[hx]at hca HQ
   clear hcell hq hx hr
   go_enter Tryz.func71,Tryz.ntmps71
   go_wp2_with fail
   go_quiet (first | (go_at_call 102;refine Calls.quiet_of_same ((zLV _ _).mono fun _ _ h=>zCg h)))
   go_wp2
   go_ret
   exact⟨zf HQ.out,_,rfl⟩
 · have hin2:¬(k:Int)+(j:Int) < (u.length:Int):=by omega
   have hin3:decide ((k:Int)+(j:Int) < (u.length:Int))=false:=decide_eq_false hin2
   have HQ:=zD (show false=q by rw[←hq,zCL hin])
   clear hin hq hr
   go_enter Tryz.func71,Tryz.ntmps71
   go_wp2_with fail
   go_quiet (fail)
   go_wp2
   go_ret
   exact⟨zf HQ.out,_,rfl⟩
theorem zLW {A:Option Addr} {c g B k j n:Nat} {u:List UInt16} {w:World} (hr:Rd w g A n c k) (hn:u.length=n) (ha:Reads w B 1 A n (zAH u)) (hk:k≤n) (hl:n≤4096) (hj:j≤4096) {q:Bool} (hq:zAx j zDN (u.drop k)=q):
 Calls Tryz.prog 71 #[.pointer (some ⟨g,0,none⟩),.int .i64 (j:Int),.func (.func 191) #[] #[]] w fun e w'=>e=.returned (.bool q)∧∃m,w'=w.drewN m:=by
 subst hn
 have hc0:=hr.c0
 have hc1:=hr.c1
 by_cases hin:k+j < u.length
 · have hin2:(k:Int)+(j:Int) < (u.length:Int):=by omega
   have HQ:=zD (show zDN u[k+j]=q by rw[←hq,zCe hin])
   obtain⟨b,off,rfl,_,hcell⟩:=ha.spotL (by omega)
   have hca:=hcell (k+j) hin
   obtain⟨x,hx⟩:∃x,u[k+j]=x:=⟨_,rfl⟩
   rw[hx]at hca HQ
   clear hcell hq hx hr
   go_enter Tryz.func71,Tryz.ntmps71
   go_wp2_with fail
   go_quiet (first | (go_at_call 191;refine Calls.quiet_of_same ((zIf _ _).mono fun _ _ h=>zCg h)))
   go_wp2
   go_ret
   exact⟨zf HQ.out,_,rfl⟩
 · have hin2:¬(k:Int)+(j:Int) < (u.length:Int):=by omega
   have hin3:decide ((k:Int)+(j:Int) < (u.length:Int))=false:=decide_eq_false hin2
   have HQ:=zD (show false=q by rw[←hq,zCL hin])
   clear hin hq hr
   go_enter Tryz.func71,Tryz.ntmps71
   go_wp2_with fail
   go_quiet (fail)
   go_wp2
   go_ret
   exact⟨zf HQ.out,_,rfl⟩
theorem zE7 {s:List UInt8} {l:List UInt16}:zi s l=true↔∀i (h:i < s.length),l[i]? =some s[i].toUInt16:=by
 unfold zi
 rw[List.isPrefixOf_iff_prefix,List.prefix_iff_getElem?]
 simp
theorem zGC {s:List UInt8} {l:List UInt16} {i:Nat} (h:i < s.length) (h2:l[i]? ≠some s[i].toUInt16):zi s l=false:=by
 cases hs:zi s l with
 | false=>rfl
 | true=>exact absurd (zE7.1 hs i h) h2
theorem zAV {A:Option Addr} {c g B k n:Nat} {u:List UInt16} (s:ByteArray) {w:World} (hr:Rd w g A n c k) (hn:u.length=n) (ha:Reads w B 1 A n (zAH u)) (hk:k≤n) (hl:n≤4096) (hs:s.size≤4096) {q:Bool} (hq:zi s.data.toList (u.drop k)=q):
 Calls Tryz.prog 64 #[.pointer (some ⟨g,0,none⟩),.string s] w fun e w'=>e=.returned (.bool q)∧∃m,w'=w.drewN m:=by
 subst hn
 have HQ:=zD hq
 have HA:=zD ha
 have HR:=zD hr
 clear hq ha hr
 go_enter Tryz.func64,Tryz.ntmps64
 go_wp2
 go_loopw [8] (fun i wr=>∃j:Nat,j≤s.size∧i=.int .i64 (j:Nat)∧(∃m,wr=w.drewN m)∧Hid (∀i (h:i < s.data.toList.length),i < j→(u.drop k)[i]? =some s.data.toList[i].toUInt16)) (fun i _=>s.size - (intOf i).toNat)
 case atStart=>exact⟨0,Nat.zero_le _,rfl,⟨0,rfl⟩,fun i _ h=>absurd h (by omega)⟩
 case round=>
  obtain⟨j,hj,rfl,⟨m,hw⟩,hpre⟩:=hrel
  have hc0:wr.cell? ⟨g,0,none⟩=some (.slice A u.length c):=by rw[hw];exact(HR.out.drewN m).c0
  have hc1:wr.cell? ⟨g,1,none⟩=some (.int .i64 (k:Int)):=by rw[hw];exact(HR.out.drewN m).c1
  have har:Hid (Reads wr B 1 A u.length (zAH u)):=by rw[hw];exact HA.out.drewN m
  have HW:=zD hw
  clear hw
  by_cases hlt:j < s.size
  · have hjl:j < s.data.toList.length:=by simpa using hlt
    by_cases hin:k+j < u.length
    · have hin2:¬(u.length:Int)≤(k:Int)+(j:Int):=by omega
      have hin3:(k:Int)+(j:Int) < (u.length:Int):=by omega
      have hin4:decide ((u.length:Int)≤(k:Int)+(j:Int))=false:=decide_eq_false hin2
      obtain⟨b,off,rfl,_,hcell⟩:=har.out.spotL (by omega)
      have hca:=hcell (k+j) hin
      have hx:=u[k+j].toNat_lt
      have hy:=s[j].toNat_lt
      obtain⟨x,hxx⟩:∃x,u[k+j].toNat=x:=⟨_,rfl⟩
      rw[hxx]at hca hx
      by_cases he:x=s[j].toNat
      · have e1:((x:Int) !=(s[j].toNat:Int))=false:=by rw[he];simp
        have HN:=zD (show(u.drop k)[j]? =some s.data.toList[j].toUInt16 by
         rw[List.getElem?_drop,List.getElem?_eq_getElem hin]
         congr 1
         refine UInt16.toNat_inj.1 ?_
         rw[hxx,he]
         simp
         rfl)
        clear hcell he hxx hin
        go_wp2_with fail
        go_quiet (fail)
        go_wp2
        go_roundw
        case rel=>
         refine⟨j+1,by omega,by go_num,⟨_,by rw[HW.out];exact World.drewN_drewN _ _ _⟩,?_⟩
         intro i h hi
         by_cases e:i=j
         · subst e;exact HN.out
         · exact hpre.out i h (by omega)
        case measure=>simp[intOf];omega
      · have e1:((x:Int) !=(s[j].toNat:Int))=true:=by rw[bne_iff_ne];omega
        have HN:=zD (show false=q by
         rw[←HQ.out,zGC hjl]
         rw[List.getElem?_drop,List.getElem?_eq_getElem hin]
         intro h
         injection h with h
         apply he
         rw[←hxx,h]
         simp
         rfl)
        clear hcell he hxx hin
        go_wp2_with fail
        go_quiet (fail)
        go_wp2
        go_ret
        exact⟨zf HN.out,_,by rw[HW.out];exact World.drewN_drewN _ _ _⟩
    · have hin2:(u.length:Int)≤(k:Int)+(j:Int):=by omega
      have HN:=zD (show false=q by
       rw[←HQ.out,zGC hjl]
       rw[List.getElem?_eq_none (by rw[List.length_drop];omega)]
       exact fun h=>by cases h)
      clear hin
      go_wp2_with fail
      go_quiet (fail)
      go_wp2
      go_ret
      exact⟨zf HN.out,_,by rw[HW.out];exact World.drewN_drewN _ _ _⟩
  · have HN:=zD (show true=q by
     rw[←HQ.out,zE7.2]
     intro i h
     exact hpre.out i h (by have h9:i < s.size:=(by simpa using h);omega))
    go_wp2
    go_ret
    exact⟨zf HN.out,m,HW.out⟩
section
variable {P:Program} (w:World)
theorem zDq (base:Nat) (t ty e:TypeId) (i:TypeInfo) (size:Nat) (ht:P.underlying t=some (.slice e)) (hi:P.info? e=some i)
 (v:Value) (n:Nat) (xs:List Value) (hown:w.ownsRow base e size v n xs) (c:Nat):(Builtin.append_ #[t,t] ty #[v,.slice none 0 c]).run P w=.ok v w:=by
 rcases hown.2 with⟨rfl,rfl⟩ | ⟨g,cap,cur,rfl,_,_,hnc,_⟩
 · simp[Builtin.append_,run_underlying ht,sizeOf,typeInfo,hi,Builtin.lenOf,Builtin.firstCells]
 · simp[Builtin.append_,run_underlying ht,sizeOf,typeInfo,hi,Builtin.lenOf,Builtin.firstCells,hnc,storeCells]
theorem zEo (base:Nat) (t ty e:TypeId) (i:TypeInfo) (z:Value) (size bytes:Nat) (ht:P.underlying t=some (.slice e)) (hi:P.info? e=some i) (hz:i.zero=some z)
 (hsize:i.size=size) (hby:i.bytes=bytes) (hzs:z.cells.size=size) (hsz:0 < size)
 (v:Value) (n:Nat) (xs:List Value) (hown:w.ownsRow base e size v n xs)
 (B:Nat) (A:Option Addr) (m c:Nat) (news:List Value) (hr:Reads w B size A m news) (h1:∀u∈news,u.oneCell'=true)
 (h63:n+m≤maxLen) (hbytes:(n+m)*bytes≤140737488355328) (hbase:base≤w.heap.size):
 ∃v' w',(Builtin.append_ #[t,t] ty #[v,.slice A m c]).run P w=.ok v' w'∧w'.ownsRow base e size v' (n+m) (xs++news)∧w.grownBy w' v.ownBlock∧
  (v'.ownBlock=v.ownBlock∨v'.ownBlock=some w.heap.size):=by
 rcases A with _ | ad
 · have hm:m=0:=by
    rcases Nat.eq_zero_or_pos m with h0 | h0
    · exact h0
    · obtain⟨ad,h,_⟩:=hr.2 h0
      cases h
   subst hm
   have hn:news=[]:=List.eq_nil_of_length_eq_zero (by simpa using hr.1)
   subst hn
   exact⟨v,w,zDq w base t ty e i size ht hi v n xs hown c,by simpa using hown,World.grownBy.refl w _,.inl rfl⟩
 · have hcells:∀j u,news[j]? =some u→w.cell? (ad.add j)=some u:=by
    intro j u hu
    rcases Nat.eq_zero_or_pos m with h0 | h0
    · subst h0
      have hn:news=[]:=List.eq_nil_of_length_eq_zero (by simpa using hr.1)
      subst hn
      simp at hu
    · obtain⟨ad',h,_,hc⟩:=hr.2 h0
      injection h with h
      subst h
      exact hc j u hu
   obtain⟨v',w',hrun,h2,h3,_,h5⟩:=run_append_own_at (P:=P) w base t ty e i z size bytes ht hi hz hsize hby hzs hsz v n xs hown ad m c news hr.1 hcells h1 h63 hbytes hbase
   exact⟨v',w',hrun,h2,h3,h5⟩
end
section
variable {P:Program} {w0 w:World} {ops:Array Oper} {rest:List Oper} {o:Oper} {a:Act} {Q:Exit→Act→World→Prop}
theorem zE8 (hgd:o.guard=none) (s x:Operand) (t:TypeId)
 (ho:o.op=.call {callee:=.builtin .append,args:=#[s,x],argTypes:=#[t,t]})
 (e:TypeId) (i:TypeInfo) (z:Value) (bytes:Nat) (ht:P.underlying t=some (.slice e)) (hi:P.info? e=some i) (hz:i.zero=some z)
 (hsize:i.size=1) (hby:i.bytes=bytes) (hzs:z.cells.size=1)
 (v:Value) (xs:List Value) (hs:a.eval s=v) (hm:Made w0 w e v xs)
 (B:Nat) (A:Option Addr) (m c:Nat) (news:List Value) (hx:a.eval x=.slice A m c) (hr:Reads w B 1 A m news) (h1:∀u∈news,u.oneCell'=true)
 (hsz:xs.length+m≤70368744177664) (hb2:bytes≤2)
 (h:∀v' w',Made w0 w' e v' (xs++news)→wpList P ops Q rest (a.put o.dst v') w'):wpList P ops Q (o::rest) a w:=by
 have hl:news.length=m:=by have:=hr.1;omega
 subst hl
 have hby2:(xs.length+news.length)*bytes≤140737488355328:=by
  calc (xs.length+news.length)*bytes≤70368744177664*2:=Nat.mul_le_mul hsz hb2
   _≤140737488355328:=by omega
 obtain⟨v',w',hrun,h2,h3,_⟩:=zEo (P:=P) w w0.heap.size t o.type e i z 1 bytes ht hi hz hsize hby hzs (by omega) v xs.length xs hm.own B A news.length c news hr h1 (by unfold maxLen;omega) hby2 hm.below.size
 refine wpList_plain hgd fun K hK=>?_
 unfold Oper.wp execOp
 simp only[ho,resolve,invoke,builtin,Sem.run_bind,Sem.run_pure,Result.andThen_ok,List.map_toArray,List.map_cons,List.map_nil,hs,hx,hrun]
 refine hK _ _ (h v' w' ⟨by rw[List.length_append];exact h2,hm.below.grown h3 hm.below.size (fun k hk=>(hm.own.lt k hk).1)⟩)
end
theorem Made.empty (w:World) (e:TypeId):Made w (w.alloc (.cells #[] e)) e (.slice (some ⟨w.heap.size,0,none⟩) 0 0) []:=
 ⟨World.ownsRow_made w #[] 0 (Nat.le_refl _) (Nat.zero_le _) rfl,(Below.refl _ _).alloc (Nat.le_refl _) _⟩
theorem Made.lit (w:World) (e:TypeId) (cs:List Value) (h:cs.length≤maxLen):Made w (w.alloc (.cells cs.toArray e)) e (.slice (some ⟨w.heap.size,0,none⟩) cs.length cs.length) cs:=
 ⟨⟨by simp,.inr ⟨w.heap.size,cs.length,cs.toArray,rfl,Nat.le_refl _,heap_alloc_new w _,Nat.le_refl _,h,by simp,by simp⟩⟩,(Below.refl _ _).alloc (Nat.le_refl _) _⟩
theorem zFa {A:Option Addr} {c B:Nat} {xs:List UInt16} {w:World} (hB:B≤w.heap.size) (ha:Reads w B 1 A xs.length (zAH xs)) (hl:xs.length≤70368744177664):
 Calls Tryz.prog 17 #[.slice A xs.length c] w fun e w'=>∃v,e=.returned v∧Made w w' 24 v (zAH xs):=by
 obtain⟨i0,hi0,hz0,hz1,hz2⟩:=info_parts Tryz.info_u16
 have ha':=ha.alloc hB (.cells #[] 24)
 go_enter Tryz.func17,Tryz.ntmps17
 go_wp2_with (at_builtin;refine zE8 rfl _ _ 22 rfl 24 i0 _ 2 Tryz.underlying22 hi0 hz0 hz1 hz2 rfl _ _ rfl (Made.empty w _) _ _ _ c _ rfl ha' (zHh _) (by simp;omega) (by omega) ?_;intro v' w' hm')
 go_ret
 exact⟨_,rfl,hm'⟩
theorem Reads.spot {w:World} {B n:Nat} {A:Option Addr} {l:List UInt8} (h:Reads w B 1 A n (u8s l)) (h0:0 < l.length):
 ∃b off,A=some ⟨b,off,none⟩∧∀j,j < l.length→w.cell? ⟨b,off+j,none⟩=some (.int .u8 ((l.getD j 0).toNat:Int)):=by
 have hl:l.length=n:=by have:=h.1;simpa [u8s]using this
 obtain⟨ad,e,hb,hc⟩:=h.2 (by omega)
 have hs:ad.spot=none:=by
  have h1:=hc 0 (u8v l[0]) (by rw[u8s,List.getElem?_map,List.getElem?_eq_getElem h0];rfl)
  cases hsp:ad.spot with
  | none=>rfl
  | some s=>
   exfalso
   simp only[Addr.add,if_true,World.cell?,hsp]at h1
   split at h1
   · simp at h1
   · cases h1
 obtain⟨b,off,sp⟩:=ad
 simp only at hs
 subst hs
 refine⟨b,off,e,fun j hj=>?_⟩
 have h1:=hc j (u8v l[j]) (by rw[u8s,List.getElem?_map,List.getElem?_eq_getElem hj];rfl)
 rw[Addr.add_lit]at h1
 rw[h1]
 simp[u8v,List.getD,hj]
theorem zEN {w:World} {B n c:Nat} {A:Option Addr} {l:List UInt8} (h:Reads w B 1 A n (u8s l)):
 (convert 51 9 (.slice A n c)).run Tryz.prog w=.ok (.string ⟨l.toArray⟩) w:=by
 have hl:l.length=n:=by have:=h.1;simpa [u8s]using this
 rcases Nat.eq_zero_or_pos l.length with h0 | h0
 · have hx:l=[]:=List.eq_nil_of_length_eq_zero h0
   subst hx
   have hn:n=0:=hl.symm
   subst hn
   clear hl h
   rw[run_convert_bytes_string w _ _ 5 A 0 c Tryz.underlying51 Tryz.underlying5 Tryz.underlying9]
   cases A with
   | none=>rfl
   | some a=>exact run_bytesToString w a 0 c [] rfl
 · obtain⟨b,off,rfl,hc⟩:=h.spot h0
   rw[run_convert_bytes_arg w _ 5 Tryz.underlying51 Tryz.underlying5 b off n c (l.map fun x=>(x.toNat:Int)) (by simpa using hl) (fun i hi=>by rw[hc i (by omega)];simp[List.getD,show i < l.length by omega]) _ Tryz.underlying9]
   congr 3
   simp only[strOfNums,List.map_map]
   congr 1
   have e:((fun n:Int=>UInt8.ofNat n.toNat)∘fun x:UInt8=>(x.toNat:Int))=id:=by
    funext x;simp
   rw[e,List.map_id]
def zBh (u:List UInt16):Bool:=u.all fun x=>decide (x.toNat≤127)
def zEO (u:List UInt16):ByteArray:=if zBh u then⟨(u.map (·.toUInt8)).toArray⟩else .empty
theorem zQQ {s t:ByteArray} {a b:Bool} (h:s=t) (h2:a=b):Ending.returned (.tuple #[.string s,.bool a])=.returned (.tuple #[.string t,.bool b]):=by rw[h,h2]
theorem zIg (u:List UInt16) (k:Nat) (h:k < u.length):u8s ((u.take (k+1)).map (·.toUInt8))=u8s ((u.take k).map (·.toUInt8))++[u8v u[k].toUInt8]:=by
 rw[List.take_succ_eq_append_getElem h,List.map_append,u8s,List.map_append];rfl
theorem zIh {x:UInt16} (h:x.toNat≤127):u8v x.toUInt8=.int .u8 (x.toNat:Int):=by
 unfold u8v
 congr 1
 simp
 omega
theorem zLX {A:Option Addr} {c B:Nat} {xs:List UInt16} {w:World} (hB:B≤w.heap.size) (ha:Reads w B 1 A xs.length (zAH xs)) (hl:xs.length≤70368744177664):
 Calls Tryz.prog 108 #[.slice A xs.length c] w fun e w'=>e=.returned (.tuple #[.string (zEO xs),.bool (zBh xs)])∧Below w.heap.size w w':=by
 obtain⟨i0,hi0,hz0,hz1,hz2⟩:=info_parts Tryz.info_u8
 go_enter Tryz.func108,Tryz.ntmps108
 go_wp2
 go_loopw [4,9] (fun v i wr=>∃k:Nat,k≤xs.length∧i=.int .i64 k∧Hid (zBh (xs.take k)=true)∧Made w wr 5 v (u8s ((xs.take k).map (·.toUInt8)))) (fun _ i _=>xs.length - (intOf i).toNat)
 case atStart=>exact⟨0,Nat.zero_le _,rfl,rfl,Made.nil _ _⟩
 case round=>
  obtain⟨k,hk,rfl,hok,hm⟩:=hrel
  by_cases hlt:k < xs.length
  · obtain⟨ad,hA,_,hca⟩:=(ha.below (hm.below.mono hB)).u16 hlt
    subst hA
    have h3:(k:Int) < (xs.length:Int):=by omega
    have hlen:(u8s ((xs.take k).map (·.toUInt8))).length≤k:=by simp[u8s];omega
    have hx:=xs[k].toNat_lt
    by_cases hp:xs[k].toNat≤127
    · have HC:=zD (zIh hp)
      have HS:=zD (zIg xs k hlt)
      have HO:Hid (zBh (xs.take (k+1))=true):=by
       rw[List.take_succ_eq_append_getElem hlt,zBh,List.all_append]
       have:=hok.out
       rw[zBh]at this
       rw[this]
       simp[hp,Hid]
      go_wp2_with (at_builtin;refine zDh rfl _ _ 51 rfl 5 i0 _ 1 Tryz.underlying51 hi0 hz0 hz1 hz2 rfl _ _ rfl hm _ 1 1 rfl rfl rfl (by omega) (by omega) ?_;intro v' w' hm')
      go_roundw
      case rel=>exact⟨k+1,by omega,by go_num,HO,hm'.cells (by rw[HS.out,HC.out])⟩
      case measure=>simp[intOf];omega
    · have HO:Hid (zBh xs=false):=List.all_eq_false.2 ⟨xs[k],List.getElem_mem _,by simpa using hp⟩
      go_wp2
      go_ret2
      exact⟨zQQ (by rw[zEO,HO.out];rfl) HO.out.symm,hm.below⟩
  · have hkk:xs.take k=xs:=List.take_of_length_le (by omega)
    rw[hkk]at hok hm
    obtain⟨A',c',rfl,_,_,hr⟩:=hm.u8
    rw[List.length_map]at hr⊢
    have hs:=zEN (c:=c') hr
    go_wp2
    go_ret2
    exact⟨zQQ (by rw[zEO,hok.out];rfl) hok.out.symm,hm.below⟩
end Go.Proofs.YtlohaclgbfhijaaGreatDoor
