/- Joined for the claim EarlyRoot: the parser, the lexer and the trees as they are walked, made short by a program of mine. -/
import Derived.Test.YtlohaclgbfhijaaGreatDoorE01
set_option maxHeartbeats 16000000
set_option maxRecDepth 1000000
namespace Go.Proofs.YtlohaclgbfhijaaGreatDoor
open Go.Proofs.Tryz
open Go.RowKit
def zBC (l:List Int):List Value:=l.map (Value.int .i64)
theorem zFV (l:List Int):(zBC l).length=l.length:=by simp[zBC]
def zRX (l:List Nat):List Value:=l.map fun n:Nat=>Value.int .u32 (n:Int)
structure NdSl where
 As:Option Addr
 Am:Option Addr
 Ak:Option Addr
 cs:Nat
 cm:Nat
 ck:Nat
structure NdR (w:World) (B:Nat) (x:Nd) (s:NdSl):Prop where
 str:Reads w B 1 s.As x.str.length (zAD x.str)
 mag:Reads w B 1 s.Am x.mag.length (zRX x.mag)
 kids:Reads w B 1 s.Ak x.kids.length (zBC x.kids)
 cs:x.str.length≤s.cs∧s.cs≤maxLen
 cm:x.mag.length≤s.cm∧s.cm≤maxLen
 ck:x.kids.length≤s.ck∧s.ck≤maxLen
 limb:∀y∈x.mag,y < 4294967296
 kin:∀y∈x.kids, -9223372036854775808≤y∧y≤9223372036854775807
 kb: -9223372036854775808≤x.kind∧x.kind≤9223372036854775807
 nkb: -9223372036854775808≤x.nk∧x.nk≤9223372036854775807
 nnb: -9223372036854775808≤x.nn∧x.nn≤9223372036854775807
 nm:x.name.length≤9223372036854775807
section
variable {w w':World} {B B':Nat} {x:Nd} {s:NdSl}
theorem NdR.below (h:NdR w B x s) (hb:Below B w w'):NdR w' B x s:=⟨h.str.below hb,h.mag.below hb,h.kids.below hb,h.cs,h.cm,h.ck,h.limb,h.kin,h.kb,h.nkb,h.nnb,h.nm⟩
theorem NdR.back (h:NdR w' B x s) (hb:Below B w w'):NdR w B x s:=
 ⟨h.str.keep fun _ hp=>(hb.cell hp).symm,h.mag.keep fun _ hp=>(hb.cell hp).symm,h.kids.keep fun _ hp=>(hb.cell hp).symm,h.cs,h.cm,h.ck,h.limb,h.kin,h.kb,h.nkb,h.nnb,h.nm⟩
theorem NdR.more (h:NdR w B x s) (hb:B≤B'):NdR w B' x s:=⟨h.str.more hb,h.mag.more hb,h.kids.more hb,h.cs,h.cm,h.ck,h.limb,h.kin,h.kb,h.nkb,h.nnb,h.nm⟩
end
structure NdC (w:World) (b o:Nat) (x:Nd) (s:NdSl):Prop where
 k0:w.cell? ⟨b,o,none⟩=some (.int .i64 x.kind)
 k1:w.cell? ⟨b,o+1,none⟩=some (.string ⟨x.name.toArray⟩)
 k2:w.cell? ⟨b,o+2,none⟩=some (.slice s.As x.str.length s.cs)
 k3:w.cell? ⟨b,o+3,none⟩=some (.int .i64 x.nk)
 k4:w.cell? ⟨b,o+4,none⟩=some (.int .i64 x.nn)
 k5:w.cell? ⟨b,o+5,none⟩=some (.bool x.neg)
 k6:w.cell? ⟨b,o+6,none⟩=some (.slice s.Am x.mag.length s.cm)
 k7:w.cell? ⟨b,o+7,none⟩=some (.slice s.Ak x.kids.length s.ck)
theorem NdC.keep {w w':World} {b o:Nat} {x:Nd} {s:NdSl} (h:NdC w b o x s) (hk:∀j,w'.cell? ⟨b,j,none⟩=w.cell? ⟨b,j,none⟩):NdC w' b o x s:=
 ⟨(hk _).trans h.k0,(hk _).trans h.k1,(hk _).trans h.k2,(hk _).trans h.k3,(hk _).trans h.k4,(hk _).trans h.k5,(hk _).trans h.k6,(hk _).trans h.k7⟩
theorem NdC.below {w w':World} {b o D:Nat} {x:Nd} {s:NdSl} (h:NdC w b o x s) (hb:Below D w w') (hd:b < D):NdC w' b o x s:=h.keep fun j=>hb.cell (p:=⟨b,j,none⟩) hd
def NdsR (w:World) (B:Nat) (A:Option Addr) (n:Nat) (ts:List Nd):Prop:=
 ts.length=n∧(0 < n→∃b o,A=some ⟨b,o,none⟩∧b < B∧∀i (h:i < ts.length),∃s,NdC w b (o+i*8) ts[i] s∧NdR w B ts[i] s)
section
variable {w w':World} {B B' n:Nat} {A:Option Addr} {ts:List Nd}
theorem NdsR.below (h:NdsR w B A n ts) (hb:Below B w w'):NdsR w' B A n ts:=⟨h.1,fun h0=>by
 obtain⟨b,o,hA,hB,hat⟩:=h.2 h0;refine⟨b,o,hA,hB,fun i hi=>?_⟩;obtain⟨s,h1,h2⟩:=hat i hi;exact⟨s,h1.below hb hB,h2.below hb⟩⟩
theorem NdsR.more (h:NdsR w B A n ts) (hb:B≤B'):NdsR w B' A n ts:=⟨h.1,fun h0=>by
 obtain⟨b,o,hA,hB,hat⟩:=h.2 h0;refine⟨b,o,hA,yAA hB hb,fun i hi=>?_⟩;obtain⟨s,h1,h2⟩:=hat i hi;exact⟨s,h1,h2.more hb⟩⟩
theorem NdsR.get (h:NdsR w B A n ts) {i:Nat} (hi:i < n):∃b o x s,A=some ⟨b,o,none⟩∧b < B∧ts[i]? =some x∧NdC w b (o+i*8) x s∧NdR w B x s:=by
 obtain⟨b,o,hA,hB,hat⟩:=h.2 (by omega);have hl:i < ts.length:=by rw[h.1];exact hi
 obtain⟨s,h1,h2⟩:=hat i hl;exact⟨b,o,ts[i],s,hA,hB,yAB hl,h1,h2⟩
end
theorem Reads.spotR {w:World} {B n:Nat} {A:Option Addr} {xs:List Value} (h:Reads w B 1 A n xs) (h0:0 < n):
 ∃b off,A=some ⟨b,off,none⟩∧b < B∧∀j u,xs[j]? =some u→w.cell? ⟨b,off+j,none⟩=some u:=by
 obtain⟨ad,u,e,hb,hx,hc⟩:=h.at_ h0;have hs:ad.spot=none:=by
  cases hsp:ad.spot with
  | none=>rfl
  | some s=>
   exfalso;rw[Addr.add_zero]at hc;simp only[World.cell?,hsp]at hc;split at hc
   · simp at hc
   · cases hc
 obtain⟨b,off,sp⟩:=ad;simp only at hs;subst hs;refine⟨b,off,e,hb,fun j v hv=>?_⟩;have hj:j < n:=by
  have:=(List.getElem?_eq_some_iff.1 hv).1;have h1:=h.1;omega
 obtain⟨ad',u',e',_,hx',h1⟩:=h.at_ hj;rw[e]at e';injection e' with e';subst e';rw[Addr.add_lit]at h1;rw[h1,←hx',hv]
theorem Reads.spotK {w:World} {B n:Nat} {A:Option Addr} {l:List Int} (h:Reads w B 1 A n (zBC l)) (h0:0 < l.length):
 ∃b off,A=some ⟨b,off,none⟩∧b < B∧∀j (hj:j < l.length),w.cell? ⟨b,off+j,none⟩=some (.int .i64 l[j]):=by
 have hl:l.length=n:=by have:=h.1;simpa [zBC]using this
 obtain⟨b,off,hA,hb,hc⟩:=h.spotR (by omega);exact⟨b,off,hA,hb,fun j hj=>hc j _ (by simp[zBC,yAB hj])⟩
theorem zPM {w:World} {base:Nat} {e:TypeId} {A:Option Addr} {n c j:Nat} {xs:List Value} (h:w.ownsRow base e 1 (.slice A n c) n xs) (hj:j≤n):w.ownsRow base e 1 (.slice A j c) j (xs.take j):=by
 refine⟨by rw[List.length_take,h.1];omega,?_⟩;rcases h.2 with⟨h1,h2⟩ | ⟨g,cap,cur,h1,hb,hg,hn,hc,hs,ht⟩
 · left;injection h1 with h3 h4 h5;subst h2;obtain rfl:j=0:=by omega
   exact⟨by rw[h3,h5],rfl⟩
 · right;injection h1 with h3 h4 h5;subst h3 h5;refine⟨g,c,cur,rfl,hb,hg,by omega,hc,hs,?_⟩;rw[←ht,List.take_take];congr 1;omega
structure Kept (w w':World) (v v':Value):Prop where
 os:w'.os=w.os
 tape:w'.tape=w.tape
 output:w'.output=w.output
 size:w.heap.size≤w'.heap.size
 block:∀i,i < w.heap.size→v.ownBlock≠some i→w'.heap[i]? =w.heap[i]?
 own:v'.ownBlock=v.ownBlock∨∃r,v'.ownBlock=some r∧w.heap.size≤r
section
variable {w w' w'':World} {v v' v'':Value}
theorem Kept.trans (h:Kept w w' v v') (k:Kept w' w'' v' v''):Kept w w'' v v'':=
 ⟨k.os.trans h.os,k.tape.trans h.tape,k.output.trans h.output,yAD h.size k.size,fun i hi hne=>(k.block i (yAA hi h.size) (by
  rcases h.own with e | ⟨r,e,hr⟩
  · rw[e];exact hne
  · rw[e];intro e2;injection e2 with e2;omega)).trans (h.block i hi hne),by
  rcases k.own with e | ⟨r,e,hr⟩
  · rcases h.own with e2 | ⟨r,e2,hr⟩
    · exact .inl (e.trans e2)
    · exact .inr ⟨r,e.trans e2,hr⟩
  · exact .inr ⟨r,e,yAD h.size hr⟩⟩
theorem Kept.cell (h:Kept w w' v v') {p:Addr} (hp:p.block < w.heap.size) (hne:v.ownBlock≠some p.block):w'.cell? p=w.cell? p:=World.cell?_of_block (h.block p.block hp hne)
theorem Kept.apart (h:Kept w w' v v') {i:Nat} (hi:i < w.heap.size) (hne:v.ownBlock≠some i):v'.ownBlock≠some i:=by
 rcases h.own with e | ⟨r,e,hr⟩
 · rw[e];exact hne
 · rw[e];intro e2;injection e2 with e2;omega
theorem Kept.below {B:Nat} (h:Kept w w' v v') (hB:∀i,v.ownBlock=some i→B≤i) (hs:B≤w.heap.size):Below B w w':=
 ⟨h.os,h.tape,h.output,h.size,fun i hi=>h.block i (by omega) (fun e=>by have:=hB i e;omega)⟩
end
theorem zIp {w:World} {base e n size:Nat} {v:Value} {xs:List Value} (h:w.ownsRow base e size v n xs) (m:Nat):(w.drewN m).ownsRow base e size v n xs:=
 h.kept (row:=none) ⟨rfl,rfl,rfl,yAC _,fun _ _ _=>rfl⟩ (by cases hv:v.ownBlock<;>simp)
theorem zKE {w:World} {base n size:Nat} {e:TypeId} {v:Value} {xs:List Value} (h:w.ownsRow base e size v n xs):∀i,v.ownBlock=some i→base≤i:=fun i hi=>(h.lt i hi).1
section
variable {P:Program} {w:World} {ops:Array Oper} {rest:List Oper} {o:Oper} {a:Act} {Q:Exit→Act→World→Prop}
theorem zCn (hgd:o.guard=none) (s x:Operand) (t:TypeId)
 (ho:o.op=.call {callee:=.builtin .append,args:=#[s,x],argTypes:=#[t,t]})
 (base:Nat) (e:TypeId) (i:TypeInfo) (z:Value) (size bytes:Nat) (ht:P.underlying t=some (.slice e)) (hi:P.info? e=some i) (hz:i.zero=some z)
 (hsize:i.size=size) (hby:i.bytes=bytes) (hzs:z.cells.size=size) (hs0:0 < size)
 (v:Value) (n:Nat) (xs:List Value) (hs:a.eval s=v) (hown:w.ownsRow base e size v n xs) (hbase:base≤w.heap.size)
 (cs:List Value) (m c:Nat) (hx:a.eval x=.slice (some ⟨w.heap.size,0,none⟩) m c) (hl:cs.length=m*size) (h1:(cs.all fun u=>u.oneCell')=true)
 (hsz:n+m≤1099511627776) (hb2:bytes≤128)
 (h:∀v' w',w'.ownsRow base e size v' (n+m) (xs++cs)→Kept w w' v v'→wpList P ops Q rest (a.put o.dst v') w'):wpList P ops Q (o::rest) a (w.alloc (.cells cs.toArray e)):=by
 refine wpList_append_own_at (w.alloc (.cells cs.toArray e)) hgd s x t ho base e i z size bytes ht hi hz hsize hby hzs hs0 v n xs hs (hown.alloc _) ⟨w.heap.size,0,none⟩ m c cs hx hl ?_ (fun u hu=>List.all_eq_true.1 h1 u hu) (by unfold maxLen;omega) ?_ (by simp;omega) ?_
 · intro j u hu;rw[Addr.add_lit,World.cell?_alloc_at _ _ _ _ rfl];simpa using hu
 · calc (n+m)*bytes≤1099511627776*128:=Nat.mul_le_mul hsz hb2
    _≤140737488355328:=by omega
 · intro v' w' h2 h3 _ h5;refine h v' w' h2 ⟨h3.os,h3.tape,h3.output,yAD (by simp) h3.size,fun k hk hne=>?_,?_⟩
   · rw[h3.block k (by simp;omega) (fun e=>hne e.symm)];exact heap_alloc_old w _ hk
   · rcases h5 with e | e
     · exact .inl e
     · exact .inr ⟨_,e,by simp⟩
end
theorem Tryz.info_int:(prog.info? 3).map (fun i=>(i.zero,i.size,i.bytes))=some (some (.int .i64 0),1,8):=by kernel_rfl
theorem zBv {s:List UInt8} {l:List UInt16} (h:zq s l=true):s.length≤l.length:=by
 unfold zq at h;rw[List.isPrefixOf_iff_prefix]at h;simpa using h.length_le
theorem zQr (long:Bool):∀(l:List UInt16) (nl st:Bool),(zCC long l nl st).1≤l.length:=by
 intro l
 induction l with
 | nil=>intro nl st;simp[zCC]
 | cons x r ih=>
  intro nl st;unfold zCC;split
  · rename_i h
    have:=zBv (Bool.and_eq_true _ _▸h).2;simpa using this
  · split
    · simp
    · have:=ih (nl || zAJ x) (st || zFz x);simp only[zDr,List.length_cons];omega
theorem zC0 {l:List UInt16} (h:2≤l.length):2≤(zAR l).1∧(zAR l).1≤l.length:=by
 have:=zQr (zq [47,42] l) (l.drop 2) false false;rw[List.length_drop]at this;simp only[zAR,zDr];omega
theorem zCX {l:List UInt16} (h:(zq [47,47] l || zq [47,42] l)=true):2≤l.length:=by
 rw[Bool.or_eq_true]at h;rcases h with h | h
 · exact zBv h
 · exact zBv h
theorem zMi:∀(f:Nat) (l:List UInt16) (nl:Bool),(zCu f l nl).1≤l.length:=by
 intro f
 induction f with
 | zero=>intro l nl;simp[zCu]
 | succ f ih=>
  intro l nl;cases l with
  | nil=>simp[zCu]
  | cons x r=>
   unfold zCu;split
   · have:=ih r (nl || zAJ x);simp only[zDr,List.length_cons];omega
   · split
     · rename_i h
       have h2:=zC0 (zCX h);split
       · simp
       · have:=ih ((x::r).drop (zAR (x::r)).1) (nl || (zAR (x::r)).2.1);rw[List.length_drop]at this;simp only[zDr];omega
     · simp
theorem zFW (l:List UInt16):(zAB l).1≤l.length:=zMi _ _ _
theorem zIq:∀(f g:Nat) (l:List UInt16) (nl:Bool),l.length≤f→l.length≤g→zCu f l nl=zCu g l nl:=by
 intro f
 induction f with
 | zero=>
  intro g l nl hf _;have:l=[]:=List.eq_nil_of_length_eq_zero (by omega);subst this;cases g<;>rfl
 | succ f ih=>
  intro g l nl hf hg;cases l with
  | nil=>cases g<;>rfl
  | cons x r=>
   obtain⟨g,rfl⟩:∃k,g=k+1:=⟨g - 1,by simp at hg;omega⟩;simp only[List.length_cons]at hf hg;unfold zCu;rw[ih g r (nl || zAJ x) (by omega) (by omega)];split
   · rfl
   · split
     · rename_i h
       have h2:=zC0 (zCX h);rw[ih g ((x::r).drop (zAR (x::r)).1) _ (by rw[List.length_drop,List.length_cons];omega) (by rw[List.length_drop,List.length_cons];omega)]
     · rfl
def zCe (l:List UInt16) (nl:Bool):Nat×Bool×Nat:=zCu l.length l nl
theorem zKF (nl:Bool):zCe [] nl=(0,nl,0):=rfl
theorem zG9 {x:UInt16} {r:List UInt16} (h:(zIh x || zAJ x)=true) (nl:Bool):zCe (x::r) nl=zDr 1 (zCe r (nl || zAJ x)):=by
 unfold zCe;rw[List.length_cons,zCu,if_pos h]
theorem zDf {x:UInt16} {r:List UInt16} (h:(zIh x || zAJ x)=false) (h2:(zq [47,47] (x::r) || zq [47,42] (x::r))=true) (nl:Bool):
 zCe (x::r) nl=if(zAR (x::r)).2.2≠0 then(0,false,(zAR (x::r)).2.2)else zDr (zAR (x::r)).1 (zCe ((x::r).drop (zAR (x::r)).1) (nl || (zAR (x::r)).2.1)):=by
 have h3:=zC0 (zCX h2);unfold zCe;rw[List.length_cons,zCu,if_neg (by rw[h];simp),if_pos h2];rw[zIq r.length ((x::r).drop (zAR (x::r)).1).length _ _ (by rw[List.length_drop,List.length_cons];omega) (yAC _)]
theorem zIr {x:UInt16} {r:List UInt16} (h:(zIh x || zAJ x)=false) (h2:(zq [47,47] (x::r) || zq [47,42] (x::r))=false) (nl:Bool):zCe (x::r) nl=(0,nl,0):=by
 unfold zCe;rw[List.length_cons,zCu,if_neg (by rw[h];simp),if_neg (by rw[h2];simp)]
theorem zBL {α:Type} (p:α→Bool) (l:List α):(l.takeWhile p).length≤l.length:=(List.takeWhile_sublist p).length_le
theorem zMj {n:Nat} {l:List UInt16} (h:(zCd n l).1=0):(zCd n l).2.2=n∧n≤l.length:=by
 unfold zCd at h⊢;split
 · rename_i h2
   simp only[Bool.and_eq_true,decide_eq_true_eq]at h2;exact⟨rfl,h2.1⟩
 · rename_i h2
   rw[if_neg h2]at h;cases h
theorem zKG (x:UInt16) (r:List UInt16):zDM (x::r)=if(zBr x).isSome=true then(0,(zBr x).getD 0,1)else zQl x r:=rfl
theorem zBb (z:Bool) (x:UInt16) (r:List UInt16):zA9 z (x::r)=if zAs x=true then zDm (x::r)else if zO x=true then zB1 (x::r)else if(x.toNat==39 || x.toNat==34)=true then zBD x r
 else if(x.toNat==46&&zAy 0 zO r)=true then bad 6 else zCA z (x::r):=rfl
theorem zEC {l:List UInt16} (h:(zDM l).1=0):1≤(zDM l).2.2∧(zDM l).2.2≤l.length:=by
 cases l with
 | nil=>simp[zDM]at h
 | cons x r=>
  rw[zKG]at h⊢;have hm:∀k,(more 1 (zCd k r)).1=0→1≤(more 1 (zCd k r)).2.2∧(more 1 (zCd k r)).2.2≤(x::r).length:=by
   intro k hk;unfold more at hk⊢;split
   · rename_i h3
     have:=zMj h3;simp only[List.length_cons];omega
   · rename_i h3
     rw[if_neg h3]at hk;exact absurd hk h3
  split
  · simp
  · rename_i hs
    rw[if_neg hs]at h;unfold zQl at h⊢
    by_cases h1:(x.toNat==48&& !zAy 0 zO r)=true
    · rw[if_pos h1];simp
    rw[if_neg h1]at h⊢
    by_cases h2:zO x=true
    · rw[if_pos h2]at h;cases h
    rw[if_neg h2]at h⊢
    by_cases h3:(zAJ x || zFz x || (x.toNat==117&&zq [123] r))=true
    · rw[if_pos h3]at h;cases h
    rw[if_neg h3]at h⊢
    by_cases h4:x.toNat=120
    · rw[if_pos h4]at h⊢;exact hm 2 h
    rw[if_neg h4]at h⊢
    by_cases h5:x.toNat=117
    · rw[if_pos h5]at h⊢;exact hm 4 h
    rw[if_neg h5];simp
theorem zPN (q:UInt16):∀(f:Nat) (l:List UInt16) (acc:List UInt16),(zDd q f l acc).1=0→1≤(zDd q f l acc).2.2∧(zDd q f l acc).2.2≤l.length:=by
 intro f
 induction f with
 | zero=>intro l acc h;simp[zDd]at h
 | succ f ih=>
  intro l acc h;cases l with
  | nil=>simp[zDd]at h
  | cons x r=>
   unfold zDd at h⊢
   by_cases h1:zAJ x=true
   · rw[if_pos h1]at h;cases h
   rw[if_neg h1]at h⊢
   by_cases h2:x=q
   · rw[if_pos h2];simp
   rw[if_neg h2]at h⊢
   by_cases h3:x.toNat=92
   · rw[if_pos h3]at h⊢
     by_cases h4:(zDM r).1≠0
     · rw[if_pos h4]at h;exact absurd h h4
     · rw[if_neg h4]at h⊢;have h5:=zEC (Decidable.not_not.1 h4);have h6:=ih _ _ h;rw[List.length_drop]at h6;simp only[List.length_cons];omega
   · rw[if_neg h3]at h⊢;have h6:=ih _ _ h;simp only[List.length_cons];omega
theorem zE7 {l:List UInt16}:∀{m n:Nat},zBE l m=some n→1≤n∧n≤m∧zAq l n≠0:=by
 intro m
 induction m with
 | zero=>intro n h;simp[zBE]at h
 | succ m ih=>
  intro n h;unfold zBE at h;split at h
  · injection h with h;subst h;exact⟨by omega,by omega,by assumption⟩
  · have:=ih h;exact⟨this.1,by omega,this.2.2⟩
theorem zE8 {l:List UInt16} {n:Nat} (h:zAq l n≠0):n≤l.length:=by
 unfold zAq at h;split at h
 · rename_i h2
   simp only[Bool.and_eq_true,decide_eq_true_eq]at h2;exact h2.1.1
 · exact absurd rfl h
theorem zC1 {α:Type} {p:α→Bool} {x:α} {r:List α} (h:p x=true):1≤((x::r).takeWhile p).length:=by
 rw[List.takeWhile_cons_of_pos h];simp
theorem zMk {d r:List UInt16} (h:(zBt d r).1=0) (hd:1≤d.length):1≤(zBt d r).2.2∧(zBt d r).2.2≤d.length+r.length:=by
 unfold zBt at h⊢;split
 · rename_i h1;rw[if_pos h1]at h;cases h
 · rename_i h1
   rw[if_neg h1]at h;split
   · rename_i h2
     rw[if_pos h2]at h;have hl:=zBv h2;unfold zIi at h⊢;split
     · rename_i h3;rw[if_pos h3]at h;cases h
     · rename_i h3
       rw[if_neg h3]at h;split
       · rename_i h4;rw[if_pos h4]at h;cases h
       · simp at hl;show 1≤d.length+1∧d.length+1≤_;omega
   · rename_i h2
     rw[if_neg h2]at h;split
     · rename_i h3;rw[if_pos h3]at h;cases h
     · rename_i h3
       rw[if_neg h3]at h;split
       · rename_i h4;rw[if_pos h4]at h;cases h
       · rename_i h4
         rw[if_neg h4]at h;split
         · rename_i h5;rw[if_pos h5]at h;cases h
         · show 1≤d.length∧d.length≤_;omega
theorem zF5 {z:Bool} {l:List UInt16} (h:(zA9 z l).1=0):1≤(zA9 z l).2.2∧(zA9 z l).2.2≤l.length:=by
 cases l with
 | nil=>cases h
 | cons x r=>
  rw[zBb]at h⊢
  by_cases h1:zAs x=true
  · rw[if_pos h1]at h⊢;unfold zDm at h⊢;split
    · rename_i h2;rw[if_pos h2]at h;cases h
    · exact⟨zC1 (by simp[zAe,h1]),zBL _ _⟩
  rw[if_neg h1]at h⊢
  by_cases h2:zO x=true
  · rw[if_pos h2]at h⊢;unfold zB1 at h⊢;have:=zMk h (zC1 h2);have h3:=zBL zO (x::r);rw[List.length_drop]at this;omega
  rw[if_neg h2]at h⊢
  by_cases h3:(x.toNat==39 || x.toNat==34)=true
  · rw[if_pos h3]at h⊢;unfold zBD at h⊢;split
    · rename_i h4;rw[if_pos h4]at h;exact absurd h h4
    · rename_i h4
      have:=zPN x _ _ _ (Decidable.not_not.1 h4);simp only[List.length_cons,zO1];omega
  rw[if_neg h3]at h⊢
  by_cases h4:(x.toNat==46&&zAy 0 zO r)=true
  · rw[if_pos h4]at h;cases h
  rw[if_neg h4]at h⊢;unfold zCA at h⊢;cases hs:zBE (x::r) 4 with
  | none=>
   rw[hs]at h;simp only at h;split at h<;>cases h
  | some n=>
   rw[hs]at h;have h5:=zE7 hs;have h6:=zE8 h5.2.2;simp only at h⊢;split
   · rename_i h7;rw[if_pos h7]at h;cases h
   · exact⟨h5.1,h6⟩
theorem zC2 {k:Nat} {l:List UInt16} (h:(zAi k l).1=0):1≤(zAi k l).2.2∧(zAB l).1+(zAi k l).2.2≤l.length:=by
 have h1:=zF5 h;have h2:=zFW l;rw[List.length_drop]at h1;unfold zAi;omega
theorem zKH:∀(f g k:Nat) (l:List UInt16),l.length < f→l.length < g→zDI f k l=zDI g k l:=by
 intro f
 induction f with
 | zero=>intro g k l hf _;omega
 | succ f ih=>
  intro g k l hf hg;obtain⟨g,rfl⟩:∃m,g=m+1:=⟨g - 1,by omega⟩;unfold zDI;split
  · rfl
  · split
    · rfl
    · split
      · rfl
      · rename_i h3
        have h4:=zC2 (Decidable.not_not.1 h3);rw[ih g _ (l.drop ((zAB l).1+(zAi k l).2.2)) (by rw[List.length_drop];omega) (by rw[List.length_drop];omega)]
def zE9 (k:Nat) (l:List UInt16):List Tok×Nat×Nat:=zDI (l.length+1) k l
theorem zF6 {k:Nat} {l:List UInt16} (h:(zAB l).2.2≠0):zE9 k l=([],k+(zAB l).1,(zAB l).2.2):=by
 unfold zE9;rw[zDI,if_pos h]
theorem zH0 {k:Nat} {l:List UInt16} (h:(zAB l).2.2=0) (h2:l.drop (zAB l).1=[]):zE9 k l=([setAt zj (k+(zAB l).1) (zAB l).2.1],0,0):=by
 unfold zE9;rw[zDI,if_neg (by rw[h];simp),if_pos h2]
theorem zH1 {k:Nat} {l:List UInt16} (h:(zAB l).2.2=0) (h2:l.drop (zAB l).1≠[]) (h3:(zAi k l).1≠0):zE9 k l=([],k+(zAB l).1,(zAi k l).1):=by
 unfold zE9;rw[zDI,if_neg (by rw[h];simp),if_neg h2,if_pos h3]
theorem zF7 {k:Nat} {l:List UInt16} (h:(zAB l).2.2=0) (h2:l.drop (zAB l).1≠[]) (h3:(zAi k l).1=0):
 zE9 k l=zDn (setAt (zAi k l).2.1 (k+(zAB l).1) (zAB l).2.1) (zE9 (k+(zAB l).1+(zAi k l).2.2) (l.drop ((zAB l).1+(zAi k l).2.2))):=by
 have h4:=zC2 h3;unfold zE9;rw[zDI,if_neg (by rw[h];simp),if_neg h2,if_neg (by rw[h3];simp)];rw[zKH l.length ((l.drop ((zAB l).1+(zAi k l).2.2)).length+1) _ _ (by rw[List.length_drop];omega) (by omega)]
theorem zBY {u:List UInt16} (h:¬4096 < u.length):zCD u=zE9 0 u:=by unfold zCD zE9;rw[if_neg h]
theorem zAW (x:UInt16) (w:World):Calls prog 66 #[.int .u16 (x.toNat:Int)] w fun e w'=>e=.returned (.bool (zAs x))∧w=w':=by
 have h1:=x.toNat_lt;go_enter func66,ntmps66;go_wp2
 all_goals go_ret
 all_goals refine⟨zD ?_,rfl⟩
 all_goals (rw[Bool.eq_iff_iff];simp only[zAs,Bool.and_eq_true,Bool.or_eq_true,beq_iff_eq,decide_eq_true_eq,true_iff];omega)
theorem zo (x:UInt16) (w:World):Calls prog 68 #[.int .u16 (x.toNat:Int)] w fun e w'=>e=.returned (.bool (zO x))∧w=w':=by
 have h1:=x.toNat_lt;go_enter func68,ntmps68;go_wp2
 all_goals go_ret
 all_goals refine⟨zD ?_,rfl⟩
 all_goals (rw[Bool.eq_iff_iff];simp only[zO,Bool.and_eq_true,decide_eq_true_eq,Bool.false_eq_true,false_iff];omega)
theorem zBF (x:UInt16) (w:World):Calls prog 62 #[.int .u16 (x.toNat:Int)] w fun e w'=>e=.returned (.bool (zIh x))∧w=w':=by
 have h1:=x.toNat_lt;go_enter func62,ntmps62;go_wp2
 all_goals go_ret
 all_goals refine⟨zD ?_,rfl⟩
 all_goals (rw[Bool.eq_iff_iff];simp[zIh];omega)
theorem zw (x:UInt16) (w:World):Calls prog 63 #[.int .u16 (x.toNat:Int)] w fun e w'=>e=.returned (.bool (zAJ x))∧w=w':=by
 have h1:=x.toNat_lt;go_enter func63,ntmps63;go_wp2
 all_goals go_ret
 all_goals refine⟨zD ?_,rfl⟩
 all_goals (rw[Bool.eq_iff_iff];simp[zAJ];omega)
theorem zAc (x:UInt16) (w:World):Calls prog 100 #[.int .u16 (x.toNat:Int)] w fun e w'=>e=.returned (.bool (zFz x))∧w=w':=by
 have h1:=x.toNat_lt;go_enter func100,ntmps100;go_wp2
 all_goals go_ret
 all_goals refine⟨zD ?_,rfl⟩
 all_goals (rw[Bool.eq_iff_iff];simp[zFz];omega)
theorem zED (b:Bool) (w:World):Calls prog 99 #[.bool b] w fun e w'=>e=.returned (.int .i64 (zFS b:Nat))∧w=w':=by
 cases b
 all_goals
  go_enter func99,ntmps99;go_wp2;go_ret;exact⟨rfl,rfl⟩
theorem zKI (x:UInt16) (w:World):Calls prog 102 #[.int .u16 (x.toNat:Int)] w fun e w'=>e=.returned (.bool (zAe x))∧w=w':=by
 cases hl:zAs x with
 | true=>
  have HR:=zA (show zAe x=true by simp[zAe,hl]);go_enter func102,ntmps102;go_wp2_with (go_at_call 66;refine(zAW _ _).mono ?_;rintro e w' ⟨rfl,rfl⟩);go_ret;exact⟨zD HR.out.symm,rfl⟩
 | false=>
  have HR:=zA (show zAe x=zO x by simp[zAe,hl]);go_enter func102,ntmps102;go_wp2_with (first | (go_at_call 66;refine(zAW _ _).mono ?_;rintro e w' ⟨rfl,rfl⟩) | (go_at_call 68;refine(zo _ _).mono ?_;rintro e w' ⟨rfl,rfl⟩));go_ret;exact⟨zD HR.out.symm,rfl⟩
theorem zH2 (x:UInt16) (w:World):Calls prog 192 #[.int .u16 (x.toNat:Int)] w fun e w'=>e=.returned (.int .u16 (zF0 x:Nat))∧w=w':=by
 have h1:=x.toNat_lt;cases hd:zO x with
 | true=>
  have hdd:=zA4.1 hd;have HR:=zA (show zF0 x=x.toNat - 48 by rw[zF0,if_pos hd]);go_enter func192,ntmps192;go_wp2_with (go_at_call 68;refine(zo _ _).mono ?_;rintro e w' ⟨rfl,rfl⟩);go_ret;exact⟨zDP (by rw[HR.out];omega),rfl⟩
 | false=>
  by_cases h2:97≤x.toNat∧x.toNat≤102
  · have HR:=zA (show zF0 x=x.toNat - 87 by rw[zF0,if_neg (by rw[hd];simp),if_pos h2]);obtain⟨h2,h3⟩:=h2;go_enter func192,ntmps192;go_wp2_with (go_at_call 68;refine(zo _ _).mono ?_;rintro e w' ⟨rfl,rfl⟩);go_ret;exact⟨zDP (by rw[HR.out];omega),rfl⟩
  · by_cases h3:65≤x.toNat∧x.toNat≤70
    · have HR:=zA (show zF0 x=x.toNat - 55 by rw[zF0,if_neg (by rw[hd];simp),if_neg h2,if_pos h3]);obtain⟨h3,h4⟩:=h3;have h5:¬(97:Int)≤(x.toNat:Int):=by omega
      clear h2;go_enter func192,ntmps192;go_wp2_with (go_at_call 68;refine(zo _ _).mono ?_;rintro e w' ⟨rfl,rfl⟩);go_ret;exact⟨zDP (by rw[HR.out];omega),rfl⟩
    · have HR:=zA (show zF0 x=16 by rw[zF0,if_neg (by rw[hd];simp),if_neg h2,if_neg h3]);have hw:¬(97:Int)≤(x.toNat:Int)∨((97:Int)≤(x.toNat:Int)∧¬(x.toNat:Int)≤102):=by omega
      have hw2:¬(65:Int)≤(x.toNat:Int)∨((65:Int)≤(x.toNat:Int)∧¬(x.toNat:Int)≤70):=by omega
      clear h2 h3;rcases hw with r1 | ⟨r1,r1b⟩
      all_goals rcases hw2 with r2 | ⟨r2,r2b⟩
      all_goals first
       | (exfalso;omega)
       | (
        go_enter func192,ntmps192;go_wp2_with (go_at_call 68;refine(zo _ _).mono ?_;rintro e w' ⟨rfl,rfl⟩);go_ret;exact⟨zDP (by rw[HR.out];rfl),rfl⟩)
theorem zIs (x:UInt16) (w:World):Calls prog 191 #[.int .u16 (x.toNat:Int)] w fun e w'=>e=.returned (.bool (zCw x))∧w=w':=by
 go_enter func191,ntmps191;go_wp2_with (go_at_call 192;refine(zH2 _ _).mono ?_;rintro e w' ⟨rfl,rfl⟩);go_ret;exact⟨zD (by unfold zCw;exact decide_eq_decide.2 (by omega)),rfl⟩
theorem zKJ (s:ByteArray) (l:List UInt8):(s.toList==l)=decide (s.data.toList=l):=by
 rw[Bool.eq_iff_iff,decide_eq_true_eq,beq_iff_eq,ByteArray.toList_eq]
theorem zH3 {s:ByteArray} {l:List UInt8} (h:s.data.toList=l):s=⟨l.toArray⟩:=by
 cases s with
 | mk d=>simp only at h;subst h;simp
theorem zQ {s:ByteArray} {l:List (List UInt8)} (h:s.data.toList∉l) (x:List UInt8) (hx:x∈l):(s.toList==x)=false:=by
 rw[zKJ];exact yAI fun e=>h (e▸hx)
theorem zIt {s:ByteArray} (h1:s.data.toList∉zDL) (h2:s.data.toList∉zCU) (w:World):Calls prog 103 #[.string s] w fun e w'=>e=.returned (.int .i64 0)∧w=w':=by
 have f0_0:=zQ h1 [98,114,101,97,107] (by decide);have f0_1:=zQ h1 [99,97,116,99,104] (by decide);have f0_2:=zQ h1 [99,111,110,115,116] (by decide);have f0_3:=zQ h1 [99,111,110,116,105,110,117,101] (by decide);have f0_4:=zQ h1 [101,108,115,101] (by decide);have f0_5:=zQ h1 [102,97,108,115,101] (by decide);have f0_6:=zQ h1 [102,105,110,97,108,108,121] (by decide);have f0_7:=zQ h1 [102,111,114] (by decide);have f0_8:=zQ h1 [102,117,110,99,116,105,111,110] (by decide);have f0_9:=zQ h1 [105,102] (by decide);have f0_10:=zQ h1 [105,110] (by decide);have f0_11:=zQ h1 [108,101,116] (by decide);have f0_12:=zQ h1 [110,101,119] (by decide);have f0_13:=zQ h1 [110,117,108,108] (by decide);have f0_14:=zQ h1 [114,101,116,117,114,110] (by decide);have f0_15:=zQ h1 [116,104,105,115] (by decide);have f0_16:=zQ h1 [116,104,114,111,119] (by decide);have f0_17:=zQ h1 [116,114,117,101] (by decide);have f0_18:=zQ h1 [116,114,121] (by decide);have f0_19:=zQ h1 [116,121,112,101,111,102] (by decide);have f0_20:=zQ h1 [118,111,105,100] (by decide);have f0_21:=zQ h1 [119,104,105,108,101] (by decide);have f1_0:=zQ h2 [97,114,103,117,109,101,110,116,115] (by decide);have f1_1:=zQ h2 [97,115,121,110,99] (by decide);have f1_2:=zQ h2 [97,119,97,105,116] (by decide);have f1_3:=zQ h2 [99,97,115,101] (by decide);have f1_4:=zQ h2 [99,108,97,115,115] (by decide);have f1_5:=zQ h2 [100,101,98,117,103,103,101,114] (by decide);have f1_6:=zQ h2 [100,101,102,97,117,108,116] (by decide);have f1_7:=zQ h2 [100,101,108,101,116,101] (by decide);have f1_8:=zQ h2 [100,111] (by decide);have f1_9:=zQ h2 [101,110,117,109] (by decide);have f1_10:=zQ h2 [101,118,97,108] (by decide);have f1_11:=zQ h2 [101,120,112,111,114,116] (by decide);have f1_12:=zQ h2 [101,120,116,101,110,100,115] (by decide);have f1_13:=zQ h2 [105,109,112,108,101,109,101,110,116,115] (by decide);have f1_14:=zQ h2 [105,109,112,111,114,116] (by decide);have f1_15:=zQ h2 [105,110,115,116,97,110,99,101,111,102] (by decide);have f1_16:=zQ h2 [105,110,116,101,114,102,97,99,101] (by decide);have f1_17:=zQ h2 [112,97,99,107,97,103,101] (by decide);have f1_18:=zQ h2 [112,114,105,118,97,116,101] (by decide);have f1_19:=zQ h2 [112,114,111,116,101,99,116,101,100] (by decide);have f1_20:=zQ h2 [112,117,98,108,105,99] (by decide);have f1_21:=zQ h2 [115,116,97,116,105,99] (by decide);have f1_22:=zQ h2 [115,117,112,101,114] (by decide);have f1_23:=zQ h2 [115,119,105,116,99,104] (by decide);have f1_24:=zQ h2 [118,97,114] (by decide);have f1_25:=zQ h2 [119,105,116,104] (by decide);have f1_26:=zQ h2 [121,105,101,108,100] (by decide);clear h1 h2;go_enter func103,ntmps103;go_wp2;go_ret;exact⟨rfl,rfl⟩
theorem zCI (s:ByteArray) (w:World):Calls prog 103 #[.string s] w fun e w'=>e=.returned (.int .i64 (zBf s.data.toList:Nat))∧w=w':=by
 by_cases h1:s.data.toList∈zDL
 · rw[show zBf s.data.toList=1 from if_pos h1];simp only[zDL,List.mem_cons,List.mem_nil_iff,or_false]at h1;rcases h1 with h | h | h | h | h | h | h | h | h | h | h | h | h | h | h | h | h | h | h | h | h | h
   all_goals
    rw[zH3 h];clear h;go_enter func103,ntmps103;go_wp2;go_ret;exact⟨rfl,rfl⟩
 · by_cases h2:s.data.toList∈zCU
   · rw[show zBf s.data.toList=2 by unfold zBf;rw[if_neg h1,if_pos h2]];simp only[zCU,List.mem_cons,List.mem_nil_iff,or_false]at h2;rcases h2 with h | h | h | h | h | h | h | h | h | h | h | h | h | h | h | h | h | h | h | h | h | h | h | h | h | h | h
     all_goals
      rw[zH3 h];clear h;go_enter func103,ntmps103;go_wp2;go_ret;exact⟨rfl,rfl⟩
   · rw[show zBf s.data.toList=0 by unfold zBf;rw[if_neg h1,if_neg h2]];exact zIt h1 h2 w
theorem zIu {s:ByteArray} (h1:s.data.toList∉zCk) (h2:s.data.toList∉zCv) (w:World):Calls prog 109 #[.string s] w fun e w'=>e=.returned (.int .i64 0)∧w=w':=by
 have f0_0:=zQ h1 [123] (by decide);have f0_1:=zQ h1 [125] (by decide);have f0_2:=zQ h1 [40] (by decide);have f0_3:=zQ h1 [41] (by decide);have f0_4:=zQ h1 [91] (by decide);have f0_5:=zQ h1 [93] (by decide);have f0_6:=zQ h1 [59] (by decide);have f0_7:=zQ h1 [44] (by decide);have f0_8:=zQ h1 [46] (by decide);have f0_9:=zQ h1 [63] (by decide);have f0_10:=zQ h1 [58] (by decide);have f0_11:=zQ h1 [126] (by decide);have f0_12:=zQ h1 [60] (by decide);have f0_13:=zQ h1 [62] (by decide);have f0_14:=zQ h1 [60,61] (by decide);have f0_15:=zQ h1 [62,61] (by decide);have f0_16:=zQ h1 [61,61] (by decide);have f0_17:=zQ h1 [33,61] (by decide);have f0_18:=zQ h1 [61,61,61] (by decide);have f0_19:=zQ h1 [33,61,61] (by decide);have f0_20:=zQ h1 [43] (by decide);have f0_21:=zQ h1 [45] (by decide);have f0_22:=zQ h1 [42] (by decide);have f0_23:=zQ h1 [47] (by decide);have f0_24:=zQ h1 [37] (by decide);have f0_25:=zQ h1 [38] (by decide);have f0_26:=zQ h1 [124] (by decide);have f0_27:=zQ h1 [94] (by decide);have f0_28:=zQ h1 [33] (by decide);have f0_29:=zQ h1 [38,38] (by decide);have f0_30:=zQ h1 [124,124] (by decide);have f0_31:=zQ h1 [63,63] (by decide);have f0_32:=zQ h1 [61] (by decide);have f0_33:=zQ h1 [43,61] (by decide);have f0_34:=zQ h1 [45,61] (by decide);have f0_35:=zQ h1 [42,61] (by decide);have f0_36:=zQ h1 [47,61] (by decide);have f0_37:=zQ h1 [37,61] (by decide);have f0_38:=zQ h1 [38,61] (by decide);have f0_39:=zQ h1 [124,61] (by decide);have f0_40:=zQ h1 [94,61] (by decide);have f0_41:=zQ h1 [60,60,61] (by decide);have f0_42:=zQ h1 [62,62,61] (by decide);have f0_43:=zQ h1 [62,62,62,61] (by decide);have f0_44:=zQ h1 [43,43] (by decide);have f0_45:=zQ h1 [45,45] (by decide);have f0_46:=zQ h1 [60,60] (by decide);have f0_47:=zQ h1 [62,62] (by decide);have f0_48:=zQ h1 [62,62,62] (by decide);have f0_49:=zQ h1 [61,62] (by decide);have f1_0:=zQ h2 [46,46,46] (by decide);have f1_1:=zQ h2 [63,46] (by decide);have f1_2:=zQ h2 [42,42] (by decide);have f1_3:=zQ h2 [42,42,61] (by decide);have f1_4:=zQ h2 [38,38,61] (by decide);have f1_5:=zQ h2 [124,124,61] (by decide);have f1_6:=zQ h2 [63,63,61] (by decide);clear h1 h2;go_enter func109,ntmps109;go_wp2;go_ret;exact⟨rfl,rfl⟩
theorem zKK (s:ByteArray) (w:World):Calls prog 109 #[.string s] w fun e w'=>e=.returned (.int .i64 (zBV s.data.toList:Nat))∧w=w':=by
 by_cases h1:s.data.toList∈zCk
 · rw[show zBV s.data.toList=1 from if_pos h1];simp only[zCk,List.mem_cons,List.mem_nil_iff,or_false]at h1;rcases h1 with h | h | h | h | h | h | h | h | h | h | h | h | h | h | h | h | h | h | h | h | h | h | h | h | h | h | h | h | h | h | h | h | h | h | h | h | h | h | h | h | h | h | h | h | h | h | h | h | h | h
   all_goals
    rw[zH3 h];clear h;go_enter func109,ntmps109;go_wp2;go_ret;exact⟨rfl,rfl⟩
 · by_cases h2:s.data.toList∈zCv
   · rw[show zBV s.data.toList=2 by unfold zBV;rw[if_neg h1,if_pos h2]];simp only[zCv,List.mem_cons,List.mem_nil_iff,or_false]at h2;rcases h2 with h | h | h | h | h | h | h
     all_goals
      rw[zH3 h];clear h;go_enter func109,ntmps109;go_wp2;go_ret;exact⟨rfl,rfl⟩
   · rw[show zBV s.data.toList=0 by unfold zBV;rw[if_neg h1,if_neg h2]];exact zIu h1 h2 w
theorem zC3 {c:UInt8} {q:Bool} (h:zAs c.toUInt16=q) (w:World):Calls prog 66 #[.int .u16 (c.toNat:Int)] w fun e w'=>e=.returned (.bool q)∧w=w':=by
 subst h;have:=zAW c.toUInt16 w;rwa [UInt8.toNat_toUInt16]at this
theorem zDs {c:UInt8} {q:Bool} (h:zO c.toUInt16=q) (w:World):Calls prog 68 #[.int .u16 (c.toNat:Int)] w fun e w'=>e=.returned (.bool q)∧w=w':=by
 subst h;have:=zo c.toUInt16 w;rwa [UInt8.toNat_toUInt16]at this
def zHA (l:List UInt8) (k:Nat):Prop:=∀j (h:j < l.length),j < k→(if j=0 then zAs l[j].toUInt16 else zAe l[j].toUInt16)=true
theorem zIv (l:List UInt8):zHA l 0:=fun _ _ h=>absurd h (by omega)
theorem zIw {l:List UInt8} {k:Nat} (h:zHA l k) (hk:k < l.length) (h2:(if k=0 then zAs l[k].toUInt16 else zAe l[k].toUInt16)=true):zHA l (k+1):=by
 intro j hj hjk
 by_cases e:j=k
 · subst e;exact h2
 · exact h j hj (by omega)
theorem zKL {l:List UInt8} (h:zHA l l.length) (h0:l≠[]):zG3 l=true:=by
 cases l with
 | nil=>exact absurd rfl h0
 | cons b r=>
  have h1:=h 0 (by simp) (by simp);simp only[if_true,List.getElem_cons_zero]at h1;unfold zG3;simp only[h1,Bool.true_and];rw[List.all_eq_true];intro x hx;obtain⟨j,hj,rfl⟩:=List.getElem_of_mem hx;have:=h (j+1) (by simpa using hj) (by simpa using hj);simpa using this
theorem zMl {l:List UInt8} {k:Nat} (hk:k < l.length) (h2:(if k=0 then zAs l[k].toUInt16 else zAe l[k].toUInt16)=false):zG3 l=false:=by
 cases l with
 | nil=>rfl
 | cons b r=>
  unfold zG3
  by_cases h0:k=0
  · subst h0;simp only[if_true,List.getElem_cons_zero]at h2;simp[h2]
  · obtain⟨j,rfl⟩:∃j,k=j+1:=⟨k - 1,by omega⟩;simp only[h0,if_false,List.getElem_cons_succ]at h2;rw[Bool.and_eq_false_iff];right;rw[←Bool.not_eq_true,List.all_eq_true];intro h;have:=h _ (List.getElem_mem (by simpa using hk:j < r.length));rw[h2]at this;cases this
theorem zKM (s:ByteArray) (k:Nat) (_h:k < s.size) (h2:k < s.data.toList.length):s.data.toList[k]=s[k]:=rfl
theorem zEE (s:ByteArray) (w:World) (hs:s.size≤8192) {q:Bool} (hq:zG3 s.data.toList=q):
 Calls prog 118 #[.string s] w fun e w'=>e=.returned (.bool q)∧w=w':=by
 have HQ:=zA hq;have hsz:s.data.toList.length=s.size:=by simp
 have HSZ:=zA hsz;clear hq hsz;go_enter func118,ntmps118;go_wp2_with fail
 go_loop [7] (fun i=>∃k:Nat,k≤s.size∧i=.int .i64 k∧Hid (zHA s.data.toList k)) (fun i=>s.size - (intOf i).toNat)
 case atStart=>exact⟨0,yAE _,rfl,zIv _⟩
 case round=>
  obtain⟨k,hk,rfl,hok⟩:=hrel
  by_cases hlt:k < s.size
  · have hb:=s[k].toNat_lt;obtain⟨c,hc⟩:∃c,s[k]=c:=⟨_,rfl⟩;have HC:=zA hc;have hcn:(s[k].toNat:Int)=(c.toNat:Int):=by rw[hc]
    have HStep:=zA (show(if k=0 then zAs c.toUInt16 else zAe c.toUInt16)=true→zHA s.data.toList (k+1)from fun h=>zIw hok.out (by rw[HSZ.out];exact hlt) (by rw[zKM s k hlt,HC.out];exact h));have HBad:=zA (show(if k=0 then zAs c.toUInt16 else zAe c.toUInt16)=false→false=q from fun h=>by rw[←HQ.out,zMl (l:=s.data.toList) (k:=k) (by rw[HSZ.out];exact hlt) (by rw[zKM s k hlt,HC.out];exact h)]);clear hc;obtain⟨ql,hql⟩:∃q,zAs c.toUInt16=q:=⟨_,rfl⟩;obtain⟨qd,hqd⟩:∃q,zO c.toUInt16=q:=⟨_,rfl⟩;have HL:=zA hql;have HD:=zA hqd;have HR:=zA (show zAe c.toUInt16=(ql || qd) by unfold zAe;rw[hql,hqd]);clear hql hqd;cases ql with
    | true=>
     have HN:=zA (HStep.out (by split;exact HL.out;rw[HR.out];rfl));go_wp2_with (first | (go_at_call 66;refine(zC3 HL.out w).mono ?_;rintro e w' ⟨rfl,rfl⟩) | (go_at_call 68;refine(zDs HD.out w).mono ?_;rintro e w' ⟨rfl,rfl⟩));go_round
     case rel=>exact⟨k+1,by omega,by go_num,HN.out⟩
     case measure=>simp[intOf];omega
    | false=>
     by_cases h0:k=0
     · have e0:((k:Int)==0)=true:=by rw[h0];rfl
       have HN:=zA (HBad.out (by rw[if_pos h0];exact HL.out));clear h0;go_wp2_with (first | (go_at_call 66;refine(zC3 HL.out w).mono ?_;rintro e w' ⟨rfl,rfl⟩) | (go_at_call 68;refine(zDs HD.out w).mono ?_;rintro e w' ⟨rfl,rfl⟩))
       (try rw[Exit.noGoto_ret])
       go_ret;exact⟨zD HN.out,rfl⟩
     · have e0:((k:Int)==0)=false:=yA.2 (by omega);cases qd with
       | true=>
        have HN:=zA (HStep.out (by rw[if_neg h0,HR.out];rfl));clear h0;go_wp2_with (first | (go_at_call 66;refine(zC3 HL.out w).mono ?_;rintro e w' ⟨rfl,rfl⟩) | (go_at_call 68;refine(zDs HD.out w).mono ?_;rintro e w' ⟨rfl,rfl⟩));go_round
        case rel=>exact⟨k+1,by omega,by go_num,HN.out⟩
        case measure=>simp[intOf];omega
       | false=>
        have HN:=zA (HBad.out (by rw[if_neg h0,HR.out];rfl));clear h0;go_wp2_with (first | (go_at_call 66;refine(zC3 HL.out w).mono ?_;rintro e w' ⟨rfl,rfl⟩) | (go_at_call 68;refine(zDs HD.out w).mono ?_;rintro e w' ⟨rfl,rfl⟩))
        (try rw[Exit.noGoto_ret])
        go_ret;exact⟨zD HN.out,rfl⟩
  · have hok2:=zA (show zHA s.data.toList s.data.toList.length by rw[HSZ.out,show s.size=k by omega];exact hok.out)
    by_cases hem:s.data.toList=[]
    · have e1:s.toList=[]:=by rw[ByteArray.toList_eq];exact hem
      have HN:=zA (show false=q by rw[←HQ.out,hem];rfl);have e2:(s.toList==[])=true:=by rw[e1];rfl
      have e3:s.toList.isEmpty=true:=by rw[e1];rfl
      clear hem e1;go_wp2_with fail;go_ret;exact⟨zD HN.out,rfl⟩
    · have e1:s.toList≠[]:=by rw[ByteArray.toList_eq];exact hem
      have HN:=zA (show true=q by rw[←HQ.out,zKL hok2.out hem]);have e2:(s.toList==[])=false:=yA.2 e1;have e3:s.toList.isEmpty=false:=by rw[List.isEmpty_eq_false_iff];exact e1
      clear hem e1;go_wp2_with fail;go_ret;exact⟨zD HN.out,rfl⟩
theorem zF8 (s:ByteArray) (w:World) (hs:s.size≤8192) {q:Bool} (hq:zCl s.data.toList=q):
 Calls prog 117 #[.string s] w fun e w'=>e=.returned (.bool q)∧w=w':=by
 cases hr:zG3 s.data.toList with
 | false=>
  obtain rfl:q=false:=by rw[←hq];unfold zCl;rw[hr];rfl
  have HR:=zA hr;clear hr hq;go_enter func117,ntmps117;go_wp2_with (go_at_call 118;refine(zEE s w hs HR.out).mono ?_;rintro e w' ⟨rfl,rfl⟩);go_ret;exact⟨rfl,rfl⟩
 | true=>
  obtain⟨n,hn⟩:∃n,zBf s.data.toList=n:=⟨_,rfl⟩;have HQ:=zA (show(n==0)=q by rw[←hq,←hn];unfold zCl;rw[hr];rfl);have HR:=zA hr;have HW:=zA (show∀w:World,Calls prog 103 #[.string s] w fun e w'=>e=.returned (.int .i64 (n:Int))∧w=w' from fun w=>by have:=zCI s w;rwa [hn]at this);clear hr hq hn;go_enter func117,ntmps117;go_wp2_with (first | (go_at_call 118;refine(zEE s w hs HR.out).mono ?_;rintro e w' ⟨rfl,rfl⟩) | (go_at_call 103;refine(HW.out w).mono ?_;rintro e w' ⟨rfl,rfl⟩));go_ret;refine⟨zD ?_,rfl⟩;rw[←HQ.out,Bool.eq_iff_iff,beq_iff_eq,beq_iff_eq];omega
def zC4 (l:List Nat):List Value:=l.map fun n:Nat=>Value.int .i64 (n:Int)
theorem zH4 (l:List Nat):(zC4 l).length=l.length:=by simp[zC4]
def zBM (w:World) (q:List Nat×Nat) (e:Ending) (w':World):Prop:=
 ∃A c,e=.returned (.tuple #[.slice A q.1.length c,.int .i64 (q.2:Int)])∧q.1.length≤c∧Reads w' w'.heap.size 1 A q.1.length (zC4 q.1)∧Below w.heap.size w w'
theorem zC5 (w:World) (r:Nat) {q:List Nat×Nat} (hq:q=([],r)):zBM w q (.returned (.tuple #[.slice none 0 0,.int .i64 (r:Int)])) w:=by
 subst hq;exact⟨none,0,rfl,yAC _,Reads.none_,Below.refl _ _⟩
theorem zF9 (w:World) (cs:List Value) (T:TypeId):Reads (w.alloc (.cells cs.toArray T)) (w.heap.size+1) 1 (some ⟨w.heap.size,0,none⟩) cs.length cs:=by
 refine⟨by simp,fun _=>⟨_,rfl,by show w.heap.size < _;omega,fun j u hu=>?_⟩⟩;rw[Addr.add_lit,World.cell?_alloc_at _ _ _ _ rfl];simpa using hu
theorem zAE (w:World) (l:List Nat) (r m:Nat) {T:TypeId} {q:List Nat×Nat} (hq:q=(l.take m,r)) (hm:m≤l.length):zBM w q (.returned (.tuple #[.slice (some ⟨w.heap.size,0,none⟩) m l.length,.int .i64 (r:Int)])) (w.alloc (.cells (zC4 l).toArray T)):=by
 subst hq;have hl:(l.take m).length=m:=by rw[List.length_take];omega
 refine⟨some ⟨w.heap.size,0,none⟩,l.length,by show _=Ending.returned (.tuple #[.slice _ (l.take m).length _,_]);rw[hl],by show(l.take m).length≤_;omega,?_,(Below.refl _ _).alloc (yAC _) _⟩;have h:=(zF9 w (zC4 l) T);rw[zH4]at h;have h2:=h.take (k:=m) hm;show Reads _ _ 1 _ (l.take m).length (zC4 (l.take m));rw[hl];have e:zC4 (l.take m)=(zC4 l).take (m*1):=by rw[Nat.mul_one];simp[zC4]
 rw[e];exact h2.more (by simp)
def zRu (w:World) (l:List Nat) (e:Ending) (w':World):Prop:=
 ∃A c,e=.returned (.slice A l.length c)∧l.length≤c∧Reads w' w'.heap.size 1 A l.length (zC4 l)∧Below w.heap.size w w'
structure PrS (w wr:World) (v:Value) (l:List Nat):Prop where
 own:wr.ownsRow w.heap.size 3 1 v l.length (zC4 l)
 below:Below w.heap.size w wr
theorem zDR (n last:Nat) (hn:n≤1000000) (w:World):Calls prog 120 #[.int .i64 (n:Int),.int .i64 (last:Int)] w (zRu w (zA5 n last)):=by
 obtain⟨i0,hi,hz0,hz1,hz2⟩:=info_parts Tryz.info_int;have HI:=zA (And.intro hi (And.intro hz0 (And.intro hz1 hz2)));clear hi hz0 hz1 hz2;go_enter func120,ntmps120;go_wp2_with fail
 go_loopw [5,8] (fun v i wr=>∃k:Nat,k≤n - 1∧i=.int .i64 k∧Hid (PrS w wr v (List.replicate k 6))) (fun _ i _=>n - (intOf i).toNat)
 case atStart=>exact⟨0,yAE _,rfl,⟨yAJ _ _ _ _,Below.refl _ _⟩⟩
 case round=>
  obtain⟨k,hk,rfl,hS⟩:=hrel;obtain⟨hi,hz0,hz1,hz2⟩:=HI.out
  by_cases hlt:k < n - 1
  · have e0:(k:Int) < (n:Int) - 1:=by omega
    go_wp2_with (at_builtin;refine zCn rfl _ _ 32 rfl w.heap.size 3 i0 (.int .i64 0) 1 8 underlying32 hi hz0 hz1 hz2 rfl (by decide) u5 _ _ rfl (by exact hS.out.own) hS.out.below.size [.int .i64 6] 1 1 rfl rfl rfl (by rw[List.length_replicate];omega) (by decide) ?_;intro v' w' ho' hk');have HO:=zA ho';have HK:=zA hk';clear ho' hk' hi hz0 hz1 hz2;go_wp2_with fail
    go_roundw
    case rel=>
     refine⟨k+1,by omega,by go_num,⟨?_,hS.out.below.trans (HK.out.below (zKE hS.out.own) hS.out.below.size)⟩⟩;have:=HO.out;rw[show zC4 (List.replicate k 6)++[Value.int .i64 6]=zC4 (List.replicate (k+1) 6) by rw[List.replicate_succ'];simp[zC4]]at this;simpa using this
    case measure=>simp[intOf];omega
  · have e0:¬(k:Int) < (n:Int) - 1:=by omega
    obtain rfl:k=n - 1:=by omega
    obtain⟨K,hK⟩:∃K,n - 1=K:=⟨_,rfl⟩;rw[hK]at hS e0;rw[hK];have HKK:=zA hK;clear hK hk hlt;go_wp2_with (at_builtin;refine zCn rfl _ _ 32 rfl w.heap.size 3 i0 (.int .i64 0) 1 8 underlying32 hi hz0 hz1 hz2 rfl (by decide) u5 _ _ rfl (by exact hS.out.own) hS.out.below.size [.int .i64 (last:Int)] 1 1 rfl rfl rfl (by rw[List.length_replicate];have:=HKK.out;omega) (by decide) ?_;intro v' w' ho' hk');have e:zC4 (List.replicate K 6)++[Value.int .i64 (last:Int)]=zC4 (zA5 n last):=by unfold zA5;rw[HKK.out];simp[zC4]
    have e2:(List.replicate K 6).length+1=(zA5 n last).length:=by unfold zA5;rw[HKK.out];simp
    rw[e,e2]at ho';have HB:=zA (hS.out.below.trans (hk'.below (zKE hS.out.own) hS.out.below.size));obtain⟨A,c,rfl,hc,_⟩:=zR ho';have HO:=zA (Reads.of_own ho');clear ho' hk' e e2 hi hz0 hz1 hz2;go_wp2_with fail;go_ret;exact⟨A,c,rfl,hc,HO.out,HB.out⟩
theorem zIx (k:Int) (h:k∈([1,3,4,5,6,9,10,15,16,17,18,38,39,40,43,44,45,46,47,48,49,50,51,52,53]:List Int)) (n:Nat) (w:World):Calls prog 83 #[.int .i64 k,.int .i64 (n:Int)] w (zBM w (zAA k n)):=by
 simp only[List.mem_cons,List.mem_nil_iff,or_false]at h;rcases h with rfl | rfl | rfl | rfl | rfl | rfl | rfl | rfl | rfl | rfl | rfl | rfl | rfl | rfl | rfl | rfl | rfl | rfl | rfl | rfl | rfl | rfl | rfl | rfl | rfl
 all_goals
  go_enter func83,ntmps83;go_wp2_with fail
  go_ret2
  first
  | exact zAE w [3] 0 1 rfl (by decide)
  | exact zAE w [3,2] 0 2 rfl (by decide)
  | exact zAE w [10,9,9,2] 0 4 rfl (by decide)
  | exact zAE w [8,11,12] 0 3 rfl (by decide)
  | exact zAE w [8] 0 1 rfl (by decide)
  | exact zAE w [2] 0 1 rfl (by decide)
  | exact zAE w [4] 0 1 rfl (by decide)
  | exact zAE w [3,3] 0 2 rfl (by decide)
  | exact zAE w [3,3,3] 0 3 rfl (by decide)
  | exact zAE w [4,3] 0 2 rfl (by decide)
  | exact zAE w [5] 5 1 rfl (by decide)
  | exact zAE w [3] 3 1 rfl (by decide)
  | exact zC5 w 1 rfl
  | exact zC5 w 3 rfl
  | exact zC5 w 7 rfl
theorem zIy (n:Nat) (h:n≤1) (w:World):Calls prog 83 #[.int .i64 7,.int .i64 (n:Int)] w (zBM w (zAA 7 n)):=by
 have e:(n:Int)≤1:=by omega
 have m1:min (n:Int) 1=n:=by omega
 go_enter func83,ntmps83;go_wp2_with fail
 go_ret2
 exact zAE w [3] 0 n (q:=zAA 7 n) (by show([3].take (min n 1),0)=_;rw[show min n 1=n by omega]) (by show n≤1;omega)
theorem zIz (n:Nat) (h:2≤n) (w:World):Calls prog 83 #[.int .i64 7,.int .i64 (n:Int)] w (zBM w (zAA 7 n)):=by
 have e:¬(n:Int)≤1:=by omega
 have m1:min (n:Int) 1=1:=by omega
 go_enter func83,ntmps83;go_wp2_with fail
 go_ret2
 exact zAE w [3] 0 1 (q:=zAA 7 n) (by show([3].take (min n 1),0)=_;rw[show min n 1=1 by omega]) (by decide)
theorem zHB (n:Nat) (h:n≤1) (w:World):Calls prog 83 #[.int .i64 14,.int .i64 (n:Int)] w (zBM w (zAA 14 n)):=by
 have e:(n:Int)≤1:=by omega
 have m1:min (n:Int) 1=n:=by omega
 go_enter func83,ntmps83;go_wp2_with fail
 go_ret2
 exact zAE w [3] 0 n (q:=zAA 14 n) (by show([3].take (min n 1),0)=_;rw[show min n 1=n by omega]) (by show n≤1;omega)
theorem zHC (n:Nat) (h:2≤n) (w:World):Calls prog 83 #[.int .i64 14,.int .i64 (n:Int)] w (zBM w (zAA 14 n)):=by
 have e:¬(n:Int)≤1:=by omega
 have m1:min (n:Int) 1=1:=by omega
 go_enter func83,ntmps83;go_wp2_with fail
 go_ret2
 exact zAE w [3] 0 1 (q:=zAA 14 n) (by show([3].take (min n 1),0)=_;rw[show min n 1=1 by omega]) (by decide)
theorem zHD (n:Nat) (h:n≤1) (w:World):Calls prog 83 #[.int .i64 8,.int .i64 (n:Int)] w (zBM w (zAA 8 n)):=by
 have m1:max (n:Int) 2=2:=by omega
 have m2:min (2:Int) 3=2:=by omega
 have e:(n:Int)≤2:=by omega
 have e2:¬2≤(n:Int):=by omega
 go_enter func83,ntmps83;go_wp2_with fail
 go_ret2
 exact zAE w [3,2,2] 0 2 (q:=zAA 8 n) (by show([3,2,2].take (min (max n 2) 3),0)=_;rw[show min (max n 2) 3=2 by omega]) (by decide)
theorem zHE (n:Nat) (h:n=2) (w:World):Calls prog 83 #[.int .i64 8,.int .i64 (n:Int)] w (zBM w (zAA 8 n)):=by
 have m1:max (n:Int) 2=n:=by omega
 have m2:min (n:Int) 3=n:=by omega
 have e:(n:Int)≤2:=by omega
 have e2:2≤(n:Int):=by omega
 have e3:(n:Int)≤3:=by omega
 have H:=zA h;clear h;go_enter func83,ntmps83;go_wp2_with fail
 go_ret2
 exact zAE w [3,2,2] 0 n (q:=zAA 8 n) (by show([3,2,2].take (min (max n 2) 3),0)=_;rw[show min (max n 2) 3=n by have:=H.out;omega]) (by have:=H.out;show n≤3;omega)
theorem zFX (n:Nat) (h:n=3) (w:World):Calls prog 83 #[.int .i64 8,.int .i64 (n:Int)] w (zBM w (zAA 8 n)):=by
 have m1:max (n:Int) 2=n:=by omega
 have m2:min (n:Int) 3=n:=by omega
 have e:¬(n:Int)≤2:=by omega
 have e2:(n:Int)≤3:=by omega
 have H:=zA h;clear h;go_enter func83,ntmps83;go_wp2_with fail
 go_ret2
 exact zAE w [3,2,2] 0 n (q:=zAA 8 n) (by show([3,2,2].take (min (max n 2) 3),0)=_;rw[show min (max n 2) 3=n by omega]) (by show n≤3;omega)
theorem zGA (n:Nat) (h:4≤n) (w:World):Calls prog 83 #[.int .i64 8,.int .i64 (n:Int)] w (zBM w (zAA 8 n)):=by
 have m1:max (n:Int) 2=n:=by omega
 have m2:min (n:Int) 3=3:=by omega
 have e:¬(n:Int)≤2:=by omega
 have e2:¬(n:Int)≤3:=by omega
 go_enter func83,ntmps83;go_wp2_with fail
 go_ret2
 exact zAE w [3,2,2] 0 3 (q:=zAA 8 n) (by show([3,2,2].take (min (max n 2) 3),0)=_;rw[show min (max n 2) 3=3 by omega]) (by decide)
theorem zMm (n:Nat) (h:n≤1000000) (w:World):Calls prog 83 #[.int .i64 19,.int .i64 (n:Int)] w (zBM w (zAA 19 n)):=by
 go_enter func83,ntmps83;go_wp2_with (go_at_call 120;refine(zDR n 8 h w).mono ?_;rintro e w' ⟨A,c,rfl,hc,hr,hb⟩)
 go_ret2
 exact⟨A,c,rfl,hc,hr,hb⟩
theorem zMn (n:Nat) (h:n≤1000000) (w:World):Calls prog 83 #[.int .i64 41,.int .i64 (n:Int)] w (zBM w (zAA 41 n)):=by
 go_enter func83,ntmps83;go_wp2_with (go_at_call 120;refine(zDR n 8 h w).mono ?_;rintro e w' ⟨A,c,rfl,hc,hr,hb⟩)
 go_ret2
 exact⟨A,c,rfl,hc,hr,hb⟩
theorem zMo (n:Nat) (h:n≤1000000) (w:World):Calls prog 83 #[.int .i64 42,.int .i64 (n:Int)] w (zBM w (zAA 42 n)):=by
 go_enter func83,ntmps83;go_wp2_with (go_at_call 120;refine(zDR n 13 h w).mono ?_;rintro e w' ⟨A,c,rfl,hc,hr,hb⟩)
 go_ret2
 exact⟨A,c,rfl,hc,hr,hb⟩
theorem zI0 (k:Int) (n:Nat) (h:∀j∈([1,3,4,5,6,7,8,9,10,14,15,16,17,18,19,38,39,40,41,42,43,44,45,46,47,48,49,50,51,52,53]:List Int),k≠j) (w:World):Calls prog 83 #[.int .i64 k,.int .i64 (n:Int)] w (zBM w (zAA k n)):=by
 have e1:(k==1)=false:=yA.2 (h 1 (by decide));have e3:(k==3)=false:=yA.2 (h 3 (by decide));have e4:(k==4)=false:=yA.2 (h 4 (by decide));have e5:(k==5)=false:=yA.2 (h 5 (by decide));have e6:(k==6)=false:=yA.2 (h 6 (by decide));have e7:(k==7)=false:=yA.2 (h 7 (by decide));have e8:(k==8)=false:=yA.2 (h 8 (by decide));have e9:(k==9)=false:=yA.2 (h 9 (by decide));have e10:(k==10)=false:=yA.2 (h 10 (by decide));have e14:(k==14)=false:=yA.2 (h 14 (by decide));have e15:(k==15)=false:=yA.2 (h 15 (by decide));have e16:(k==16)=false:=yA.2 (h 16 (by decide));have e17:(k==17)=false:=yA.2 (h 17 (by decide));have e18:(k==18)=false:=yA.2 (h 18 (by decide));have e19:(k==19)=false:=yA.2 (h 19 (by decide));have e38:(k==38)=false:=yA.2 (h 38 (by decide));have e39:(k==39)=false:=yA.2 (h 39 (by decide));have e40:(k==40)=false:=yA.2 (h 40 (by decide));have e41:(k==41)=false:=yA.2 (h 41 (by decide));have e42:(k==42)=false:=yA.2 (h 42 (by decide));have e43:(k==43)=false:=yA.2 (h 43 (by decide));have e44:(k==44)=false:=yA.2 (h 44 (by decide));have e45:(k==45)=false:=yA.2 (h 45 (by decide));have e46:(k==46)=false:=yA.2 (h 46 (by decide));have e47:(k==47)=false:=yA.2 (h 47 (by decide));have e48:(k==48)=false:=yA.2 (h 48 (by decide));have e49:(k==49)=false:=yA.2 (h 49 (by decide));have e50:(k==50)=false:=yA.2 (h 50 (by decide));have e51:(k==51)=false:=yA.2 (h 51 (by decide));have e52:(k==52)=false:=yA.2 (h 52 (by decide));have e53:(k==53)=false:=yA.2 (h 53 (by decide));have HQ:Hid (zAA k n=([],0)):=by
  have h2:∀{p:Prop} [Decidable p] {a b:List Nat×Nat},¬p→b=([],0)→(if p then a else b)=([],0):=fun h1 h2=>by rw[if_neg h1,h2]
  have g:k≠1∧k≠3∧k≠4∧k≠5∧k≠6∧k≠7∧k≠8∧k≠9∧k≠10∧k≠14∧k≠15∧k≠16∧k≠17∧k≠18∧k≠19∧k≠38∧k≠39∧k≠40∧k≠41∧k≠42∧k≠43∧k≠44∧k≠45∧k≠46∧k≠47∧k≠48∧k≠49∧k≠50∧k≠51∧k≠52∧k≠53:=by refine⟨h 1 (by decide),h 3 (by decide),h 4 (by decide),h 5 (by decide),h 6 (by decide),h 7 (by decide),h 8 (by decide),h 9 (by decide),h 10 (by decide),h 14 (by decide),h 15 (by decide),h 16 (by decide),h 17 (by decide),h 18 (by decide),h 19 (by decide),h 38 (by decide),h 39 (by decide),h 40 (by decide),h 41 (by decide),h 42 (by decide),h 43 (by decide),h 44 (by decide),h 45 (by decide),h 46 (by decide),h 47 (by decide),h 48 (by decide),h 49 (by decide),h 50 (by decide),h 51 (by decide),h 52 (by decide),h 53 (by decide)⟩
  clear h;unfold zAA
  repeat' refine h2 (by omega) ?_
  rfl
 clear h;go_enter func83,ntmps83;go_wp2_with fail
 go_ret2
 exact zC5 w 0 HQ.out
theorem zKN (k:Int) (n:Nat) (hn:n≤1000000) (w:World):Calls prog 83 #[.int .i64 k,.int .i64 (n:Int)] w (zBM w (zAA k n)):=by
 by_cases hL:k∈([1,3,4,5,6,9,10,15,16,17,18,38,39,40,43,44,45,46,47,48,49,50,51,52,53]:List Int)
 · exact zIx k hL n w
 simp only[List.mem_cons,List.mem_nil_iff,or_false,not_or]at hL
 by_cases h7:k=7
 · subst h7
   by_cases h:n≤1
   · exact zIy n h w
   · exact zIz n (by omega) w
 by_cases h8:k=8
 · subst h8
   by_cases h0:n≤1
   · exact zHD n h0 w
   by_cases h:n=2
   · exact zHE n h w
   · by_cases h2:n=3
     · exact zFX n h2 w
     · exact zGA n (by omega) w
 by_cases h14:k=14
 · subst h14
   by_cases h:n≤1
   · exact zHB n h w
   · exact zHC n (by omega) w
 by_cases h19:k=19
 · subst h19;exact zMm n hn w
 by_cases h41:k=41
 · subst h41;exact zMn n hn w
 by_cases h42:k=42
 · subst h42;exact zMo n hn w
 exact zI0 k n (fun j hj=>by simp only[List.mem_cons,List.mem_nil_iff,or_false]at hj;omega) w
def zBQ (l:List (List UInt8)):List Value:=l.map fun s=>Value.string ⟨s.toArray⟩
theorem zC6 (l:List (List UInt8)):(zBQ l).length=l.length:=by simp[zBQ]
def zRv (s:List UInt8) (xs:List (List UInt8)) (w:World) (e:Ending) (w':World):Prop:=∃r:Int,e=.returned (.int .i64 r)∧w=w'∧decide (0≤r)=decide (s∈xs)∧ -1≤r∧r≤4096
theorem zKO {A:Option Addr} {B n c:Nat} {xs:List (List UInt8)} (s:ByteArray) {w:World} (hn:xs.length=n) (ha:Reads w B 1 A n (zBQ xs)) (hl:n≤4096):
 Calls prog 161 #[.slice A n c,.string s] w (zRv s.data.toList xs w):=by
 have HN:=zA hn;have HA:=zA ha;clear hn ha;go_enter func161,ntmps161;go_wp2_with fail
 go_loop [8] (fun i=>∃k:Nat,k≤n∧i=.int .i64 k∧Hid (s.data.toList∉xs.take k)) (fun i=>n - (intOf i).toNat)
 case atStart=>exact⟨0,yAE _,rfl,by simp[Hid]⟩
 case round=>
  obtain⟨k,hk,rfl,hno⟩:=hrel
  by_cases hlt:k < n
  · have hx:k < xs.length:=by rw[HN.out];exact hlt
    obtain⟨b,off,rfl,_,hcell⟩:=HA.out.spotR (by omega);have hca:=hcell k (.string ⟨xs[k].toArray⟩) (by simp[zBQ,yAB hx]);have HM:=zA (show xs[k]∈xs from List.getElem_mem hx);have HT:=zA (show xs.take (k+1)=xs.take k++[xs[k]]from yAK hx);obtain⟨x,hxx⟩:∃x,xs[k]=x:=⟨_,rfl⟩;rw[hxx]at hca HM HT;clear hcell hxx hx
    by_cases hxs:x=s.data.toList
    · have es:(⟨x.toArray⟩:ByteArray)=s:=by rw[hxs]
      have HR:=zA (show decide (s.data.toList∈xs)=true from decide_eq_true (by rw[←hxs];exact HM.out));rw[es]at hca;clear hxs es;go_wp2_with fail
      (try rw[Exit.noGoto_ret])
      go_ret;exact⟨_,rfl,rfl,by rw[HR.out];exact decide_eq_true (by omega),by omega,by omega⟩
    · have e1:((⟨x.toArray⟩:ByteArray).toList==s.toList)=false:=by
       rw[yA,ByteArray.toList_eq,ByteArray.toList_eq];exact hxs
      have e2:(s.toList==(⟨x.toArray⟩:ByteArray).toList)=false:=by
       rw[yA,ByteArray.toList_eq,ByteArray.toList_eq];exact fun h=>hxs h.symm
      have hn2:=zA (show s.data.toList∉xs.take (k+1) by
       rw[HT.out,List.mem_append,List.mem_singleton];rintro(h | h)
       · exact hno.out h
       · exact hxs h.symm)
      obtain⟨y,hy⟩:∃y:ByteArray,⟨x.toArray⟩=y:=⟨_,rfl⟩;rw[hy]at hca e1 e2;clear hxs hy;go_wp2_with fail;go_round
      case rel=>exact⟨k+1,by omega,by go_num,hn2.out⟩
      case measure=>simp[intOf];omega
  · have HR:=zA (show decide (s.data.toList∈xs)=false from yAI (by
     have:=hno.out;rwa [List.take_of_length_le (by rw[HN.out];omega)]at this))
    go_wp2_with fail;go_ret;exact⟨_,rfl,rfl,by rw[HR.out];rfl,by omega,by omega⟩
theorem zDg {A:Option Addr} {B n c:Nat} {xs:List (List UInt8)} (s:ByteArray) {w:World} (hn:xs.length=n) (ha:Reads w B 1 A n (zBQ xs)) (hl:n≤4096) {q:Bool} (hq:decide (s.data.toList∈xs)=q):
 Calls prog 111 #[.slice A n c,.string s] w fun e w'=>e=.returned (.bool q)∧w=w':=by
 have H:=zA (fun w (ha:Reads w B 1 A n (zBQ xs))=>zKO (c:=c) s hn ha hl);have HA:=zA ha;have HQ:=zA hq;clear hn ha hq;go_enter func111,ntmps111;go_wp2_with (go_at_call 161;refine(H.out w HA.out).mono ?_;rintro e w' ⟨r,rfl,rfl,hr,hr1,hr2⟩);go_ret;exact⟨zD (by rw[←HQ.out,←hr]),rfl⟩
def zRr (w:World) (l:List (List UInt8)) (e:Ending) (w':World):Prop:=∃ad c,e=.returned (.slice (some ad) l.length c)∧Reads w' w'.heap.size 1 (some ad) l.length (zBQ l)∧Below w.heap.size w w'
theorem zEF (w:World) (l:List (List UInt8)) (T:TypeId) (n m:Nat) (h1:l.length=n):zRr w l (.returned (.slice (some ⟨w.heap.size,0,none⟩) n m)) (w.alloc (.cells (zBQ l).toArray T)):=by
 subst h1;have h:=zF9 w (zBQ l) T;rw[zC6]at h;exact⟨_,_,rfl,h.more (by simp),(Below.refl _ _).alloc (yAC _) _⟩
theorem zKP (k:Int) (h:k=43∨k=44∨k=45∨k=46∨k=47∨k=49) (w:World):Calls prog 119 #[.int .i64 k] w (zRr w (zMU k)):=by
 rcases h with rfl | rfl | rfl | rfl | rfl | rfl
 all_goals
  go_enter func119,ntmps119;go_wp2_with fail;go_ret
  first | exact zEF w zJ4 _ _ _ rfl | exact zEF w zFT _ _ _ rfl | exact zEF w zRp _ _ _ rfl | exact zEF w zRq _ _ _ rfl | exact zEF w zO2 _ _ _ rfl
theorem zH5 (k:Int) (h:∀j∈([43,44,45,46,47,49]:List Int),k≠j) (w:World):Calls prog 119 #[.int .i64 k] w fun e w'=>e=.returned (.slice none 0 0)∧w=w':=by
 have e43:(k==43)=false:=yA.2 (h 43 (by decide));have e44:(k==44)=false:=yA.2 (h 44 (by decide));have e45:(k==45)=false:=yA.2 (h 45 (by decide));have e46:(k==46)=false:=yA.2 (h 46 (by decide));have e47:(k==47)=false:=yA.2 (h 47 (by decide));have e49:(k==49)=false:=yA.2 (h 49 (by decide));clear h;go_enter func119,ntmps119;go_wp2_with fail;go_ret;exact⟨rfl,rfl⟩
section
variable {P:Program} (w:World)
theorem zDS (base:Nat) (t ty e:TypeId) (i:TypeInfo) (size:Nat) (ht:P.underlying t=some (.slice e)) (hi:P.info? e=some i)
 (v:Value) (n:Nat) (xs:List Value) (hown:w.ownsRow base e size v n xs) (c:Nat):(Builtin.append_ #[t,t] ty #[v,.slice none 0 c]).run P w=.ok v w:=by
 rcases hown.2 with⟨rfl,rfl⟩ | ⟨g,cap,cur,rfl,_,_,hnc,_⟩
 · simp[Builtin.append_,run_underlying ht,sizeOf,typeInfo,hi,Builtin.lenOf,Builtin.firstCells]
 · simp[Builtin.append_,run_underlying ht,sizeOf,typeInfo,hi,Builtin.lenOf,Builtin.firstCells,hnc,storeCells]
theorem zEo (base:Nat) (t ty e:TypeId) (i:TypeInfo) (z:Value) (size bytes:Nat) (ht:P.underlying t=some (.slice e)) (hi:P.info? e=some i) (hz:i.zero=some z)
 (hsize:i.size=size) (hby:i.bytes=bytes) (hzs:z.cells.size=size) (hsz:0 < size)
 (v:Value) (n:Nat) (xs:List Value) (hown:w.ownsRow base e size v n xs)
 (B:Nat) (A:Option Addr) (m c:Nat) (news:List Value) (hr:Reads w B size A m news) (h1:∀u∈news,u.oneCell'=true)
 (h63:n+m≤maxLen) (hbytes:(n+m)*bytes≤140737488355328) (hbase:base≤w.heap.size):
 ∃v' w',(Builtin.append_ #[t,t] ty #[v,.slice A m c]).run P w=.ok v' w'∧w'.ownsRow base e size v' (n+m) (xs++news)∧w.grownBy w' v.ownBlock∧
  (v'.ownBlock=v.ownBlock∨v'.ownBlock=some w.heap.size):=by
 rcases A with _ | ad
 · have hm:m=0:=by
    rcases Nat.eq_zero_or_pos m with h0 | h0
    · exact h0
    · obtain⟨ad,h,_⟩:=hr.2 h0;cases h
   subst hm;have hn:news=[]:=List.eq_nil_of_length_eq_zero (by simpa using hr.1);subst hn;exact⟨v,w,zDS w base t ty e i size ht hi v n xs hown c,by simpa using hown,World.grownBy.refl w _,.inl rfl⟩
 · have hcells:∀j u,news[j]? =some u→w.cell? (ad.add j)=some u:=by
    intro j u hu;rcases Nat.eq_zero_or_pos m with h0 | h0
    · subst h0;have hn:news=[]:=List.eq_nil_of_length_eq_zero (by simpa using hr.1);subst hn;simp at hu
    · obtain⟨ad',h,_,hc⟩:=hr.2 h0;injection h with h;subst h;exact hc j u hu
   obtain⟨v',w',hrun,h2,h3,_,h5⟩:=run_append_own_at (P:=P) w base t ty e i z size bytes ht hi hz hsize hby hzs hsz v n xs hown ad m c news hr.1 hcells h1 h63 hbytes hbase;exact⟨v',w',hrun,h2,h3,h5⟩
end
theorem Made.lit (w:World) (e:TypeId) (cs:List Value) (h:cs.length≤maxLen):Made w (w.alloc (.cells cs.toArray e)) e (.slice (some ⟨w.heap.size,0,none⟩) cs.length cs.length) cs:=
 ⟨⟨by simp,.inr ⟨w.heap.size,cs.length,cs.toArray,rfl,yAC _,heap_alloc_new w _,yAC _,h,by simp,by simp⟩⟩,(Below.refl _ _).alloc (yAC _) _⟩
end Go.Proofs.YtlohaclgbfhijaaGreatDoor
