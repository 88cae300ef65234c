/- Joined for the claim ParseBlocks: the parser, the lexer and the trees as they are walked, made short by a program of mine. -/
import Derived.Test.YtlohaclgbfhijaaGreatDoorS01
import Derived.ProofKit
import Derived.OpenShut
import Derived.Deep.Slices
import Derived.Laws.OwnMore
set_option maxHeartbeats 16000000
set_option maxRecDepth 1000000
namespace Go.Proofs.YtlohaclgbfhijaaGreatDoor
open Go.Proofs.Tryz
section Zq
open Go.ChangeShapes Go.WideShapes Go.ChangeAt Go.RowKit Go.Lib
theorem zR7:prog.cellsOf 24=1:=by kernel_rfl
section
variable {H:Type} {enc:TypeId×Value→H} {W:World} {base:Nat}
theorem zLu {v:Value} {d:DataW H} {p:List MemPlace} (hv:Value.okWide prog W .any base 22 v) (h:DataW.Trod enc prog W 0 (fun _=>true) true 22 v d p):
 ∃A c xs,v=.slice A (xs:List UInt16).length c∧xs.length≤c∧c≤maxLen∧Reads W W.heap.size 1 A xs.length (zAM xs):=by
 obtain⟨a0,len,cap,rfl⟩:=okWide_slice underlying22 hv;obtain⟨fuel,hf⟩:=h;rcases open_ints underlying22 underlying24 zR7 hf with⟨hcs,_⟩ | ⟨a,len',cap',zs,hcs,_,hl,hm,hz,_,hcell,hwf⟩
 · simp only[Value.cells,List.cons.injEq,and_true,Value.slice.injEq]at hcs;obtain⟨rfl,rfl,rfl⟩:=hcs;exact⟨none,0,[],rfl,yAD _,yAF _,Reads.none_⟩
 · simp only[Value.cells,List.cons.injEq,and_true,Value.slice.injEq]at hcs;obtain⟨rfl,rfl,rfl⟩:=hcs;simp only[if_true]at hz;have hlen:((zs.take len).map fun n=>UInt16.ofNat n.toNat).length=len:=by simp;omega
   refine⟨some a,cap,(zs.take len).map fun n=>UInt16.ofNat n.toNat,by rw[hlen],by rw[hlen];exact hl,hm,?_⟩;refine⟨by rw[zCH];omega,fun hn=>⟨a,rfl,?_,fun j u hu=>?_⟩⟩
   · have h0:=hcell 0 (by omega);have:=World.block_lt_of_cell? W _ h0;rwa [zC0]at this
   · have hj:j < len:=by
      have:=(List.getElem?_eq_some_iff.1 hu).1;rw[zCH,hlen]at this;exact this
     rw[hcell j (by omega)];have hzj:j < zs.length:=by omega
     have hw:=hwf zs[j] (List.getElem_mem _);have hw:=bounds_u16 hw;rw[←hu];simp only[zAM,List.getElem?_map,List.getElem?_take,hj,if_true,yAC hzj,Option.map_some,zTl,yAH,Option.getD_some];congr 2;simp;omega
end
end Zq
section Zq
open Go.ChangeShapes Go.WideShapes Go.ChangeAt Go.RowKit
end Zq
def zBC:List Nat→List Nat
 | []=>[]
 | x::r=>if zBC r=[]∧x=0 then []else x::zBC r
theorem zJ3 (l:List Nat):zBC (l++[0])=zBC l:=by
 induction l with
 | nil=>rfl
 | cons x r ih=>rw[List.cons_append,zBC,zBC,ih]
theorem zJ4 {x:Nat} (h:x≠0) (l:List Nat):zBC (l++[x])=l++[x]:=by
 induction l with
 | nil=>simp[zBC,h]
 | cons y r ih=>rw[List.cons_append,zBC,ih,if_neg (by simp)]
theorem zFz (l:List Nat):zBC l=l.take (zBC l).length:=by
 induction l with
 | nil=>rfl
 | cons x r ih=>
  by_cases h:zBC r=[]∧x=0
  · simp[zBC,h]
  · rw[zBC,if_neg h,List.length_cons,List.take_succ_cons,←ih]
theorem zLv (l:List Nat):(zBC l).length≤l.length:=by
 have:=congrArg List.length (zFz l);rw[List.length_take]at this;omega
def zEk:List Nat→Nat
 | []=>0
 | x::r=>x+4294967296*zEk r
theorem zOt (l r:List Nat):zEk (l++r)=zEk l+4294967296^l.length*zEk r:=by
 induction l with
 | nil=>simp[zEk]
 | cons x l ih=>
  rw[List.cons_append,zEk,zEk,ih,List.length_cons,Nat.pow_succ,Nat.mul_add,Nat.mul_comm (4294967296^l.length) 4294967296,Nat.mul_assoc];omega
theorem zGz {l:List Nat}:zBC l=[]↔zEk l=0:=by
 induction l with
 | nil=>simp[zBC,zEk]
 | cons x r ih=>
  rw[zBC,zEk]
  by_cases h:zBC r=[]∧x=0
  · rw[if_pos h];have:=ih.1 h.1;simp[this,h.2]
  · rw[if_neg h];constructor
    · intro h2;cases h2
    · intro h2;exact absurd ⟨ih.2 (by omega),by omega⟩ h
theorem zEd:∀(f:Nat) (l:List Nat),l.length≤f→(∀x∈l,x < 4294967296)→zBC l=zA1 f (zEk l):=by
 intro f
 induction f with
 | zero=>
  intro l hl _;have:l=[]:=List.eq_nil_of_length_eq_zero (by omega);subst this;rfl
 | succ f ih=>
  intro l hl hx;cases l with
  | nil=>rfl
  | cons x r=>
   have h1:=hx x (by simp);have h2:=ih r (by simp at hl;omega) (fun y hy=>hx y (by simp[hy]));rw[zA1,zBC]
   by_cases h:zBC r=[]∧x=0
   · rw[if_pos h,if_pos (by rw[zEk,zGz.1 h.1,h.2])]
   · have hv:zEk (x::r)≠0:=fun h3=>h (by
      rw[zEk]at h3;exact⟨zGz.2 (by omega),by omega⟩)
     rw[if_neg h,if_neg hv,zEk,h2];congr 1
     · omega
     · congr 1;omega
theorem zLw:∀(k f v:Nat),v < 4294967296^k→(zA1 f v).length≤k:=by
 intro k
 induction k with
 | zero=>
  intro f v hv;have:v=0:=by simpa using hv
  subst this;cases f<;>simp[zA1]
 | succ k ih=>
  intro f v hv;cases f with
  | zero=>simp[zA1]
  | succ f=>
   rw[zA1]
   by_cases h:v=0
   · rw[if_pos h];simp
   · rw[if_neg h,List.length_cons];have:=ih f (v / 4294967296) (Nat.div_lt_of_lt_mul (by rw[Nat.pow_succ,Nat.mul_comm]at hv;exact hv));omega
theorem zLx:∀(k f v:Nat),k < f→4294967296^k≤v→k < (zA1 f v).length:=by
 intro k
 induction k with
 | zero=>
  intro f v hf hv;obtain⟨f,rfl⟩:∃m,f=m+1:=⟨f - 1,by omega⟩;have hv1:1≤v:=hv;rw[zA1,if_neg (by omega)];simp
 | succ k ih=>
  intro f v hf hv;obtain⟨f,rfl⟩:∃m,f=m+1:=⟨f - 1,by omega⟩;have h1:4294967296^k≤v / 4294967296:=(Nat.le_div_iff_mul_le (by omega)).2 (by rw[←Nat.pow_succ];exact hv);have h2:0 < 4294967296^k:=Nat.pow_pos (by omega);rw[zA1,if_neg (by intro h;subst h;simp at h1),List.length_cons];have:=ih f _ (by omega) h1;omega
theorem zLy:∀(f v:Nat),∀x∈zA1 f v,x < 4294967296:=by
 intro f
 induction f with
 | zero=>intro v x hx;simp[zA1]at hx
 | succ f ih=>
  intro v x hx;rw[zA1]at hx;split at hx
  · simp at hx
  · rcases List.mem_cons.1 hx with h | h
    · rw[h];exact Nat.mod_lt _ (by omega)
    · exact ih _ x h
theorem zF0:∀(f v:Nat),v < 4294967296^f→zEk (zA1 f v)=v:=by
 intro f
 induction f with
 | zero=>intro v hv;simp at hv;subst hv;rfl
 | succ f ih=>
  intro v hv;rw[zA1]
  by_cases h:v=0
  · rw[if_pos h,h];rfl
  · rw[if_neg h,zEk,ih _ (Nat.div_lt_of_lt_mul (by rw[Nat.pow_succ,Nat.mul_comm]at hv;exact hv))];exact Nat.mod_add_div _ _
def zCA:List Nat→Nat→List Nat×Nat
 | [],c=>([],c)
 | x::r,c=>((c+10*x) % 4294967296::(zCA r ((c+10*x) / 4294967296)).1,(zCA r ((c+10*x) / 4294967296)).2)
theorem zG0:∀(l:List Nat) (c:Nat),(zCA l c).1.length=l.length:=by
 intro l
 induction l with
 | nil=>intro c;rfl
 | cons x r ih=>intro c;simp[zCA,ih]
theorem zOu:∀(l:List Nat) (c:Nat),∀x∈(zCA l c).1,x < 4294967296:=by
 intro l
 induction l with
 | nil=>intro c x hx;simp[zCA]at hx
 | cons y r ih=>
  intro c x hx;rw[zCA]at hx;rcases List.mem_cons.1 hx with h | h
  · rw[h];exact Nat.mod_lt _ (by omega)
  · exact ih _ x h
theorem zLz:∀(l:List Nat) (c:Nat),zEk (zCA l c).1+4294967296^l.length*(zCA l c).2=10*zEk l+c:=by
 intro l
 induction l with
 | nil=>intro c;simp[zCA,zEk]
 | cons x r ih=>
  intro c;have h:=ih ((c+10*x) / 4294967296);have h2:=Nat.mod_add_div (c+10*x) 4294967296;simp only[zCA,zEk,List.length_cons];rw[Nat.pow_succ,Nat.mul_comm (4294967296^r.length) 4294967296,Nat.mul_assoc];omega
theorem zIE:∀(l:List Nat) (c:Nat),c≤9→(∀x∈l,x < 4294967296)→(zCA l c).2≤9:=by
 intro l
 induction l with
 | nil=>intro c hc _;exact hc
 | cons x r ih=>
  intro c hc hx;have:=hx x (by simp);exact ih _ (by omega) (fun y hy=>hx y (by simp[hy]))
theorem zOv:zFi=4294967296^8:=rfl
theorem zDw {v:Nat} (h:v < zFi):(zBL v).length≤8:=zLw 8 9 v h
theorem zOw {v:Nat} (h:zFi≤v):8 < (zBL v).length:=zLx 8 9 v (by omega) h
theorem zEo (v:Nat):∀x∈zBL v,x < 4294967296:=zLy 9 v
theorem zTn {v:Nat} (h:v < zFi):v < 4294967296^9:=yAA h (by rw[zOv];exact Nat.pow_le_pow_right (by omega) (by omega))
theorem zJ5 {v d:Nat} (h:v < zFi) (hd:d≤9):zBC ((zCA (zBL v) d).1++[(zCA (zBL v) d).2])=zBL (10*v+d):=by
 have hc:=zIE (zBL v) d hd (zEo v);have hv:=zLz (zBL v) d;have h1:zEk (zBL v)=v:=zF0 9 v (zTn h);rw[zEd 9 _ (by rw[List.length_append,zG0];have:=zDw h;simp;omega) (by
  intro x hx;rcases List.mem_append.1 hx with h2 | h2
  · exact zOu _ _ x h2
  · simp at h2;omega)]
 rw[zOt,zG0,show zEk [(zCA (zBL v) d).2]=(zCA (zBL v) d).2 by simp[zEk],hv,h1];rfl
theorem zJ6 {v:Nat} (h:v < zFi):zBC (zBL v)=zBL v:=by
 rw[zEd 9 _ (by have:=zDw h;omega) (zEo v),show zEk (zBL v)=v from zF0 9 v (zTn h)];rfl
open Go.RowKit
def zCJ (l:List Nat):List Value:=l.map fun n:Nat=>Value.int .u32 (n:Int)
theorem zOx {l:List Nat} {j:Nat} (h:j < l.length):(zCJ l)[j]? =some (.int .u32 (l[j]:Int)):=by
 simp[zCJ,yAC h]
theorem zL0 (l:List Nat) (k:Nat):(zCJ l).take k=zCJ (l.take k):=by simp[zCJ]
theorem zEp (l r:List Nat):zCJ l++zCJ r=zCJ (l++r):=by simp[zCJ]
theorem zOy {w:World} {base:Nat} {e:TypeId} {A:Option Addr} {n c j:Nat} {xs:List Value} (h:w.ownsRow base e 1 (.slice A n c) n xs) (hj:j≤n):w.ownsRow base e 1 (.slice A j c) j (xs.take j):=by
 refine⟨by rw[List.length_take,h.1];omega,?_⟩;rcases h.2 with⟨h1,h2⟩ | ⟨g,cap,cur,h1,hb,hg,hn,hc,hs,ht⟩
 · left;injection h1 with h3 h4 h5;subst h2;obtain rfl:j=0:=by omega
   exact⟨by rw[h3,h5],rfl⟩
 · right;injection h1 with h3 h4 h5;subst h3 h5;refine⟨g,c,cur,rfl,hb,hg,by omega,hc,hs,?_⟩;rw[←ht,List.take_take];congr 1;omega
theorem Reads.spotV {w:World} {B n:Nat} {A:Option Addr} {xs:List Value} (h:Reads w B 1 A n xs) (h0:0 < n):
 ∃b off,A=some ⟨b,off,none⟩∧b < B∧∀j u,xs[j]? =some u→w.cell? ⟨b,off+j,none⟩=some u:=by
 obtain⟨ad,u,e,hb,hx,hc⟩:=h.at_ h0;have hs:ad.spot=none:=by
  cases hsp:ad.spot with
  | none=>rfl
  | some s=>
   exfalso;rw[Addr.add_zero]at hc;simp only[World.cell?,hsp]at hc;split at hc
   · simp at hc
   · cases hc
 obtain⟨b,off,sp⟩:=ad;simp only at hs;subst hs;refine⟨b,off,e,hb,fun j v hv=>?_⟩;have hj:j < n:=by
  have:=(List.getElem?_eq_some_iff.1 hv).1;have h1:=h.1;omega
 obtain⟨ad',u',e',_,hx',h1⟩:=h.at_ hj;rw[e]at e';injection e' with e';subst e';rw[Addr.add_lit]at h1;rw[h1,←hx',hv]
theorem zEq {A:Option Addr} {c B n m:Nat} {xs:List Nat} {w:World} (hn:xs.length=n) (ha:Reads w B 1 A n (zCJ xs)) (hl:n≤4096) (hc:n≤c) (hc2:c≤maxLen) (hm:(zBC xs).length=m):
 Calls prog 168 #[.slice A n c] w fun e w'=>e=.returned (.slice A m c)∧w=w':=by
 have HA:=zD ha;have HM:=zD hm;have HN:=zD hn;unfold maxLen at hc2;clear ha hm hn;go_enter func168,ntmps168;go_wp2
 go_loop [0] (fun v=>∃j:Nat,v=.slice A j c∧j≤n∧Hid (zBC (xs.take j)=zBC xs)) (fun v=>match v with | .slice _ j _=>j | _=>0)
 case atStart=>exact⟨n,rfl,yAD _,zD (by rw[←HN.out,List.take_length])⟩
 case round=>
  obtain⟨j,rfl,hj,hT⟩:=hrel;cases j with
  | zero=>
   have hz:=zD (show m=0 by
    have:=hT.out;rw[List.take_zero]at this;rw[←HM.out,←this];rfl)
   go_wp2;go_ret;obtain rfl:=hz.out;exact⟨rfl,rfl⟩
  | succ i=>
   have hx:=HN.out;obtain⟨b,off,rfl,hbB,hcell⟩:=HA.out.spotV (by omega);have hi:i < xs.length:=by omega
   have hca:=hcell i _ (zOx hi);have hsn:=zD (show xs.take (i+1)=xs.take i++[xs[i]]from yAM hi);obtain⟨x,hxx⟩:∃x,xs[i]=x:=⟨_,rfl⟩;rw[hxx]at hca hsn;clear hcell hxx hx
   by_cases h0:x=0
   · have e1:((x:Int)==0)=true:=by rw[h0];rfl
     have hz:=zD (show zBC (xs.take i)=zBC xs by rw[←hT.out,hsn.out,h0,zJ3]);clear h0;go_wp2;go_round
     case rel=>exact⟨i,rfl,by omega,hz.out⟩
     case measure=>simp
   · have e1:((x:Int)==0)=false:=yA.2 (by omega);have hz:=zD (show m=i+1 by
      rw[←HM.out,←hT.out,hsn.out,zJ4 h0,List.length_append,List.length_take];simp;omega)
     clear h0;go_wp2;go_ret;obtain rfl:=hz.out;exact⟨rfl,rfl⟩
inductive Tr where
 | mk (x:Nd) (l:List Tr)
mutual
def Tr.size:Tr→Nat
 | .mk _ l=>1+sizes l
def sizes:List Tr→Nat
 | []=>0
 | t::r=>t.size+sizes r
end
def Tr.nd:Tr→Nd | .mk x _=>x
def Tr.subs:Tr→List Tr | .mk _ l=>l
def zv (n:Nat):List Tr→List Int
 | []=>[]
 | t::r=>(n:Int)::zv (n+t.size) r
mutual
def flatT (n:Nat):Tr→List Nd
 | .mk x l=>{x with kids:=zv (n+1) l}::flatL (n+1) l
def flatL (n:Nat):List Tr→List Nd
 | []=>[]
 | t::r=>flatT n t++flatL (n+t.size) r
end
theorem zd (x:Nd) (l:List Tr):(Tr.mk x l).size=1+sizes l:=by rw[Tr.size]
theorem zO:sizes []=0:=by rw[sizes]
theorem zL (t:Tr) (r:List Tr):sizes (t::r)=t.size+sizes r:=by rw[sizes]
theorem zBm (t:Tr):1≤t.size:=by cases t;rw[zd];omega
theorem zAZ (n:Nat) (x:Nd) (l:List Tr):flatT n (.mk x l)={x with kids:=zv (n+1) l}::flatL (n+1) l:=by rw[flatT]
theorem zAX (n:Nat):flatL n []=[]:=by rw[flatL]
theorem zAI (n:Nat) (t:Tr) (r:List Tr):flatL n (t::r)=flatT n t++flatL (n+t.size) r:=by rw[flatL]
mutual
theorem flatT_len (n:Nat) (t:Tr):(flatT n t).length=t.size:=by
 cases t with
 | mk x l=>rw[zAZ,zd,List.length_cons,flatL_len (n+1) l];omega
theorem flatL_len (n:Nat) (l:List Tr):(flatL n l).length=sizes l:=by
 cases l with
 | nil=>rw[zAX,zO];rfl
 | cons t r=>rw[zAI,zL,List.length_append,flatT_len n t,flatL_len (n+t.size) r]
end
theorem zBg (n:Nat) (l:List Tr):(zv n l).length=l.length:=by
 induction l generalizing n with
 | nil=>rfl
 | cons t r ih=>simp[zv,ih]
theorem zBa {n:Nat} {l:List Tr} {p:Int} (h:p∈zv n l):(n:Int)≤p∧p < ((n+sizes l:Nat):Int):=by
 induction l generalizing n with
 | nil=>cases h
 | cons t r ih=>
  have:=zBm t;rw[zL];rcases List.mem_cons.1 h with h | h
  · omega
  · have:=ih h;omega
def Tr.laid (n:Nat):Tr→Nd | .mk x l=>{x with kids:=zv (n+1) l}
theorem zEL (n:Nat) (t:Tr):(flatT n t)[0]? =some (t.laid n):=by cases t;rw[zAZ];rfl
def At (ts:List Nd) (n:Nat) (t:Tr):Prop:=∃a b,ts=a++flatT n t++b∧a.length=n
def AtL (ts:List Nd) (n:Nat) (l:List Tr):Prop:=∃a b,ts=a++flatL n l++b∧a.length=n
theorem At.get {ts:List Nd} {n:Nat} {t:Tr} (h:At ts n t):ts[n]? =some (t.laid n):=by
 obtain⟨a,b,rfl,hl⟩:=h;rw[List.append_assoc,List.getElem?_append_right (by omega),hl,Nat.sub_self,List.getElem?_append_left (by rw[flatT_len];exact zBm t)];exact zEL n t
theorem At.le {ts:List Nd} {n:Nat} {t:Tr} (h:At ts n t):n+t.size≤ts.length:=by
 obtain⟨a,b,rfl,hl⟩:=h;simp only[List.length_append,flatT_len];omega
theorem At.subs {ts:List Nd} {n:Nat} {x:Nd} {l:List Tr} (h:At ts n (.mk x l)):AtL ts (n+1) l:=by
 obtain⟨a,b,rfl,hl⟩:=h;rw[zAZ];exact⟨a++[{x with kids:=zv (n+1) l}],b,by simp,by simp[hl]⟩
theorem AtL.head {ts:List Nd} {n:Nat} {t:Tr} {l:List Tr} (h:AtL ts n (t::l)):At ts n t:=by
 obtain⟨a,b,rfl,hl⟩:=h;rw[zAI];exact⟨a,flatL (n+t.size) l++b,by simp,hl⟩
theorem AtL.tail {ts:List Nd} {n:Nat} {t:Tr} {l:List Tr} (h:AtL ts n (t::l)):AtL ts (n+t.size) l:=by
 obtain⟨a,b,rfl,hl⟩:=h;rw[zAI];exact⟨a++flatT n t,b,by simp,by simp[hl,flatT_len]⟩
theorem AtL.kid {ts:List Nd}:∀{l:List Tr} {n:Nat} (_:AtL ts n l) (i:Nat) (hi:i < l.length),∃p:Nat,(zv n l)[i]? =some (p:Int)∧At ts p l[i]∧n≤p:=by
 intro l
 induction l with
 | nil=>intro n h i hi;simp at hi
 | cons t r ih=>
  intro n h i hi;cases i with
  | zero=>exact⟨n,rfl,h.head,yAD _⟩
  | succ i=>
   obtain⟨p,h1,h2,h3⟩:=ih h.tail i (by simpa using hi);exact⟨p,by simpa [zv]using h1,h2,by omega⟩
theorem At.whole (t:Tr):At (flatT 0 t) 0 t:=⟨[],[],by simp,rfl⟩
theorem zCK (N n:Nat) (x:Nd) (r:List Nd) (s:Int) (st:List Int):zA7 N n (x::r) (s::st)=(s==(n:Int)&&zCI N n x.kids&&zA7 N (n+1) r (x.kids++st)):=rfl
theorem zE6 (n:Nat) (x:Nd) (r:List Nd) (d:List Nat):zC4 n (x::r) d=zC4 (n+1) r (zDc (d.set n (max (d.getD n 0) 1)) (max (d.getD n 0) 1+1) x.kids):=rfl
theorem zJ7 {N m:Nat} (ih:∀n r k st,r.length < m→zA7 N n r (k::st)=true→∃t r',k=(n:Int)∧r=flatT n t++r'∧zA7 N (n+t.size) r' st=true):
 ∀(ks:List Int) (n:Nat) (r:List Nd) (st:List Int),r.length < m→zA7 N n r (ks++st)=true→∃l r',ks=zv n l∧r=flatL n l++r'∧zA7 N (n+sizes l) r' st=true:=by
 intro ks
 induction ks with
 | nil=>intro n r st _ h;exact⟨[],r,rfl,by rw[zAX];rfl,by rw[zO];exact h⟩
 | cons k ks ihk=>
  intro n r st hm h;obtain⟨t,r',hk,hr,h2⟩:=ih n r k (ks++st) hm h;have hl:r'.length < m:=by
   have:=congrArg List.length hr;rw[List.length_append]at this;omega
  obtain⟨l,r'',hks,hr',h3⟩:=ihk (n+t.size) r' st hl h2;refine⟨t::l,r'',by rw[hk,hks];rfl,by rw[hr,hr',zAI,List.append_assoc],?_⟩;rw[zL,←Nat.add_assoc];exact h3
theorem zL1 (N:Nat):∀(m n:Nat) (r:List Nd) (k:Int) (st:List Int),r.length < m→zA7 N n r (k::st)=true→∃t r',k=(n:Int)∧r=flatT n t++r'∧zA7 N (n+t.size) r' st=true:=by
 intro m
 induction m with
 | zero=>intro n r k st h;omega
 | succ m ih=>
  intro n r k st hm h;cases r with
  | nil=>cases h
  | cons x r=>
   unfold zA7 at h;simp only[Bool.and_eq_true,beq_iff_eq]at h;obtain⟨⟨hk,_⟩,h⟩:=h;obtain⟨l,r',h1,h2,h3⟩:=zJ7 (m:=m) ih x.kids (n+1) r st (by simp at hm;omega) h;refine⟨.mk x l,r',hk,?_,?_⟩
   · rw[zAZ,←h1,h2];rfl
   · rw[zd,←Nat.add_assoc];exact h3
theorem zF1 {ts:List Nd} (h:zB0 ts=true):∃t,ts=flatT 0 t:=by
 obtain⟨t,r',_,h1,h2⟩:=zL1 ts.length (ts.length+1) 0 ts 0 [] (by omega) h;cases r' with
 | nil=>exact⟨t,by rw[h1];simp⟩
 | cons x r=>cases h2
mutual
theorem order_flatT (N:Nat) (t:Tr) (n:Nat) (r:List Nd) (st:List Int) (h:n+t.size≤N):zA7 N n (flatT n t++r) ((n:Int)::st)=zA7 N (n+t.size) r st:=by
 cases t with
 | mk x l=>
  rw[zd]at h⊢;rw[zAZ,List.cons_append];have hk:zCI N n (zv (n+1) l)=true:=by
   unfold zCI;rw[List.all_eq_true];intro p hp;have:=zBa hp;simp only[Bool.and_eq_true,decide_eq_true_eq];omega
  rw[zCK];simp only[beq_self_eq_true,hk,Bool.true_and];rw[order_flatL N l (n+1) r st (by omega),Nat.add_assoc]
theorem order_flatL (N:Nat) (l:List Tr) (n:Nat) (r:List Nd) (st:List Int) (h:n+sizes l≤N):zA7 N n (flatL n l++r) (zv n l++st)=zA7 N (n+sizes l) r st:=by
 cases l with
 | nil=>rw[zAX,zO];rfl
 | cons t l=>
  rw[zL]at h⊢;rw[zAI,List.append_assoc];show zA7 N n (flatT n t++(flatL (n+t.size) l++r)) ((n:Int)::(zv (n+t.size) l++st))=_;rw[order_flatT N t n _ _ (by omega),order_flatL N l (n+t.size) r st (by omega),Nat.add_assoc]
end
theorem zF2 (t:Tr):zB0 (flatT 0 t)=true:=by
 have h:=order_flatT t.size t 0 [] [] (by omega);rw[List.append_nil]at h;unfold zB0;rw[flatT_len];exact h.trans rfl
mutual
def depsT (v:Nat):Tr→List Nat
 | .mk _ l=>v::depsL (v+1) l
def depsL (v:Nat):List Tr→List Nat
 | []=>[]
 | t::r=>depsT v t++depsL v r
end
theorem zCl (v:Nat) (x:Nd) (l:List Tr):depsT v (.mk x l)=v::depsL (v+1) l:=by rw[depsT]
theorem zDx (v:Nat):depsL v []=[]:=by rw[depsL]
theorem zCY (v:Nat) (t:Tr) (r:List Tr):depsL v (t::r)=depsT v t++depsL v r:=by rw[depsL]
mutual
theorem depsT_len (v:Nat) (t:Tr):(depsT v t).length=t.size:=by
 cases t with
 | mk x l=>rw[zCl,zd,List.length_cons,depsL_len (v+1) l];omega
theorem depsL_len (v:Nat) (l:List Tr):(depsL v l).length=sizes l:=by
 cases l with
 | nil=>rw[zDx,zO];rfl
 | cons t r=>rw[zCY,zL,List.length_append,depsT_len v t,depsL_len v r]
end
def over (d:List Nat) (n:Nat) (e:List Nat):List Nat:=d.take n++e++d.drop (n+e.length)
theorem zOz {d e:List Nat} {n:Nat} (h:n+e.length≤d.length):(over d n e).length=d.length:=by
 unfold over;simp only[List.length_append,List.length_take,List.length_drop];omega
theorem zDQ {d e:List Nat} {n i:Nat} (h:n+e.length≤d.length):(over d n e)[i]? =if n≤i∧i < n+e.length then e[i - n]? else d[i]? :=by
 unfold over
 by_cases h1:i < n
 · rw[if_neg (by omega),List.append_assoc,List.getElem?_append_left (by rw[List.length_take];omega),List.getElem?_take_of_lt h1]
 · by_cases h2:i < n+e.length
   · rw[if_pos ⟨by omega,h2⟩,List.append_assoc,List.getElem?_append_right (by rw[List.length_take];omega),List.length_take,Nat.min_eq_left (by omega),List.getElem?_append_left (by omega)]
   · rw[if_neg (by omega),List.getElem?_append_right (by rw[List.length_append,List.length_take];omega),List.getElem?_drop,List.length_append,List.length_take,Nat.min_eq_left (by omega)];congr 1;omega
theorem zEM {v:Nat}:∀(ks:List Int) (d:List Nat) (i:Nat),(∀k∈ks,0≤k)→(zDc d v ks)[i]? =if(i:Int)∈ks∧i < d.length then some v else d[i]? :=by
 intro ks
 induction ks with
 | nil=>intro d i _;simp[zDc]
 | cons k ks ih=>
  intro d i h;unfold zDc;rw[ih _ _ (fun k hk=>h k (List.mem_cons_of_mem _ hk)),List.length_set];have hk:=h k (List.mem_cons_self ..)
  by_cases h1:(i:Int)∈ks∧i < d.length
  · rw[if_pos h1,if_pos ⟨List.mem_cons_of_mem _ h1.1,h1.2⟩]
  · rw[if_neg h1,List.getElem?_set]
    by_cases h2:k.toNat=i
    · subst h2;have h3:((k.toNat:Nat):Int)=k:=Int.toNat_of_nonneg hk;rw[if_pos rfl]
      by_cases h4:k.toNat < d.length
      · rw[if_pos h4,if_pos ⟨by rw[h3];exact List.mem_cons_self ..,h4⟩]
      · rw[if_neg h4,if_neg (fun hh=>h4 hh.2),List.getElem?_eq_none (by omega)]
    · rw[if_neg h2,if_neg];rintro⟨h5,h6⟩;rcases List.mem_cons.1 h5 with h5 | h5
      · exact h2 (by omega)
      · exact h1 ⟨h5,h6⟩
theorem zJ8 {v:Nat}:∀(ks:List Int) (d:List Nat),(zDc d v ks).length=d.length:=by
 intro ks
 induction ks with
 | nil=>intro d;rfl
 | cons k ks ih=>intro d;unfold zDc;rw[ih,List.length_set]
theorem zE7:∀{l:List Tr} {n:Nat},∀p∈zv n l,(0:Int)≤p:=by
 intro l n p hp;have:=zBa hp;omega
mutual
theorem deep_flatT (t:Tr) (n v:Nat) (r:List Nd) (d:List Nat) (hv:1≤v) (hd:n+t.size≤d.length) (h:max (d.getD n 0) 1=v):zC4 n (flatT n t++r) d=zC4 (n+t.size) r (over d n (depsT v t)):=by
 cases t with
 | mk x l=>
  rw[zd]at hd⊢;rw[zAZ,List.cons_append];rw[zE6,h];have hlen:(zDc (d.set n v) (v+1) (zv (n+1) l)).length=d.length:=by rw[zJ8,List.length_set]
  rw[deep_flatL l (n+1) (v+1) r _ (by omega) (by rw[hlen];omega) (fun p hp=>by
   have:=zBa hp;rw[zEM _ _ _ (fun k hk=>zE7 k hk),if_pos ⟨hp,by rw[List.length_set];omega⟩])]
  rw[Nat.add_assoc];congr 1;apply List.ext_getElem?;intro i;have e1:(depsT v (.mk x l)).length=1+sizes l:=by rw[depsT_len,zd]
  have e2:=depsL_len (v+1) l;rw[zDQ (by rw[e2,hlen];omega),zDQ (by rw[e1];omega),e1,e2]
  by_cases h1:n+1≤i∧i < n+1+sizes l
  · rw[if_pos h1,if_pos (by omega),zCl,show i - n=(i - (n+1))+1 by omega,List.getElem?_cons_succ]
  · rw[if_neg h1]
    by_cases h2:i=n
    · subst h2;rw[if_pos (by omega),Nat.sub_self,zCl,zEM _ _ _ (fun k hk=>zE7 k hk),if_neg (fun hh=>by have:=zBa hh.1;omega),List.getElem?_set_self (by omega)];rfl
    · rw[if_neg (by omega),zEM _ _ _ (fun k hk=>zE7 k hk),if_neg (fun hh=>by have:=zBa hh.1;omega),List.getElem?_set_ne (by omega)]
theorem deep_flatL (l:List Tr) (n v:Nat) (r:List Nd) (d:List Nat) (hv:1≤v) (hd:n+sizes l≤d.length) (h:∀p:Nat,(p:Int)∈zv n l→d[p]? =some v):zC4 n (flatL n l++r) d=zC4 (n+sizes l) r (over d n (depsL v l)):=by
 cases l with
 | nil=>
  rw[zAX,zO,zDx];have:over d n []=d:=by unfold over;simp
  rw[this];rfl
 | cons t l=>
  rw[zL]at hd⊢;have e1:=depsT_len v t;have e2:=depsL_len v l;have hn:d[n]? =some v:=h n (List.mem_cons_self ..);rw[zAI,List.append_assoc,deep_flatT t n v _ d hv (by omega) (by rw[yAH,hn];simp only[Option.getD_some];omega)];have hol:(over d n (depsT v t)).length=d.length:=zOz (by rw[e1];omega);rw[deep_flatL l (n+t.size) v r _ hv (by rw[hol];omega) (fun p hp=>by
   have:=zBa hp;rw[zDQ (by rw[e1];omega),e1,if_neg (by omega)];exact h p (List.mem_cons_of_mem _ hp))]
  rw[Nat.add_assoc];congr 1;apply List.ext_getElem?;intro i;rw[zDQ (by rw[e2,hol];omega),zDQ (by rw[e1];omega),zDQ (by rw[depsL_len,zL];omega),e1,e2,depsL_len,zL,zCY]
  by_cases h1:n+t.size≤i∧i < n+t.size+sizes l
  · rw[if_pos h1,if_pos (by omega),List.getElem?_append_right (by omega),e1];congr 1;omega
  · rw[if_neg h1]
    by_cases h2:n≤i∧i < n+t.size
    · rw[if_pos h2,if_pos (by omega),List.getElem?_append_left (by omega)]
    · rw[if_neg h2,if_neg (by omega)]
end
theorem zL2 (t:Tr):zGx (flatT 0 t)=depsT 1 t:=by
 have h:=deep_flatT t 0 1 [] (List.replicate t.size 0) (yAD _) (by simp) (by
  have:=zBm t;rw[yAH,List.getElem?_replicate_of_lt (by omega)];rfl)
 rw[List.append_nil]at h;unfold zGx;rw[flatT_len,h];unfold over;have:=depsT_len 1 t;simp only[zC4,List.take_zero,List.nil_append,Nat.zero_add,this];rw[List.drop_of_length_le (by simp)];simp
mutual
def depT:Tr→Nat
 | .mk _ l=>1+depL l
def depL:List Tr→Nat
 | []=>0
 | t::r=>max (depT t) (depL r)
end
theorem zGV (x:Nd) (l:List Tr):depT (.mk x l)=1+depL l:=by rw[depT]
theorem zGW:depL []=0:=by rw[depL]
theorem zG1 (t:Tr) (r:List Tr):depL (t::r)=max (depT t) (depL r):=by rw[depL]
theorem zJA (a b:List Nat):zEn (a++b)=max (zEn a) (zEn b):=by
 induction a with
 | nil=>simp[zEn]
 | cons x r ih=>simp only[List.cons_append,zEn,ih];omega
mutual
theorem maxL_depsT (v:Nat) (t:Tr):zEn (depsT (v+1) t)=v+depT t:=by
 cases t with
 | mk x l=>
  rw[zCl,zGV];have:=maxL_depsL (v+1) l;unfold zEn;rcases this with⟨h1,h2⟩ | h
  · subst h1;rw[zDx,zGW];unfold zEn;omega
  · rw[h];omega
theorem maxL_depsL (v:Nat) (l:List Tr):(l=[]∧zEn (depsL (v+1) l)=0)∨zEn (depsL (v+1) l)=v+depL l:=by
 cases l with
 | nil=>exact .inl ⟨rfl,by rw[zDx];rfl⟩
 | cons t r=>
  right;rw[zCY,zJA,maxL_depsT v t,zG1];rcases maxL_depsL v r with⟨h1,h2⟩ | h
  · rw[h2];subst h1;rw[zGW];omega
  · rw[h];omega
end
theorem zC6 (t:Tr):zC5 (flatT 0 t)=depT t:=by
 unfold zC5;rw[zL2];have:=maxL_depsT 0 t;rw[Nat.zero_add,Nat.zero_add]at this;exact this
def zAo (l:List UInt8):List UInt16:=l.map (·.toUInt16)
theorem zJ9 (s:ByteArray) (k:Nat) (h:k < s.size):zAM (zAo (s.data.toList.take (k+1)))=zAM (zAo (s.data.toList.take k))++[.int .u16 (s[k].toNat:Int)]:=by
 rw[yAM (by simpa using h)];simp[zAo,zAM,zTl];rfl
theorem zDy (s:ByteArray) (w:World) (hs:s.size≤70368744177664):
 Calls prog 32 #[.string s] w fun e w'=>∃v,e=.returned v∧Made w w' 24 v (zAM (zAo s.data.toList)):=by
 obtain⟨i0,hi0,hz0,hz1,hz2⟩:=info_parts Tryz.info_u16;go_enter func32,ntmps32;go_wp2
 go_loopw [3,7] (fun v i wr=>∃k:Nat,k≤s.size∧i=.int .i64 k∧Made w wr 24 v (zAM (zAo (s.data.toList.take k)))) (fun _ i _=>s.size - (intOf i).toNat)
 case atStart=>exact⟨0,yAF _,rfl,Made.nil _ _⟩
 case round=>
  obtain⟨k,hk,rfl,hm⟩:=hrel
  by_cases hlt:k < s.size
  · have hb:=s[k].toNat_lt;have hle:(zAM (zAo (s.data.toList.take k))).length≤k:=by simp[zAM,zAo];omega
    go_wp2_with (at_builtin;refine zEH rfl _ _ 22 rfl 24 i0 _ 2 underlying22 hi0 hz0 hz1 hz2 rfl _ _ rfl hm _ 1 1 rfl rfl rfl (by omega) (by omega) ?_;intro v' w' hm')
    go_roundw
    case rel=>exact⟨k+1,by omega,by go_num,by rw[zJ9 s k hlt];exact hm'⟩
    case measure=>simp[intOf];omega
  · go_wp2;go_ret;have hkk:k=s.size:=by omega
    subst hkk;exact⟨_,rfl,hm.cells (by rw[List.take_of_length_le (by simp)])⟩
abbrev Tks:=List (List UInt8)
abbrev Kd:=Int×Tks
def kd (ks:List Kd) (i:Nat):Kd:=ks.getD i (0,[])
structure Ps where
 k:Nat
 bad:Nat
 far:Nat
deriving DecidableEq
def zH (L:List Tok) (i:Nat):Tok:=L.getD i zm
def zx (L:List Tok) (k j:Nat):Tok:=zH L (k+j)
def isT (t:Tok) (w:List UInt8):Bool:=decide (t.text=w)&&(t.kind==5 || t.kind==6)
def onP (L:List Tok) (w:List UInt8) (s:Ps):Bool:=isT (zH L s.k) w
def zB (s:Ps):Ps:={s with k:=s.k+1}
def zCV (L:List Tok) (e:Nat) (s:Ps):Ps:=⟨L.length - 1,if s.bad=0 then e else s.bad,if s.bad=0 then s.k else s.far⟩
def zV (L:List Tok) (s:Ps):Ps:=zCV L (if(zH L s.k).kind=6∧zCG (zH L s.k).text=2 then 6 else 5) s
def zM (L:List Tok) (w:List UInt8) (s:Ps):Ps:=if onP L w s=true then zB s else zV L s
def zW (L:List Tok) (s:Ps):List UInt8×Ps:=if(zH L s.k).kind=1 then((zH L s.k).text,zB s)else([],zV L s)
def zB1 (L:List Tok) (s:Ps):Bool:=(zH L s.k).nl || (zH L s.k).kind==0 || onP L [59] s || onP L [125] s
def zBR (L:List Tok) (s:Ps):Ps:=if onP L [59] s=true then zB s else if(onP L [125] s || (zH L s.k).kind==0 || (zH L s.k).nl)=true then s else zV L s
def trK (k:Int) (l:List Tr):Tr:=.mk {zBS with kind:=k} l
def trN (k:Int) (n:List UInt8) (l:List Tr):Tr:=.mk {zBS with kind:=k,name:=n} l
def zBT (L:List Tok):Nat→Nat→Option Nat
 | 0,_=>none
 | f+1,i=>if(zH L i).kind=1 then(if isT (zH L (i+1)) [44]=true then zBT L f (i+2)else some (i+1))else none
def zBI (L:List Tok) (i:Nat):Bool:=isT (zH L i) [41]&&isT (zH L (i+1)) [61,62]
def zAR (L:List Tok) (s:Ps):Bool:=
 onP L [40] s&&(if isT (zH L (s.k+1)) [41]=true then zBI L (s.k+1)else match zBT L L.length (s.k+1)with | none=>false | some i=>zBI L i)
def zG2 (w:List UInt8):Nat:=
 if w=[124]then 0 else if w=[94]then 1 else if w=[38]then 2
 else if w=[61,61]∨w=[33,61]∨w=[61,61,61]∨w=[33,61,61]then 3
 else if w=[60]∨w=[62]∨w=[60,61]∨w=[62,61]∨w=[105,110]then 4
 else if w=[60,60]∨w=[62,62]∨w=[62,62,62]then 5
 else if w=[43]∨w=[45]then 6
 else if w=[42]∨w=[47]∨w=[37]then 7 else 9
def zA9 (t:Tok):Nat:=if t.kind=5∨isT t [105,110]=true then zG2 t.text else 9
inductive Ph where
 | program (acc:List Tr)
 | block
 | blockL (acc:List Tr)
 | item
 | declares
 | declL (k:Int) (acc:List Tr)
 | func (k:Int) (n:List UInt8)
 | params
 | paramL (acc:List Tr)
 | statement
 | simple
 | word (w:List UInt8)
 | within
 | clause (w:List UInt8)
 | loop
 | jump (k:Int)
 | tries
 | assign
 | body (l:List Tr)
 | cond
 | either
 | nullL (x:Tr)
 | orL (x:Tr)
 | both (x:Tr)
 | level (n:Nat)
 | levelL (n:Nat) (x:Tr)
 | unary
 | calls
 | callsL (x:Tr)
 | head
 | headL (x:Tr)
 | args
 | list (w:List UInt8)
 | listL (w:List UInt8) (acc:List Tr)
 | primary
 | object
 | objL (acc:List Tr)
 | prop
def zAb (t:Tok):Option (List UInt16):=
 if t.kind=4 then some t.str else if t.kind=2 then some (zAo (zH8 t.nn.toNat))else if t.kind=1∨t.kind=6 then some (zAo t.text)else none
def zF (L:List Tok) (R:Ph→Ps→Tr×Ps) (p:Ph) (s:Ps):Tr×Ps:=
 match p with
 | .program acc=>if(zH L s.k).kind=0 then(trK 1 acc,s)else R (.program (acc++[(R .item s).1])) (R .item s).2
 | .block=>R (.blockL []) (zM L [123] s)
 | .blockL acc=>
  if s.bad≠0 then(trK 4 acc,s)else if onP L [125] s=true then(trK 4 acc,zB s)
  else R (.blockL (acc++[(R .item s).1])) (R .item s).2
 | .item=>
  if(onP L [108,101,116] s || onP L [99,111,110,115,116] s)=true then((R .declares s).1,zBR L (R .declares s).2)
  else if onP L [102,117,110,99,116,105,111,110] s=true then R (.func 19 (zW L (zB s)).1) (zW L (zB s)).2
  else R .statement s
 | .declares=>if onP L [99,111,110,115,116] s=true then R (.declL 6 []) (zB s)else R (.declL 5 []) (zM L [108,101,116] s)
 | .declL k acc=>
  let n:=zW L s
  let d:=if onP L [61] n.2=true then(trN 7 n.1 [(R .assign (zB n.2)).1],(R .assign (zB n.2)).2)else(trN 7 n.1 [],n.2)
  if d.2.bad≠0 then(trK k (acc++[d.1]),d.2)else if onP L [44] d.2=true then R (.declL k (acc++[d.1])) (zB d.2)else(trK k (acc++[d.1]),d.2)
 | .func k n=>
  let ps:=R .params s
  let b:=R .block ps.2
  (trN k n (ps.1.subs++[b.1]),b.2)
 | .params=>
  let s1:=zM L [40] s
  if onP L [41] s1=true then(trK 0 [],zB s1)else R (.paramL []) s1
 | .paramL acc=>
  let n:=zW L s
  let a:=acc++[trN 20 n.1 []]
  if n.2.bad≠0 then(trK 0 a,n.2)else if onP L [41] n.2=true then(trK 0 a,zB n.2)else R (.paramL a) (zM L [44] n.2)
 | .statement=>
  let t:=zH L s.k
  if t.kind=1∧isT (zx L s.k 1) [58]=true then(trN 18 t.text [(R .statement (zB (zB s))).1],(R .statement (zB (zB s))).2)
  else if t.kind=6 then R (.word t.text) s
  else if onP L [59] s=true then(trK 2 [],zB s)
  else if onP L [123] s=true then R .block s
  else R .simple s
 | .simple=>(trK 3 [(R .assign s).1],zBR L (R .assign s).2)
 | .word w=>
  if w=[105,102]then
   let e:=R .within (zB s)
   let b:=R .statement e.2
   if onP L [101,108,115,101] b.2=true then(trK 8 [e.1,b.1,(R .statement (zB b.2)).1],(R .statement (zB b.2)).2)else(trK 8 [e.1,b.1],b.2)
  else if w=[119,104,105,108,101]then
   let e:=R .within (zB s)
   let b:=R .statement e.2
   (trK 9 [e.1,b.1],b.2)
  else if w=[102,111,114]then R .loop s
  else if w=[98,114,101,97,107]then R (.jump 12) s
  else if w=[99,111,110,116,105,110,117,101]then R (.jump 13) s
  else if w=[114,101,116,117,114,110]then
   (if zB1 L (zB s)=true then(trK 14 [],zBR L (zB s))else(trK 14 [(R .assign (zB s)).1],zBR L (R .assign (zB s)).2))
  else if w=[116,104,114,111,119]then
   let s1:=if(zH L (zB s).k).nl=true then zV L (zB s)else zB s
   (trK 15 [(R .assign s1).1],zBR L (R .assign s1).2)
  else if w=[116,114,121]then R .tries s
  else if w=[102,117,110,99,116,105,111,110]∨w=[108,101,116]∨w=[99,111,110,115,116]then(trK 2 [],zV L s)
  else R .simple s
 | .within=>((R .assign (zM L [40] s)).1,zM L [41] (R .assign (zM L [40] s)).2)
 | .clause w=>if onP L w s=true then(trK 11 [],zM L w s)else((R .assign s).1,zM L w (R .assign s).2)
 | .loop=>
  let s1:=zM L [40] (zB s)
  let a:=if(onP L [108,101,116] s1 || onP L [99,111,110,115,116] s1)=true then((R .declares s1).1,zM L [59] (R .declares s1).2)else R (.clause [59]) s1
  let b:=R (.clause [59]) a.2
  let c:=R (.clause [41]) b.2
  let d:=R .statement c.2
  (trK 10 [a.1,b.1,c.1,d.1],d.2)
 | .jump k=>
  if(zH L (zB s).k).kind=1∧(zH L (zB s).k).nl=false then(trN k (zW L (zB s)).1 [],zBR L (zW L (zB s)).2)
  else(trK k [],zBR L (zB s))
 | .tries=>
  let b:=R .block (zB s)
  let s1:=if(onP L [99,97,116,99,104] b.2 || onP L [102,105,110,97,108,108,121] b.2)=true then b.2 else zV L b.2
  let c:=if onP L [99,97,116,99,104] s1=true then
   (let n:=if onP L [40] (zB s1)=true then((zW L (zB (zB s1))).1,zM L [41] (zW L (zB (zB s1))).2)else([],zB s1)
    (trN 17 n.1 [(R .block n.2).1],(R .block n.2).2))
   else(trK 11 [],s1)
  if onP L [102,105,110,97,108,108,121] c.2=true then(trK 16 [b.1,c.1,(R .block (zB c.2)).1],(R .block (zB c.2)).2)else(trK 16 [b.1,c.1,trK 11 []],c.2)
 | .assign=>
  let t:=zH L s.k
  if t.kind=1∧isT (zx L s.k 1) [61,62]=true∧(zx L s.k 1).nl=false then R (.body [trN 20 t.text []]) (zB s)
  else if zAR L s=true then R (.body (R .params s).1.subs) (R .params s).2
  else
   let x:=R .cond s
   let o:=zH L x.2.k
   if o.kind≠5∨¬o.text∈zIB then x
   else if zAH x.1.nd.kind=false then(x.1,zCV L 5 x.2)
   else(trN 49 o.text [x.1,(R .assign (zB x.2)).1],(R .assign (zB x.2)).2)
 | .body l=>
  let s1:=zM L [61,62] (if(zH L s.k).nl=true then zV L s else s)
  let b:=if onP L [123] s1=true then R .block s1 else R .assign s1
  (trK 42 (l++[b.1]),b.2)
 | .cond=>
  let x:=R .either s
  if onP L [63] x.2=true then
   let a:=R .assign (zB x.2)
   let b:=R .assign (zM L [58] a.2)
   (trK 48 [x.1,a.1,b.1],b.2)
  else x
 | .either=>
  let x:=R (.level 0) s
  if onP L [63,63] x.2=true then
   let r:=R (.nullL x.1) x.2
   (r.1,if(onP L [124,124] r.2 || onP L [38,38] r.2)=true then zV L r.2 else r.2)
  else
   let y:=R (.both x.1) x.2
   let r:=R (.orL y.1) y.2
   (r.1,if onP L [63,63] r.2=true then zV L r.2 else r.2)
 | .nullL x=>if onP L [63,63] s=true then R (.nullL (trN 47 [63,63] [x,(R (.level 0) (zB s)).1])) (R (.level 0) (zB s)).2 else(x,s)
 | .orL x=>
  if onP L [124,124] s=true then
   let y:=R (.level 0) (zB s)
   let z:=R (.both y.1) y.2
   R (.orL (trN 47 [124,124] [x,z.1])) z.2
  else(x,s)
 | .both x=>if onP L [38,38] s=true then R (.both (trN 47 [38,38] [x,(R (.level 0) (zB s)).1])) (R (.level 0) (zB s)).2 else(x,s)
 | .level n=>
  if n=8 then R .unary s else R (.levelL n (R (.level (n+1)) s).1) (R (.level (n+1)) s).2
 | .levelL n x=>
  if zA9 (zH L s.k)=n then R (.levelL n (trN 46 (zH L s.k).text [x,(R (.level (n+1)) (zB s)).1])) (R (.level (n+1)) (zB s)).2 else(x,s)
 | .unary=>
  let t:=zH L s.k
  if(t.kind=5∨t.kind=6)∧t.text∈zH7 then(trN 43 t.text [(R .unary (zB s)).1],(R .unary (zB s)).2)
  else if(t.kind=5∨t.kind=6)∧t.text∈zDv then
   let r:=R .unary (zB s)
   (trN 44 t.text [r.1],if r.2.bad=0∧zAH r.1.nd.kind=false then zV L r.2 else r.2)
  else
   let x:=R .calls s
   let o:=zH L x.2.k
   if o.kind=5∧o.text∈zDv∧o.nl=false then(if zAH x.1.nd.kind=false then(x.1,zV L x.2)else(trN 45 o.text [x.1],zB x.2))else x
 | .calls=>R (.callsL (R .head s).1) (R .head s).2
 | .callsL x=>
  if onP L [40] s=true then R (.callsL (trK 50 (x::(R .args s).1.subs))) (R .args s).2
  else if onP L [46] s=true then
   (if(zH L (zB s).k).kind≠1∧(zH L (zB s).k).kind≠6 then(x,zV L (zB s))else R (.callsL (trN 52 (zH L (zB s).k).text [x])) (zB (zB s)))
  else if onP L [91] s=true then R (.callsL (trK 53 [x,(R .assign (zB s)).1])) (zM L [93] (R .assign (zB s)).2)
  else(x,s)
 | .head=>
  if onP L [110,101,119] s=true then
   let x:=R .head (zB s)
   let y:=R (.headL x.1) x.2
   if onP L [40] y.2=true then(trK 51 (y.1::(R .args y.2).1.subs),(R .args y.2).2)else(trK 51 [y.1],y.2)
  else R .primary s
 | .headL x=>
  if onP L [46] s=true then
   (if(zH L (zB s).k).kind≠1∧(zH L (zB s).k).kind≠6 then(x,zV L (zB s))else R (.headL (trN 52 (zH L (zB s).k).text [x])) (zB (zB s)))
  else if onP L [91] s=true then R (.headL (trK 53 [x,(R .assign (zB s)).1])) (zM L [93] (R .assign (zB s)).2)
  else(x,s)
 | .args=>R (.list [41]) (zM L [40] s)
 | .list w=>if onP L w s=true then(trK 0 [],zB s)else R (.listL w []) s
 | .listL w acc=>
  let a:=R .assign s
  if a.2.bad≠0 then(trK 0 (acc++[a.1]),a.2)else if onP L w a.2=true then(trK 0 (acc++[a.1]),zB a.2)else R (.listL w (acc++[a.1])) (zM L [44] a.2)
 | .primary=>
  let t:=zH L s.k
  if t.kind=0 then(trK 0 [],zV L s)
  else if t.kind=2 then(.mk {zBS with kind:=30,nk:=t.nk,nn:=t.nn} [],zB s)
  else if t.kind=3 then(.mk {zBS with kind:=31,mag:=t.mag} [],zB s)
  else if t.kind=4 then(.mk {zBS with kind:=32,str:=t.str} [],zB s)
  else if t.kind=1 then(trN 33 t.text [],zB s)
  else if t.text=[116,114,117,101]then(trK 34 [],zB s)
  else if t.text=[102,97,108,115,101]then(trK 35 [],zB s)
  else if t.text=[110,117,108,108]then(trK 36 [],zB s)
  else if t.text=[116,104,105,115]then(trK 37 [],zB s)
  else if t.text=[91]then(trK 38 (R (.list [93]) (zB s)).1.subs,(R (.list [93]) (zB s)).2)
  else if t.text=[123]then R .object (zB s)
  else if t.text=[102,117,110,99,116,105,111,110]then
   (if(zH L (zB s).k).kind=1 then R (.func 41 (zW L (zB s)).1) (zW L (zB s)).2 else R (.func 41 []) (zB s))
  else if t.text=[40]then((R .assign (zB s)).1,zM L [41] (R .assign (zB s)).2)
  else(trK 0 [],if(onP L [47] s || onP L [47,61] s)=true then zCV L 6 s else zV L s)
 | .object=>if onP L [125] s=true then(trK 39 [],zB s)else R (.objL []) s
 | .objL acc=>
  let a:=R .prop s
  if a.2.bad≠0 then(trK 39 (acc++[a.1]),a.2)else if onP L [125] a.2=true then(trK 39 (acc++[a.1]),zB a.2)else R (.objL (acc++[a.1])) (zM L [44] a.2)
 | .prop=>
  let t:=zH L s.k
  match zAb t with
  | none=>(trK 40 [],zV L s)
  | some u=>
   if t.kind=1∧onP L [58] (zB s)=false then(.mk {zBS with kind:=40,str:=u} [trN 33 t.text []],zB s)
   else(.mk {zBS with kind:=40,str:=u} [(R .assign (zM L [58] (zB s))).1],(R .assign (zM L [58] (zB s))).2)
def zCL (L:List Tok):Nat→Ph→Ps→Tr×Ps
 | 0,_,s=>(trK 0 [],zCV L 99 s)
 | f+1,p,s=>zF L (zCL L f) p s
def zn:Ph→Ps→Nat
 | .program _,_=>60
 | .blockL _,s=>if s.bad≠0 then 0 else 60
 | .item,_=>58
 | .declares,_=>57
 | .declL _ _,_=>56
 | .statement,_=>57
 | .word _,_=>56
 | .func _ _,_=>55
 | .loop,_=>55
 | .jump _,_=>55
 | .tries,_=>55
 | .simple,_=>55
 | .list _,_=>52
 | .object,_=>52
 | .listL _ _,_=>51
 | .objL _,_=>51
 | .block,_=>50
 | .within,_=>50
 | .clause _,_=>50
 | .prop,_=>50
 | .body _,_=>46
 | .assign,_=>45
 | .cond,_=>44
 | .either,_=>43
 | .nullL _,_=>42
 | .orL _,_=>42
 | .both _,_=>42
 | .params,_=>41
 | .paramL _,_=>40
 | .level n,_=>40 - 2*n
 | .levelL n _,_=>39 - 2*n
 | .unary,_=>23
 | .calls,_=>22
 | .head,_=>21
 | .primary,_=>20
 | .callsL _,_=>19
 | .headL _,_=>18
 | .args,_=>10
def zf (L:List Tok) (p:Ph) (s:Ps):Nat:=(L.length - s.k)*64+zn p s
def zG (L:List Tok) (p:Ph) (s:Ps):Tr×Ps:=zCL L (zf L p s+1) p s
def zAg (u:List UInt16):List Nd×Nat×Nat:=
 if(zCk u).2.2≠0 then([],(zCk u).2)
 else
  let r:=zG (zCk u).1 (.program []) ⟨0,0,0⟩
  if r.2.bad≠0 then([],(zH (zCk u).1 r.2.far).pos,r.2.bad)
  else if 4096 < r.1.size then([],0,3)
  else if 48 < depT r.1 then([],0,7)
  else(flatT 0 r.1,0,0)
end Go.Proofs.YtlohaclgbfhijaaGreatDoor
