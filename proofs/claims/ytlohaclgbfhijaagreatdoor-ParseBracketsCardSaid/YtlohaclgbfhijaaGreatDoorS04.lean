/- Joined for the claim ParseBlocks: the parser, the lexer and the trees as they are walked, made short by a program of mine. -/
import Derived.Test.YtlohaclgbfhijaaGreatDoorS03
import Derived.Deep.AppendLies
import Derived.Test.YtlohaclgbfhijaaGreatDoorS01
import Derived.Test.YtlohaclgbfhijaaGreatDoorS02
set_option maxHeartbeats 16000000
set_option maxRecDepth 1000000
namespace Go.Proofs.YtlohaclgbfhijaaGreatDoor
open Go.Proofs.Tryz
theorem zPE (r:Nat):∀ks:List Int,zDZ [] r ks=ks.all (zAS r):=by
 intro ks
 induction ks with
 | nil=>rfl
 | cons k ks ih=>
  show(zAS r k&&zDZ [] r ks)=_;rw[ih];rfl
theorem zDA {l:List Tr} {r:Nat} (h:∀t∈l,zAS r t.nd.kind=true):zDZ [] r (zAi l)=true:=by
 rw[zPE,List.all_eq_true];intro k hk;unfold zAi at hk;obtain⟨t,ht,rfl⟩:=List.mem_map.1 hk;exact h t ht
theorem zEN {x:Nd} {l:List Tr} (h1:zh x=true) (h2:zBD x.kind l=true) (h3:∀t∈l,goodT t=true):goodT (.mk x l)=true:=by
 rw[zJB,h1,h2,zMG.2 h3];rfl
def zMJ:List Int:=[1,2,3,4,5,6,8,9,10,11,12,13,14,15,16,17,34,35,36,37,38,39,42,48,50,51,53]
theorem zPF:∀k∈zMJ,zh {zBS with kind:=k}=true:=by decide+kernel
theorem zCD {k:Int} {l:List Tr} (hk:k∈zMJ) (h2:zBD k l=true) (h3:∀t∈l,goodT t=true):goodT (trK k l)=true:=zEN (zPF k hk) h2 h3
def zHB:List Int:=[7,12,13,17,18,19,20,33,41,43,44,45,46,47,49,52]
theorem zKD:∀k∈zHB,k≠30∧k≠31∧k≠32∧k≠40:=by decide
theorem zPG {k:Int} {n:List UInt8} (hk:k∈zHB) (hl:n.length≤4096) (hn:zAf k n=true):zh {zBS with kind:=k,name:=n}=true:=by
 obtain⟨a1,a2,a3,a4⟩:=zKD k hk;show zh ⟨k,n,[],0,0,false,[],[]⟩=true;unfold zh;simp[a1,a2,a3,a4,Nat.not_lt.2 hl,hn]
theorem zEe {k:Int} {n:List UInt8} {l:List Tr} (hk:k∈zHB) (hl:n.length≤4096) (hn:zAf k n=true) (h2:zBD k l=true) (h3:∀t∈l,goodT t=true):goodT (trN k n l)=true:=zEN (zPG hk hl hn) h2 h3
theorem zB2 {P:Tr→Prop}:∀t∈([]:List Tr),P t:=fun t h=>by cases h
theorem zEu {P:Tr→Prop} {a:Tr} (h:P a):∀t∈[a],P t:=fun t ht=>by rw[List.mem_singleton.1 ht];exact h
theorem zIH {P:Tr→Prop} {a b:Tr} (h:P a) (h2:P b):∀t∈[a,b],P t:=fun t ht=>by
 rcases List.mem_cons.1 ht with rfl | ht
 · exact h
 · exact zEu h2 t ht
theorem zRo {P:Tr→Prop} {a b c:Tr} (h:P a) (h2:P b) (h3:P c):∀t∈[a,b,c],P t:=fun t ht=>by
 rcases List.mem_cons.1 ht with rfl | ht
 · exact h
 · exact zIH h2 h3 t ht
theorem zU0 {P:Tr→Prop} {a b c d:Tr} (h:P a) (h2:P b) (h3:P c) (h4:P d):∀t∈[a,b,c,d],P t:=fun t ht=>by
 rcases List.mem_cons.1 ht with rfl | ht
 · exact h
 · exact zRo h2 h3 h4 t ht
theorem zAW {P:Tr→Prop} {l:List Tr} {a:Tr} (h:∀t∈l,P t) (h2:P a):∀t∈l++[a],P t:=fun t ht=>by
 rcases List.mem_append.1 ht with h3 | h3
 · exact h t h3
 · exact zEu h2 t h3
def GE (t:Tr):Prop:=goodT t=true∧zDu t.nd.kind=true
def GS (t:Tr):Prop:=goodT t=true∧zEb t.nd.kind=true
def GU (t:Tr):Prop:=goodT t=true∧zDt t.nd.kind=true
def GQ (k:Int) (t:Tr):Prop:=goodT t=true∧t.nd.kind=k
theorem zKE {k:Int} (h:zDt k=true):zEb k=true:=by
 unfold zDt at h;simp only[Bool.and_eq_true]at h;exact h.1.1.1
theorem GU.stmt {t:Tr} (h:GU t):GS t:=⟨h.1,zKE h.2⟩
theorem zMK {k:Int} (hk:k=1∨k=4) {l:List Tr} (h:∀t∈l,GS t):goodT (trK k l)=true:=by
 have h2:zBD k l=true:=by
  have:=zDA (l:=l) (r:=1) (fun t ht=>(h t ht).2);rcases hk with rfl | rfl<;>(unfold zBD zo;simp[zAs,this])
 exact zCD (by rcases hk with rfl | rfl<;>decide) h2 (fun t ht=>(h t ht).1)
theorem zSP {l:List Tr} (h:∀t∈l,GE t):GE (trK 38 l):=by
 have:=zDA (l:=l) (r:=3) (fun t ht=>(h t ht).2);exact⟨zCD (by decide) (by unfold zBD zo;simp[zAs,this]) (fun t ht=>(h t ht).1),rfl⟩
theorem zJF {l:List Tr} (h:∀t∈l,GQ 40 t):GE (trK 39 l):=by
 have:=zDA (l:=l) (r:=7) (fun t ht=>by unfold zAS;simp[(h t ht).2]);exact⟨zCD (by decide) (by unfold zBD zo;simp[zAs,this]) (fun t ht=>(h t ht).1),rfl⟩
theorem zML {k:Int} (hk:k=50∨k=51) {a:Tr} {l:List Tr} (ha:GE a) (h:∀t∈l,GE t):GE (trK k (a::l)):=by
 have:=zDA (l:=l) (r:=3) (fun t ht=>(h t ht).2);have h0:zAS 3 a.nd.kind=true:=ha.2;refine⟨zCD (by rcases hk with rfl | rfl<;>decide) ?_ (fun t ht=>?_),by rcases hk with rfl | rfl<;>rfl⟩
 · have e:zAi (a::l)=a.nd.kind::zAi l:=rfl;rcases hk with rfl | rfl<;>(unfold zBD zo;simp[zAs,e,zDZ,this,h0])
 · rcases List.mem_cons.1 ht with rfl | ht
   · exact ha.1
   · exact(h t ht).1
theorem zSQ {k:Int} (hk:k=5∨k=6) {l:List Tr} (hl:l≠[]) (h:∀t∈l,GQ 7 t):goodT (trK k l)=true:=by
 cases l with
 | nil=>exact absurd rfl hl
 | cons a l=>
  have:=zDA (l:=l) (r:=5) (fun t ht=>by unfold zAS;simp[(h t (List.mem_cons_of_mem _ ht)).2]);have h0:zAS 5 a.nd.kind=true:=by unfold zAS;simp[(h a (by simp)).2]
  have e:zAi (a::l)=a.nd.kind::zAi l:=rfl;refine zCD (by rcases hk with rfl | rfl<;>decide) ?_ (fun t ht=>(h t ht).1);rcases hk with rfl | rfl<;>(unfold zBD zo;simp[zAs,e,zDZ,this,h0])
theorem zDB {k:Int} (hk:k∈([2,11,12,13,14,34,35,36,37]:List Int)):goodT (trK k [])=true:=by
 have h2:∀k∈([2,11,12,13,14,34,35,36,37]:List Int),k∈zMJ∧zBD k []=true:=by decide+kernel
 exact zCD (h2 k hk).1 (h2 k hk).2 zB2
theorem zE9 {k:Int} {n:List UInt8} (hk:k∈([7,12,13,20,33]:List Int)) (hl:n.length≤4096) (hn:zAf k n=true):goodT (trN k n [])=true:=by
 have h2:∀k∈([7,12,13,20,33]:List Int),k∈zHB∧zBD k []=true:=by decide+kernel
 exact zEe (h2 k hk).1 hl hn (h2 k hk).2 zB2
theorem zGY {k:Int} (hk:k∈([3,7,14,15,40,43,52]:List Int)) {a:Tr} (ha:zDu a.nd.kind=true):zBD k [a]=true:=by
 have h0:zAS 3 a.nd.kind=true:=ha;have e:zAi [a]=[a.nd.kind]:=rfl;simp only[List.mem_cons,List.not_mem_nil,or_false]at hk;rcases hk with rfl | rfl | rfl | rfl | rfl | rfl | rfl<;>(unfold zBD zo;simp[zAs,e,zDZ,h0])
theorem zSR {k:Int} (hk:k∈([3,14,15]:List Int)) {a:Tr} (ha:GE a):goodT (trK k [a])=true:=
 zCD (by revert k;decide) (zGY (by revert k;decide) ha.2) (zEu ha.1)
theorem zJG {k:Int} (hk:k∈([7,43,52]:List Int)) {n:List UInt8} {a:Tr} (hl:n.length≤4096) (hn:zAf k n=true) (ha:GE a):goodT (trN k n [a])=true:=
 have h2:∀k∈([7,43,52]:List Int),k∈zHB∧k∈([3,7,14,15,40,43,52]:List Int):=by decide
 zEe (h2 k hk).1 hl hn (zGY (h2 k hk).2 ha.2) (zEu ha.1)
theorem zRp {k:Int} (hk:k=44∨k=45) {n:List UInt8} {a:Tr} (hl:n.length≤4096) (hn:zAf k n=true) (hg:goodT a=true) (ha:zAH a.nd.kind=true):GE (trN k n [a]):=by
 have h0:zAS 4 a.nd.kind=true:=ha;have e:zAi [a]=[a.nd.kind]:=rfl;refine⟨zEe (by rcases hk with rfl | rfl<;>decide) hl hn ?_ (zEu hg),by rcases hk with rfl | rfl<;>rfl⟩;rcases hk with rfl | rfl<;>(unfold zBD zo;simp[zAs,e,zDZ,h0])
theorem zPH {k:Int} (hk:k=46∨k=47) {n:List UInt8} {a c:Tr} (hl:n.length≤4096) (hn:zAf k n=true) (ha:GE a) (hc:GE c):GE (trN k n [a,c]):=by
 have h0:zAS 3 a.nd.kind=true:=ha.2;have h1:zAS 3 c.nd.kind=true:=hc.2;have e:zAi [a,c]=[a.nd.kind,c.nd.kind]:=rfl;refine⟨zEe (by rcases hk with rfl | rfl<;>decide) hl hn ?_ (zIH ha.1 hc.1),by rcases hk with rfl | rfl<;>rfl⟩;rcases hk with rfl | rfl<;>(unfold zBD zo;simp[zAs,e,zDZ,h0,h1])
theorem zPI {n:List UInt8} {a c:Tr} (hl:n.length≤4096) (hn:n∈zIB) (hg:goodT a=true) (ha:zAH a.nd.kind=true) (hc:GE c):GE (trN 49 n [a,c]):=by
 have h0:zAS 4 a.nd.kind=true:=ha;have h1:zAS 3 c.nd.kind=true:=hc.2;have e:zAi [a,c]=[a.nd.kind,c.nd.kind]:=rfl;refine⟨zEe (by decide) hl (by unfold zAf zIC;simp[zIB]at hn⊢;exact hn) ?_ (zIH hg hc.1),rfl⟩;unfold zBD zo;simp[zAs,e,zDZ,h0,h1]
theorem zMM {a c:Tr} (ha:GE a) (hc:GE c):GE (trK 53 [a,c]):=by
 have h0:zAS 3 a.nd.kind=true:=ha.2;have h1:zAS 3 c.nd.kind=true:=hc.2;have e:zAi [a,c]=[a.nd.kind,c.nd.kind]:=rfl;refine⟨zCD (by decide) ?_ (zIH ha.1 hc.1),rfl⟩;unfold zBD zo;simp[zAs,e,zDZ,h0,h1]
theorem zTs {a c f:Tr} (ha:GE a) (hc:GE c) (hf:GE f):GE (trK 48 [a,c,f]):=by
 have h0:zAS 3 a.nd.kind=true:=ha.2;have h1:zAS 3 c.nd.kind=true:=hc.2;have h2:zAS 3 f.nd.kind=true:=hf.2;have e:zAi [a,c,f]=[a.nd.kind,c.nd.kind,f.nd.kind]:=rfl;refine⟨zCD (by decide) ?_ (zRo ha.1 hc.1 hf.1),rfl⟩;unfold zBD zo;simp[zAs,e,zDZ,h0,h1,h2]
theorem zUg {e b:Tr} (he:GE e) (hb:GU b):goodT (trK 8 [e,b])=true:=by
 have h0:zAS 3 e.nd.kind=true:=he.2;have h1:zAS 2 b.nd.kind=true:=hb.2;have q:zAi [e,b]=[e.nd.kind,b.nd.kind]:=rfl;refine zCD (by decide) ?_ (zIH he.1 hb.1);unfold zBD zo;simp[zAs,q,zDZ,h0,h1]
theorem zUh {e b c:Tr} (he:GE e) (hb:GU b) (hd:dangT b=false) (hc:GU c):goodT (trK 8 [e,b,c])=true:=by
 have h0:zAS 3 e.nd.kind=true:=he.2;have h1:zAS 2 b.nd.kind=true:=hb.2;have h2:zAS 2 c.nd.kind=true:=hc.2;have q:zAi [e,b,c]=[e.nd.kind,b.nd.kind,c.nd.kind]:=rfl;refine zCD (by decide) ?_ (zRo he.1 hb.1 hc.1);unfold zBD zo zSM;simp[zAs,q,zDZ,h0,h1,h2,hd]
theorem zSS {e b:Tr} (he:GE e) (hb:GU b):goodT (trK 9 [e,b])=true:=by
 have h0:zAS 3 e.nd.kind=true:=he.2;have h1:zAS 2 b.nd.kind=true:=hb.2;have q:zAi [e,b]=[e.nd.kind,b.nd.kind]:=rfl;refine zCD (by decide) ?_ (zIH he.1 hb.1);unfold zBD zo;simp[zAs,q,zDZ,h0,h1]
def GC (t:Tr):Prop:=goodT t=true∧zAS 9 t.nd.kind=true
def GB (t:Tr):Prop:=goodT t=true∧zAS 10 t.nd.kind=true
theorem GE.clause {t:Tr} (h:GE t):GC t:=⟨h.1,by unfold zAS;simp[h.2]⟩
theorem GC.begin {t:Tr} (h:GC t):GB t:=⟨h.1,by
 have:=h.2;unfold zAS at this⊢;simp at this⊢;rcases this with h | h
 · exact .inl (.inl (.inl h))
 · exact .inr h⟩
theorem zUi {a b c f:Tr} (ha:GB a) (hb:GC b) (hc:GC c) (hf:GU f):goodT (trK 10 [a,b,c,f])=true:=by
 have h3:zAS 2 f.nd.kind=true:=hf.2;have q:zAi [a,b,c,f]=[a.nd.kind,b.nd.kind,c.nd.kind,f.nd.kind]:=rfl;refine zCD (by decide) ?_ (zU0 ha.1 hb.1 hc.1 hf.1);unfold zBD zo;simp[zAs,q,zDZ,ha.2,hb.2,hc.2,h3]
theorem zST {n:List UInt8} {b:Tr} (hl:n.length≤4096) (hn:zAf 17 n=true) (hb:GQ 4 b):GQ 17 (trN 17 n [b]):=by
 have q:zAi [b]=[4]:=by show [b.nd.kind]=_;rw[hb.2]
 refine⟨zEe (by decide) hl hn ?_ (zEu hb.1),rfl⟩;unfold zBD zo;simp[zAs,q,zDZ,zAS]
theorem zTt {b c f:Tr} (hb:GQ 4 b) (hc:goodT c=true) (hf:goodT f=true) (kc:c.nd.kind=11∨c.nd.kind=17) (kf:f.nd.kind=11∨f.nd.kind=4) (h:c.nd.kind=17∨f.nd.kind=4):goodT (trK 16 [b,c,f])=true:=by
 have q:zAi [b,c,f]=[4,c.nd.kind,f.nd.kind]:=by show [b.nd.kind,_,_]=_;rw[hb.2]
 refine zCD (by decide) ?_ (zRo hb.1 hc hf);unfold zBD zo zTq;rcases kc with kc | kc<;>rcases kf with kf | kf
 · exfalso;omega
 all_goals simp[zAs,q,zDZ,zAS,kc,kf]
theorem zSU {n:List UInt8} {a:Tr} (hl:n.length≤4096) (hn:zAf 18 n=true) (ha:GU a):goodT (trN 18 n [a])=true:=by
 have h0:zAS 2 a.nd.kind=true:=ha.2;have q:zAi [a]=[a.nd.kind]:=rfl;refine zEe (by decide) hl hn ?_ (zEu ha.1);unfold zBD zo;simp[zAs,q,zDZ,h0]
theorem zF5 {last:Nat} {k:Int} (hk:zAS last k=true):∀(l:List Tr),(∀t∈l,GQ 20 t)→zDZ (List.replicate l.length 6++[last]) 0 (l.map (·.nd.kind)++[k])=true:=by
 intro l
 induction l with
 | nil=>intro _;show(zAS last k&&true)=true;rw[hk];rfl
 | cons t l ih=>
  intro h;have h1:=(h t (by simp)).2;rw[List.length_cons,List.replicate_succ,List.cons_append,List.map_cons,List.cons_append];show(zAS 6 t.nd.kind&&zDZ _ 0 _)=true;rw[ih (fun x hx=>h x (List.mem_cons_of_mem _ hx)),h1];rfl
theorem zTu {k:Int} (hk:k=19∨k=41) {n:List UInt8} {l:List Tr} {b:Tr} (hl:n.length≤4096) (hn:zAf k n=true) (h:∀t∈l,GQ 20 t) (hb:GQ 4 b):goodT (trN k n (l++[b]))=true:=by
 have hf:=zF5 (last:=8) (k:=4) (by decide) l h;have q:zAi (l++[b])=l.map (·.nd.kind)++[4]:=by unfold zAi;rw[List.map_append];show _++[b.nd.kind]=_;rw[hb.2]
 refine zEe (by rcases hk with rfl | rfl<;>decide) hl hn ?_ (zAW (fun t ht=>(h t ht).1) hb.1);rcases hk with rfl | rfl<;>(unfold zBD zo zBx;simp[zAs,q,hf])
theorem zMN {l:List Tr} {b:Tr} (h:∀t∈l,GQ 20 t) (hg:goodT b=true) (hb:zAS 13 b.nd.kind=true):GE (trK 42 (l++[b])):=by
 have hf:=zF5 (last:=13) (k:=b.nd.kind) hb l h;have q:zAi (l++[b])=l.map (·.nd.kind)++[b.nd.kind]:=by unfold zAi;rw[List.map_append];rfl
 refine⟨zCD (by decide) ?_ (zAW (fun t ht=>(h t ht).1) hg),rfl⟩;unfold zBD zo zBx;simp[zAs,q,hf]
theorem zRq {u:List UInt16} {a:Tr} (hu:u.length≤4096) (ha:GE a):GQ 40 (.mk {zBS with kind:=40,str:=u} [a]):=by
 refine⟨zEN ?_ (zGY (k:=40) (by decide) ha.2) (zEu ha.1),rfl⟩;show zh ⟨40,[],u,0,0,false,[],[]⟩=true;unfold zh;simp[hu]
theorem zUj {v:Int} (h0:0≤v) (h1:v≤9007199254740991):GE (.mk {zBS with kind:=30,nk:=0,nn:=v} []):=by
 refine⟨zEN ?_ (show zBD 30 []=true by decide+kernel) zB2,rfl⟩;show zh ⟨30,[],[],0,v,false,[],[]⟩=true;unfold zh zEc;simp[h0,h1];omega
theorem zUk {m:List Nat} (h:zC3 false m=true):GE (.mk {zBS with kind:=31,mag:=m} []):=by
 refine⟨zEN ?_ (show zBD 31 []=true by decide+kernel) zB2,rfl⟩;show zh ⟨31,[],[],0,0,false,m,[]⟩=true;unfold zh;simp[h]
theorem zUl {u:List UInt16} (hu:u.length≤4096):GE (.mk {zBS with kind:=32,str:=u} []):=by
 refine⟨zEN ?_ (show zBD 32 []=true by decide+kernel) zB2,rfl⟩;show zh ⟨32,[],u,0,0,false,[],[]⟩=true;unfold zh;simp[hu]
open Go.RowKit
def zSV (x:Nd) (vs vm vo:Value):List Value:=[.int .i64 x.kind,.string ⟨x.name.toArray⟩,vs,.int .i64 x.nk,.int .i64 x.nn,.bool x.neg,vm,.slice none 0 0,vo]
mutual
def TrC (w:World) (F:Nat→Prop):Tr→List Value→Prop
 | .mk x l,cs=>∃vs vm vo ks,cs=zSV x vs vm vo∧x.kids=[]∧w.ownsRow 0 24 1 vs x.str.length (zAM x.str)∧w.ownsRow 0 87 1 vm x.mag.length (zCJ x.mag)∧w.ownsRow 0 72 9 vo l.length ks∧(∀b,vo.ownBlock=some b→F b)∧TrsC w F l ks
def TrsC (w:World) (F:Nat→Prop):List Tr→List Value→Prop
 | [],cs=>cs=[]
 | t::r,cs=>∃c0 rest,cs=c0++rest∧TrC w F t c0∧TrsC w F r rest
end
theorem zD1 {w:World} {F:Nat→Prop} {x:Nd} {l:List Tr} {cs:List Value}:TrC w F (.mk x l) cs↔∃vs vm vo ks,cs=zSV x vs vm vo∧x.kids=[]∧w.ownsRow 0 24 1 vs x.str.length (zAM x.str)∧w.ownsRow 0 87 1 vm x.mag.length (zCJ x.mag)∧w.ownsRow 0 72 9 vo l.length ks∧(∀b,vo.ownBlock=some b→F b)∧TrsC w F l ks:=by rw[TrC]
theorem zCN {w:World} {F:Nat→Prop} {cs:List Value}:TrsC w F [] cs↔cs=[]:=by rw[TrsC]
theorem zBb {w:World} {F:Nat→Prop} {t:Tr} {r:List Tr} {cs:List Value}:TrsC w F (t::r) cs↔∃c0 rest,cs=c0++rest∧TrC w F t c0∧TrsC w F r rest:=by rw[TrsC]
def Bx (w:World) (R:Nat) (T:TypeId) (cs:List Value):Prop:=w.heap[R]? =some (.cells cs.toArray T (0,0))
def Fz (w:World) (P:Nat→Prop) (r:Option Nat):Prop:=∀b,r=some b→¬P b∧∃cur T,w.heap[b]? =some (.cells cur T (0,0))∧T≠24∧T≠87
section
variable {w w':World} {P Q F G:Nat→Prop} {r:Option Nat} {R:Nat} {T:TypeId} {cs:List Value}
theorem Bx.lt (h:Bx w R T cs):R < w.heap.size:=by
 rcases Nat.lt_or_ge R w.heap.size with h1 | h1
 · exact h1
 · unfold Bx at h;rw[Array.getElem?_eq_none h1]at h;cases h
theorem Bx.cell (h:Bx w R T cs) (j:Nat):w.cell? ⟨R,j,none⟩=cs[j]? :=by
 unfold World.cell?;have h':w.heap[(⟨R,j,none⟩:Addr).block]? =_:=h;rw[h'];simp
theorem Bx.frozen (h:Bx w R T cs) (j:Nat):w.frozen? ⟨R,j,none⟩=false:=by
 unfold World.frozen?;have h':w.heap[(⟨R,j,none⟩:Addr).block]? =_:=h;rw[h'];simp
theorem Bx.new (w:World) (cs:List Value) (T:TypeId):Bx (w.alloc (.cells cs.toArray T)) w.heap.size T cs:=by
 unfold Bx World.alloc;simp
theorem Bx.grown (h:Bx w R T cs) (hg:w.grownBy w' r) (hr:r≠some R):Bx w' R T cs:=(hg.block R h.lt (fun e=>hr e.symm)).trans h
theorem Bx.alloc (h:Bx w R T cs) (o:Obj):Bx (w.alloc o) R T cs:=h.grown (zI w o none) (by simp)
theorem Bx.set (h:Bx w R T cs) (j:Nat) (v:Value):Bx (w.setCell ⟨R,j,none⟩ v) R T (cs.set j v):=by
 unfold Bx at h⊢;unfold World.setCell;show(w.heap.modify R _)[R]? =_;rw[Array.getElem?_modify,if_pos rfl,h];simp
theorem Fz.none_ (w:World) (P:Nat→Prop):Fz w P none:=fun b h=>by cases h
theorem Fz.box (h:Bx w R T cs) (h1:T≠24) (h2:T≠87) (hP:¬P R):Fz w P (some R):=fun b e=>by
 injection e with e;subst e;exact⟨hP,_,_,h,h1,h2⟩
theorem Fz.own {base n:Nat} {v:Value} {xs:List Value} (h:w.ownsRow base 72 9 v n xs) (hP:∀b,v.ownBlock=some b→¬P b):Fz w P v.ownBlock:=fun b e=>by
 refine⟨hP b e,?_⟩;rcases h.2 with⟨rfl,_⟩ | ⟨g,cap,cur,rfl,_,hg,_⟩
 · cases e
 · simp only[Value.ownBlock,Option.some.injEq]at e;subst e;exact⟨cur,_,hg,by decide,by decide⟩
theorem zBM {base n s:Nat} {e:TypeId} {v:Value} {xs:List Value} (h:w.ownsRow base e s v n xs) {b:Nat} (hb:v.ownBlock=some b):∃cur,w.heap[b]? =some (.cells cur e (0,0)):=by
 rcases h.2 with⟨rfl,_⟩ | ⟨g,cap,cur,rfl,_,hg,_⟩
 · cases hb
 · simp only[Value.ownBlock,Option.some.injEq]at hb;subst hb;exact⟨cur,hg⟩
theorem zBr {base n:Nat} {e:TypeId} {v:Value} {xs:List Value} (h:w.ownsRow base e 1 v n xs) (he:e=24∨e=87) (hg:w.grownBy w' r) (hz:Fz w P r):w'.ownsRow base e 1 v n xs:=by
 refine h.kept hg ?_;cases hb:v.ownBlock with
 | none=>exact .inl rfl
 | some b=>
  right;intro e2;obtain⟨_,cur,T,h1,h2,h3⟩:=hz b e2.symm;obtain⟨cur2,h4⟩:=zBM h hb;rw[h1]at h4;injection h4 with h4;injection h4 with _ h5 _;subst h5;rcases he with he | he
  · exact h2 he
  · exact h3 he
theorem zJH {base n s:Nat} {e:TypeId} {v:Value} {xs:List Value} (h:w.ownsRow base e s v n xs) (hF:∀b,v.ownBlock=some b→P b) (hg:w.grownBy w' r) (hz:Fz w P r):w'.ownsRow base e s v n xs:=by
 refine h.kept hg ?_;cases hb:v.ownBlock with
 | none=>exact .inl rfl
 | some b=>exact .inr (fun e2=>(hz b e2.symm).1 (hF b hb))
mutual
theorem TrC.keep {w w':World} {P:Nat→Prop} {r:Option Nat} (hg:w.grownBy w' r) (hz:Fz w P r) (t:Tr) (cs:List Value) (h:TrC w P t cs):TrC w' P t cs:=by
 cases t with
 | mk x l=>
  rw[zD1]at h⊢;obtain⟨vs,vm,vo,ks,h1,h2,h3,h4,h5,h6,h7⟩:=h;exact⟨vs,vm,vo,ks,h1,h2,zBr h3 (.inl rfl) hg hz,zBr h4 (.inr rfl) hg hz,zJH h5 h6 hg hz,h6,TrsC.keep hg hz l ks h7⟩
theorem TrsC.keep {w w':World} {P:Nat→Prop} {r:Option Nat} (hg:w.grownBy w' r) (hz:Fz w P r) (l:List Tr) (cs:List Value) (h:TrsC w P l cs):TrsC w' P l cs:=by
 cases l with
 | nil=>rw[zCN]at h⊢;exact h
 | cons t q=>
  rw[zBb]at h⊢;obtain⟨c0,rest,h1,h2,h3⟩:=h;exact⟨c0,rest,h1,TrC.keep hg hz t c0 h2,TrsC.keep hg hz q rest h3⟩
end
mutual
theorem TrC.sub {w:World} {P Q:Nat→Prop} (hs:∀b,P b→b < w.heap.size→Q b) (t:Tr) (cs:List Value) (h:TrC w P t cs):TrC w Q t cs:=by
 cases t with
 | mk x l=>
  rw[zD1]at h⊢;obtain⟨vs,vm,vo,ks,h1,h2,h3,h4,h5,h6,h7⟩:=h;exact⟨vs,vm,vo,ks,h1,h2,h3,h4,h5,fun b hb=>hs b (h6 b hb) (h5.lt b hb).2,TrsC.sub hs l ks h7⟩
theorem TrsC.sub {w:World} {P Q:Nat→Prop} (hs:∀b,P b→b < w.heap.size→Q b) (l:List Tr) (cs:List Value) (h:TrsC w P l cs):TrsC w Q l cs:=by
 cases l with
 | nil=>rw[zCN]at h⊢;exact h
 | cons t q=>
  rw[zBb]at h⊢;obtain⟨c0,rest,h1,h2,h3⟩:=h;exact⟨c0,rest,h1,TrC.sub hs t c0 h2,TrsC.sub hs q rest h3⟩
end
theorem TrC.len {t:Tr} (h:TrC w F t cs):cs.length=9:=by
 cases t with
 | mk x l=>
  rw[zD1]at h;obtain⟨vs,vm,vo,ks,rfl,_⟩:=h;rfl
theorem TrC.one {t:Tr} (h:TrC w F t cs):(cs.all fun u=>u.oneCell')=true:=by
 cases t with
 | mk x l=>
  rw[zD1]at h;obtain⟨vs,vm,vo,ks,rfl,_,h3,h4,h5,_⟩:=h;obtain⟨_,_,rfl,_⟩:=zZ h3;obtain⟨_,_,rfl,_⟩:=zZ h4;obtain⟨_,_,rfl,_⟩:=zZ h5;rfl
end
section
variable {w w':World} {P Q F G:Nat→Prop} {r:Option Nat}
theorem TrsC.len:∀{l:List Tr} {cs:List Value},TrsC w F l cs→cs.length=l.length*9:=by
 intro l
 induction l with
 | nil=>intro cs h;rw[zCN]at h;rw[h];rfl
 | cons t r ih=>
  intro cs h;rw[zBb]at h;obtain⟨c0,rest,rfl,h1,h2⟩:=h;rw[List.length_append,h1.len,ih h2,List.length_cons];omega
theorem TrsC.one:∀{l:List Tr} {cs:List Value},TrsC w F l cs→(cs.all fun u=>u.oneCell')=true:=by
 intro l
 induction l with
 | nil=>intro cs h;rw[zCN]at h;rw[h];rfl
 | cons t r ih=>
  intro cs h;rw[zBb]at h;obtain⟨c0,rest,rfl,h1,h2⟩:=h;rw[List.all_append,h1.one,ih h2];rfl
theorem TrsC.app:∀{l r:List Tr} {cs ds:List Value},TrsC w F l cs→TrsC w F r ds→TrsC w F (l++r) (cs++ds):=by
 intro l
 induction l with
 | nil=>intro r cs ds h h2;rw[zCN]at h;subst h;exact h2
 | cons t l ih=>
  intro r cs ds h h2;rw[zBb]at h;obtain⟨c0,rest,rfl,h3,h4⟩:=h;rw[List.cons_append,zBb];exact⟨c0,rest++ds,by rw[List.append_assoc],h3,ih h4 h2⟩
theorem TrsC.cons {t:Tr} {l:List Tr} {c cs:List Value} (h:TrC w F t c) (h2:TrsC w F l cs):TrsC w F (t::l) (c++cs):=by
 rw[zBb];exact⟨c,cs,rfl,h,h2⟩
theorem TrsC.nil (w:World) (F:Nat→Prop):TrsC w F [] []:=by rw[zCN]
theorem TrsC.single {t:Tr} {c:List Value} (h:TrC w F t c):TrsC w F [t] c:=by
 have:=TrsC.cons h (.nil w F);rwa [List.append_nil]at this
theorem TrsC.snoc {l:List Tr} {t:Tr} {cs c:List Value} (h:TrsC w F l cs) (h2:TrC w F t c):TrsC w F (l++[t]) (cs++c):=h.app (.single h2)
structure RowK (w:World) (P:Nat→Prop) (v:Value) (l:List Tr) (ks:List Value) (F:Nat→Prop):Prop where
 own:w.ownsRow 0 72 9 v l.length ks
 blk:∀b,v.ownBlock=some b→P b
 subs:TrsC w F l ks
 off:∀b,v.ownBlock=some b→¬F b
 low:∀b,F b→P b∧b < w.heap.size
def RowP (w:World) (P:Nat→Prop) (v:Value) (l:List Tr):Prop:=∃ks F,RowK w P v l ks F
theorem RowP.nil (w:World) (P:Nat→Prop):RowP w P (.slice none 0 0) []:=⟨[],fun _=>False,yAK _ _ _ _,(fun _ h=>by cases h),.nil _ _,(fun _ h=>by cases h),fun _ h=>h.elim⟩
theorem Fz.less (h:Fz w P r) (hs:∀b,F b→P b):Fz w F r:=fun b e=>⟨fun hb=>(h b e).1 (hs b hb),(h b e).2⟩
theorem RowK.keep {v:Value} {l:List Tr} {ks:List Value} (h:RowK w P v l ks F) (hg:w.grownBy w' r) (hz:Fz w P r):RowK w' P v l ks F:=
 ⟨zJH h.own h.blk hg hz,h.blk,.keep hg (hz.less fun b hb=>(h.low b hb).1) l ks h.subs,h.off,fun b hb=>⟨(h.low b hb).1,yAA (h.low b hb).2 hg.size⟩⟩
theorem RowP.keep {v:Value} {l:List Tr} (h:RowP w P v l) (hg:w.grownBy w' r) (hz:Fz w P r):RowP w' P v l:=by
 obtain⟨ks,F,h⟩:=h;exact⟨ks,F,h.keep hg hz⟩
theorem RowP.new {v:Value} {l:List Tr} (h:RowP w P v l) (hg:w.grownBy w' none):RowP w' P v l:=h.keep hg (.none_ w P)
theorem RowP.sub {v:Value} {l:List Tr} (h:RowP w P v l) (hs:∀b,P b→b < w.heap.size→Q b):RowP w Q v l:=by
 obtain⟨ks,F,h⟩:=h;exact⟨ks,F,h.own,fun b hb=>hs b (h.blk b hb) (h.own.lt b hb).2,h.subs,h.off,fun b hb=>⟨hs b (h.low b hb).1 (h.low b hb).2,(h.low b hb).2⟩⟩
theorem RowP.shape {v:Value} {l:List Tr} (h:RowP w P v l):∃A c,v=.slice A l.length c∧l.length≤c∧c≤maxLen:=by
 obtain⟨ks,F,h⟩:=h;exact zZ h.own
theorem RowP.tree {x:Nd} {l:List Tr} {v vs vm:Value} (h:RowP w P v l) (hk:x.kids=[]) (h1:w.ownsRow 0 24 1 vs x.str.length (zAM x.str)) (h2:w.ownsRow 0 87 1 vm x.mag.length (zCJ x.mag)):TrC w P (.mk x l) (zSV x vs vm v):=by
 obtain⟨ks,F,h⟩:=h;rw[zD1];exact⟨vs,vm,v,ks,rfl,hk,h1,h2,h.own,h.blk,.sub (fun b hb _=>(h.low b hb).1) l ks h.subs⟩
def zUm (k:Int) (n:List UInt8) (v:Value):List Value:=[.int .i64 k,.string ⟨n.toArray⟩,.slice none 0 0,.int .i64 0,.int .i64 0,.bool false,.slice none 0 0,.slice none 0 0,v]
theorem RowP.treeN {k:Int} {n:List UInt8} {l:List Tr} {v:Value} (h:RowP w P v l):TrC w P (trN k n l) (zUm k n v):=h.tree (x:={zBS with kind:=k,name:=n}) rfl (yAK _ _ _ _) (yAK _ _ _ _)
theorem RowP.treeK {k:Int} {l:List Tr} {v:Value} (h:RowP w P v l):TrC w P (trK k l) (zUm k [] v):=h.tree (x:={zBS with kind:=k}) rfl (yAK _ _ _ _) (yAK _ _ _ _)
theorem RowK.snoc {w1:World} {v v':Value} {l:List Tr} {ks:List Value} {t:Tr} {c:List Value} (h:RowK w1 P v l ks F) (ht:TrC w1 Q t c) (hQ:∀b,Q b→b < w1.heap.size→P b) (hQv:∀b,v.ownBlock=some b→¬Q b) (hP:P w1.heap.size)
 (ho:w'.ownsRow 0 72 9 v' (l.length+1) (ks++c)) (hg:w1.grownBy w' v.ownBlock) (hw:v'.ownBlock=v.ownBlock∨v'.ownBlock=some w1.heap.size):RowP w' P v' (l++[t]):=by
 have hsz:=hg.size;refine⟨ks++c,fun b=>F b∨(Q b∧b < w1.heap.size),by rw[List.length_append];exact ho,?_,?_,?_,?_⟩
 · intro b hb;rcases hw with e | e
   · rw[e]at hb;exact h.blk b hb
   · rw[e]at hb;injection hb with hb;subst hb;exact hP
 · refine .snoc (.sub (fun b hb _=>.inl hb) l ks (.keep hg (.own h.own h.off) l ks h.subs)) ?_;have h1:TrC w1 (fun b=>Q b∧b < w1.heap.size) t c:=.sub (fun b hb hl=>⟨hb,hl⟩) t c ht;exact .sub (fun b hb _=>.inr hb) t c (.keep hg (.own h.own fun b hb h2=>hQv b hb h2.1) t c h1)
 · intro b hb h2;rcases hw with e | e
   · rw[e]at hb;rcases h2 with h2 | h2
     · exact h.off b hb h2
     · exact hQv b hb h2.1
   · rw[e]at hb;injection hb with hb;subst hb;rcases h2 with h2 | h2
     · have:=(h.low _ h2).2;omega
     · omega
 · intro b hb;rcases hb with hb | hb
   · exact⟨(h.low b hb).1,yAA (h.low b hb).2 hsz⟩
   · exact⟨hQ b hb.1 hb.2,by omega⟩
theorem RowP.lit {l:List Tr} {cs:List Value} {n:Nat} (hn:n=l.length) (h:TrsC w P l cs) (hP:P w.heap.size) (hl:l.length≤maxLen):RowP (w.alloc (.cells cs.toArray 72)) P (.slice (some ⟨w.heap.size,0,none⟩) n n) l:=by
 subst hn;have hb:=Bx.new w cs 72;have h2:TrsC w (fun b=>P b∧b < w.heap.size) l cs:=.sub (fun b hb hl=>⟨hb,hl⟩) l cs h;have h3:=TrsC.keep (zI w (.cells cs.toArray 72) none) (.none_ w _) l cs h2;refine⟨cs,_,⟨h.len,.inr ⟨w.heap.size,l.length,cs.toArray,rfl,yAF _,hb,yAD _,hl,?_,?_⟩⟩,?_,h3,?_,?_⟩
 · simp[h.len]
 · rw[←h.len];simp
 · intro b e;simp only[Value.ownBlock,Option.some.injEq]at e;subst e;exact hP
 · intro b e h4;simp only[Value.ownBlock,Option.some.injEq]at e;subst e;omega
 · intro b h4;exact⟨h4.1,by simp;omega⟩
end
theorem zCa (x:UInt16) (w:World):Calls prog 156 #[.int .u16 (x.toNat:Int)] w fun e w'=>e=.returned (.bool (zP x))∧w=w':=by
 have h1:=x.toNat_lt;go_enter func156,ntmps156;go_wp2
 all_goals go_ret
 all_goals refine⟨zJ ?_,rfl⟩
 all_goals (rw[Bool.eq_iff_iff];simp only[zP,Bool.and_eq_true,decide_eq_true_eq,Bool.false_eq_true,false_iff];omega)
theorem zD2 (x:UInt16) (w:World):Calls prog 151 #[.int .u16 (x.toNat:Int)] w fun e w'=>e=.returned (.bool (zAh x))∧w=w':=by
 have h1:=x.toNat_lt;go_enter func151,ntmps151;go_wp2
 all_goals go_ret
 all_goals refine⟨zJ ?_,rfl⟩
 all_goals (rw[Bool.eq_iff_iff];simp[zAh];omega)
theorem zSW (w:World):Calls prog 158 #[.agg #[.int .i64 2,.int .i64 0]] w fun e w'=>e=.returned (.agg #[.int .i64 2,.int .i64 0])∧Below w.heap.size w w':=by
 go_enter func158,ntmps158;go_wp2
 go_returns
 exact⟨rfl,by go_grown⟩
theorem zSX (w:World):Calls prog 158 #[.agg #[.int .i64 3,.int .i64 0]] w fun e w'=>e=.returned (.agg #[.int .i64 4,.int .i64 0])∧Below w.heap.size w w':=by
 go_enter func158,ntmps158;go_wp2
 go_returns
 exact⟨rfl,by go_grown⟩
theorem zKF (w:World):Calls prog 158 #[.agg #[.int .i64 0,.int .i64 0]] w fun e w'=>e=.returned (.agg #[.int .i64 1,.int .i64 0])∧Below w.heap.size w w':=by
 go_enter func158,ntmps158;go_wp2
 go_returns
 exact⟨rfl,by go_grown⟩
theorem zMO (n:Int) (h0:0 < n) (h1:n≤9007199254740991) (w:World):Calls prog 158 #[.agg #[.int .i64 0,.int .i64 n]] w fun e w'=>e=.returned (.agg #[.int .i64 0,.int .i64 (-n)])∧Below w.heap.size w w':=by
 have e0:(n==0)=false:=yA.2 (by omega);have e1:(-9007199254740991:Int)≤n:=by omega
 go_enter func158,ntmps158;go_wp2
 go_returns
 exact⟨rfl,by go_grown⟩
def zMP (m:Nat) (A:Option Addr) (c:Nat):Value:=if m=0 then .slice none 0 0 else .slice A m c
theorem zJI {A:Option Addr} {c B n m:Nat} {xs:List Nat} {w:World} (hn:xs.length=n) (ha:Reads w B 1 A n (zCJ xs)) (hB:B≤w.heap.size) (hl:n≤4096) (hc:n≤c) (hc2:c≤maxLen) (hm:(zBC xs).length=m):
 Calls prog 184 #[.slice A n c,.bool false] w fun e w'=>e=.returned (.agg #[.bool false,zMP m A c])∧Below w.heap.size w w':=by
 have HA:=zD (ha.alloc hB (.cells #[.bool false,.slice none 0 0] 42));have HM:=zD hm;have HN:=zD hn;clear ha hm hn
 by_cases h0:m=0
 · have HI:=zD (show zMP m A c=.slice none 0 0 from if_pos h0);have e1:((m:Int)==0)=true:=by rw[h0];rfl
   clear h0;go_enter func184,ntmps184;go_wp2_with (go_at_call 168;refine(zEq HN.out HA.out hl hc hc2 HM.out).mono ?_;rintro e w' ⟨rfl,rfl⟩);rw[HI.out];exact bodyPost_ret (v:=.agg #[.bool false,.slice none 0 0]) (by simp[results,results184,go_sem]) rfl ⟨rfl,(Below.refl _ _).alloc (yAD _) _⟩
 · have HI:=zD (show zMP m A c=.slice A m c from if_neg h0);have e1:((m:Int)==0)=false:=yA.2 (by omega);clear h0;go_enter func184,ntmps184;go_wp2_with (go_at_call 168;refine(zEq HN.out HA.out hl hc hc2 HM.out).mono ?_;rintro e w' ⟨rfl,rfl⟩);rw[HI.out];exact bodyPost_ret (v:=.agg #[.bool false,.slice A m c]) (by simp[results,results184,go_sem]) rfl ⟨rfl,(Below.refl _ _).alloc (yAD _) _⟩
theorem zMQ {s:ByteArray} {l:List UInt16} (h:s.data.toList=asc l) (hd:∀x∈l,zP x=true):s.size=l.length∧∀i (hi:i < s.size) (hj:i < l.length),s[i].toNat=l[i].toNat∧48≤s[i].toNat∧s[i].toNat≤57:=by
 have h1:s.size=l.length:=by
  have:=congrArg List.length h;simpa [asc]using this
 refine⟨h1,fun i hi hj=>?_⟩;have h2:s.data.toList[i]? =(asc l)[i]? :=by rw[h]
 have h3:s[i]=l[i].toUInt8:=by
  have e1:s.data.toList[i]? =some s[i]:=by
   rw[yAC (by simpa using hi)];rfl
  have e2:(asc l)[i]? =some l[i].toUInt8:=by simp[asc,yAC hj]
  rw[e1,e2]at h2;exact Option.some.inj h2
 have h4:=hd l[i] (List.getElem_mem hj);simp only[zP,Bool.and_eq_true,decide_eq_true_eq]at h4;have h5:l[i].toUInt8.toNat=l[i].toNat % 256:=rfl;rw[h3,h5];omega
theorem zKG {s:ByteArray} {l:List UInt16} (h:s.data.toList=asc l) (hd:∀x∈l,zP x=true) (h0:0 < l.length) (hz:l[0]≠48∨l=[48]) (hl:l.length≤4096) (w:World):
 Calls prog 183 #[.string s] w fun e w'=>e=.returned (.bool true)∧w=w':=by
 obtain⟨hs,hget⟩:=zMQ h hd;have HG:=zD (show∀i (hi:i < s.size),48≤s[i].toNat∧s[i].toNat≤57 from fun i hi=>(hget i hi (by omega)).2);have hs1:s.size≤4096:=by omega
 have hs0:0 < s.size:=by omega
 have hem:s.toList≠[]:=by
  rw[ByteArray.toList_eq,h];intro h2;have:=congrArg List.length h2;rw[asc,List.length_map,List.length_nil]at this;omega
 have e1:(s.toList==[])=false:=yA.2 hem;have e2:s.toList.isEmpty=false:=by
  cases hh:s.toList with
  | nil=>exact absurd hh hem
  | cons=>rfl
 have hcase:((s[0].toNat:Int) !=48)=true∨s=⟨#[48]⟩:=by
  rcases hz with hz | hz
  · left;rw[bne_iff_ne];intro h3;have:=(hget 0 hs0 h0).1;exact hz (UInt16.toNat_inj.1 (by show l[0].toNat=48;omega))
  · right;have h4:s=⟨#[48]⟩:=by
     cases s with
     | mk d=>
      simp only at h;rw[hz]at h;have:d=#[48]:=by
       apply Array.toList_inj.1;rw[h];rfl
      rw[this]
    exact h4
 clear hget h hz hem;rcases hcase with h3 | rfl
 · go_enter func183,ntmps183;go_wp2
   go_loop [6] (fun i=>∃k:Nat,k≤s.size∧i=.int .i64 k) (fun i=>s.size - (intOf i).toNat)
   case atStart=>exact⟨0,yAF _,rfl⟩
   case round=>
    obtain⟨k,hk,rfl⟩:=hrel
    by_cases hlt:k < s.size
    · have hb:=HG.out k hlt;go_wp2;go_round
      case rel=>exact⟨k+1,by omega,by go_num⟩
      case measure=>simp[intOf];omega
    · go_wp2;go_ret;exact⟨rfl,rfl⟩
 · clear e1 e2 HG hs hs1 hs0;go_enter func183,ntmps183;go_wp2
   go_loop [6] (fun i=>∃k:Nat,k≤1∧i=.int .i64 k) (fun i=>1 - (intOf i).toNat)
   case atStart=>exact⟨0,yAF _,rfl⟩
   case round=>
    obtain⟨k,hk,rfl⟩:=hrel
    by_cases hlt:k=0
    · subst hlt;go_wp2;go_round
      case rel=>exact⟨1,by omega,rfl⟩
      case measure=>simp[intOf]
    · obtain rfl:k=1:=by omega
      go_wp2;go_ret;exact⟨rfl,rfl⟩
theorem zCb {s:List UInt8} {l:List UInt16} (h:zg s l=true):s.length≤l.length:=by
 unfold zg at h;rw[List.isPrefixOf_iff_prefix]at h;simpa using h.length_le
theorem zTv (long:Bool):∀(l:List UInt16) (nl st:Bool),(zBe long l nl st).1≤l.length:=by
 intro l
 induction l with
 | nil=>intro nl st;simp[zBe]
 | cons x r ih=>
  intro nl st;unfold zBe;split
  · rename_i h
    have:=zCb (Bool.and_eq_true _ _▸h).2;simpa using this
  · split
    · simp
    · have:=ih (nl || zw x) (st || zGP x);simp only[zCi,List.length_cons];omega
theorem zDC {l:List UInt16} (h:2≤l.length):2≤(zq l).1∧(zq l).1≤l.length:=by
 have:=zTv (zg [47,42] l) (l.drop 2) false false;rw[List.length_drop]at this;simp only[zq,zCi];omega
theorem zB4 {l:List UInt16} (h:(zg [47,47] l || zg [47,42] l)=true):2≤l.length:=by
 rw[Bool.or_eq_true]at h;rcases h with h | h
 · exact zCb h
 · exact zCb h
theorem zPJ:∀(f:Nat) (l:List UInt16) (nl:Bool),(zBu f l nl).1≤l.length:=by
 intro f
 induction f with
 | zero=>intro l nl;simp[zBu]
 | succ f ih=>
  intro l nl;cases l with
  | nil=>simp[zBu]
  | cons x r=>
   unfold zBu;split
   · have:=ih r (nl || zw x);simp only[zCi,List.length_cons];omega
   · split
     · rename_i h
       have h2:=zDC (zB4 h);split
       · simp
       · have:=ih ((x::r).drop (zq (x::r)).1) (nl || (zq (x::r)).2.1);rw[List.length_drop]at this;simp only[zCi];omega
     · simp
theorem zFA (l:List UInt16):(za l).1≤l.length:=zPJ _ _ _
theorem zKH:∀(f g:Nat) (l:List UInt16) (nl:Bool),l.length≤f→l.length≤g→zBu f l nl=zBu g l nl:=by
 intro f
 induction f with
 | zero=>
  intro g l nl hf _;have:l=[]:=List.eq_nil_of_length_eq_zero (by omega);subst this;cases g<;>rfl
 | succ f ih=>
  intro g l nl hf hg;cases l with
  | nil=>cases g<;>rfl
  | cons x r=>
   obtain⟨g,rfl⟩:∃k,g=k+1:=⟨g - 1,by simp at hg;omega⟩;simp only[List.length_cons]at hf hg;unfold zBu;rw[ih g r (nl || zw x) (by omega) (by omega)];split
   · rfl
   · split
     · rename_i h
       have h2:=zDC (zB4 h);rw[ih g ((x::r).drop (zq (x::r)).1) _ (by rw[List.length_drop,List.length_cons];omega) (by rw[List.length_drop,List.length_cons];omega)]
     · rfl
def zBJ (l:List UInt16) (nl:Bool):Nat×Bool×Nat:=zBu l.length l nl
theorem zHC (nl:Bool):zBJ [] nl=(0,nl,0):=rfl
theorem zCm {x:UInt16} {r:List UInt16} (h:(zGO x || zw x)=true) (nl:Bool):zBJ (x::r) nl=zCi 1 (zBJ r (nl || zw x)):=by
 unfold zBJ;rw[List.length_cons,zBu,if_pos h]
theorem zCO {x:UInt16} {r:List UInt16} (h:(zGO x || zw x)=false) (h2:(zg [47,47] (x::r) || zg [47,42] (x::r))=true) (nl:Bool):
 zBJ (x::r) nl=if(zq (x::r)).2.2≠0 then(0,false,(zq (x::r)).2.2)else zCi (zq (x::r)).1 (zBJ ((x::r).drop (zq (x::r)).1) (nl || (zq (x::r)).2.1)):=by
 have h3:=zDC (zB4 h2);unfold zBJ;rw[List.length_cons,zBu,if_neg (by rw[h];simp),if_pos h2];rw[zKH r.length ((x::r).drop (zq (x::r)).1).length _ _ (by rw[List.length_drop,List.length_cons];omega) (yAD _)]
theorem zDS {x:UInt16} {r:List UInt16} (h:(zGO x || zw x)=false) (h2:(zg [47,47] (x::r) || zg [47,42] (x::r))=false) (nl:Bool):zBJ (x::r) nl=(0,nl,0):=by
 unfold zBJ;rw[List.length_cons,zBu,if_neg (by rw[h];simp),if_neg (by rw[h2];simp)]
theorem zBG {α:Type} (p:α→Bool) (l:List α):(l.takeWhile p).length≤l.length:=(List.takeWhile_sublist p).length_le
theorem zJJ {n:Nat} {l:List UInt16} (h:(zB8 n l).1=0):(zB8 n l).2.2=n∧n≤l.length:=by
 unfold zB8 at h⊢;split
 · rename_i h2
   simp only[Bool.and_eq_true,decide_eq_true_eq]at h2;exact⟨rfl,h2.1⟩
 · rename_i h2
   rw[if_neg h2]at h;cases h
theorem zD3 (x:UInt16) (r:List UInt16):zDb (x::r)=if(zB9 x).isSome=true then(0,(zB9 x).getD 0,1)else zR2 x r:=rfl
theorem zAj (z:Bool) (x:UInt16) (r:List UInt16):zA2 z (x::r)=if zA4 x=true then zDg (x::r)else if zP x=true then zBw (x::r)else if(x.toNat==39 || x.toNat==34)=true then zA5 x r
 else if(x.toNat==46&&zBF 0 zP r)=true then bad 6 else zBp z (x::r):=rfl
theorem zEO {l:List UInt16} (h:(zDb l).1=0):1≤(zDb l).2.2∧(zDb l).2.2≤l.length:=by
 cases l with
 | nil=>simp[zDb]at h
 | cons x r=>
  rw[zD3]at h⊢;have hm:∀k,(more 1 (zB8 k r)).1=0→1≤(more 1 (zB8 k r)).2.2∧(more 1 (zB8 k r)).2.2≤(x::r).length:=by
   intro k hk;unfold more at hk⊢;split
   · rename_i h3
     have:=zJJ h3;simp only[List.length_cons];omega
   · rename_i h3
     rw[if_neg h3]at hk;exact absurd hk h3
  split
  · simp
  · rename_i hs
    rw[if_neg hs]at h;unfold zR2 at h⊢
    by_cases h1:(x.toNat==48&& !zBF 0 zP r)=true
    · rw[if_pos h1];simp
    rw[if_neg h1]at h⊢
    by_cases h2:zP x=true
    · rw[if_pos h2]at h;cases h
    rw[if_neg h2]at h⊢
    by_cases h3:(zw x || zGP x || (x.toNat==117&&zg [123] r))=true
    · rw[if_pos h3]at h;cases h
    rw[if_neg h3]at h⊢
    by_cases h4:x.toNat=120
    · rw[if_pos h4]at h⊢;exact hm 2 h
    rw[if_neg h4]at h⊢
    by_cases h5:x.toNat=117
    · rw[if_pos h5]at h⊢;exact hm 4 h
    rw[if_neg h5];simp
theorem zSY (q:UInt16):∀(f:Nat) (l:List UInt16) (acc:List UInt16),(zCz q f l acc).1=0→1≤(zCz q f l acc).2.2∧(zCz q f l acc).2.2≤l.length:=by
 intro f
 induction f with
 | zero=>intro l acc h;simp[zCz]at h
 | succ f ih=>
  intro l acc h;cases l with
  | nil=>simp[zCz]at h
  | cons x r=>
   unfold zCz at h⊢
   by_cases h1:zw x=true
   · rw[if_pos h1]at h;cases h
   rw[if_neg h1]at h⊢
   by_cases h2:x=q
   · rw[if_pos h2];simp
   rw[if_neg h2]at h⊢
   by_cases h3:x.toNat=92
   · rw[if_pos h3]at h⊢
     by_cases h4:(zDb r).1≠0
     · rw[if_pos h4]at h;exact absurd h h4
     · rw[if_neg h4]at h⊢;have h5:=zEO (yAL.1 h4);have h6:=ih _ _ h;rw[List.length_drop]at h6;simp only[List.length_cons];omega
   · rw[if_neg h3]at h⊢;have h6:=ih _ _ h;simp only[List.length_cons];omega
theorem zEP {l:List UInt16}:∀{m n:Nat},zA6 l m=some n→1≤n∧n≤m∧zAc l n≠0:=by
 intro m
 induction m with
 | zero=>intro n h;simp[zA6]at h
 | succ m ih=>
  intro n h;unfold zA6 at h;split at h
  · injection h with h;subst h;exact⟨by omega,by omega,by assumption⟩
  · have:=ih h;exact⟨this.1,by omega,this.2.2⟩
theorem zEQ {l:List UInt16} {n:Nat} (h:zAc l n≠0):n≤l.length:=by
 unfold zAc at h;split at h
 · rename_i h2
   simp only[Bool.and_eq_true,decide_eq_true_eq]at h2;exact h2.1.1
 · exact absurd rfl h
theorem zD4 {α:Type} {p:α→Bool} {x:α} {r:List α} (h:p x=true):1≤((x::r).takeWhile p).length:=by
 rw[List.takeWhile_cons_of_pos h];simp
theorem zPK {d r:List UInt16} (h:(zB7 d r).1=0) (hd:1≤d.length):1≤(zB7 d r).2.2∧(zB7 d r).2.2≤d.length+r.length:=by
 unfold zB7 at h⊢;split
 · rename_i h1;rw[if_pos h1]at h;cases h
 · rename_i h1
   rw[if_neg h1]at h;split
   · rename_i h2
     rw[if_pos h2]at h;have hl:=zCb h2;unfold zH6 at h⊢;split
     · rename_i h3;rw[if_pos h3]at h;cases h
     · rename_i h3
       rw[if_neg h3]at h;split
       · rename_i h4;rw[if_pos h4]at h;cases h
       · simp at hl;show 1≤d.length+1∧d.length+1≤_;omega
   · rename_i h2
     rw[if_neg h2]at h;split
     · rename_i h3;rw[if_pos h3]at h;cases h
     · rename_i h3
       rw[if_neg h3]at h;split
       · rename_i h4;rw[if_pos h4]at h;cases h
       · rename_i h4
         rw[if_neg h4]at h;split
         · rename_i h5;rw[if_pos h5]at h;cases h
         · show 1≤d.length∧d.length≤_;omega
theorem zHD {z:Bool} {l:List UInt16} (h:(zA2 z l).1=0):1≤(zA2 z l).2.2∧(zA2 z l).2.2≤l.length:=by
 cases l with
 | nil=>cases h
 | cons x r=>
  rw[zAj]at h⊢
  by_cases h1:zA4 x=true
  · rw[if_pos h1]at h⊢;unfold zDg at h⊢;split
    · rename_i h2;rw[if_pos h2]at h;cases h
    · exact⟨zD4 (by simp[zAw,h1]),zBG _ _⟩
  rw[if_neg h1]at h⊢
  by_cases h2:zP x=true
  · rw[if_pos h2]at h⊢;unfold zBw at h⊢;have:=zPK h (zD4 h2);have h3:=zBG zP (x::r);rw[List.length_drop]at this;omega
  rw[if_neg h2]at h⊢
  by_cases h3:(x.toNat==39 || x.toNat==34)=true
  · rw[if_pos h3]at h⊢;unfold zA5 at h⊢;split
    · rename_i h4;rw[if_pos h4]at h;exact absurd h h4
    · rename_i h4
      have:=zSY x _ _ _ (yAL.1 h4);simp only[List.length_cons,zJz];omega
  rw[if_neg h3]at h⊢
  by_cases h4:(x.toNat==46&&zBF 0 zP r)=true
  · rw[if_pos h4]at h;cases h
  rw[if_neg h4]at h⊢;unfold zBp at h⊢;cases hs:zA6 (x::r) 4 with
  | none=>
   rw[hs]at h;simp only at h;split at h<;>cases h
  | some n=>
   rw[hs]at h;have h5:=zEP hs;have h6:=zEQ h5.2.2;simp only at h⊢;split
   · rename_i h7;rw[if_pos h7]at h;cases h
   · exact⟨h5.1,h6⟩
theorem zCc {k:Nat} {l:List UInt16} (h:(zz k l).1=0):1≤(zz k l).2.2∧(za l).1+(zz k l).2.2≤l.length:=by
 have h1:=zHD h;have h2:=zFA l;rw[List.length_drop]at h1;unfold zz;omega
theorem zMR:∀(f g k:Nat) (l:List UInt16),l.length < f→l.length < g→zDP f k l=zDP g k l:=by
 intro f
 induction f with
 | zero=>intro g k l hf _;omega
 | succ f ih=>
  intro g k l hf hg;obtain⟨g,rfl⟩:∃m,g=m+1:=⟨g - 1,by omega⟩;unfold zDP;split
  · rfl
  · split
    · rfl
    · split
      · rfl
      · rename_i h3
        have h4:=zCc (yAL.1 h3);rw[ih g _ (l.drop ((za l).1+(zz k l).2.2)) (by rw[List.length_drop];omega) (by rw[List.length_drop];omega)]
def zBh (k:Nat) (l:List UInt16):List Tok×Nat×Nat:=zDP (l.length+1) k l
theorem zD5 {k:Nat} {l:List UInt16} (h:(za l).2.2≠0):zBh k l=([],k+(za l).1,(za l).2.2):=by
 unfold zBh;rw[zDP,if_pos h]
theorem zD6 {k:Nat} {l:List UInt16} (h:(za l).2.2=0) (h2:l.drop (za l).1=[]):zBh k l=([setAt zm (k+(za l).1) (za l).2.1],0,0):=by
 unfold zBh;rw[zDP,if_neg (by rw[h];simp),if_pos h2]
theorem zEv {k:Nat} {l:List UInt16} (h:(za l).2.2=0) (h2:l.drop (za l).1≠[]) (h3:(zz k l).1≠0):zBh k l=([],k+(za l).1,(zz k l).1):=by
 unfold zBh;rw[zDP,if_neg (by rw[h];simp),if_neg h2,if_pos h3]
theorem zCd {k:Nat} {l:List UInt16} (h:(za l).2.2=0) (h2:l.drop (za l).1≠[]) (h3:(zz k l).1=0):
 zBh k l=zBq (setAt (zz k l).2.1 (k+(za l).1) (za l).2.1) (zBh (k+(za l).1+(zz k l).2.2) (l.drop ((za l).1+(zz k l).2.2))):=by
 have h4:=zCc h3;unfold zBh;rw[zDP,if_neg (by rw[h];simp),if_neg h2,if_neg (by rw[h3];simp)];rw[zMR l.length ((l.drop ((za l).1+(zz k l).2.2)).length+1) _ _ (by rw[List.length_drop];omega) (by omega)]
theorem zBU {u:List UInt16} (h:¬4096 < u.length):zCk u=zBh 0 u:=by unfold zCk zBh;rw[if_neg h]
theorem zAr (x:UInt16) (w:World):Calls prog 66 #[.int .u16 (x.toNat:Int)] w fun e w'=>e=.returned (.bool (zA4 x))∧w=w':=by
 have h1:=x.toNat_lt;go_enter func66,ntmps66;go_wp2
 all_goals go_ret
 all_goals refine⟨zJ ?_,rfl⟩
 all_goals (rw[Bool.eq_iff_iff];simp only[zA4,Bool.and_eq_true,Bool.or_eq_true,beq_iff_eq,decide_eq_true_eq,true_iff];omega)
theorem zAA (x:UInt16) (w:World):Calls prog 68 #[.int .u16 (x.toNat:Int)] w fun e w'=>e=.returned (.bool (zP x))∧w=w':=by
 have h1:=x.toNat_lt;go_enter func68,ntmps68;go_wp2
 all_goals go_ret
 all_goals refine⟨zJ ?_,rfl⟩
 all_goals (rw[Bool.eq_iff_iff];simp only[zP,Bool.and_eq_true,decide_eq_true_eq,Bool.false_eq_true,false_iff];omega)
theorem zBi (x:UInt16) (w:World):Calls prog 62 #[.int .u16 (x.toNat:Int)] w fun e w'=>e=.returned (.bool (zGO x))∧w=w':=by
 have h1:=x.toNat_lt;go_enter func62,ntmps62;go_wp2
 all_goals go_ret
 all_goals refine⟨zJ ?_,rfl⟩
 all_goals (rw[Bool.eq_iff_iff];simp[zGO];omega)
theorem zAJ (x:UInt16) (w:World):Calls prog 63 #[.int .u16 (x.toNat:Int)] w fun e w'=>e=.returned (.bool (zw x))∧w=w':=by
 have h1:=x.toNat_lt;go_enter func63,ntmps63;go_wp2
 all_goals go_ret
 all_goals refine⟨zJ ?_,rfl⟩
 all_goals (rw[Bool.eq_iff_iff];simp[zw];omega)
theorem zAx (x:UInt16) (w:World):Calls prog 100 #[.int .u16 (x.toNat:Int)] w fun e w'=>e=.returned (.bool (zGP x))∧w=w':=by
 have h1:=x.toNat_lt;go_enter func100,ntmps100;go_wp2
 all_goals go_ret
 all_goals refine⟨zJ ?_,rfl⟩
 all_goals (rw[Bool.eq_iff_iff];simp[zGP];omega)
theorem zFB (b:Bool) (w:World):Calls prog 99 #[.bool b] w fun e w'=>e=.returned (.int .i64 (zGQ b:Nat))∧w=w':=by
 cases b
 all_goals
  go_enter func99,ntmps99;go_wp2;go_ret;exact⟨rfl,rfl⟩
theorem zMS (x:UInt16) (w:World):Calls prog 102 #[.int .u16 (x.toNat:Int)] w fun e w'=>e=.returned (.bool (zAw x))∧w=w':=by
 cases hl:zA4 x with
 | true=>
  have HR:=zD (show zAw x=true by simp[zAw,hl]);go_enter func102,ntmps102;go_wp2_with (go_at_call 66;refine(zAr _ _).mono ?_;rintro e w' ⟨rfl,rfl⟩);go_ret;exact⟨zJ HR.out.symm,rfl⟩
 | false=>
  have HR:=zD (show zAw x=zP x by simp[zAw,hl]);go_enter func102,ntmps102;go_wp2_with (first | (go_at_call 66;refine(zAr _ _).mono ?_;rintro e w' ⟨rfl,rfl⟩) | (go_at_call 68;refine(zAA _ _).mono ?_;rintro e w' ⟨rfl,rfl⟩));go_ret;exact⟨zJ HR.out.symm,rfl⟩
theorem zJK (x:UInt16) (w:World):Calls prog 192 #[.int .u16 (x.toNat:Int)] w fun e w'=>e=.returned (.int .u16 (zGw x:Nat))∧w=w':=by
 have h1:=x.toNat_lt;cases hd:zP x with
 | true=>
  have hdd:=zBQ.1 hd;have HR:=zD (show zGw x=x.toNat - 48 by rw[zGw,if_pos hd]);go_enter func192,ntmps192;go_wp2_with (go_at_call 68;refine(zAA _ _).mono ?_;rintro e w' ⟨rfl,rfl⟩);go_ret;exact⟨zE1 (by rw[HR.out];omega),rfl⟩
 | false=>
  by_cases h2:97≤x.toNat∧x.toNat≤102
  · have HR:=zD (show zGw x=x.toNat - 87 by rw[zGw,if_neg (by rw[hd];simp),if_pos h2]);obtain⟨h2,h3⟩:=h2;go_enter func192,ntmps192;go_wp2_with (go_at_call 68;refine(zAA _ _).mono ?_;rintro e w' ⟨rfl,rfl⟩);go_ret;exact⟨zE1 (by rw[HR.out];omega),rfl⟩
  · by_cases h3:65≤x.toNat∧x.toNat≤70
    · have HR:=zD (show zGw x=x.toNat - 55 by rw[zGw,if_neg (by rw[hd];simp),if_neg h2,if_pos h3]);obtain⟨h3,h4⟩:=h3;have h5:¬(97:Int)≤(x.toNat:Int):=by omega
      clear h2;go_enter func192,ntmps192;go_wp2_with (go_at_call 68;refine(zAA _ _).mono ?_;rintro e w' ⟨rfl,rfl⟩);go_ret;exact⟨zE1 (by rw[HR.out];omega),rfl⟩
    · have HR:=zD (show zGw x=16 by rw[zGw,if_neg (by rw[hd];simp),if_neg h2,if_neg h3]);have hw:¬(97:Int)≤(x.toNat:Int)∨((97:Int)≤(x.toNat:Int)∧¬(x.toNat:Int)≤102):=by omega
      have hw2:¬(65:Int)≤(x.toNat:Int)∨((65:Int)≤(x.toNat:Int)∧¬(x.toNat:Int)≤70):=by omega
      clear h2 h3;rcases hw with r1 | ⟨r1,r1b⟩
      all_goals rcases hw2 with r2 | ⟨r2,r2b⟩
      all_goals first
       | (exfalso;omega)
       | (
        go_enter func192,ntmps192;go_wp2_with (go_at_call 68;refine(zAA _ _).mono ?_;rintro e w' ⟨rfl,rfl⟩);go_ret;exact⟨zE1 (by rw[HR.out];rfl),rfl⟩)
theorem zKI (x:UInt16) (w:World):Calls prog 191 #[.int .u16 (x.toNat:Int)] w fun e w'=>e=.returned (.bool (zDs x))∧w=w':=by
 go_enter func191,ntmps191;go_wp2_with (go_at_call 192;refine(zJK _ _).mono ?_;rintro e w' ⟨rfl,rfl⟩);go_ret;exact⟨zJ (by unfold zDs;exact decide_eq_decide.2 (by omega)),rfl⟩
theorem Reads.spotL {w:World} {B n:Nat} {A:Option Addr} {l:List UInt16} (h:Reads w B 1 A n (zAM l)) (h0:0 < l.length):
 ∃b off,A=some ⟨b,off,none⟩∧b < B∧∀j (hj:j < l.length),w.cell? ⟨b,off+j,none⟩=some (.int .u16 (l[j].toNat:Int)):=by
 obtain⟨ad,e,hb,hc⟩:=h.u16_0 h0;have hs:ad.spot=none:=by
  cases hsp:ad.spot with
  | none=>rfl
  | some s=>
   exfalso;simp only[World.cell?,hsp]at hc;split at hc
   · simp at hc
   · cases hc
 obtain⟨b,off,sp⟩:=ad;simp only at hs;subst hs;refine⟨b,off,e,hb,fun j hj=>?_⟩;obtain⟨ad',e',_,h1⟩:=h.u16 hj;rw[e]at e';injection e' with e';subst e';rw[Addr.add_lit]at h1;exact h1
theorem zDD {u:List UInt16} {k j:Nat} {p:UInt16→Bool} (h:k+j < u.length):zBF j p (u.drop k)=p u[k+j]:=by
 unfold zBF;rw[List.getElem?_drop,yAC h];rfl
theorem zCn {u:List UInt16} {k j:Nat} {p:UInt16→Bool} (h:¬k+j < u.length):zBF j p (u.drop k)=false:=by
 unfold zBF;rw[List.getElem?_drop,List.getElem?_eq_none (by omega)];rfl
theorem zDE {α:Type} {e e':α} {w w':World} (h:e=e'∧w=w'):e=e'∧w'=w:=⟨h.1,h.2.symm⟩
theorem zF6 {A:Option Addr} {c g B k j n:Nat} {u:List UInt16} {w:World} (hr:Rd w g A n c k) (hn:u.length=n) (ha:Reads w B 1 A n (zAM u)) (hk:k≤n) (hl:n≤4096) (hj:j≤4096) {q:Bool} (hq:zBF j zA4 (u.drop k)=q):
 Calls prog 71 #[.pointer (some ⟨g,0,none⟩),.int .i64 (j:Int),.func (.func 66) #[] #[]] w fun e w'=>e=.returned (.bool q)∧∃m,w'=w.drewN m:=by
 subst hn;have hc0:=hr.c0;have hc1:=hr.c1
 by_cases hin:k+j < u.length
 · have hin2:(k:Int)+(j:Int) < (u.length:Int):=by omega
   have HQ:=zD (show zA4 u[k+j]=q by rw[←hq,zDD hin]);obtain⟨b,off,rfl,_,hcell⟩:=ha.spotL (by omega);have hca:=hcell (k+j) hin;obtain⟨x,hx⟩:∃x,u[k+j]=x:=⟨_,rfl⟩;rw[hx]at hca HQ;clear hcell hq hx hr;go_enter func71,ntmps71;go_wp2_with fail
   go_quiet (first | (go_at_call 66;refine Calls.quiet_of_same ((zAr _ _).mono fun _ _ h=>zDE h)))
   go_wp2;go_ret;exact⟨zJ HQ.out,_,rfl⟩
 · have hin2:¬(k:Int)+(j:Int) < (u.length:Int):=by omega
   have hin3:decide ((k:Int)+(j:Int) < (u.length:Int))=false:=yAJ hin2;have HQ:=zD (show false=q by rw[←hq,zCn hin]);clear hin hq hr;go_enter func71,ntmps71;go_wp2_with fail
   go_quiet (fail)
   go_wp2;go_ret;exact⟨zJ HQ.out,_,rfl⟩
theorem zAd {A:Option Addr} {c g B k j n:Nat} {u:List UInt16} {w:World} (hr:Rd w g A n c k) (hn:u.length=n) (ha:Reads w B 1 A n (zAM u)) (hk:k≤n) (hl:n≤4096) (hj:j≤4096) {q:Bool} (hq:zBF j zP (u.drop k)=q):
 Calls prog 71 #[.pointer (some ⟨g,0,none⟩),.int .i64 (j:Int),.func (.func 68) #[] #[]] w fun e w'=>e=.returned (.bool q)∧∃m,w'=w.drewN m:=by
 subst hn;have hc0:=hr.c0;have hc1:=hr.c1
 by_cases hin:k+j < u.length
 · have hin2:(k:Int)+(j:Int) < (u.length:Int):=by omega
   have HQ:=zD (show zP u[k+j]=q by rw[←hq,zDD hin]);obtain⟨b,off,rfl,_,hcell⟩:=ha.spotL (by omega);have hca:=hcell (k+j) hin;obtain⟨x,hx⟩:∃x,u[k+j]=x:=⟨_,rfl⟩;rw[hx]at hca HQ;clear hcell hq hx hr;go_enter func71,ntmps71;go_wp2_with fail
   go_quiet (first | (go_at_call 68;refine Calls.quiet_of_same ((zAA _ _).mono fun _ _ h=>zDE h)))
   go_wp2;go_ret;exact⟨zJ HQ.out,_,rfl⟩
 · have hin2:¬(k:Int)+(j:Int) < (u.length:Int):=by omega
   have hin3:decide ((k:Int)+(j:Int) < (u.length:Int))=false:=yAJ hin2;have HQ:=zD (show false=q by rw[←hq,zCn hin]);clear hin hq hr;go_enter func71,ntmps71;go_wp2_with fail
   go_quiet (fail)
   go_wp2;go_ret;exact⟨zJ HQ.out,_,rfl⟩
theorem zII {A:Option Addr} {c g B k j n:Nat} {u:List UInt16} {w:World} (hr:Rd w g A n c k) (hn:u.length=n) (ha:Reads w B 1 A n (zAM u)) (hk:k≤n) (hl:n≤4096) (hj:j≤4096) {q:Bool} (hq:zBF j zAw (u.drop k)=q):
 Calls prog 71 #[.pointer (some ⟨g,0,none⟩),.int .i64 (j:Int),.func (.func 102) #[] #[]] w fun e w'=>e=.returned (.bool q)∧∃m,w'=w.drewN m:=by
 subst hn;have hc0:=hr.c0;have hc1:=hr.c1
 by_cases hin:k+j < u.length
 · have hin2:(k:Int)+(j:Int) < (u.length:Int):=by omega
   have HQ:=zD (show zAw u[k+j]=q by rw[←hq,zDD hin]);obtain⟨b,off,rfl,_,hcell⟩:=ha.spotL (by omega);have hca:=hcell (k+j) hin;obtain⟨x,hx⟩:∃x,u[k+j]=x:=⟨_,rfl⟩;rw[hx]at hca HQ;clear hcell hq hx hr;go_enter func71,ntmps71;go_wp2_with fail
   go_quiet (first | (go_at_call 102;refine Calls.quiet_of_same ((zMS _ _).mono fun _ _ h=>zDE h)))
   go_wp2;go_ret;exact⟨zJ HQ.out,_,rfl⟩
 · have hin2:¬(k:Int)+(j:Int) < (u.length:Int):=by omega
   have hin3:decide ((k:Int)+(j:Int) < (u.length:Int))=false:=yAJ hin2;have HQ:=zD (show false=q by rw[←hq,zCn hin]);clear hin hq hr;go_enter func71,ntmps71;go_wp2_with fail
   go_quiet (fail)
   go_wp2;go_ret;exact⟨zJ HQ.out,_,rfl⟩
theorem zMT {A:Option Addr} {c g B k j n:Nat} {u:List UInt16} {w:World} (hr:Rd w g A n c k) (hn:u.length=n) (ha:Reads w B 1 A n (zAM u)) (hk:k≤n) (hl:n≤4096) (hj:j≤4096) {q:Bool} (hq:zBF j zDs (u.drop k)=q):
 Calls prog 71 #[.pointer (some ⟨g,0,none⟩),.int .i64 (j:Int),.func (.func 191) #[] #[]] w fun e w'=>e=.returned (.bool q)∧∃m,w'=w.drewN m:=by
 subst hn;have hc0:=hr.c0;have hc1:=hr.c1
 by_cases hin:k+j < u.length
 · have hin2:(k:Int)+(j:Int) < (u.length:Int):=by omega
   have HQ:=zD (show zDs u[k+j]=q by rw[←hq,zDD hin]);obtain⟨b,off,rfl,_,hcell⟩:=ha.spotL (by omega);have hca:=hcell (k+j) hin;obtain⟨x,hx⟩:∃x,u[k+j]=x:=⟨_,rfl⟩;rw[hx]at hca HQ;clear hcell hq hx hr;go_enter func71,ntmps71;go_wp2_with fail
   go_quiet (first | (go_at_call 191;refine Calls.quiet_of_same ((zKI _ _).mono fun _ _ h=>zDE h)))
   go_wp2;go_ret;exact⟨zJ HQ.out,_,rfl⟩
 · have hin2:¬(k:Int)+(j:Int) < (u.length:Int):=by omega
   have hin3:decide ((k:Int)+(j:Int) < (u.length:Int))=false:=yAJ hin2;have HQ:=zD (show false=q by rw[←hq,zCn hin]);clear hin hq hr;go_enter func71,ntmps71;go_wp2_with fail
   go_quiet (fail)
   go_wp2;go_ret;exact⟨zJ HQ.out,_,rfl⟩
theorem zF7 {s:List UInt8} {l:List UInt16}:zg s l=true↔∀i (h:i < s.length),l[i]? =some s[i].toUInt16:=by
 unfold zg;rw[List.isPrefixOf_iff_prefix,List.prefix_iff_getElem?];simp
theorem zHE {s:List UInt8} {l:List UInt16} {i:Nat} (h:i < s.length) (h2:l[i]? ≠some s[i].toUInt16):zg s l=false:=by
 cases hs:zg s l with
 | false=>rfl
 | true=>exact absurd (zF7.1 hs i h) h2
theorem zAe {A:Option Addr} {c g B k n:Nat} {u:List UInt16} (s:ByteArray) {w:World} (hr:Rd w g A n c k) (hn:u.length=n) (ha:Reads w B 1 A n (zAM u)) (hk:k≤n) (hl:n≤4096) (hs:s.size≤4096) {q:Bool} (hq:zg s.data.toList (u.drop k)=q):
 Calls prog 64 #[.pointer (some ⟨g,0,none⟩),.string s] w fun e w'=>e=.returned (.bool q)∧∃m,w'=w.drewN m:=by
 subst hn;have HQ:=zD hq;have HA:=zD ha;have HR:=zD hr;clear hq ha hr;go_enter func64,ntmps64;go_wp2
 go_loopw [8] (fun i wr=>∃j:Nat,j≤s.size∧i=.int .i64 (j:Nat)∧(∃m,wr=w.drewN m)∧Hid (∀i (h:i < s.data.toList.length),i < j→(u.drop k)[i]? =some s.data.toList[i].toUInt16)) (fun i _=>s.size - (intOf i).toNat)
 case atStart=>exact⟨0,yAF _,rfl,⟨0,rfl⟩,fun i _ h=>absurd h (by omega)⟩
 case round=>
  obtain⟨j,hj,rfl,⟨m,hw⟩,hpre⟩:=hrel;have hc0:wr.cell? ⟨g,0,none⟩=some (.slice A u.length c):=by rw[hw];exact(HR.out.drewN m).c0
  have hc1:wr.cell? ⟨g,1,none⟩=some (.int .i64 (k:Int)):=by rw[hw];exact(HR.out.drewN m).c1
  have har:Hid (Reads wr B 1 A u.length (zAM u)):=by rw[hw];exact HA.out.drewN m
  have HW:=zD hw;clear hw
  by_cases hlt:j < s.size
  · have hjl:j < s.data.toList.length:=by simpa using hlt
    by_cases hin:k+j < u.length
    · have hin2:¬(u.length:Int)≤(k:Int)+(j:Int):=by omega
      have hin3:(k:Int)+(j:Int) < (u.length:Int):=by omega
      have hin4:decide ((u.length:Int)≤(k:Int)+(j:Int))=false:=yAJ hin2;obtain⟨b,off,rfl,_,hcell⟩:=har.out.spotL (by omega);have hca:=hcell (k+j) hin;have hx:=u[k+j].toNat_lt;have hy:=s[j].toNat_lt;obtain⟨x,hxx⟩:∃x,u[k+j].toNat=x:=⟨_,rfl⟩;rw[hxx]at hca hx
      by_cases he:x=s[j].toNat
      · have e1:((x:Int) !=(s[j].toNat:Int))=false:=by rw[he];simp
        have HN:=zD (show(u.drop k)[j]? =some s.data.toList[j].toUInt16 by
         rw[List.getElem?_drop,yAC hin];congr 1;refine UInt16.toNat_inj.1 ?_;rw[hxx,he];simp;rfl)
        clear hcell he hxx hin;go_wp2_with fail
        go_quiet (fail)
        go_wp2
        go_roundw
        case rel=>
         refine⟨j+1,by omega,by go_num,⟨_,by rw[HW.out];exact World.drewN_drewN _ _ _⟩,?_⟩;intro i h hi
         by_cases e:i=j
         · subst e;exact HN.out
         · exact hpre.out i h (by omega)
        case measure=>simp[intOf];omega
      · have e1:((x:Int) !=(s[j].toNat:Int))=true:=by rw[bne_iff_ne];omega
        have HN:=zD (show false=q by
         rw[←HQ.out,zHE hjl];rw[List.getElem?_drop,yAC hin];intro h;injection h with h;apply he;rw[←hxx,h];simp;rfl)
        clear hcell he hxx hin;go_wp2_with fail
        go_quiet (fail)
        go_wp2;go_ret;exact⟨zJ HN.out,_,by rw[HW.out];exact World.drewN_drewN _ _ _⟩
    · have hin2:(u.length:Int)≤(k:Int)+(j:Int):=by omega
      have HN:=zD (show false=q by
       rw[←HQ.out,zHE hjl];rw[List.getElem?_eq_none (by rw[List.length_drop];omega)];exact fun h=>by cases h)
      clear hin;go_wp2_with fail
      go_quiet (fail)
      go_wp2;go_ret;exact⟨zJ HN.out,_,by rw[HW.out];exact World.drewN_drewN _ _ _⟩
  · have HN:=zD (show true=q by
     rw[←HQ.out,zF7.2];intro i h;exact hpre.out i h (by have h9:i < s.size:=(by simpa using h);omega))
    go_wp2;go_ret;exact⟨zJ HN.out,m,HW.out⟩
section
variable {P:Program} (w:World)
theorem zER (base:Nat) (t ty e:TypeId) (i:TypeInfo) (size:Nat) (ht:P.underlying t=some (.slice e)) (hi:P.info? e=some i)
 (v:Value) (n:Nat) (xs:List Value) (hown:w.ownsRow base e size v n xs) (c:Nat):(Builtin.append_ #[t,t] ty #[v,.slice none 0 c]).run P w=.ok v w:=by
 rcases hown.2 with⟨rfl,rfl⟩ | ⟨g,cap,cur,rfl,_,_,hnc,_⟩
 · simp[Builtin.append_,run_underlying ht,sizeOf,typeInfo,hi,Builtin.lenOf,Builtin.firstCells]
 · simp[Builtin.append_,run_underlying ht,sizeOf,typeInfo,hi,Builtin.lenOf,Builtin.firstCells,hnc,storeCells]
theorem zFk (base:Nat) (t ty e:TypeId) (i:TypeInfo) (z:Value) (size bytes:Nat) (ht:P.underlying t=some (.slice e)) (hi:P.info? e=some i) (hz:i.zero=some z)
 (hsize:i.size=size) (hby:i.bytes=bytes) (hzs:z.cells.size=size) (hsz:0 < size)
 (v:Value) (n:Nat) (xs:List Value) (hown:w.ownsRow base e size v n xs)
 (B:Nat) (A:Option Addr) (m c:Nat) (news:List Value) (hr:Reads w B size A m news) (h1:∀u∈news,u.oneCell'=true)
 (h63:n+m≤maxLen) (hbytes:(n+m)*bytes≤140737488355328) (hbase:base≤w.heap.size):
 ∃v' w',(Builtin.append_ #[t,t] ty #[v,.slice A m c]).run P w=.ok v' w'∧w'.ownsRow base e size v' (n+m) (xs++news)∧w.grownBy w' v.ownBlock∧
  (v'.ownBlock=v.ownBlock∨v'.ownBlock=some w.heap.size):=by
 rcases A with _ | ad
 · have hm:m=0:=by
    rcases Nat.eq_zero_or_pos m with h0 | h0
    · exact h0
    · obtain⟨ad,h,_⟩:=hr.2 h0;cases h
   subst hm;have hn:news=[]:=List.eq_nil_of_length_eq_zero (by simpa using hr.1);subst hn;exact⟨v,w,zER w base t ty e i size ht hi v n xs hown c,by simpa using hown,World.grownBy.refl w _,.inl rfl⟩
 · have hcells:∀j u,news[j]? =some u→w.cell? (ad.add j)=some u:=by
    intro j u hu;rcases Nat.eq_zero_or_pos m with h0 | h0
    · subst h0;have hn:news=[]:=List.eq_nil_of_length_eq_zero (by simpa using hr.1);subst hn;simp at hu
    · obtain⟨ad',h,_,hc⟩:=hr.2 h0;injection h with h;subst h;exact hc j u hu
   obtain⟨v',w',hrun,h2,h3,_,h5⟩:=run_append_own_at (P:=P) w base t ty e i z size bytes ht hi hz hsize hby hzs hsz v n xs hown ad m c news hr.1 hcells h1 h63 hbytes hbase;exact⟨v',w',hrun,h2,h3,h5⟩
end
section
variable {P:Program} {w0 w:World} {ops:Array Oper} {rest:List Oper} {o:Oper} {a:Act} {Q:Exit→Act→World→Prop}
theorem zKJ (hgd:o.guard=none) (s x:Operand) (t:TypeId)
 (ho:o.op=.call {callee:=.builtin .append,args:=#[s,x],argTypes:=#[t,t]})
 (e:TypeId) (i:TypeInfo) (z:Value) (bytes:Nat) (ht:P.underlying t=some (.slice e)) (hi:P.info? e=some i) (hz:i.zero=some z)
 (hsize:i.size=1) (hby:i.bytes=bytes) (hzs:z.cells.size=1)
 (v:Value) (xs:List Value) (hs:a.eval s=v) (hm:Made w0 w e v xs)
 (B:Nat) (A:Option Addr) (m c:Nat) (news:List Value) (hx:a.eval x=.slice A m c) (hr:Reads w B 1 A m news) (h1:∀u∈news,u.oneCell'=true)
 (hsz:xs.length+m≤70368744177664) (hb2:bytes≤2)
 (h:∀v' w',Made w0 w' e v' (xs++news)→wpList P ops Q rest (a.put o.dst v') w'):wpList P ops Q (o::rest) a w:=by
 have hl:news.length=m:=by have:=hr.1;omega
 subst hl;have hby2:(xs.length+news.length)*bytes≤140737488355328:=by
  calc (xs.length+news.length)*bytes≤70368744177664*2:=Nat.mul_le_mul hsz hb2
   _≤140737488355328:=by omega
 obtain⟨v',w',hrun,h2,h3,_⟩:=zFk (P:=P) w w0.heap.size t o.type e i z 1 bytes ht hi hz hsize hby hzs (by omega) v xs.length xs hm.own B A news.length c news hr h1 (by unfold maxLen;omega) hby2 hm.below.size;refine wpList_plain hgd fun K hK=>?_;unfold Oper.wp execOp;simp only[ho,resolve,invoke,builtin,Sem.run_bind,Sem.run_pure,Result.andThen_ok,List.map_toArray,List.map_cons,List.map_nil,hs,hx,hrun];refine hK _ _ (h v' w' ⟨by rw[List.length_append];exact h2,hm.below.grown h3 hm.below.size (fun k hk=>(hm.own.lt k hk).1)⟩)
end
theorem Made.lit (w:World) (e:TypeId) (cs:List Value) (h:cs.length≤maxLen):Made w (w.alloc (.cells cs.toArray e)) e (.slice (some ⟨w.heap.size,0,none⟩) cs.length cs.length) cs:=
 ⟨⟨by simp,.inr ⟨w.heap.size,cs.length,cs.toArray,rfl,yAD _,heap_alloc_new w _,yAD _,h,by simp,by simp⟩⟩,(Below.refl _ _).alloc (yAD _) _⟩
end Go.Proofs.YtlohaclgbfhijaaGreatDoor
