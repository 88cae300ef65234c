/- Joined for the claim ParseEnds: the parser, the lexer and the trees as they are walked, made short by a program of mine. -/
import Derived.Laws.OwnMore
import Derived.Test.YtlohaclgbfhijaaGreatDoorS01
set_option maxHeartbeats 16000000
set_option maxRecDepth 1000000
namespace Go.Proofs.YtlohaclgbfhijaaGreatDoor
open Go.RowKit
def zBv (l:List Nat):List Value:=l.map fun n:Nat=>Value.int .u32 (n:Int)
theorem zN2 {l:List Nat} {j:Nat} (h:j < l.length):(zBv l)[j]? =some (.int .u32 (l[j]:Int)):=by
 simp[zBv,List.getElem?_eq_getElem h]
theorem zLC (l:List Nat) (k:Nat):(zBv l).take k=zBv (l.take k):=by simp[zBv]
theorem zD5 (l r:List Nat):zBv l++zBv r=zBv (l++r):=by simp[zBv]
theorem zN3 {w:World} {base:Nat} {e:TypeId} {A:Option Addr} {n c j:Nat} {xs:List Value} (h:w.ownsRow base e 1 (.slice A n c) n xs) (hj:j≤n):w.ownsRow base e 1 (.slice A j c) j (xs.take j):=by
 refine⟨by rw[List.length_take,h.1];omega,?_⟩
 rcases h.2 with⟨h1,h2⟩ | ⟨g,cap,cur,h1,hb,hg,hn,hc,hs,ht⟩
 · left
   injection h1 with h3 h4 h5
   subst h2
   obtain rfl:j=0:=by omega
   exact⟨by rw[h3,h5],rfl⟩
 · right
   injection h1 with h3 h4 h5
   subst h3 h5
   refine⟨g,c,cur,rfl,hb,hg,by omega,hc,hs,?_⟩
   rw[←ht,List.take_take]
   congr 1
   omega
theorem Reads.spotV {w:World} {B n:Nat} {A:Option Addr} {xs:List Value} (h:Reads w B 1 A n xs) (h0:0 < n):
 ∃b off,A=some ⟨b,off,none⟩∧b < B∧∀j u,xs[j]? =some u→w.cell? ⟨b,off+j,none⟩=some u:=by
 obtain⟨ad,u,e,hb,hx,hc⟩:=h.at_ h0
 have hs:ad.spot=none:=by
  cases hsp:ad.spot with
  | none=>rfl
  | some s=>
   exfalso
   rw[Addr.add_zero]at hc
   simp only[World.cell?,hsp]at hc
   split at hc
   · simp at hc
   · cases hc
 obtain⟨b,off,sp⟩:=ad
 simp only at hs
 subst hs
 refine⟨b,off,e,hb,fun j v hv=>?_⟩
 have hj:j < n:=by
  have:=(List.getElem?_eq_some_iff.1 hv).1
  have h1:=h.1
  omega
 obtain⟨ad',u',e',_,hx',h1⟩:=h.at_ hj
 rw[e]at e'
 injection e' with e'
 subst e'
 rw[Addr.add_lit]at h1
 rw[h1,←hx',hv]
theorem zD6 {A:Option Addr} {c B n m:Nat} {xs:List Nat} {w:World} (hn:xs.length=n) (ha:Reads w B 1 A n (zBv xs)) (hl:n≤4096) (hc:n≤c) (hc2:c≤maxLen) (hm:(zAv xs).length=m):
 Calls Tryz.prog 168 #[.slice A n c] w fun e w'=>e=.returned (.slice A m c)∧w=w':=by
 have HA:=zD ha
 have HM:=zD hm
 have HN:=zD hn
 unfold maxLen at hc2
 clear ha hm hn
 go_enter Tryz.func168,Tryz.ntmps168
 go_wp2
 go_loop [0] (fun v=>∃j:Nat,v=.slice A j c∧j≤n∧Hid (zAv (xs.take j)=zAv xs)) (fun v=>match v with | .slice _ j _=>j | _=>0)
 case atStart=>exact⟨n,rfl,Nat.le_refl _,zD (by rw[←HN.out,List.take_length])⟩
 case round=>
  obtain⟨j,rfl,hj,hT⟩:=hrel
  cases j with
  | zero=>
   have hz:=zD (show m=0 by
    have:=hT.out
    rw[List.take_zero]at this
    rw[←HM.out,←this];rfl)
   go_wp2
   go_ret
   obtain rfl:=hz.out
   exact⟨rfl,rfl⟩
  | succ i=>
   have hx:=HN.out
   obtain⟨b,off,rfl,hbB,hcell⟩:=HA.out.spotV (by omega)
   have hi:i < xs.length:=by omega
   have hca:=hcell i _ (zN2 hi)
   have hsn:=zD (show xs.take (i+1)=xs.take i++[xs[i]]from List.take_succ_eq_append_getElem hi)
   obtain⟨x,hxx⟩:∃x,xs[i]=x:=⟨_,rfl⟩
   rw[hxx]at hca hsn
   clear hcell hxx hx
   by_cases h0:x=0
   · have e1:((x:Int)==0)=true:=by rw[h0];rfl
     have hz:=zD (show zAv (xs.take i)=zAv xs by rw[←hT.out,hsn.out,h0,zIQ])
     clear h0
     go_wp2
     go_round
     case rel=>exact⟨i,rfl,by omega,hz.out⟩
     case measure=>simp
   · have e1:((x:Int)==0)=false:=beq_eq_false_iff_ne.2 (by omega)
     have hz:=zD (show m=i+1 by
      rw[←HM.out,←hT.out,hsn.out,zIR h0,List.length_append,List.length_take]
      simp;omega)
     clear h0
     go_wp2
     go_ret
     obtain rfl:=hz.out
     exact⟨rfl,rfl⟩
inductive Tr where
 | mk (x:Nd) (l:List Tr)
mutual
def Tr.size:Tr→Nat
 | .mk _ l=>1+sizes l
def sizes:List Tr→Nat
 | []=>0
 | t::r=>t.size+sizes r
end
def Tr.nd:Tr→Nd | .mk x _=>x
def Tr.subs:Tr→List Tr | .mk _ l=>l
def zAP (n:Nat):List Tr→List Int
 | []=>[]
 | t::r=>(n:Int)::zAP (n+t.size) r
mutual
def flatT (n:Nat):Tr→List Nd
 | .mk x l=>{x with kids:=zAP (n+1) l}::flatL (n+1) l
def flatL (n:Nat):List Tr→List Nd
 | []=>[]
 | t::r=>flatT n t++flatL (n+t.size) r
end
theorem zN (x:Nd) (l:List Tr):(Tr.mk x l).size=1+sizes l:=by rw[Tr.size]
theorem zH:sizes []=0:=by rw[sizes]
theorem zG (t:Tr) (r:List Tr):sizes (t::r)=t.size+sizes r:=by rw[sizes]
theorem zBk (t:Tr):1≤t.size:=by cases t;rw[zN];omega
theorem zA1 (n:Nat) (x:Nd) (l:List Tr):flatT n (.mk x l)={x with kids:=zAP (n+1) l}::flatL (n+1) l:=by rw[flatT]
theorem zAp (n:Nat):flatL n []=[]:=by rw[flatL]
theorem zAW (n:Nat) (t:Tr) (r:List Tr):flatL n (t::r)=flatT n t++flatL (n+t.size) r:=by rw[flatL]
mutual
theorem flatT_len (n:Nat) (t:Tr):(flatT n t).length=t.size:=by
 cases t with
 | mk x l=>rw[zA1,zN,List.length_cons,flatL_len (n+1) l];omega
theorem flatL_len (n:Nat) (l:List Tr):(flatL n l).length=sizes l:=by
 cases l with
 | nil=>rw[zAp,zH];rfl
 | cons t r=>rw[zAW,zG,List.length_append,flatT_len n t,flatL_len (n+t.size) r]
end
theorem zDl (n:Nat) (l:List Tr):(zAP n l).length=l.length:=by
 induction l generalizing n with
 | nil=>rfl
 | cons t r ih=>simp[zAP,ih]
theorem zBL {n:Nat} {l:List Tr} {p:Int} (h:p∈zAP n l):(n:Int)≤p∧p < ((n+sizes l:Nat):Int):=by
 induction l generalizing n with
 | nil=>cases h
 | cons t r ih=>
  have:=zBk t
  rw[zG]
  rcases List.mem_cons.1 h with h | h
  · omega
  · have:=ih h;omega
def Tr.laid (n:Nat):Tr→Nd | .mk x l=>{x with kids:=zAP (n+1) l}
theorem zIU (n:Nat) (t:Tr):(flatT n t)[0]? =some (t.laid n):=by cases t;rw[zA1];rfl
def At (ts:List Nd) (n:Nat) (t:Tr):Prop:=∃a b,ts=a++flatT n t++b∧a.length=n
def AtL (ts:List Nd) (n:Nat) (l:List Tr):Prop:=∃a b,ts=a++flatL n l++b∧a.length=n
theorem At.get {ts:List Nd} {n:Nat} {t:Tr} (h:At ts n t):ts[n]? =some (t.laid n):=by
 obtain⟨a,b,rfl,hl⟩:=h
 rw[List.append_assoc,List.getElem?_append_right (by omega),hl,Nat.sub_self,List.getElem?_append_left (by rw[flatT_len];exact zBk t)]
 exact zIU n t
theorem At.le {ts:List Nd} {n:Nat} {t:Tr} (h:At ts n t):n+t.size≤ts.length:=by
 obtain⟨a,b,rfl,hl⟩:=h
 simp only[List.length_append,flatT_len]
 omega
theorem At.subs {ts:List Nd} {n:Nat} {x:Nd} {l:List Tr} (h:At ts n (.mk x l)):AtL ts (n+1) l:=by
 obtain⟨a,b,rfl,hl⟩:=h
 rw[zA1]
 exact⟨a++[{x with kids:=zAP (n+1) l}],b,by simp,by simp[hl]⟩
theorem AtL.head {ts:List Nd} {n:Nat} {t:Tr} {l:List Tr} (h:AtL ts n (t::l)):At ts n t:=by
 obtain⟨a,b,rfl,hl⟩:=h
 rw[zAW]
 exact⟨a,flatL (n+t.size) l++b,by simp,hl⟩
theorem AtL.tail {ts:List Nd} {n:Nat} {t:Tr} {l:List Tr} (h:AtL ts n (t::l)):AtL ts (n+t.size) l:=by
 obtain⟨a,b,rfl,hl⟩:=h
 rw[zAW]
 exact⟨a++flatT n t,b,by simp,by simp[hl,flatT_len]⟩
theorem At.whole (t:Tr):At (flatT 0 t) 0 t:=⟨[],[],by simp,rfl⟩
theorem zCb (N n:Nat) (x:Nd) (r:List Nd) (s:Int) (st:List Int):zAt N n (x::r) (s::st)=(s==(n:Int)&&zDz N n x.kids&&zAt N (n+1) r (x.kids++st)):=rfl
theorem zEI (n:Nat) (x:Nd) (r:List Nd) (d:List Nat):zCa n (x::r) d=zCa (n+1) r (zC7 (d.set n (max (d.getD n 0) 1)) (max (d.getD n 0) 1+1) x.kids):=rfl
theorem zIV {N m:Nat} (ih:∀n r k st,r.length < m→zAt N n r (k::st)=true→∃t r',k=(n:Int)∧r=flatT n t++r'∧zAt N (n+t.size) r' st=true):
 ∀(ks:List Int) (n:Nat) (r:List Nd) (st:List Int),r.length < m→zAt N n r (ks++st)=true→∃l r',ks=zAP n l∧r=flatL n l++r'∧zAt N (n+sizes l) r' st=true:=by
 intro ks
 induction ks with
 | nil=>intro n r st _ h;exact⟨[],r,rfl,by rw[zAp];rfl,by rw[zH];exact h⟩
 | cons k ks ihk=>
  intro n r st hm h
  obtain⟨t,r',hk,hr,h2⟩:=ih n r k (ks++st) hm h
  have hl:r'.length < m:=by
   have:=congrArg List.length hr
   rw[List.length_append]at this
   omega
  obtain⟨l,r'',hks,hr',h3⟩:=ihk (n+t.size) r' st hl h2
  refine⟨t::l,r'',by rw[hk,hks];rfl,by rw[hr,hr',zAW,List.append_assoc],?_⟩
  rw[zG,←Nat.add_assoc]
  exact h3
theorem zLD (N:Nat):∀(m n:Nat) (r:List Nd) (k:Int) (st:List Int),r.length < m→zAt N n r (k::st)=true→∃t r',k=(n:Int)∧r=flatT n t++r'∧zAt N (n+t.size) r' st=true:=by
 intro m
 induction m with
 | zero=>intro n r k st h;omega
 | succ m ih=>
  intro n r k st hm h
  cases r with
  | nil=>cases h
  | cons x r=>
   unfold zAt at h
   simp only[Bool.and_eq_true,beq_iff_eq]at h
   obtain⟨⟨hk,_⟩,h⟩:=h
   obtain⟨l,r',h1,h2,h3⟩:=zIV (m:=m) ih x.kids (n+1) r st (by simp at hm;omega) h
   refine⟨.mk x l,r',hk,?_,?_⟩
   · rw[zA1,←h1,h2];rfl
   · rw[zN,←Nat.add_assoc];exact h3
theorem zIW {ts:List Nd} (h:zDO ts=true):∃t,ts=flatT 0 t:=by
 obtain⟨t,r',_,h1,h2⟩:=zLD ts.length (ts.length+1) 0 ts 0 [] (by omega) h
 cases r' with
 | nil=>exact⟨t,by rw[h1];simp⟩
 | cons x r=>cases h2
mutual
theorem order_flatT (N:Nat) (t:Tr) (n:Nat) (r:List Nd) (st:List Int) (h:n+t.size≤N):zAt N n (flatT n t++r) ((n:Int)::st)=zAt N (n+t.size) r st:=by
 cases t with
 | mk x l=>
  rw[zN]at h⊢
  rw[zA1,List.cons_append]
  have hk:zDz N n (zAP (n+1) l)=true:=by
   unfold zDz
   rw[List.all_eq_true]
   intro p hp
   have:=zBL hp
   simp only[Bool.and_eq_true,decide_eq_true_eq]
   omega
  rw[zCb]
  simp only[beq_self_eq_true,hk,Bool.true_and]
  rw[order_flatL N l (n+1) r st (by omega),Nat.add_assoc]
theorem order_flatL (N:Nat) (l:List Tr) (n:Nat) (r:List Nd) (st:List Int) (h:n+sizes l≤N):zAt N n (flatL n l++r) (zAP n l++st)=zAt N (n+sizes l) r st:=by
 cases l with
 | nil=>rw[zAp,zH];rfl
 | cons t l=>
  rw[zG]at h⊢
  rw[zAW,List.append_assoc]
  show zAt N n (flatT n t++(flatL (n+t.size) l++r)) ((n:Int)::(zAP (n+t.size) l++st))=_
  rw[order_flatT N t n _ _ (by omega),order_flatL N l (n+t.size) r st (by omega),Nat.add_assoc]
end
theorem zIX (t:Tr):zDO (flatT 0 t)=true:=by
 have h:=order_flatT t.size t 0 [] [] (by omega)
 rw[List.append_nil]at h
 unfold zDO
 rw[flatT_len]
 exact h.trans rfl
mutual
def depsT (v:Nat):Tr→List Nat
 | .mk _ l=>v::depsL (v+1) l
def depsL (v:Nat):List Tr→List Nat
 | []=>[]
 | t::r=>depsT v t++depsL v r
end
theorem zCJ (v:Nat) (x:Nd) (l:List Tr):depsT v (.mk x l)=v::depsL (v+1) l:=by rw[depsT]
theorem zDQ (v:Nat):depsL v []=[]:=by rw[depsL]
theorem zB7 (v:Nat) (t:Tr) (r:List Tr):depsL v (t::r)=depsT v t++depsL v r:=by rw[depsL]
mutual
theorem depsT_len (v:Nat) (t:Tr):(depsT v t).length=t.size:=by
 cases t with
 | mk x l=>rw[zCJ,zN,List.length_cons,depsL_len (v+1) l];omega
theorem depsL_len (v:Nat) (l:List Tr):(depsL v l).length=sizes l:=by
 cases l with
 | nil=>rw[zDQ,zH];rfl
 | cons t r=>rw[zB7,zG,List.length_append,depsT_len v t,depsL_len v r]
end
def over (d:List Nat) (n:Nat) (e:List Nat):List Nat:=d.take n++e++d.drop (n+e.length)
theorem zN4 {d e:List Nat} {n:Nat} (h:n+e.length≤d.length):(over d n e).length=d.length:=by
 unfold over
 simp only[List.length_append,List.length_take,List.length_drop]
 omega
theorem zCt {d e:List Nat} {n i:Nat} (h:n+e.length≤d.length):(over d n e)[i]? =if n≤i∧i < n+e.length then e[i - n]? else d[i]? :=by
 unfold over
 by_cases h1:i < n
 · rw[if_neg (by omega),List.append_assoc,List.getElem?_append_left (by rw[List.length_take];omega),List.getElem?_take_of_lt h1]
 · by_cases h2:i < n+e.length
   · rw[if_pos ⟨by omega,h2⟩,List.append_assoc,List.getElem?_append_right (by rw[List.length_take];omega),List.length_take,Nat.min_eq_left (by omega),List.getElem?_append_left (by omega)]
   · rw[if_neg (by omega),List.getElem?_append_right (by rw[List.length_append,List.length_take];omega),List.getElem?_drop,List.length_append,List.length_take,Nat.min_eq_left (by omega)]
     congr 1;omega
theorem zDm {v:Nat}:∀(ks:List Int) (d:List Nat) (i:Nat),(∀k∈ks,0≤k)→(zC7 d v ks)[i]? =if(i:Int)∈ks∧i < d.length then some v else d[i]? :=by
 intro ks
 induction ks with
 | nil=>intro d i _;simp[zC7]
 | cons k ks ih=>
  intro d i h
  unfold zC7
  rw[ih _ _ (fun k hk=>h k (List.mem_cons_of_mem _ hk)),List.length_set]
  have hk:=h k (List.mem_cons_self ..)
  by_cases h1:(i:Int)∈ks∧i < d.length
  · rw[if_pos h1,if_pos ⟨List.mem_cons_of_mem _ h1.1,h1.2⟩]
  · rw[if_neg h1,List.getElem?_set]
    by_cases h2:k.toNat=i
    · subst h2
      have h3:((k.toNat:Nat):Int)=k:=Int.toNat_of_nonneg hk
      rw[if_pos rfl]
      by_cases h4:k.toNat < d.length
      · rw[if_pos h4,if_pos ⟨by rw[h3];exact List.mem_cons_self ..,h4⟩]
      · rw[if_neg h4,if_neg (fun hh=>h4 hh.2),List.getElem?_eq_none (by omega)]
    · rw[if_neg h2,if_neg]
      rintro⟨h5,h6⟩
      rcases List.mem_cons.1 h5 with h5 | h5
      · exact h2 (by omega)
      · exact h1 ⟨h5,h6⟩
theorem zIY {v:Nat}:∀(ks:List Int) (d:List Nat),(zC7 d v ks).length=d.length:=by
 intro ks
 induction ks with
 | nil=>intro d;rfl
 | cons k ks ih=>intro d;unfold zC7;rw[ih,List.length_set]
theorem zEJ:∀{l:List Tr} {n:Nat},∀p∈zAP n l,(0:Int)≤p:=by
 intro l n p hp
 have:=zBL hp
 omega
mutual
theorem deep_flatT (t:Tr) (n v:Nat) (r:List Nd) (d:List Nat) (hv:1≤v) (hd:n+t.size≤d.length) (h:max (d.getD n 0) 1=v):zCa n (flatT n t++r) d=zCa (n+t.size) r (over d n (depsT v t)):=by
 cases t with
 | mk x l=>
  rw[zN]at hd⊢
  rw[zA1,List.cons_append]
  rw[zEI,h]
  have hlen:(zC7 (d.set n v) (v+1) (zAP (n+1) l)).length=d.length:=by rw[zIY,List.length_set]
  rw[deep_flatL l (n+1) (v+1) r _ (by omega) (by rw[hlen];omega) (fun p hp=>by
   have:=zBL hp
   rw[zDm _ _ _ (fun k hk=>zEJ k hk),if_pos ⟨hp,by rw[List.length_set];omega⟩])]
  rw[Nat.add_assoc]
  congr 1
  apply List.ext_getElem?
  intro i
  have e1:(depsT v (.mk x l)).length=1+sizes l:=by rw[depsT_len,zN]
  have e2:=depsL_len (v+1) l
  rw[zCt (by rw[e2,hlen];omega),zCt (by rw[e1];omega),e1,e2]
  by_cases h1:n+1≤i∧i < n+1+sizes l
  · rw[if_pos h1,if_pos (by omega),zCJ,show i - n=(i - (n+1))+1 by omega,List.getElem?_cons_succ]
  · rw[if_neg h1]
    by_cases h2:i=n
    · subst h2
      rw[if_pos (by omega),Nat.sub_self,zCJ,zDm _ _ _ (fun k hk=>zEJ k hk),if_neg (fun hh=>by have:=zBL hh.1;omega),List.getElem?_set_self (by omega)]
      rfl
    · rw[if_neg (by omega),zDm _ _ _ (fun k hk=>zEJ k hk),if_neg (fun hh=>by have:=zBL hh.1;omega),List.getElem?_set_ne (by omega)]
theorem deep_flatL (l:List Tr) (n v:Nat) (r:List Nd) (d:List Nat) (hv:1≤v) (hd:n+sizes l≤d.length) (h:∀p:Nat,(p:Int)∈zAP n l→d[p]? =some v):zCa n (flatL n l++r) d=zCa (n+sizes l) r (over d n (depsL v l)):=by
 cases l with
 | nil=>
  rw[zAp,zH,zDQ]
  have:over d n []=d:=by unfold over;simp
  rw[this];rfl
 | cons t l=>
  rw[zG]at hd⊢
  have e1:=depsT_len v t
  have e2:=depsL_len v l
  have hn:d[n]? =some v:=h n (List.mem_cons_self ..)
  rw[zAW,List.append_assoc,deep_flatT t n v _ d hv (by omega) (by rw[List.getD_eq_getElem?_getD,hn];simp only[Option.getD_some];omega)]
  have hol:(over d n (depsT v t)).length=d.length:=zN4 (by rw[e1];omega)
  rw[deep_flatL l (n+t.size) v r _ hv (by rw[hol];omega) (fun p hp=>by
   have:=zBL hp
   rw[zCt (by rw[e1];omega),e1,if_neg (by omega)]
   exact h p (List.mem_cons_of_mem _ hp))]
  rw[Nat.add_assoc]
  congr 1
  apply List.ext_getElem?
  intro i
  rw[zCt (by rw[e2,hol];omega),zCt (by rw[e1];omega),zCt (by rw[depsL_len,zG];omega),e1,e2,depsL_len,zG,zB7]
  by_cases h1:n+t.size≤i∧i < n+t.size+sizes l
  · rw[if_pos h1,if_pos (by omega),List.getElem?_append_right (by omega),e1]
    congr 1;omega
  · rw[if_neg h1]
    by_cases h2:n≤i∧i < n+t.size
    · rw[if_pos h2,if_pos (by omega),List.getElem?_append_left (by omega)]
    · rw[if_neg h2,if_neg (by omega)]
end
theorem zLE (t:Tr):zIP (flatT 0 t)=depsT 1 t:=by
 have h:=deep_flatT t 0 1 [] (List.replicate t.size 0) (Nat.le_refl _) (by simp) (by
  have:=zBk t
  rw[List.getD_eq_getElem?_getD,List.getElem?_replicate_of_lt (by omega)]
  rfl)
 rw[List.append_nil]at h
 unfold zIP
 rw[flatT_len,h]
 unfold over
 have:=depsT_len 1 t
 simp only[zCa,List.take_zero,List.nil_append,Nat.zero_add,this]
 rw[List.drop_of_length_le (by simp)]
 simp
mutual
def depT:Tr→Nat
 | .mk _ l=>1+depL l
def depL:List Tr→Nat
 | []=>0
 | t::r=>max (depT t) (depL r)
end
theorem zFX (x:Nd) (l:List Tr):depT (.mk x l)=1+depL l:=by rw[depT]
theorem zDR:depL []=0:=by rw[depL]
theorem zDS (t:Tr) (r:List Tr):depL (t::r)=max (depT t) (depL r):=by rw[depL]
theorem zHk (a b:List Nat):zEj (a++b)=max (zEj a) (zEj b):=by
 induction a with
 | nil=>simp[zEj]
 | cons x r ih=>simp only[List.cons_append,zEj,ih];omega
mutual
theorem maxL_depsT (v:Nat) (t:Tr):zEj (depsT (v+1) t)=v+depT t:=by
 cases t with
 | mk x l=>
  rw[zCJ,zFX]
  have:=maxL_depsL (v+1) l
  unfold zEj
  rcases this with⟨h1,h2⟩ | h
  · subst h1;rw[zDQ,zDR];unfold zEj;omega
  · rw[h];omega
theorem maxL_depsL (v:Nat) (l:List Tr):(l=[]∧zEj (depsL (v+1) l)=0)∨zEj (depsL (v+1) l)=v+depL l:=by
 cases l with
 | nil=>exact .inl ⟨rfl,by rw[zDQ];rfl⟩
 | cons t r=>
  right
  rw[zB7,zHk,maxL_depsT v t,zDS]
  rcases maxL_depsL v r with⟨h1,h2⟩ | h
  · rw[h2];subst h1;rw[zDR];omega
  · rw[h];omega
end
theorem zLF (t:Tr):zRn (flatT 0 t)=depT t:=by
 unfold zRn
 rw[zLE]
 have:=maxL_depsT 0 t
 rw[Nat.zero_add,Nat.zero_add]at this
 exact this
def zAg (l:List UInt8):List UInt16:=l.map (·.toUInt16)
theorem zIZ (s:ByteArray) (k:Nat) (h:k < s.size):zAH (zAg (s.data.toList.take (k+1)))=zAH (zAg (s.data.toList.take k))++[.int .u16 (s[k].toNat:Int)]:=by
 rw[List.take_succ_eq_append_getElem (by simpa using h)]
 simp[zAg,zAH,zRj]
 rfl
theorem zDT (s:ByteArray) (w:World) (hs:s.size≤70368744177664):
 Calls Tryz.prog 32 #[.string s] w fun e w'=>∃v,e=.returned v∧Made w w' 24 v (zAH (zAg s.data.toList)):=by
 obtain⟨i0,hi0,hz0,hz1,hz2⟩:=info_parts Tryz.info_u16
 go_enter Tryz.func32,Tryz.ntmps32
 go_wp2
 go_loopw [3,7] (fun v i wr=>∃k:Nat,k≤s.size∧i=.int .i64 k∧Made w wr 24 v (zAH (zAg (s.data.toList.take k)))) (fun _ i _=>s.size - (intOf i).toNat)
 case atStart=>exact⟨0,Nat.zero_le _,rfl,Made.nil _ _⟩
 case round=>
  obtain⟨k,hk,rfl,hm⟩:=hrel
  by_cases hlt:k < s.size
  · have hb:=s[k].toNat_lt
    have hle:(zAH (zAg (s.data.toList.take k))).length≤k:=by simp[zAH,zAg];omega
    go_wp2_with (at_builtin;refine zDh rfl _ _ 22 rfl 24 i0 _ 2 Tryz.underlying22 hi0 hz0 hz1 hz2 rfl _ _ rfl hm _ 1 1 rfl rfl rfl (by omega) (by omega) ?_;intro v' w' hm')
    go_roundw
    case rel=>exact⟨k+1,by omega,by go_num,by rw[zIZ s k hlt];exact hm'⟩
    case measure=>simp[intOf];omega
  · go_wp2
    go_ret
    have hkk:k=s.size:=by omega
    subst hkk
    exact⟨_,rfl,hm.cells (by rw[List.take_of_length_le (by simp)])⟩
abbrev Tks:=List (List UInt8)
abbrev Kd:=Int×Tks
def kd (ks:List Kd) (i:Nat):Kd:=ks.getD i (0,[])
def zRr:List Nat→Nat
 | []=>0
 | x::r=>x+4294967296*zRr r
structure Ps where
 k:Nat
 bad:Nat
 far:Nat
deriving DecidableEq
def zM (L:List Tok) (i:Nat):Tok:=L.getD i zo
def zAC (L:List Tok) (k j:Nat):Tok:=zM L (k+j)
def isT (t:Tok) (w:List UInt8):Bool:=decide (t.text=w)&&(t.kind==5 || t.kind==6)
def onP (L:List Tok) (w:List UInt8) (s:Ps):Bool:=isT (zM L s.k) w
def stepP (s:Ps):Ps:={s with k:=s.k+1}
def zB8 (L:List Tok) (e:Nat) (s:Ps):Ps:=⟨L.length - 1,if s.bad=0 then e else s.bad,if s.bad=0 then s.k else s.far⟩
def zc (L:List Tok) (s:Ps):Ps:=zB8 L (if(zM L s.k).kind=6∧zB2 (zM L s.k).text=2 then 6 else 5) s
def zO (L:List Tok) (w:List UInt8) (s:Ps):Ps:=if onP L w s=true then stepP s else zc L s
def zg (L:List Tok) (s:Ps):List UInt8×Ps:=if(zM L s.k).kind=1 then((zM L s.k).text,stepP s)else([],zc L s)
def zBu (L:List Tok) (s:Ps):Bool:=(zM L s.k).nl || (zM L s.k).kind==0 || onP L [59] s || onP L [125] s
def zBC (L:List Tok) (s:Ps):Ps:=if onP L [59] s=true then stepP s else if(onP L [125] s || (zM L s.k).kind==0 || (zM L s.k).nl)=true then s else zc L s
def trK (k:Int) (l:List Tr):Tr:=.mk {zB3 with kind:=k} l
def trN (k:Int) (n:List UInt8) (l:List Tr):Tr:=.mk {zB3 with kind:=k,name:=n} l
def zBE (L:List Tok):Nat→Nat→Option Nat
 | 0,_=>none
 | f+1,i=>if(zM L i).kind=1 then(if isT (zM L (i+1)) [44]=true then zBE L f (i+2)else some (i+1))else none
def zA2 (L:List Tok) (i:Nat):Bool:=isT (zM L i) [41]&&isT (zM L (i+1)) [61,62]
def zAN (L:List Tok) (s:Ps):Bool:=
 onP L [40] s&&(if isT (zM L (s.k+1)) [41]=true then zA2 L (s.k+1)else match zBE L L.length (s.k+1)with | none=>false | some i=>zA2 L i)
def zHl (w:List UInt8):Nat:=
 if w=[124]then 0 else if w=[94]then 1 else if w=[38]then 2
 else if w=[61,61]∨w=[33,61]∨w=[61,61,61]∨w=[33,61,61]then 3
 else if w=[60]∨w=[62]∨w=[60,61]∨w=[62,61]∨w=[105,110]then 4
 else if w=[60,60]∨w=[62,62]∨w=[62,62,62]then 5
 else if w=[43]∨w=[45]then 6
 else if w=[42]∨w=[47]∨w=[37]then 7 else 9
def zA5 (t:Tok):Nat:=if t.kind=5∨isT t [105,110]=true then zHl t.text else 9
inductive Ph where
 | program (acc:List Tr)
 | block
 | blockL (acc:List Tr)
 | item
 | declares
 | declL (k:Int) (acc:List Tr)
 | func (k:Int) (n:List UInt8)
 | params
 | paramL (acc:List Tr)
 | statement
 | simple
 | word (w:List UInt8)
 | within
 | clause (w:List UInt8)
 | loop
 | jump (k:Int)
 | tries
 | assign
 | body (l:List Tr)
 | cond
 | either
 | nullL (x:Tr)
 | orL (x:Tr)
 | both (x:Tr)
 | level (n:Nat)
 | levelL (n:Nat) (x:Tr)
 | unary
 | calls
 | callsL (x:Tr)
 | head
 | headL (x:Tr)
 | args
 | list (w:List UInt8)
 | listL (w:List UInt8) (acc:List Tr)
 | primary
 | object
 | objL (acc:List Tr)
 | prop
def zAb (t:Tok):Option (List UInt16):=
 if t.kind=4 then some t.str else if t.kind=2 then some (zAg (zEG t.nn.toNat))else if t.kind=1∨t.kind=6 then some (zAg t.text)else none
def zE (L:List Tok) (R:Ph→Ps→Tr×Ps) (p:Ph) (s:Ps):Tr×Ps:=
 match p with
 | .program acc=>if(zM L s.k).kind=0 then(trK 1 acc,s)else R (.program (acc++[(R .item s).1])) (R .item s).2
 | .block=>R (.blockL []) (zO L [123] s)
 | .blockL acc=>
  if s.bad≠0 then(trK 4 acc,s)else if onP L [125] s=true then(trK 4 acc,stepP s)
  else R (.blockL (acc++[(R .item s).1])) (R .item s).2
 | .item=>
  if(onP L [108,101,116] s || onP L [99,111,110,115,116] s)=true then((R .declares s).1,zBC L (R .declares s).2)
  else if onP L [102,117,110,99,116,105,111,110] s=true then R (.func 19 (zg L (stepP s)).1) (zg L (stepP s)).2
  else R .statement s
 | .declares=>if onP L [99,111,110,115,116] s=true then R (.declL 6 []) (stepP s)else R (.declL 5 []) (zO L [108,101,116] s)
 | .declL k acc=>
  let n:=zg L s
  let d:=if onP L [61] n.2=true then(trN 7 n.1 [(R .assign (stepP n.2)).1],(R .assign (stepP n.2)).2)else(trN 7 n.1 [],n.2)
  if d.2.bad≠0 then(trK k (acc++[d.1]),d.2)else if onP L [44] d.2=true then R (.declL k (acc++[d.1])) (stepP d.2)else(trK k (acc++[d.1]),d.2)
 | .func k n=>
  let ps:=R .params s
  let b:=R .block ps.2
  (trN k n (ps.1.subs++[b.1]),b.2)
 | .params=>
  let s1:=zO L [40] s
  if onP L [41] s1=true then(trK 0 [],stepP s1)else R (.paramL []) s1
 | .paramL acc=>
  let n:=zg L s
  let a:=acc++[trN 20 n.1 []]
  if n.2.bad≠0 then(trK 0 a,n.2)else if onP L [41] n.2=true then(trK 0 a,stepP n.2)else R (.paramL a) (zO L [44] n.2)
 | .statement=>
  let t:=zM L s.k
  if t.kind=1∧isT (zAC L s.k 1) [58]=true then(trN 18 t.text [(R .statement (stepP (stepP s))).1],(R .statement (stepP (stepP s))).2)
  else if t.kind=6 then R (.word t.text) s
  else if onP L [59] s=true then(trK 2 [],stepP s)
  else if onP L [123] s=true then R .block s
  else R .simple s
 | .simple=>(trK 3 [(R .assign s).1],zBC L (R .assign s).2)
 | .word w=>
  if w=[105,102]then
   let e:=R .within (stepP s)
   let b:=R .statement e.2
   if onP L [101,108,115,101] b.2=true then(trK 8 [e.1,b.1,(R .statement (stepP b.2)).1],(R .statement (stepP b.2)).2)else(trK 8 [e.1,b.1],b.2)
  else if w=[119,104,105,108,101]then
   let e:=R .within (stepP s)
   let b:=R .statement e.2
   (trK 9 [e.1,b.1],b.2)
  else if w=[102,111,114]then R .loop s
  else if w=[98,114,101,97,107]then R (.jump 12) s
  else if w=[99,111,110,116,105,110,117,101]then R (.jump 13) s
  else if w=[114,101,116,117,114,110]then
   (if zBu L (stepP s)=true then(trK 14 [],zBC L (stepP s))else(trK 14 [(R .assign (stepP s)).1],zBC L (R .assign (stepP s)).2))
  else if w=[116,104,114,111,119]then
   let s1:=if(zM L (stepP s).k).nl=true then zc L (stepP s)else stepP s
   (trK 15 [(R .assign s1).1],zBC L (R .assign s1).2)
  else if w=[116,114,121]then R .tries s
  else if w=[102,117,110,99,116,105,111,110]∨w=[108,101,116]∨w=[99,111,110,115,116]then(trK 2 [],zc L s)
  else R .simple s
 | .within=>((R .assign (zO L [40] s)).1,zO L [41] (R .assign (zO L [40] s)).2)
 | .clause w=>if onP L w s=true then(trK 11 [],zO L w s)else((R .assign s).1,zO L w (R .assign s).2)
 | .loop=>
  let s1:=zO L [40] (stepP s)
  let a:=if(onP L [108,101,116] s1 || onP L [99,111,110,115,116] s1)=true then((R .declares s1).1,zO L [59] (R .declares s1).2)else R (.clause [59]) s1
  let b:=R (.clause [59]) a.2
  let c:=R (.clause [41]) b.2
  let d:=R .statement c.2
  (trK 10 [a.1,b.1,c.1,d.1],d.2)
 | .jump k=>
  if(zM L (stepP s).k).kind=1∧(zM L (stepP s).k).nl=false then(trN k (zg L (stepP s)).1 [],zBC L (zg L (stepP s)).2)
  else(trK k [],zBC L (stepP s))
 | .tries=>
  let b:=R .block (stepP s)
  let s1:=if(onP L [99,97,116,99,104] b.2 || onP L [102,105,110,97,108,108,121] b.2)=true then b.2 else zc L b.2
  let c:=if onP L [99,97,116,99,104] s1=true then
   (let n:=if onP L [40] (stepP s1)=true then((zg L (stepP (stepP s1))).1,zO L [41] (zg L (stepP (stepP s1))).2)else([],stepP s1)
    (trN 17 n.1 [(R .block n.2).1],(R .block n.2).2))
   else(trK 11 [],s1)
  if onP L [102,105,110,97,108,108,121] c.2=true then(trK 16 [b.1,c.1,(R .block (stepP c.2)).1],(R .block (stepP c.2)).2)else(trK 16 [b.1,c.1,trK 11 []],c.2)
 | .assign=>
  let t:=zM L s.k
  if t.kind=1∧isT (zAC L s.k 1) [61,62]=true∧(zAC L s.k 1).nl=false then R (.body [trN 20 t.text []]) (stepP s)
  else if zAN L s=true then R (.body (R .params s).1.subs) (R .params s).2
  else
   let x:=R .cond s
   let o:=zM L x.2.k
   if o.kind≠5∨¬o.text∈zKx then x
   else if zAQ x.1.nd.kind=false then(x.1,zB8 L 5 x.2)
   else(trN 49 o.text [x.1,(R .assign (stepP x.2)).1],(R .assign (stepP x.2)).2)
 | .body l=>
  let s1:=zO L [61,62] (if(zM L s.k).nl=true then zc L s else s)
  let b:=if onP L [123] s1=true then R .block s1 else R .assign s1
  (trK 42 (l++[b.1]),b.2)
 | .cond=>
  let x:=R .either s
  if onP L [63] x.2=true then
   let a:=R .assign (stepP x.2)
   let b:=R .assign (zO L [58] a.2)
   (trK 48 [x.1,a.1,b.1],b.2)
  else x
 | .either=>
  let x:=R (.level 0) s
  if onP L [63,63] x.2=true then
   let r:=R (.nullL x.1) x.2
   (r.1,if(onP L [124,124] r.2 || onP L [38,38] r.2)=true then zc L r.2 else r.2)
  else
   let y:=R (.both x.1) x.2
   let r:=R (.orL y.1) y.2
   (r.1,if onP L [63,63] r.2=true then zc L r.2 else r.2)
 | .nullL x=>if onP L [63,63] s=true then R (.nullL (trN 47 [63,63] [x,(R (.level 0) (stepP s)).1])) (R (.level 0) (stepP s)).2 else(x,s)
 | .orL x=>
  if onP L [124,124] s=true then
   let y:=R (.level 0) (stepP s)
   let z:=R (.both y.1) y.2
   R (.orL (trN 47 [124,124] [x,z.1])) z.2
  else(x,s)
 | .both x=>if onP L [38,38] s=true then R (.both (trN 47 [38,38] [x,(R (.level 0) (stepP s)).1])) (R (.level 0) (stepP s)).2 else(x,s)
 | .level n=>
  if n=8 then R .unary s else R (.levelL n (R (.level (n+1)) s).1) (R (.level (n+1)) s).2
 | .levelL n x=>
  if zA5 (zM L s.k)=n then R (.levelL n (trN 46 (zM L s.k).text [x,(R (.level (n+1)) (stepP s)).1])) (R (.level (n+1)) (stepP s)).2 else(x,s)
 | .unary=>
  let t:=zM L s.k
  if(t.kind=5∨t.kind=6)∧t.text∈zEm then(trN 43 t.text [(R .unary (stepP s)).1],(R .unary (stepP s)).2)
  else if(t.kind=5∨t.kind=6)∧t.text∈zCs then
   let r:=R .unary (stepP s)
   (trN 44 t.text [r.1],if r.2.bad=0∧zAQ r.1.nd.kind=false then zc L r.2 else r.2)
  else
   let x:=R .calls s
   let o:=zM L x.2.k
   if o.kind=5∧o.text∈zCs∧o.nl=false then(if zAQ x.1.nd.kind=false then(x.1,zc L x.2)else(trN 45 o.text [x.1],stepP x.2))else x
 | .calls=>R (.callsL (R .head s).1) (R .head s).2
 | .callsL x=>
  if onP L [40] s=true then R (.callsL (trK 50 (x::(R .args s).1.subs))) (R .args s).2
  else if onP L [46] s=true then
   (if(zM L (stepP s).k).kind≠1∧(zM L (stepP s).k).kind≠6 then(x,zc L (stepP s))else R (.callsL (trN 52 (zM L (stepP s).k).text [x])) (stepP (stepP s)))
  else if onP L [91] s=true then R (.callsL (trK 53 [x,(R .assign (stepP s)).1])) (zO L [93] (R .assign (stepP s)).2)
  else(x,s)
 | .head=>
  if onP L [110,101,119] s=true then
   let x:=R .head (stepP s)
   let y:=R (.headL x.1) x.2
   if onP L [40] y.2=true then(trK 51 (y.1::(R .args y.2).1.subs),(R .args y.2).2)else(trK 51 [y.1],y.2)
  else R .primary s
 | .headL x=>
  if onP L [46] s=true then
   (if(zM L (stepP s).k).kind≠1∧(zM L (stepP s).k).kind≠6 then(x,zc L (stepP s))else R (.headL (trN 52 (zM L (stepP s).k).text [x])) (stepP (stepP s)))
  else if onP L [91] s=true then R (.headL (trK 53 [x,(R .assign (stepP s)).1])) (zO L [93] (R .assign (stepP s)).2)
  else(x,s)
 | .args=>R (.list [41]) (zO L [40] s)
 | .list w=>if onP L w s=true then(trK 0 [],stepP s)else R (.listL w []) s
 | .listL w acc=>
  let a:=R .assign s
  if a.2.bad≠0 then(trK 0 (acc++[a.1]),a.2)else if onP L w a.2=true then(trK 0 (acc++[a.1]),stepP a.2)else R (.listL w (acc++[a.1])) (zO L [44] a.2)
 | .primary=>
  let t:=zM L s.k
  if t.kind=0 then(trK 0 [],zc L s)
  else if t.kind=2 then(.mk {zB3 with kind:=30,nk:=t.nk,nn:=t.nn} [],stepP s)
  else if t.kind=3 then(.mk {zB3 with kind:=31,mag:=t.mag} [],stepP s)
  else if t.kind=4 then(.mk {zB3 with kind:=32,str:=t.str} [],stepP s)
  else if t.kind=1 then(trN 33 t.text [],stepP s)
  else if t.text=[116,114,117,101]then(trK 34 [],stepP s)
  else if t.text=[102,97,108,115,101]then(trK 35 [],stepP s)
  else if t.text=[110,117,108,108]then(trK 36 [],stepP s)
  else if t.text=[116,104,105,115]then(trK 37 [],stepP s)
  else if t.text=[91]then(trK 38 (R (.list [93]) (stepP s)).1.subs,(R (.list [93]) (stepP s)).2)
  else if t.text=[123]then R .object (stepP s)
  else if t.text=[102,117,110,99,116,105,111,110]then
   (if(zM L (stepP s).k).kind=1 then R (.func 41 (zg L (stepP s)).1) (zg L (stepP s)).2 else R (.func 41 []) (stepP s))
  else if t.text=[40]then((R .assign (stepP s)).1,zO L [41] (R .assign (stepP s)).2)
  else(trK 0 [],if(onP L [47] s || onP L [47,61] s)=true then zB8 L 6 s else zc L s)
 | .object=>if onP L [125] s=true then(trK 39 [],stepP s)else R (.objL []) s
 | .objL acc=>
  let a:=R .prop s
  if a.2.bad≠0 then(trK 39 (acc++[a.1]),a.2)else if onP L [125] a.2=true then(trK 39 (acc++[a.1]),stepP a.2)else R (.objL (acc++[a.1])) (zO L [44] a.2)
 | .prop=>
  let t:=zM L s.k
  match zAb t with
  | none=>(trK 40 [],zc L s)
  | some u=>
   if t.kind=1∧onP L [58] (stepP s)=false then(.mk {zB3 with kind:=40,str:=u} [trN 33 t.text []],stepP s)
   else(.mk {zB3 with kind:=40,str:=u} [(R .assign (zO L [58] (stepP s))).1],(R .assign (zO L [58] (stepP s))).2)
def zB6 (L:List Tok):Nat→Ph→Ps→Tr×Ps
 | 0,_,s=>(trK 0 [],zB8 L 99 s)
 | f+1,p,s=>zE L (zB6 L f) p s
def zn:Ph→Ps→Nat
 | .program _,_=>60
 | .blockL _,s=>if s.bad≠0 then 0 else 60
 | .item,_=>58
 | .declares,_=>57
 | .declL _ _,_=>56
 | .statement,_=>57
 | .word _,_=>56
 | .func _ _,_=>55
 | .loop,_=>55
 | .jump _,_=>55
 | .tries,_=>55
 | .simple,_=>55
 | .list _,_=>52
 | .object,_=>52
 | .listL _ _,_=>51
 | .objL _,_=>51
 | .block,_=>50
 | .within,_=>50
 | .clause _,_=>50
 | .prop,_=>50
 | .body _,_=>46
 | .assign,_=>45
 | .cond,_=>44
 | .either,_=>43
 | .nullL _,_=>42
 | .orL _,_=>42
 | .both _,_=>42
 | .params,_=>41
 | .paramL _,_=>40
 | .level n,_=>40 - 2*n
 | .levelL n _,_=>39 - 2*n
 | .unary,_=>23
 | .calls,_=>22
 | .head,_=>21
 | .primary,_=>20
 | .callsL _,_=>19
 | .headL _,_=>18
 | .args,_=>10
def zh (L:List Tok) (p:Ph) (s:Ps):Nat:=(L.length - s.k)*64+zn p s
def zI (L:List Tok) (p:Ph) (s:Ps):Tr×Ps:=zB6 L (zh L p s+1) p s
def zAT (u:List UInt16):List Nd×Nat×Nat:=
 if(zCH u).2.2≠0 then([],(zCH u).2)
 else
  let r:=zI (zCH u).1 (.program []) ⟨0,0,0⟩
  if r.2.bad≠0 then([],(zM (zCH u).1 r.2.far).pos,r.2.bad)
  else if 4096 < r.1.size then([],0,3)
  else if 48 < depT r.1 then([],0,7)
  else(flatT 0 r.1,0,0)
end Go.Proofs.YtlohaclgbfhijaaGreatDoor
